/- Texts of this claim, put together. -/
import Derived.Test.YtdklanenmihpdaaMRBa
import Derived.Test.YtdklanenmihpdaaProg
import Derived.Below
import Derived.Deep.Draws
import Derived.Deep.AppendLies
import Derived.Maps.AppendAt
import Derived.OwnWalk
import Derived.Laws.BytesArg
import Derived.Laws.MakeOwn
import Derived.Laws.OwnMore
import Derived.Deep.OwnRows
import Derived.Tactics
import Derived.Lib.ConvBytes
import Derived.Laws.Slices
import Derived.WalkKit
import Derived.KernelRfl
import Derived.RowKit3
import Derived.Deep.LoopGhost
import Derived.Deep.QuietTactic
import Derived.BigQuiet
import Derived.WideLaws
import Derived.Deep.DeepCutAuto
import Derived.Deep.CutBlock
import Derived.Deep.RegionHeld3
import Derived.Laws.Rows
import Derived.Lib.AppendStr
import Derived.ArgAppend
import Derived.Laws.IdiomCopy
import Derived.OrdersHeld
import Derived.Laws.BitsLemmas
import Derived.RowKit
import Derived.Test.YtdklanenmihpdaaMRBWWords
import Derived.Test.YtdklanenmihpdaaMRBWLast
import Derived.Test.YtdklanenmihpdaaMRBWTab
import Derived.Test.YtdklanenmihpdaaMRBWApart
import Derived.Test.YtdklanenmihpdaaMRBWFoot
import Derived.Test.YtdklanenmihpdaaMRBWShare
import Derived.Test.YtdklanenmihpdaaMRBWN
import Derived.Laws.StructEq
import Derived.Test.YtdklanenmihpdaaMRBWRepsOne
import Derived.Test.YtdklanenmihpdaaMRBWInv
import Derived.Test.YtdklanenmihpdaaMRBWGuard
import Derived.Test.YtdklanenmihpdaaMRBWNEv
import Derived.Test.YtdklanenmihpdaaMRBWMore
set_option linter.unusedVariables false
set_option linter.unusedSimpArgs false
namespace Go.Proofs.Ytdklanenmihpdaa.Hand
open Go.RowKit Go.Proofs.YtdklanenmihpdaaW.PrintWords Go.Proofs.YtdklanenmihpdaaW.PrintLast Go.Proofs.YtdklanenmihpdaaW.PrintMore Go.Proofs.Ytdklanenmihpdaa.PA
def bodyL (k s t : Int) (b : List Int) : List Int := k :: (varL 9 s ++ (varL 9 t ++ (varL 9 (b.length : Int) ++ b)))
def headL (k s t : Int) (b : List Int) : List Int := 167 :: 92 :: (fourL (crcV (bodyL k s t b)) ++ [k])
def restL (s t : Int) (b : List Int) : List Int := varL 9 s ++ (varL 9 t ++ (varL 9 (b.length : Int) ++ b))
def encL (k s t : Int) (b : List Int) : List Int := 167 :: 92 :: (fourL (crcV (bodyL k s t b)) ++ bodyL k s t b)
theorem enc_split (k s t : Int) (b : List Int) : encL k s t b = headL k s t b ++ restL s t b := by
  simp [encL, headL, restL, bodyL]
theorem head_len (k s t : Int) (b : List Int) : (headL k s t b).length = 7 := by simp [headL, fourL]
theorem enc_len (k s t : Int) (b : List Int) : (encL k s t b).length = 7 + (restL s t b).length := by rw [enc_split, List.length_append, head_len]
theorem rd_app (P M : List Int) (i : Nat) : rd (P ++ M) ((P.length : Int) + (i : Int)) = rd M (i : Int) := by
  unfold rd
  rw [show ((P.length : Int) + (i : Int)).toNat = P.length + i by omega, Int.toNat_natCast, List.getD_eq_getElem?_getD, List.getD_eq_getElem?_getD, List.getElem?_append_right (by omega), Nat.add_sub_cancel_left]
structure MayR (k s t : Int) (b : List Int) : Prop where
  may : mayL k s t b.length
  s0 : 0 ≤ s
  t0 : 0 ≤ t
theorem MayR.s1 {k s t : Int} {b : List Int} (h : MayR k s t b) : s < 18446744073709551616 := by have := h.may.2.2.1; omega
theorem MayR.t1 {k s t : Int} {b : List Int} (h : MayR k s t b) : t < 18446744073709551616 := by have := h.may.2.2.2.1; omega
theorem MayR.b1 {k s t : Int} {b : List Int} (h : MayR k s t b) : (b.length : Int) ≤ 1048576 := h.may.2.2.2.2
theorem dec_enc (P S : List Int) {k s t : Int} {b : List Int} (h : MayR k s t b) : decV (P ++ (encL k s t b ++ S)) (P.length : Int) = .ok (k, s, t, b, (P.length : Int) + ((encL k s t b).length : Int)) := by
  have hb1 := h.b1
  have g1 := get_back (P ++ headL k s t b) s (varL 9 t ++ (varL 9 (b.length : Int) ++ (b ++ S))) h.s0 h.s1
  have g2 := get_back (P ++ headL k s t b ++ varL 9 s) t (varL 9 (b.length : Int) ++ (b ++ S)) h.t0 h.t1
  have g3 := get_back (P ++ headL k s t b ++ varL 9 s ++ varL 9 t) (b.length : Int) (b ++ S) (by omega) (by omega)
  have e1 : P ++ headL k s t b ++ (varL 9 s ++ (varL 9 t ++ (varL 9 (b.length : Int) ++ (b ++ S)))) = P ++ (encL k s t b ++ S) := by rw [enc_split]; simp [restL]
  have e2 : P ++ headL k s t b ++ varL 9 s ++ (varL 9 t ++ (varL 9 (b.length : Int) ++ (b ++ S))) = P ++ (encL k s t b ++ S) := by rw [enc_split]; simp [restL]
  have e3 : P ++ headL k s t b ++ varL 9 s ++ varL 9 t ++ (varL 9 (b.length : Int) ++ (b ++ S)) = P ++ (encL k s t b ++ S) := by rw [enc_split]; simp [restL]
  have e4 : (P ++ headL k s t b ++ varL 9 s ++ varL 9 t ++ varL 9 (b.length : Int)) ++ (b ++ S) = P ++ (encL k s t b ++ S) := by rw [enc_split]; simp [restL]
  have e5 : (P ++ (167 :: 92 :: [])) ++ (fourL (crcV (bodyL k s t b)) ++ (bodyL k s t b ++ S)) = P ++ (encL k s t b ++ S) := by simp [encL]
  have e6 : (P ++ (167 :: 92 :: fourL (crcV (bodyL k s t b)))) ++ (bodyL k s t b ++ S) = P ++ (encL k s t b ++ S) := by simp [encL]
  have m1 := seg_mid (P ++ (167 :: 92 :: [])) (fourL (crcV (bodyL k s t b))) (bodyL k s t b ++ S)
  have m2 := seg_mid (P ++ (167 :: 92 :: fourL (crcV (bodyL k s t b)))) (bodyL k s t b) S
  have m3 := seg_mid (P ++ headL k s t b ++ varL 9 s ++ varL 9 t ++ varL 9 (b.length : Int)) b S
  rw [e1] at g1
  rw [e2] at g2
  rw [e3] at g3
  rw [e4] at m3
  rw [e5] at m1
  rw [e6] at m2
  have r0 := rd_app P (encL k s t b ++ S) 0
  have r1 := rd_app P (encL k s t b ++ S) 1
  have r6 := rd_app P (encL k s t b ++ S) 6
  have el := enc_len k s t b
  have rl : (restL s t b).length = (varL 9 s).length + ((varL 9 t).length + ((varL 9 (b.length : Int)).length + b.length)) := by simp [restL]
  have bl : (bodyL k s t b).length = (restL s t b).length + 1 := rfl
  have fl : (fourL (crcV (bodyL k s t b))).length = 4 := rfl
  have hl := head_len k s t b
  have v0 : rd (encL k s t b ++ S) ((0 : Nat) : Int) = 167 := rfl
  have v1 : rd (encL k s t b ++ S) ((1 : Nat) : Int) = 92 := rfl
  have v6 : rd (encL k s t b ++ S) ((6 : Nat) : Int) = k := rfl
  have tl : (P ++ (encL k s t b ++ S)).length = P.length + (7 + (restL s t b).length) + S.length := by simp [el]; omega
  rw [v0] at r0
  rw [v1] at r1
  rw [v6] at r6
  generalize P ++ (encL k s t b ++ S) = L at *
  simp only [List.length_append, List.length_cons, List.length_nil, hl, fl] at g1 g2 g3 m1 m2 m3
  have a1 : ((P.length + 7 : Nat) : Int) = (P.length : Int) + 7 := by omega
  generalize (varL 9 s).length = ns at *
  generalize (varL 9 t).length = nt at *
  generalize (varL 9 (b.length : Int)).length = nb at *
  have p1 : ((P.length + 7 : Nat) : Int) + (ns : Int) = ((P.length + 7 + ns : Nat) : Int) := by omega
  have p2 : ((P.length + 7 + ns : Nat) : Int) + (nt : Int) = ((P.length + 7 + ns + nt : Nat) : Int) := by omega
  have p3 : ((P.length + 7 + ns + nt : Nat) : Int) + (nb : Int) = ((P.length + 7 + ns + nt + nb : Nat) : Int) := by omega
  rw [p1] at g1
  rw [p2] at g2
  rw [p3] at g3
  have b2 : (P.length : Int) + 2 = ((P.length + (0 + 1 + 1) : Nat) : Int) := by omega
  have b6 : (P.length : Int) + 6 = ((P.length + (4 + 1 + 1) : Nat) : Int) := by omega
  have b6' : (P.length : Int) + 6 = ((P.length + (0 + 1 + 1) : Nat) : Int) + ((4 : Nat) : Int) := by omega
  have b9 : ((P.length + 7 + ns + nt + nb : Nat) : Int) + (b.length : Int) = ((P.length + (4 + 1 + 1) : Nat) : Int) + ((bodyL k s t b).length : Int) := by omega
  unfold decV
  rw [← a1, g1]
  dsimp only
  rw [g2]
  dsimp only
  rw [g3]
  dsimp only
  have c1 : 6 ≤ (L.length : Int) - (P.length : Int) := by omega
  have c2 : rd L (P.length : Int) = 167 ∧ rd L ((P.length : Int) + 1) = 92 := ⟨by simpa using r0, by simpa using r1⟩
  have c3 : (P.length : Int) + 6 < (L.length : Int) := by omega
  have c4 : (b.length : Int) ≤ (L.length : Int) - ((P.length + 7 + ns + nt + nb : Nat) : Int) := by omega
  have c5 : segL L ((P.length : Int) + 2) ((P.length : Int) + 6) = fourL (crcV (segL L ((P.length : Int) + 6) (((P.length + 7 + ns + nt + nb : Nat) : Int) + (b.length : Int)))) := by
    rw [b2, b6', m1, ← b6', b9, b6, m2]
  have c6 : rd L ((P.length : Int) + 6) = k := r6
  rw [if_pos c1, if_pos c2, if_pos c3, if_pos rfl, if_pos rfl, if_pos rfl, if_pos hb1, if_pos c4, if_pos c5, c6, if_pos h.may, m3]
  exact congrArg (fun z => Except.ok (k, s, t, b, z)) (by omega)
theorem dec_inv {l : List Int} (hb : Bytes255 l) {a k s t e : Int} {b : List Int} (h0 : 0 ≤ a) (h : decV l a = .ok (k, s, t, b, e)) :
    segL l a e = encL k s t b ∧ MayR k s t b ∧ e = a + ((encL k s t b).length : Int) ∧ e ≤ l.length ∧ Bytes255 b := by
  unfold decV at h
  split at h
  case isFalse => cases h
  rename_i c1
  split at h
  case isFalse => cases h
  rename_i c2
  split at h
  case isFalse => cases h
  rename_i c3
  rcases hg1 : getV l (a + 7) with ⟨n1, p1, x1⟩
  rw [hg1] at h
  dsimp only at h
  split at h
  case isFalse => cases h
  rename_i z1
  subst z1
  rcases hg2 : getV l p1 with ⟨n2, p2, x2⟩
  rw [hg2] at h
  dsimp only at h
  split at h
  case isFalse => cases h
  rename_i z2
  subst z2
  rcases hg3 : getV l p2 with ⟨n3, p3, x3⟩
  rw [hg3] at h
  dsimp only at h
  split at h
  case isFalse => cases h
  rename_i z3
  subst z3
  split at h
  case isFalse => cases h
  rename_i c4
  split at h
  case isFalse => cases h
  rename_i c5
  split at h
  case isFalse => cases h
  rename_i c6
  split at h
  case isFalse => cases h
  rename_i c7
  injection h with h
  injection h with ek h
  injection h with es h
  injection h with et h
  injection h with eb ee
  subst es et ee
  obtain ⟨_, s1, n10, n11, q1, r1⟩ := get_canon hb hg1
  obtain ⟨_, s2, n20, n21, q2, r2⟩ := get_canon hb hg2
  obtain ⟨_, s3, n30, n31, q3, r3⟩ := get_canon hb hg3
  have hbl : (b.length : Int) = n3 := by rw [← eb, seg_len (by omega) (by omega) (by omega)]; omega
  have f1 : segL l (a + 6) (p3 + n3) = bodyL k n1 n2 b := by
    rw [seg_cons (by omega) (by omega) (by omega), show a + 6 + 1 = a + 7 by omega, seg_app (i := a + 7) (j := p1) (by omega) (by omega) (by omega) (by omega), seg_app (i := p1) (j := p2) (by omega) (by omega) (by omega) (by omega), seg_app (i := p2) (j := p3) (by omega) (by omega) (by omega) (by omega), s1, s2, s3, eb, ek]
    unfold bodyL
    rw [hbl]
  have f2 : segL l a (p3 + n3) = encL k n1 n2 b := by
    rw [seg_cons (by omega) (by omega) (by omega), seg_cons (i := a + 1) (by omega) (by omega) (by omega), show a + 1 + 1 = a + 2 by omega, seg_app (i := a + 2) (j := a + 6) (by omega) (by omega) (by omega) (by omega), c6, c2.1, c2.2, f1]
    rfl
  refine ⟨f2, ⟨?_, n10, n20⟩, ?_, by omega, ?_⟩
  · rw [hbl, ← ek]; exact c7
  · rw [← f2, seg_len (by omega) (by omega) (by omega)]; omega
  · rw [← eb]; exact seg_bytes hb _ _
theorem rd_take {l : List Int} {m : Nat} {i : Nat} (h : i < m) : rd (l.take m) (i : Int) = rd l (i : Int) := by
  unfold rd
  rw [Int.toNat_natCast, List.getD_eq_getElem?_getD, List.getD_eq_getElem?_getD, List.getElem?_take_of_lt h]
theorem dec_cut {k s t : Int} {b : List Int} (h : MayR k s t b) (m : Nat) (hm : m < (encL k s t b).length) : decV ((encL k s t b).take m) 0 = .error 3 := by
  have hb1 := h.b1
  have tl : ((encL k s t b).take m).length = m := by rw [List.length_take]; omega
  have r0 : 1 < m → rd ((encL k s t b).take m) 0 = 167 := fun hm => rd_take (i := 0) (by omega)
  have r1 : 1 < m → rd ((encL k s t b).take m) (0 + 1) = 92 := fun hm => rd_take (i := 1) hm
  have hE : 7 ≤ m → (encL k s t b).take m = headL k s t b ++ (restL s t b).take (m - 7) := fun hm => by
    rw [enc_split, List.take_append, head_len, List.take_of_length_le (by rw [head_len]; omega)]
  have hl := head_len k s t b
  have el := enc_len k s t b
  have rl : (restL s t b).length = (varL 9 s).length + ((varL 9 t).length + ((varL 9 (b.length : Int)).length + b.length)) := by simp [restL]
  unfold decV
  rw [tl]
  by_cases c1 : 6 ≤ (m : Int) - 0
  case neg => exact if_neg c1
  refine (if_pos c1).trans ((if_pos ⟨r0 (by omega), r1 (by omega)⟩).trans ?_)
  by_cases c2 : 0 + 6 < (m : Int)
  case neg => exact if_neg c2
  refine (if_pos c2).trans ?_
  have hE := hE (by omega)
  obtain ⟨j, hj⟩ : ∃ j, m - 7 = j := ⟨_, rfl⟩
  rw [hj] at hE
  have a7 : (0 + 7 : Int) = ((headL k s t b).length : Int) := by rw [hl]; rfl
  by_cases j1 : j < (varL 9 s).length
  · have g := get_short (headL k s t b) s j h.s0 h.s1 j1
    have : (restL s t b).take j = (varL 9 s).take j := by unfold restL; rw [List.take_append_of_le_length (by omega)]
    rw [hE, this, a7, g]
    exact if_neg (by decide)
  have e1 : (restL s t b).take j = varL 9 s ++ (varL 9 t ++ (varL 9 (b.length : Int) ++ b)).take (j - (varL 9 s).length) := by
    unfold restL; rw [List.take_append, List.take_of_length_le (by omega)]
  obtain ⟨j', hj'⟩ : ∃ j', j - (varL 9 s).length = j' := ⟨_, rfl⟩
  rw [hj'] at e1
  have g1 := get_back (headL k s t b) s ((varL 9 t ++ (varL 9 (b.length : Int) ++ b)).take j') h.s0 h.s1
  rw [← e1, ← hE, ← a7] at g1
  rw [g1]
  refine (if_pos rfl).trans ?_
  dsimp only
  have a8 : 0 + 7 + ((varL 9 s).length : Int) = ((headL k s t b ++ varL 9 s).length : Int) := by rw [List.length_append, hl]; omega
  by_cases j2 : j' < (varL 9 t).length
  · have g := get_short (headL k s t b ++ varL 9 s) t j' h.t0 h.t1 j2
    have : (varL 9 t ++ (varL 9 (b.length : Int) ++ b)).take j' = (varL 9 t).take j' := by rw [List.take_append_of_le_length (by omega)]
    rw [a8, hE, e1, this, ← List.append_assoc, g]
    exact if_neg (by decide)
  have e2 : (varL 9 t ++ (varL 9 (b.length : Int) ++ b)).take j' = varL 9 t ++ (varL 9 (b.length : Int) ++ b).take (j' - (varL 9 t).length) := by
    rw [List.take_append, List.take_of_length_le (by omega)]
  obtain ⟨j'', hj''⟩ : ∃ j'', j' - (varL 9 t).length = j'' := ⟨_, rfl⟩
  rw [hj''] at e2
  have g2 := get_back (headL k s t b ++ varL 9 s) t ((varL 9 (b.length : Int) ++ b).take j'') h.t0 h.t1
  rw [← e2, List.append_assoc, ← e1, ← hE, ← a8] at g2
  rw [g2]
  refine (if_pos rfl).trans ?_
  dsimp only
  have a9 : 0 + 7 + ((varL 9 s).length : Int) + ((varL 9 t).length : Int) = ((headL k s t b ++ varL 9 s ++ varL 9 t).length : Int) := by rw [List.length_append, List.length_append, hl]; omega
  by_cases j3 : j'' < (varL 9 (b.length : Int)).length
  · have g := get_short (headL k s t b ++ varL 9 s ++ varL 9 t) (b.length : Int) j'' (by omega) (by omega) j3
    have : (varL 9 (b.length : Int) ++ b).take j'' = (varL 9 (b.length : Int)).take j'' := by rw [List.take_append_of_le_length (by omega)]
    rw [a9, hE, e1, e2, this, ← List.append_assoc, ← List.append_assoc, g]
    exact if_neg (by decide)
  have e3 : (varL 9 (b.length : Int) ++ b).take j'' = varL 9 (b.length : Int) ++ b.take (j'' - (varL 9 (b.length : Int)).length) := by
    rw [List.take_append, List.take_of_length_le (by omega)]
  have g3 := get_back (headL k s t b ++ varL 9 s ++ varL 9 t) (b.length : Int) (b.take (j'' - (varL 9 (b.length : Int)).length)) (by omega) (by omega)
  rw [← e3, List.append_assoc, ← e2, List.append_assoc, ← e1, ← hE, List.append_assoc] at g3
  have a9' : 0 + 7 + ((varL 9 s).length : Int) + ((varL 9 t).length : Int) = ((headL k s t b ++ (varL 9 s ++ varL 9 t)).length : Int) := by rw [a9]; simp
  rw [← a9'] at g3
  rw [g3]
  refine (if_pos rfl).trans ?_
  dsimp only
  refine (if_pos hb1).trans (if_neg ?_)
  omega
end Go.Proofs.Ytdklanenmihpdaa.Hand
namespace Go.Proofs.Ytdklanenmihpdaa.PL
open Go.RowKit Go.Proofs.YtdklanenmihpdaaW.PrintWords Go.Proofs.YtdklanenmihpdaaW.PrintLast Go.Proofs.YtdklanenmihpdaaW.PrintMore
attribute [local go_sem] max2_int min2_int max_two min_two max_three min_three max_four min_four
open Go.Proofs.Ytdklanenmihpdaa.Hand
open Go.Proofs.Ytdklanenmihpdaa.PA
set_option linter.unusedVariables false
set_option linter.unusedSimpArgs false
def errW : Option Int → Value
  | none => .nilIface
  | some c => .iface 0 (.int .i64 c)
theorem errW_none : errW none = .nilIface := rfl
theorem errW_some (c : Int) : errW (some c) = .iface 0 (.int .i64 c) := rfl
theorem info5 : (Try.prog.info? 5).map (fun i => (i.zero, i.size, i.bytes)) = some (some (.int .u8 0), 1, 1) := by kernel_rfl
end Go.Proofs.Ytdklanenmihpdaa.PL
namespace Go.Proofs.Ytdklanenmihpdaa.PL
open Go.RowKit Go.Proofs.YtdklanenmihpdaaW.PrintWords Go.Proofs.YtdklanenmihpdaaW.PrintLast Go.Proofs.YtdklanenmihpdaaW.PrintMore
attribute [local go_sem] max2_int min2_int max_two min_two max_three min_three max_four min_four
open Go.Proofs.Ytdklanenmihpdaa.Hand
open Go.Proofs.Ytdklanenmihpdaa.PA
set_option linter.unusedVariables false
set_option linter.unusedSimpArgs false
def rec_Encode.f (k : Nat) (a0_0 : Int) (a0_1 : Int) (a0_2 : Int) (l0_3 : List Int) : Option (List Int × Int) := (rec_May.f a0_0 a0_1 a0_2 l0_3).bind fun t102 => (if t102 = true then ((wire_Var.f k a0_1).bind fun t106 => ((wire_Var.f k a0_2).bind fun t109 => ((wire_Var.f k (IntKind.u64.wrap ((l0_3.length : Int)))).bind fun t112 => ((bytes_Join.f (([(([(a0_0) % 256] : List Int)), t106, t109, t112, l0_3] : List (List Int))) ([] : List Int)).bind fun t118 => ((some (([167, 92] : List Int) : List Int)).bind fun y121 => ((wire_Crc.f k t118).bind fun t124 => ((wire_Four.f t124).bind fun t125 => (if y121.length + t125.length < 140737488355328 then ((some (y121 ++ t125 : List Int)).bind fun y128 => (if y128.length + t118.length < 140737488355328 then (some ((y128 ++ t118), 0)) else (none))) else (none))))))))) else (some (([] : List Int), 1)))
def rec_Encode.T3 : Bool × List (List Nat × List Nat) := (true, [([], []), ([0], [0]), ([1], [1]), ([2], [2]), ([], []), ([4], [4]), ([5], [5]), ([], []), ([7], [7]), ([8, 6], [8]), ([], []), ([10], [10]), ([11], [11]), ([12], [12]), ([13, 9], [13]), ([], []), ([15], [15]), ([3, 6, 9, 14, 16], [3, 6, 9, 14, 16]), ([17, 14], [17]), ([18, 18, 0, 1, 2, 3, 4, 5, 6, 7, 8, 9, 10, 11, 12, 13, 14, 15, 16, 17, 18], [18])])
def rec_Encode.B3 : List Nat := [0, 1, 3, 7, 0, 16, 48, 0, 128, 496, 0, 1024, 3072, 7168, 16368, 0, 32768, 131071, 262143, 524287]
theorem rec_Encode.tab3 : rtab .any (opsOf Try.f11 3) = rec_Encode.T3 := by kernel_rfl
theorem rec_Encode.bits3 : waitsOk rec_Encode.T3.2 rec_Encode.B3 = true := by kernel_rfl
set_option maxHeartbeats 8000000 in
set_option maxRecDepth 100000 in
theorem rec_Encode.calls (k : Nat) (a0_0 : Int) (a0_1 : Int) (a0_2 : Int) (P0_3_ : Nat → Prop) (A0_3 : Option Addr) (c0_3 : Nat) (l0_3 : List Int) (r1 : List Int) (r2 : Int) (w : World) (hs0_3 : Kd.V (Kd.int .u8) 5 w w.heap.size (fun k_ => P0_3_ k_) (.slice A0_3 l0_3.length c0_3) l0_3) (h : rec_Encode.f k a0_0 a0_1 a0_2 l0_3 = some (r1, r2)) :
    Calls Try.prog 11 #[.agg #[.int .i64 a0_0, .int .u64 a0_1, .int .u64 a0_2, .slice A0_3 l0_3.length c0_3]] w fun e w' => ∃ v0_ : Value, e = .returned (.tuple #[v0_, .int .i64 r2]) ∧ Kd.R (Kd.int .u8) 5 w' w.heap.size (fun k_ => (w.heap.size ≤ k_)) v0_ r1 ∧ Below w.heap.size w w' := by
  have hu25 := Try.underlying25
  have HO0_3 := Aside0.mk (show Kd.V (Kd.int .u8) 5 w w.heap.size (fun k_ => (P0_3_ k_ ∨ w.heap.size ≤ k_)) (.slice A0_3 l0_3.length c0_3) l0_3 from Kd.V_mono hs0_3 (fun k_ hk => .inl hk))
  have HB := Aside0.mk (Below.refl w.heap.size w)
  have H : ((rec_May.f a0_0 a0_1 a0_2 l0_3).bind fun t102 => (if t102 = true then ((wire_Var.f k a0_1).bind fun t106 => ((wire_Var.f k a0_2).bind fun t109 => ((wire_Var.f k (IntKind.u64.wrap ((l0_3.length : Int)))).bind fun t112 => ((bytes_Join.f (([(([(a0_0) % 256] : List Int)), t106, t109, t112, l0_3] : List (List Int))) ([] : List Int)).bind fun t118 => ((some (([167, 92] : List Int) : List Int)).bind fun y121 => ((wire_Crc.f k t118).bind fun t124 => ((wire_Four.f t124).bind fun t125 => (if y121.length + t125.length < 140737488355328 then ((some (y121 ++ t125 : List Int)).bind fun y128 => (if y128.length + t118.length < 140737488355328 then (some ((y128 ++ t118), 0)) else (none))) else (none))))))))) else (some (([] : List Int), 1)))) = some (r1, r2) := h
  clear h
  replace H := Option.bind_eq_some_iff.mp H
  obtain ⟨t102, A20, H⟩ := H
  replace H : (if t102 = true then ((wire_Var.f k a0_1).bind fun t106 => ((wire_Var.f k a0_2).bind fun t109 => ((wire_Var.f k (IntKind.u64.wrap ((l0_3.length : Int)))).bind fun t112 => ((bytes_Join.f (([(([(a0_0) % 256] : List Int)), t106, t109, t112, l0_3] : List (List Int))) ([] : List Int)).bind fun t118 => ((some (([167, 92] : List Int) : List Int)).bind fun y121 => ((wire_Crc.f k t118).bind fun t124 => ((wire_Four.f t124).bind fun t125 => (if y121.length + t125.length < 140737488355328 then ((some (y121 ++ t125 : List Int)).bind fun y128 => (if y128.length + t118.length < 140737488355328 then (some ((y128 ++ t118), 0)) else (none))) else (none))))))))) else (some (([] : List Int), 1))) = some (r1, r2) := H
  have A2 := Aside0.mk A20
  clear A20
  by_cases c3 : t102 = true
  · subst c3
    have H1 : ((wire_Var.f k a0_1).bind fun t106 => ((wire_Var.f k a0_2).bind fun t109 => ((wire_Var.f k (IntKind.u64.wrap ((l0_3.length : Int)))).bind fun t112 => ((bytes_Join.f (([(([(a0_0) % 256] : List Int)), t106, t109, t112, l0_3] : List (List Int))) ([] : List Int)).bind fun t118 => ((some (([167, 92] : List Int) : List Int)).bind fun y121 => ((wire_Crc.f k t118).bind fun t124 => ((wire_Four.f t124).bind fun t125 => (if y121.length + t125.length < 140737488355328 then ((some (y121 ++ t125 : List Int)).bind fun y128 => (if y128.length + t118.length < 140737488355328 then (some ((y128 ++ t118), 0)) else (none))) else (none))))))))) = some (r1, r2) := by rw [if_pos rfl] at H; exact H
    clear H
    have H := H1
    clear H1
    obtain ⟨y103, hy103⟩ : ∃ y_ : List Int, y_ = (([(a0_0) % 256] : List Int)) := ⟨_, rfl⟩
    replace H : ((wire_Var.f k a0_1).bind fun t106 => ((wire_Var.f k a0_2).bind fun t109 => ((wire_Var.f k (IntKind.u64.wrap ((l0_3.length : Int)))).bind fun t112 => ((bytes_Join.f (([y103, t106, t109, t112, l0_3] : List (List Int))) ([] : List Int)).bind fun t118 => ((some (([167, 92] : List Int) : List Int)).bind fun y121 => ((wire_Crc.f k t118).bind fun t124 => ((wire_Four.f t124).bind fun t125 => (if y121.length + t125.length < 140737488355328 then ((some (y121 ++ t125 : List Int)).bind fun y128 => (if y128.length + t118.length < 140737488355328 then (some ((y128 ++ t118), 0)) else (none))) else (none))))))))) = some (r1, r2) := by first | (rw [hy103]; with_reducible exact H) | (have H2_ := (Option.bind_some _ _).symm.trans H; rw [hy103]; with_reducible exact H2_) | (have H2_ := (Option.bind_some _ _).symm.trans H; with_reducible exact H2_) | with_reducible exact H | (rw [hy103]; exact H) | exact H
    have Ny103 := Aside0.mk hy103
    clear hy103
    replace H := Option.bind_eq_some_iff.mp H
    obtain ⟨t106, A40, H⟩ := H
    replace H : ((wire_Var.f k a0_2).bind fun t109 => ((wire_Var.f k (IntKind.u64.wrap ((l0_3.length : Int)))).bind fun t112 => ((bytes_Join.f (([y103, t106, t109, t112, l0_3] : List (List Int))) ([] : List Int)).bind fun t118 => ((some (([167, 92] : List Int) : List Int)).bind fun y121 => ((wire_Crc.f k t118).bind fun t124 => ((wire_Four.f t124).bind fun t125 => (if y121.length + t125.length < 140737488355328 then ((some (y121 ++ t125 : List Int)).bind fun y128 => (if y128.length + t118.length < 140737488355328 then (some ((y128 ++ t118), 0)) else (none))) else (none)))))))) = some (r1, r2) := H
    have A4 := Aside0.mk A40
    clear A40
    replace H := Option.bind_eq_some_iff.mp H
    obtain ⟨t109, A50, H⟩ := H
    replace H : ((wire_Var.f k (IntKind.u64.wrap ((l0_3.length : Int)))).bind fun t112 => ((bytes_Join.f (([y103, t106, t109, t112, l0_3] : List (List Int))) ([] : List Int)).bind fun t118 => ((some (([167, 92] : List Int) : List Int)).bind fun y121 => ((wire_Crc.f k t118).bind fun t124 => ((wire_Four.f t124).bind fun t125 => (if y121.length + t125.length < 140737488355328 then ((some (y121 ++ t125 : List Int)).bind fun y128 => (if y128.length + t118.length < 140737488355328 then (some ((y128 ++ t118), 0)) else (none))) else (none))))))) = some (r1, r2) := H
    have A5 := Aside0.mk A50
    clear A50
    replace H := Option.bind_eq_some_iff.mp H
    obtain ⟨t112, A60, H⟩ := H
    replace H : ((bytes_Join.f (([y103, t106, t109, t112, l0_3] : List (List Int))) ([] : List Int)).bind fun t118 => ((some (([167, 92] : List Int) : List Int)).bind fun y121 => ((wire_Crc.f k t118).bind fun t124 => ((wire_Four.f t124).bind fun t125 => (if y121.length + t125.length < 140737488355328 then ((some (y121 ++ t125 : List Int)).bind fun y128 => (if y128.length + t118.length < 140737488355328 then (some ((y128 ++ t118), 0)) else (none))) else (none)))))) = some (r1, r2) := H
    have A6 := Aside0.mk A60
    clear A60
    obtain ⟨y115, hy115⟩ : ∃ y_ : List (List Int), y_ = (([y103, t106, t109, t112, l0_3] : List (List Int))) := ⟨_, rfl⟩
    replace H : ((bytes_Join.f y115 ([] : List Int)).bind fun t118 => ((some (([167, 92] : List Int) : List Int)).bind fun y121 => ((wire_Crc.f k t118).bind fun t124 => ((wire_Four.f t124).bind fun t125 => (if y121.length + t125.length < 140737488355328 then ((some (y121 ++ t125 : List Int)).bind fun y128 => (if y128.length + t118.length < 140737488355328 then (some ((y128 ++ t118), 0)) else (none))) else (none)))))) = some (r1, r2) := by first | (rw [hy115]; with_reducible exact H) | (have H2_ := (Option.bind_some _ _).symm.trans H; rw [hy115]; with_reducible exact H2_) | (have H2_ := (Option.bind_some _ _).symm.trans H; with_reducible exact H2_) | with_reducible exact H | (rw [hy115]; exact H) | exact H
    have Ny115 := Aside0.mk hy115
    clear hy115
    replace H := Option.bind_eq_some_iff.mp H
    obtain ⟨t118, A70, H⟩ := H
    replace H : ((some (([167, 92] : List Int) : List Int)).bind fun y121 => ((wire_Crc.f k t118).bind fun t124 => ((wire_Four.f t124).bind fun t125 => (if y121.length + t125.length < 140737488355328 then ((some (y121 ++ t125 : List Int)).bind fun y128 => (if y128.length + t118.length < 140737488355328 then (some ((y128 ++ t118), 0)) else (none))) else (none))))) = some (r1, r2) := H
    have A7 := Aside0.mk A70
    clear A70
    obtain ⟨y121, hy121⟩ : ∃ y_ : List Int, y_ = (([167, 92] : List Int)) := ⟨_, rfl⟩
    replace H : ((wire_Crc.f k t118).bind fun t124 => ((wire_Four.f t124).bind fun t125 => (if y121.length + t125.length < 140737488355328 then ((some (y121 ++ t125 : List Int)).bind fun y128 => (if y128.length + t118.length < 140737488355328 then (some ((y128 ++ t118), 0)) else (none))) else (none)))) = some (r1, r2) := by first | (rw [hy121]; with_reducible exact H) | (have H2_ := (Option.bind_some _ _).symm.trans H; rw [hy121]; with_reducible exact H2_) | (have H2_ := (Option.bind_some _ _).symm.trans H; with_reducible exact H2_) | with_reducible exact H | (rw [hy121]; exact H) | exact H
    have Ny121 := Aside0.mk hy121
    clear hy121
    replace H := Option.bind_eq_some_iff.mp H
    obtain ⟨t124, A80, H⟩ := H
    replace H : ((wire_Four.f t124).bind fun t125 => (if y121.length + t125.length < 140737488355328 then ((some (y121 ++ t125 : List Int)).bind fun y128 => (if y128.length + t118.length < 140737488355328 then (some ((y128 ++ t118), 0)) else (none))) else (none))) = some (r1, r2) := H
    have A8 := Aside0.mk A80
    clear A80
    replace H := Option.bind_eq_some_iff.mp H
    obtain ⟨t125, A90, H⟩ := H
    replace H : (if y121.length + t125.length < 140737488355328 then ((some (y121 ++ t125 : List Int)).bind fun y128 => (if y128.length + t118.length < 140737488355328 then (some ((y128 ++ t118), 0)) else (none))) else (none)) = some (r1, r2) := H
    have A9 := Aside0.mk A90
    clear A90
    by_cases c10 : y121.length + t125.length < 140737488355328
    · rw [if_pos c10] at H
      have LMc10 := Aside0.mk c10
      clear c10
      obtain ⟨y128, hy128⟩ : ∃ y_ : List Int, y_ = (y121 ++ t125) := ⟨_, rfl⟩
      replace H : (if y128.length + t118.length < 140737488355328 then (some ((y128 ++ t118), 0)) else (none)) = some (r1, r2) := by first | (rw [hy128]; with_reducible exact H) | (have H2_ := (Option.bind_some _ _).symm.trans H; rw [hy128]; with_reducible exact H2_) | (have H2_ := (Option.bind_some _ _).symm.trans H; with_reducible exact H2_) | with_reducible exact H | (rw [hy128]; exact H) | exact H
      have Ny128 := Aside0.mk hy128
      clear hy128
      by_cases c11 : y128.length + t118.length < 140737488355328
      · rw [if_pos c11] at H
        have LMc11 := Aside0.mk c11
        clear c11
        obtain ⟨y131, hy131⟩ : ∃ y_ : List Int, y_ = (y128 ++ t118) := ⟨_, rfl⟩
        replace H : (some (y131, 0)) = some (r1, r2) := by first | (rw [hy131]; with_reducible exact H) | (have H2_ := (Option.bind_some _ _).symm.trans H; rw [hy131]; with_reducible exact H2_) | (have H2_ := (Option.bind_some _ _).symm.trans H; with_reducible exact H2_) | with_reducible exact H | (rw [hy131]; exact H) | exact H
        have Ny131 := Aside0.mk hy131
        clear hy131
        simp only [Option.some.injEq, Prod.mk.injEq] at H
        obtain ⟨rfl, rfl⟩ := H
        go_enter Try.func11, Try.ntmps11
        try go_wp2_with (first | ((with_reducible refine gate_dst (N := 1) rfl ?_); refine box_event ?hg (N := 1) ?hd (cs := #[.int .i64 a0_0, .int .u64 a0_1, .int .u64 a0_2, .slice A0_3 l0_3.length c0_3]) (t := 25) ?hr ?_; (case hd => rfl); (case hg => rfl); (case hr => first | (go_simp; done) | (go_simp; rfl)); intro gb101 hg w12 hbox hb; have n0_ := Aside0.mk (Kd.V_below (Kd.V_elderB (by (with_reducible repeat (first | apply Kd.V_alloc | apply Kd.V_drewN | apply Kd.V_drew)); exact HO0_3.out) gb101 (Nat.le_of_eq hg.symm)) hb); have n1_ := Aside0.mk (below_step (by repeat (first | (with_reducible first | exact HB.out | apply below_alloc | apply pw_below_drewN | apply below_drew1) | exact HB.out)) hb); have n2_ := Aside0.mk (hbox); have n3_ := Aside0.mk ((by rw [hg]; exact (below_size (by repeat (first | (with_reducible first | exact HB.out | apply below_alloc | apply pw_below_drewN | apply below_drew1) | exact HB.out))) : w.heap.size ≤ gb101)); have n4_ := Aside0.mk ((by rw [hg]; exact (below_size (by repeat (first | (with_reducible first | exact HB.out | apply below_alloc | apply pw_below_drewN | apply below_drew1) | exact HB.out))) : w.heap.size ≤ gb101)); clear HO0_3; clear HB; have HO0_3 := n0_; have HB := n1_; have BK101 := n2_; have GW101 := n3_; have GE101 := n4_; clear n0_ n1_ n2_ n3_ n4_; clear hb hbox hg; have hcz13_0 : w12.cell? ⟨gb101, 0, none⟩ = some (.int .i64 a0_0) := (blk_cell BK101.out 0).trans rfl; have hcz13_1 : w12.cell? ⟨gb101, 1, none⟩ = some (.int .u64 a0_1) := (blk_cell BK101.out 1).trans rfl; have hcz13_2 : w12.cell? ⟨gb101, 2, none⟩ = some (.int .u64 a0_2) := (blk_cell BK101.out 2).trans rfl; have hcz13_3 : w12.cell? ⟨gb101, 3, none⟩ = some (.slice A0_3 l0_3.length c0_3) := (blk_cell BK101.out 3).trans rfl; have hfz13_0 := blk_frozen BK101.out 0; have hfz13_1 := blk_frozen BK101.out 1; have hfz13_2 := blk_frozen BK101.out 2; have hfz13_3 := blk_frozen BK101.out 3) | ((with_reducible refine gate_callee (f := 18) rfl ?_); refine goesL_ (some 6) rfl rfl Try.func18 (by kernel_rfl) rfl #[.agg #[.int .i64 a0_0, .int .u64 a0_1, .int .u64 a0_2, .slice A0_3 l0_3.length c0_3]] rfl (by (try simp only [List.map_toArray, List.map_cons, List.map_nil]); first | done | rfl | (simp only [List.length_drop, List.length_take]; rfl)) ?_; (with_reducible refine (rec_May.calls a0_0 a0_1 a0_2 _ _ l0_3 true _ ?side1 ?side2 A2.out).mono ?_); (case side1 => repeat (first | exact (Kd.V_reads' HO0_3.out).2.2 | (with_reducible refine Kd.C_alloc ?_ _) | (with_reducible refine Kd.C_drewN ?_ _) | (with_reducible refine Kd.C_drew ?_))); (case side2 => exact (Kd.V_reads' HO0_3.out).2.1); rintro e w14 ⟨rfl, hb⟩; refine ⟨_, rfl, ?_⟩; have n0_ := Aside0.mk (Kd.V_below (by (with_reducible repeat (first | apply Kd.V_alloc | apply Kd.V_drewN | apply Kd.V_drew)); exact HO0_3.out) hb); have n1_ := Aside0.mk (blk_below (g := gb101) (o := .cells #[.int .i64 a0_0, .int .u64 a0_1, .int .u64 a0_2, .slice A0_3 l0_3.length c0_3] 25 (0, 0)) (by (with_reducible repeat (first | refine blk_drewN ?_ _ | refine blk_drew ?_ | refine blk_alloc ?_ _)); exact BK101.out) hb); have n2_ := Aside0.mk (below_step (by repeat (first | (with_reducible first | exact HB.out | apply below_alloc | apply pw_below_drewN | apply below_drew1 | refine below_set ?_ GE101.out) | exact HB.out)) hb); clear HO0_3; clear BK101; clear HB; have HO0_3 := n0_; have BK101 := n1_; have HB := n2_; clear n0_ n1_ n2_; (try clear hb); (try clear hb2); (try clear hk); (try clear hi)))
        have n0_ := Aside0.mk (Kd.V_drew HO0_3.out)
        have n1_ := Aside0.mk (blk_drew BK101.out)
        have n2_ := Aside0.mk (below_drew1 HB.out)
        clear HO0_3
        clear BK101
        clear HB
        have HO0_3 := n0_
        have BK101 := n1_
        have HB := n2_
        clear n0_ n1_ n2_
        refine start_ (n := 20) (S := fun w' => True) (ds := []) #[false, false, false, false, false, false, false, false, false, false, false, false, false, false, false, false, false, false, false, false] (by kernel_rfl) rfl rfl trivial (fun hHeld => ?_); refine with_tabW rec_Encode.tab3 rec_Encode.bits3 (fun HT_ HW_ => ?_)
        generalize w14.drew = w15 at HO0_3 BK101 HB hHeld ⊢
        refine pure_ (i := 0) (N := some 8) (v := ?_) (a' := ?_) #[true, false, false, false, false, false, false, false, false, false, false, false, false, false, false, false, false, false, false, false] rfl rfl (any_of HT_.out (by kernel_rfl)) (fun _ _ _ h => h) (Or.inl ⟨by rfl, ?_⟩) ?_ ?_
        rotate_left
        · intro w'
          go_simp
          with_reducible rfl
        rotate_left
        · simp only [Act.put, List.setIfInBounds_toArray, List.set_cons_zero, List.set_cons_succ, i64_w, i32_w]
          rfl
        refine pure_ (i := 4) (N := some 12) (v := ?_) (a' := ?_) #[true, false, false, false, true, false, false, false, false, false, false, false, false, false, false, false, false, false, false, false] rfl rfl (any_of HT_.out (by kernel_rfl)) (fun _ _ _ h => h) (Or.inl ⟨by rfl, ?_⟩) ?_ ?_
        rotate_left
        · intro w'
          go_simp
          with_reducible rfl
        rotate_left
        · simp only [Act.put, List.setIfInBounds_toArray, List.set_cons_zero, List.set_cons_succ, i64_w, i32_w]
          rfl
        refine pure_ (i := 7) (N := some 15) (v := ?_) (a' := ?_) #[true, false, false, false, true, false, false, true, false, false, false, false, false, false, false, false, false, false, false, false] rfl rfl (any_of HT_.out (by kernel_rfl)) (fun _ _ _ h => h) (Or.inl ⟨by rfl, ?_⟩) ?_ ?_
        rotate_left
        · intro w'
          go_simp
          with_reducible rfl
        rotate_left
        · simp only [Act.put, List.setIfInBounds_toArray, List.set_cons_zero, List.set_cons_succ, i64_w, i32_w]
          rfl
        refine pure_ (i := 10) (N := some 18) (v := ?_) (a' := ?_) #[true, false, false, false, true, false, false, true, false, false, true, false, false, false, false, false, false, false, false, false] rfl rfl (any_of HT_.out (by kernel_rfl)) (fun _ _ _ h => h) (Or.inl ⟨by rfl, ?_⟩) ?_ ?_
        rotate_left
        · intro w'
          go_simp
          with_reducible rfl
        rotate_left
        · simp only [Act.put, List.setIfInBounds_toArray, List.set_cons_zero, List.set_cons_succ, i64_w, i32_w]
          rfl
        refine pure_ (i := 15) (N := some 23) (v := ?_) (a' := ?_) #[true, false, false, false, true, false, false, true, false, false, true, false, false, false, false, true, false, false, false, false] rfl rfl (any_of HT_.out (by kernel_rfl)) (fun _ _ _ h => h) (Or.inl ⟨by rfl, ?_⟩) ?_ ?_
        rotate_left
        · intro w'
          go_simp
          with_reducible rfl
        rotate_left
        · simp only [Act.put, List.setIfInBounds_toArray, List.set_cons_zero, List.set_cons_succ, i64_w, i32_w]
          rfl
        refine inv_at [1, 2, 3, 5, 6, 8, 9, 11, 12, 13, 14, 16, 17, 18, 19] (fun a0_ b a w' => ∃ (v104 : Value) (v107 : Value) (v110 : Value) (v113 : Value) (v116 : Value) (v119 : Value) (m19_ : Value), a = putSel a0_ b [(1, 9, .int .i64 a0_0), (2, 10, .int .u8 ((a0_0) % 256)), (3, 11, v104), (5, 13, .int .u64 a0_1), (6, 14, v107), (8, 16, .int .u64 a0_2), (9, 17, v110), (11, 19, .slice A0_3 l0_3.length c0_3), (12, 20, .int .i64 (l0_3.length : Int)), (13, 21, .int .u64 (IntKind.u64.wrap ((l0_3.length : Int)))), (14, 22, v113), (16, 24, .slice A0_3 l0_3.length c0_3), (17, 25, v116), (18, 26, v119), (19, 4, m19_)] ∧ (Kd.V (Kd.int .u8) 5 w' w.heap.size (fun k_ => (P0_3_ k_ ∨ w.heap.size ≤ k_) ∧ k_ ≠ gb101) (.slice A0_3 l0_3.length c0_3) l0_3) ∧ (w'.heap[gb101]? = some (.cells #[.int .i64 a0_0, .int .u64 a0_1, .int .u64 a0_2, .slice A0_3 l0_3.length c0_3] 25 (0, 0))) ∧ (Below w.heap.size w w') ∧ (b 3 = true → b 17 = false → Kd.R (Kd.int .u8) 5 w' w.heap.size (fun k_ => (w.heap.size ≤ k_)) v104 y103) ∧ (b 6 = true → b 17 = false → Kd.R (Kd.int .u8) 5 w' w.heap.size (fun k_ => (w.heap.size ≤ k_)) v107 t106) ∧ (b 9 = true → b 17 = false → Kd.R (Kd.int .u8) 5 w' w.heap.size (fun k_ => (w.heap.size ≤ k_)) v110 t109) ∧ (b 14 = true → b 17 = false → Kd.R (Kd.int .u8) 5 w' w.heap.size (fun k_ => (w.heap.size ≤ k_)) v113 t112) ∧ (b 17 = true → Kd.N (Kd.slice 5 (Kd.int .u8)) 23 w' w.heap.size (fun k_ => (P0_3_ k_ ∨ w.heap.size ≤ k_) ∧ k_ ≠ gb101) v116 y115) ∧ (b 18 = true → Kd.V (Kd.int .u8) 5 w' w.heap.size (fun k_ => (P0_3_ k_ ∨ w.heap.size ≤ k_) ∧ k_ ≠ gb101) v119 t118) ∧ (b 19 = true → (m19_ : Value) = v119)) HT_.out HW_.out (by kernel_rfl) (by kernel_rfl) ?_ ?_ ?_
        · exact ⟨.bool false, .bool false, .bool false, .bool false, .bool false, .bool false, .bool false, by simp only [putSel, Bool.false_eq_true, if_false], HO0_3.out, BK101.out, HB.out, fun h_ => absurd h_ (by decide), fun h_ => absurd h_ (by decide), fun h_ => absurd h_ (by decide), fun h_ => absurd h_ (by decide), fun h_ => absurd h_ (by decide), fun h_ => absurd h_ (by decide), fun h_ => absurd h_ (by decide)⟩
        · skip
          clear BK101 HB HO0_3
          refine steps_cons ?_ ?_
          · rintro b a w' ⟨v104, v107, v110, v113, v116, v119, m19_, ha, Q_HO0_3, Q_BK101, Q_HB, Q_HO105, Q_HO108, Q_HO111, Q_HO114, Q_HO117, Q_HO120, Q_X19_⟩ hb_ hon hoff
            refine ⟨_, rfl, fun K hK => ?_⟩
            have e8 : a.tmps[8]? = some (.pointer (some ⟨gb101, 0, none⟩)) := by rw [ha]; exact (putSel_off rfl).trans rfl
            replace ha := Aside0.mk ha
            have HO0_3 := Aside0.mk Q_HO0_3
            have BK101 := Aside0.mk Q_BK101
            have HB := Aside0.mk Q_HB
            have hc0_ : w'.cell? ⟨gb101, 0, none⟩ = some (.int .i64 a0_0) := (blk_cell BK101.out 0).trans rfl
            have hc1_ : w'.cell? ⟨gb101, 1, none⟩ = some (.int .u64 a0_1) := (blk_cell BK101.out 1).trans rfl
            have hc2_ : w'.cell? ⟨gb101, 2, none⟩ = some (.int .u64 a0_2) := (blk_cell BK101.out 2).trans rfl
            have hc3_ : w'.cell? ⟨gb101, 3, none⟩ = some (.slice A0_3 l0_3.length c0_3) := (blk_cell BK101.out 3).trans rfl
            refine value_ (w1 := w') (v := .int .i64 a0_0) (by rfl) rfl ?_ ?_
            · go_simp
              (try simp only [i64_w])
              try rfl
            refine hK.out _ _ ⟨v104, v107, v110, v113, v116, v119, m19_, (by rw [ha.out]; exact putSel_upk 0 hb_ rfl rfl rfl), Q_HO0_3, Q_BK101, Q_HB, fun h0_ _ => absurd ((hoff 3 (by kernel_rfl)).symm.trans h0_) (by decide), Q_HO108, Q_HO111, Q_HO114, fun h0_ => absurd ((hoff 17 (by kernel_rfl)).symm.trans h0_) (by decide), fun h0_ => absurd ((hoff 18 (by kernel_rfl)).symm.trans h0_) (by decide), fun h0_ => absurd ((hoff 19 (by kernel_rfl)).symm.trans h0_) (by decide)⟩
          refine steps_cons ?_ ?_
          · rintro b a w' ⟨v104, v107, v110, v113, v116, v119, m19_, ha, Q_HO0_3, Q_BK101, Q_HB, Q_HO105, Q_HO108, Q_HO111, Q_HO114, Q_HO117, Q_HO120, Q_X19_⟩ hb_ hon hoff
            refine ⟨_, rfl, fun K hK => ?_⟩
            have e9 : a.tmps[9]? = some (.int .i64 a0_0) := by rw [ha]; exact putSel_on (e := (1, 9, .int .i64 a0_0)) 0 rfl rfl (hon 1 (by kernel_rfl)) rfl
            replace ha := Aside0.mk ha
            have HO0_3 := Aside0.mk Q_HO0_3
            have BK101 := Aside0.mk Q_BK101
            have HB := Aside0.mk Q_HB
            refine value_ (w1 := w') (v := .int .u8 ((a0_0) % 256)) (by rfl) rfl ?_ ?_
            · go_simp
              (try simp only [i64_w])
              try rfl
            refine hK.out _ _ ⟨v104, v107, v110, v113, v116, v119, m19_, (by rw [ha.out]; exact putSel_upk 1 hb_ rfl rfl rfl), Q_HO0_3, Q_BK101, Q_HB, fun h0_ _ => absurd ((hoff 3 (by kernel_rfl)).symm.trans h0_) (by decide), Q_HO108, Q_HO111, Q_HO114, fun h0_ => absurd ((hoff 17 (by kernel_rfl)).symm.trans h0_) (by decide), fun h0_ => absurd ((hoff 18 (by kernel_rfl)).symm.trans h0_) (by decide), fun h0_ => absurd ((hoff 19 (by kernel_rfl)).symm.trans h0_) (by decide)⟩
          refine steps_cons ?_ ?_
          · rintro b a w' ⟨v104, v107, v110, v113, v116, v119, m19_, ha, Q_HO0_3, Q_BK101, Q_HB, Q_HO105, Q_HO108, Q_HO111, Q_HO114, Q_HO117, Q_HO120, Q_X19_⟩ hb_ hon hoff
            refine ⟨_, rfl, fun K hK => ?_⟩
            have e10 : a.tmps[10]? = some (.int .u8 ((a0_0) % 256)) := by rw [ha]; exact putSel_on (e := (2, 10, .int .u8 ((a0_0) % 256))) 1 rfl rfl (hon 2 (by kernel_rfl)) rfl
            replace ha := Aside0.mk ha
            have HO0_3 := Aside0.mk Q_HO0_3
            have BK101 := Aside0.mk Q_BK101
            have HB := Aside0.mk Q_HB
            refine Kd.R_lit_step (Kd.int .u8) _ 5 ?hg (N := 11) ?hd (xs := ([(a0_0) % 256] : List Int)) (inner := [.int .u8 ((a0_0) % 256)]) (ok := fun _ => True) (okp := fun _ => True) ?hr ?hp (fun _ hk => (by first | exact hk | (simp only [hk, ne_eq, not_false_eq_true, and_self, true_and, and_true, or_true, true_or]; done))) trivial (Below.refl _ _) (Nat.le_refl _) (by simp) ?_; (case hd => rfl); (case hg => rfl); (case hr => first | (go_simp; done) | (go_simp; rfl)); (case hp => exact (Reps.one (show Kd.M (Kd.int .u8) _ _ _ ((a0_0) % 256) [.int .u8 ((a0_0) % 256)] from rfl) (Reps.none _ _)))
            intro v104 w16 ho17 hb hg_ hnew_
            clear hg_ hnew_
            (first | rw [← Ny103.out] at ho17 | (simp only [Int.reduceToNat] at ho17; rw [← Ny103.out] at ho17))
            have n0_ := Aside0.mk (Kd.V_elder' (by (with_reducible repeat (first | apply Kd.V_alloc | apply Kd.V_drewN | apply Kd.V_drew)); exact HO0_3.out) (Kd.R_base ho17) hb)
            have n1_ := Aside0.mk (Kd.R_lower (Kd.R_newM (M := fun k_ => (w.heap.size ≤ k_)) ho17 (below_size (by repeat (first | (with_reducible first | exact HB.out | apply below_alloc | apply pw_below_drewN | apply below_drew1 | refine below_set ?_ GE101.out) | exact HB.out))) (fun k_ h_ => h_)) (below_size (by repeat (first | (with_reducible first | exact HB.out | apply below_alloc | apply pw_below_drewN | apply below_drew1 | refine below_set ?_ GE101.out) | exact HB.out))))
            have n2_ := Aside0.mk (blk_below (g := gb101) (o := .cells #[.int .i64 a0_0, .int .u64 a0_1, .int .u64 a0_2, .slice A0_3 l0_3.length c0_3] 25 (0, 0)) (by (with_reducible repeat (first | refine blk_drewN ?_ _ | refine blk_drew ?_ | refine blk_alloc ?_ _)); exact BK101.out) hb)
            have n3_ := Aside0.mk (below_step (by repeat (first | (with_reducible first | exact HB.out | apply below_alloc | apply pw_below_drewN | apply below_drew1 | refine below_set ?_ GE101.out) | exact HB.out)) hb)
            have z_HO108 := fun (h0_ : b 6 = true) (h1_ : b 17 = false) => (show Kd.R (Kd.int .u8) 5 w16 w.heap.size (fun k_ => (w.heap.size ≤ k_)) v107 t106 from by first | exact (Kd.R_elder' (by (with_reducible repeat (first | apply Kd.R_alloc | apply Kd.R_drewN | apply Kd.R_drew)); exact (Q_HO108 h0_ h1_)) (Kd.R_base ho17) hb) | exact Kd.R_mono (Kd.R_elder' (by (with_reducible repeat (first | apply Kd.R_alloc | apply Kd.R_drewN | apply Kd.R_drew)); exact (Q_HO108 h0_ h1_)) (Kd.R_base ho17) hb) (fun _ h_ => by first | trivial | exact h_ | exact h_.1))
            have z_HO111 := fun (h0_ : b 9 = true) (h1_ : b 17 = false) => (show Kd.R (Kd.int .u8) 5 w16 w.heap.size (fun k_ => (w.heap.size ≤ k_)) v110 t109 from by first | exact (Kd.R_elder' (by (with_reducible repeat (first | apply Kd.R_alloc | apply Kd.R_drewN | apply Kd.R_drew)); exact (Q_HO111 h0_ h1_)) (Kd.R_base ho17) hb) | exact Kd.R_mono (Kd.R_elder' (by (with_reducible repeat (first | apply Kd.R_alloc | apply Kd.R_drewN | apply Kd.R_drew)); exact (Q_HO111 h0_ h1_)) (Kd.R_base ho17) hb) (fun _ h_ => by first | trivial | exact h_ | exact h_.1))
            have z_HO114 := fun (h0_ : b 14 = true) (h1_ : b 17 = false) => (show Kd.R (Kd.int .u8) 5 w16 w.heap.size (fun k_ => (w.heap.size ≤ k_)) v113 t112 from by first | exact (Kd.R_elder' (by (with_reducible repeat (first | apply Kd.R_alloc | apply Kd.R_drewN | apply Kd.R_drew)); exact (Q_HO114 h0_ h1_)) (Kd.R_base ho17) hb) | exact Kd.R_mono (Kd.R_elder' (by (with_reducible repeat (first | apply Kd.R_alloc | apply Kd.R_drewN | apply Kd.R_drew)); exact (Q_HO114 h0_ h1_)) (Kd.R_base ho17) hb) (fun _ h_ => by first | trivial | exact h_ | exact h_.1))
            clear HO0_3
            clear BK101
            clear HB
            have HO0_3 := n0_
            have HO105 := n1_
            have BK101 := n2_
            have HB := n3_
            clear n0_ n1_ n2_ n3_
            clear hb ho17
            refine hK.out _ _ ⟨v104, v107, v110, v113, v116, v119, m19_, (by rw [ha.out]; exact putSel_upk 2 hb_ rfl rfl rfl), (by (with_reducible repeat (first | apply Kd.V_alloc | apply Kd.V_drewN | apply Kd.V_drew)); exact Kd.V_mono HO0_3.out (fun _ hk => (by first | exact hk | (simp only [hk, ne_eq, not_false_eq_true, and_self, true_and, and_true, or_true, true_or]; done)))), (by (with_reducible repeat (first | refine blk_drewN ?_ _ | refine blk_drew ?_ | refine blk_alloc ?_ _)); exact BK101.out), (by repeat (first | (with_reducible first | exact HB.out | apply below_alloc | apply pw_below_drewN | apply below_drew1 | refine below_set ?_ GE101.out) | exact HB.out)), fun _ _ => (by (with_reducible repeat (first | apply Kd.R_alloc | apply Kd.R_drewN | apply Kd.R_drew)); exact Kd.R_mono HO105.out (fun _ hk => (by first | exact hk | (simp only [hk, ne_eq, not_false_eq_true, and_self, true_and, and_true, or_true, true_or]; done)))), z_HO108, z_HO111, z_HO114, fun h0_ => absurd ((hoff 17 (by kernel_rfl)).symm.trans h0_) (by decide), fun h0_ => absurd ((hoff 18 (by kernel_rfl)).symm.trans h0_) (by decide), fun h0_ => absurd ((hoff 19 (by kernel_rfl)).symm.trans h0_) (by decide)⟩
          refine steps_cons ?_ ?_
          · rintro b a w' ⟨v104, v107, v110, v113, v116, v119, m19_, ha, Q_HO0_3, Q_BK101, Q_HB, Q_HO105, Q_HO108, Q_HO111, Q_HO114, Q_HO117, Q_HO120, Q_X19_⟩ hb_ hon hoff
            refine ⟨_, rfl, fun K hK => ?_⟩
            have e12 : a.tmps[12]? = some (.pointer (some ⟨gb101, 1, none⟩)) := by rw [ha]; exact (putSel_off rfl).trans rfl
            replace ha := Aside0.mk ha
            have HO0_3 := Aside0.mk Q_HO0_3
            have BK101 := Aside0.mk Q_BK101
            have HB := Aside0.mk Q_HB
            have hc0_ : w'.cell? ⟨gb101, 0, none⟩ = some (.int .i64 a0_0) := (blk_cell BK101.out 0).trans rfl
            have hc1_ : w'.cell? ⟨gb101, 1, none⟩ = some (.int .u64 a0_1) := (blk_cell BK101.out 1).trans rfl
            have hc2_ : w'.cell? ⟨gb101, 2, none⟩ = some (.int .u64 a0_2) := (blk_cell BK101.out 2).trans rfl
            have hc3_ : w'.cell? ⟨gb101, 3, none⟩ = some (.slice A0_3 l0_3.length c0_3) := (blk_cell BK101.out 3).trans rfl
            refine value_ (w1 := w') (v := .int .u64 a0_1) (by rfl) rfl ?_ ?_
            · go_simp
              (try simp only [i64_w])
              try rfl
            refine hK.out _ _ ⟨v104, v107, v110, v113, v116, v119, m19_, (by rw [ha.out]; exact putSel_upk 3 hb_ rfl rfl rfl), Q_HO0_3, Q_BK101, Q_HB, Q_HO105, fun h0_ _ => absurd ((hoff 6 (by kernel_rfl)).symm.trans h0_) (by decide), fun h0_ _ => absurd ((hoff 9 (by kernel_rfl)).symm.trans h0_) (by decide), fun h0_ _ => absurd ((hoff 14 (by kernel_rfl)).symm.trans h0_) (by decide), fun h0_ => absurd ((hoff 17 (by kernel_rfl)).symm.trans h0_) (by decide), fun h0_ => absurd ((hoff 18 (by kernel_rfl)).symm.trans h0_) (by decide), fun h0_ => absurd ((hoff 19 (by kernel_rfl)).symm.trans h0_) (by decide)⟩
          refine steps_cons ?_ ?_
          · rintro b a w' ⟨v104, v107, v110, v113, v116, v119, m19_, ha, Q_HO0_3, Q_BK101, Q_HB, Q_HO105, Q_HO108, Q_HO111, Q_HO114, Q_HO117, Q_HO120, Q_X19_⟩ hb_ hon hoff
            refine ⟨_, rfl, fun K hK => ?_⟩
            have e13 : a.tmps[13]? = some (.int .u64 a0_1) := by rw [ha]; exact putSel_on (e := (5, 13, .int .u64 a0_1)) 3 rfl rfl (hon 5 (by kernel_rfl)) rfl
            replace ha := Aside0.mk ha
            have HO0_3 := Aside0.mk Q_HO0_3
            have BK101 := Aside0.mk Q_BK101
            have HB := Aside0.mk Q_HB
            refine goes_ Try.func34 (by kernel_rfl) rfl #[.int .u64 a0_1] (by rfl) rfl rfl (by first | (simp only [List.map_toArray, List.map_cons, List.map_nil, Act.eval, Array.getD_eq_getD_getElem?, Option.getD_some, e13]; done) | (simp only [List.map_toArray, List.map_cons, List.map_nil, Act.eval, Array.getD_eq_getD_getElem?, Option.getD_some, e13]; rfl)) ?_
            with_reducible refine (wire_Var.calls k a0_1 t106 _ A4.out).mono ?_
            rintro e w16 ⟨v107, rfl, ho0, hb⟩
            refine ⟨_, rfl, ?_⟩
            have n0_ := Aside0.mk (Kd.V_elder' (by (with_reducible repeat (first | apply Kd.V_alloc | apply Kd.V_drewN | apply Kd.V_drew)); exact HO0_3.out) (Kd.R_base ho0) hb)
            have n1_ := Aside0.mk (Kd.R_lower (Kd.R_newM (M := fun k_ => (w.heap.size ≤ k_)) ho0 (below_size (by repeat (first | (with_reducible first | exact HB.out | apply below_alloc | apply pw_below_drewN | apply below_drew1 | refine below_set ?_ GE101.out) | exact HB.out))) (fun k_ h_ => h_)) (below_size (by repeat (first | (with_reducible first | exact HB.out | apply below_alloc | apply pw_below_drewN | apply below_drew1 | refine below_set ?_ GE101.out) | exact HB.out))))
            have n2_ := Aside0.mk (blk_below (g := gb101) (o := .cells #[.int .i64 a0_0, .int .u64 a0_1, .int .u64 a0_2, .slice A0_3 l0_3.length c0_3] 25 (0, 0)) (by (with_reducible repeat (first | refine blk_drewN ?_ _ | refine blk_drew ?_ | refine blk_alloc ?_ _)); exact BK101.out) hb)
            have n3_ := Aside0.mk (below_step (by repeat (first | (with_reducible first | exact HB.out | apply below_alloc | apply pw_below_drewN | apply below_drew1 | refine below_set ?_ GE101.out) | exact HB.out)) hb)
            have z_HO105 := fun (h0_ : b 3 = true) (h1_ : b 17 = false) => (show Kd.R (Kd.int .u8) 5 w16 w.heap.size (fun k_ => (w.heap.size ≤ k_)) v104 y103 from by first | exact (Kd.R_elder' (by (with_reducible repeat (first | apply Kd.R_alloc | apply Kd.R_drewN | apply Kd.R_drew)); exact (Q_HO105 h0_ h1_)) (Kd.R_base ho0) hb) | exact Kd.R_mono (Kd.R_elder' (by (with_reducible repeat (first | apply Kd.R_alloc | apply Kd.R_drewN | apply Kd.R_drew)); exact (Q_HO105 h0_ h1_)) (Kd.R_base ho0) hb) (fun _ h_ => by first | trivial | exact h_ | exact h_.1))
            clear HO0_3
            clear BK101
            clear HB
            have HO0_3 := n0_
            have HO108 := n1_
            have BK101 := n2_
            have HB := n3_
            clear n0_ n1_ n2_ n3_
            (try clear hb)
            (try clear hb2)
            (try clear hk)
            (try clear hi)
            (try clear ho0)
            refine hK.out _ _ ⟨v104, v107, v110, v113, v116, v119, m19_, (by rw [ha.out]; exact putSel_upk 4 hb_ rfl rfl rfl), (by (with_reducible repeat (first | apply Kd.V_alloc | apply Kd.V_drewN | apply Kd.V_drew)); exact Kd.V_mono HO0_3.out (fun _ hk => (by first | exact hk | (simp only [hk, ne_eq, not_false_eq_true, and_self, true_and, and_true, or_true, true_or]; done)))), (by (with_reducible repeat (first | refine blk_drewN ?_ _ | refine blk_drew ?_ | refine blk_alloc ?_ _)); exact BK101.out), (by repeat (first | (with_reducible first | exact HB.out | apply below_alloc | apply pw_below_drewN | apply below_drew1 | refine below_set ?_ GE101.out) | exact HB.out)), z_HO105, fun _ _ => (by (with_reducible repeat (first | apply Kd.R_alloc | apply Kd.R_drewN | apply Kd.R_drew)); exact Kd.R_mono HO108.out (fun _ hk => (by first | exact hk | (simp only [hk, ne_eq, not_false_eq_true, and_self, true_and, and_true, or_true, true_or]; done)))), fun h0_ _ => absurd ((hoff 9 (by kernel_rfl)).symm.trans h0_) (by decide), fun h0_ _ => absurd ((hoff 14 (by kernel_rfl)).symm.trans h0_) (by decide), fun h0_ => absurd ((hoff 17 (by kernel_rfl)).symm.trans h0_) (by decide), fun h0_ => absurd ((hoff 18 (by kernel_rfl)).symm.trans h0_) (by decide), fun h0_ => absurd ((hoff 19 (by kernel_rfl)).symm.trans h0_) (by decide)⟩
          refine steps_cons ?_ ?_
          · rintro b a w' ⟨v104, v107, v110, v113, v116, v119, m19_, ha, Q_HO0_3, Q_BK101, Q_HB, Q_HO105, Q_HO108, Q_HO111, Q_HO114, Q_HO117, Q_HO120, Q_X19_⟩ hb_ hon hoff
            refine ⟨_, rfl, fun K hK => ?_⟩
            have e15 : a.tmps[15]? = some (.pointer (some ⟨gb101, 2, none⟩)) := by rw [ha]; exact (putSel_off rfl).trans rfl
            replace ha := Aside0.mk ha
            have HO0_3 := Aside0.mk Q_HO0_3
            have BK101 := Aside0.mk Q_BK101
            have HB := Aside0.mk Q_HB
            have hc0_ : w'.cell? ⟨gb101, 0, none⟩ = some (.int .i64 a0_0) := (blk_cell BK101.out 0).trans rfl
            have hc1_ : w'.cell? ⟨gb101, 1, none⟩ = some (.int .u64 a0_1) := (blk_cell BK101.out 1).trans rfl
            have hc2_ : w'.cell? ⟨gb101, 2, none⟩ = some (.int .u64 a0_2) := (blk_cell BK101.out 2).trans rfl
            have hc3_ : w'.cell? ⟨gb101, 3, none⟩ = some (.slice A0_3 l0_3.length c0_3) := (blk_cell BK101.out 3).trans rfl
            refine value_ (w1 := w') (v := .int .u64 a0_2) (by rfl) rfl ?_ ?_
            · go_simp
              (try simp only [i64_w])
              try rfl
            refine hK.out _ _ ⟨v104, v107, v110, v113, v116, v119, m19_, (by rw [ha.out]; exact putSel_upk 5 hb_ rfl rfl rfl), Q_HO0_3, Q_BK101, Q_HB, Q_HO105, Q_HO108, fun h0_ _ => absurd ((hoff 9 (by kernel_rfl)).symm.trans h0_) (by decide), fun h0_ _ => absurd ((hoff 14 (by kernel_rfl)).symm.trans h0_) (by decide), fun h0_ => absurd ((hoff 17 (by kernel_rfl)).symm.trans h0_) (by decide), fun h0_ => absurd ((hoff 18 (by kernel_rfl)).symm.trans h0_) (by decide), fun h0_ => absurd ((hoff 19 (by kernel_rfl)).symm.trans h0_) (by decide)⟩
          refine steps_cons ?_ ?_
          · rintro b a w' ⟨v104, v107, v110, v113, v116, v119, m19_, ha, Q_HO0_3, Q_BK101, Q_HB, Q_HO105, Q_HO108, Q_HO111, Q_HO114, Q_HO117, Q_HO120, Q_X19_⟩ hb_ hon hoff
            refine ⟨_, rfl, fun K hK => ?_⟩
            have e16 : a.tmps[16]? = some (.int .u64 a0_2) := by rw [ha]; exact putSel_on (e := (8, 16, .int .u64 a0_2)) 5 rfl rfl (hon 8 (by kernel_rfl)) rfl
            replace ha := Aside0.mk ha
            have HO0_3 := Aside0.mk Q_HO0_3
            have BK101 := Aside0.mk Q_BK101
            have HB := Aside0.mk Q_HB
            have HO108 := Aside0.mk (Q_HO108 (hon 6 (by kernel_rfl)) (hoff 17 (by kernel_rfl)))
            refine goes_ Try.func34 (by kernel_rfl) rfl #[.int .u64 a0_2] (by rfl) rfl rfl (by first | (simp only [List.map_toArray, List.map_cons, List.map_nil, Act.eval, Array.getD_eq_getD_getElem?, Option.getD_some, e16]; done) | (simp only [List.map_toArray, List.map_cons, List.map_nil, Act.eval, Array.getD_eq_getD_getElem?, Option.getD_some, e16]; rfl)) ?_
            with_reducible refine (wire_Var.calls k a0_2 t109 _ A5.out).mono ?_
            rintro e w18 ⟨v110, rfl, ho0, hb⟩
            refine ⟨_, rfl, ?_⟩
            have n0_ := Aside0.mk (Kd.V_elder' (by (with_reducible repeat (first | apply Kd.V_alloc | apply Kd.V_drewN | apply Kd.V_drew)); exact HO0_3.out) (Kd.R_base ho0) hb)
            have n1_ := Aside0.mk (Kd.R_elder' (by (with_reducible repeat (first | apply Kd.R_alloc | apply Kd.R_drewN | apply Kd.R_drew)); exact HO108.out) (Kd.R_base ho0) hb)
            have n2_ := Aside0.mk (Kd.R_lower (Kd.R_new' (Kd.R_newM (M := fun k_ => (w.heap.size ≤ k_)) ho0 (below_size (by repeat (first | (with_reducible first | exact HB.out | apply below_alloc | apply pw_below_drewN | apply below_drew1 | refine below_set ?_ GE101.out) | exact HB.out))) (fun k_ h_ => h_)) (Kd.R_lt (by (with_reducible repeat (first | apply Kd.R_alloc | apply Kd.R_drewN | apply Kd.R_drew)); exact HO108.out))) (below_size (by repeat (first | (with_reducible first | exact HB.out | apply below_alloc | apply pw_below_drewN | apply below_drew1 | refine below_set ?_ GE101.out) | exact HB.out))))
            have n3_ := Aside0.mk (blk_below (g := gb101) (o := .cells #[.int .i64 a0_0, .int .u64 a0_1, .int .u64 a0_2, .slice A0_3 l0_3.length c0_3] 25 (0, 0)) (by (with_reducible repeat (first | refine blk_drewN ?_ _ | refine blk_drew ?_ | refine blk_alloc ?_ _)); exact BK101.out) hb)
            have n4_ := Aside0.mk (below_step (by repeat (first | (with_reducible first | exact HB.out | apply below_alloc | apply pw_below_drewN | apply below_drew1 | refine below_set ?_ GE101.out) | exact HB.out)) hb)
            have z_HO105 := fun (h0_ : b 3 = true) (h1_ : b 17 = false) => (show Kd.R (Kd.int .u8) 5 w18 w.heap.size (fun k_ => (w.heap.size ≤ k_)) v104 y103 from by first | exact (Kd.R_elder' (by (with_reducible repeat (first | apply Kd.R_alloc | apply Kd.R_drewN | apply Kd.R_drew)); exact (Q_HO105 h0_ h1_)) (Kd.R_base ho0) hb) | exact Kd.R_mono (Kd.R_elder' (by (with_reducible repeat (first | apply Kd.R_alloc | apply Kd.R_drewN | apply Kd.R_drew)); exact (Q_HO105 h0_ h1_)) (Kd.R_base ho0) hb) (fun _ h_ => by first | trivial | exact h_ | exact h_.1))
            clear HO0_3
            clear HO108
            clear BK101
            clear HB
            have HO0_3 := n0_
            have HO108 := n1_
            have HO111 := n2_
            have BK101 := n3_
            have HB := n4_
            clear n0_ n1_ n2_ n3_ n4_
            (try clear hb)
            (try clear hb2)
            (try clear hk)
            (try clear hi)
            (try clear ho0)
            refine hK.out _ _ ⟨v104, v107, v110, v113, v116, v119, m19_, (by rw [ha.out]; exact putSel_upk 6 hb_ rfl rfl rfl), (by (with_reducible repeat (first | apply Kd.V_alloc | apply Kd.V_drewN | apply Kd.V_drew)); exact Kd.V_mono HO0_3.out (fun _ hk => (by first | exact hk | (simp only [hk, ne_eq, not_false_eq_true, and_self, true_and, and_true, or_true, true_or]; done)))), (by (with_reducible repeat (first | refine blk_drewN ?_ _ | refine blk_drew ?_ | refine blk_alloc ?_ _)); exact BK101.out), (by repeat (first | (with_reducible first | exact HB.out | apply below_alloc | apply pw_below_drewN | apply below_drew1 | refine below_set ?_ GE101.out) | exact HB.out)), z_HO105, fun _ _ => (by (with_reducible repeat (first | apply Kd.R_alloc | apply Kd.R_drewN | apply Kd.R_drew)); first | exact HO108.out | exact Kd.R_mono HO108.out (fun _ hk => (by first | exact hk | (simp only [hk, ne_eq, not_false_eq_true, and_self, true_and, and_true, or_true, true_or]; done))) | exact Kd.V_mono HO108.out (fun _ hk => (by first | exact hk | (simp only [hk, ne_eq, not_false_eq_true, and_self, true_and, and_true, or_true, true_or]; done))) | exact Kd.N_mono HO108.out (fun _ hk => (by first | exact hk | (simp only [hk, ne_eq, not_false_eq_true, and_self, true_and, and_true, or_true, true_or]; done)))), fun _ _ => (by (with_reducible repeat (first | apply Kd.R_alloc | apply Kd.R_drewN | apply Kd.R_drew)); exact Kd.R_mono HO111.out (fun _ hk => (by first | exact hk | (simp only [hk, ne_eq, not_false_eq_true, and_self, true_and, and_true, or_true, true_or]; done)))), fun h0_ _ => absurd ((hoff 14 (by kernel_rfl)).symm.trans h0_) (by decide), fun h0_ => absurd ((hoff 17 (by kernel_rfl)).symm.trans h0_) (by decide), fun h0_ => absurd ((hoff 18 (by kernel_rfl)).symm.trans h0_) (by decide), fun h0_ => absurd ((hoff 19 (by kernel_rfl)).symm.trans h0_) (by decide)⟩
          refine steps_cons ?_ ?_
          · rintro b a w' ⟨v104, v107, v110, v113, v116, v119, m19_, ha, Q_HO0_3, Q_BK101, Q_HB, Q_HO105, Q_HO108, Q_HO111, Q_HO114, Q_HO117, Q_HO120, Q_X19_⟩ hb_ hon hoff
            refine ⟨_, rfl, fun K hK => ?_⟩
            have e18 : a.tmps[18]? = some (.pointer (some ⟨gb101, 3, none⟩)) := by rw [ha]; exact (putSel_off rfl).trans rfl
            replace ha := Aside0.mk ha
            have HO0_3 := Aside0.mk Q_HO0_3
            have BK101 := Aside0.mk Q_BK101
            have HB := Aside0.mk Q_HB
            have hc0_ : w'.cell? ⟨gb101, 0, none⟩ = some (.int .i64 a0_0) := (blk_cell BK101.out 0).trans rfl
            have hc1_ : w'.cell? ⟨gb101, 1, none⟩ = some (.int .u64 a0_1) := (blk_cell BK101.out 1).trans rfl
            have hc2_ : w'.cell? ⟨gb101, 2, none⟩ = some (.int .u64 a0_2) := (blk_cell BK101.out 2).trans rfl
            have hc3_ : w'.cell? ⟨gb101, 3, none⟩ = some (.slice A0_3 l0_3.length c0_3) := (blk_cell BK101.out 3).trans rfl
            refine value_ (w1 := w') (v := .slice A0_3 l0_3.length c0_3) (by rfl) rfl ?_ ?_
            · go_simp
              (try simp only [i64_w])
              try rfl
            refine hK.out _ _ ⟨v104, v107, v110, v113, v116, v119, m19_, (by rw [ha.out]; exact putSel_upk 7 hb_ rfl rfl rfl), Q_HO0_3, Q_BK101, Q_HB, Q_HO105, Q_HO108, Q_HO111, fun h0_ _ => absurd ((hoff 14 (by kernel_rfl)).symm.trans h0_) (by decide), fun h0_ => absurd ((hoff 17 (by kernel_rfl)).symm.trans h0_) (by decide), fun h0_ => absurd ((hoff 18 (by kernel_rfl)).symm.trans h0_) (by decide), fun h0_ => absurd ((hoff 19 (by kernel_rfl)).symm.trans h0_) (by decide)⟩
          refine steps_cons ?_ ?_
          · rintro b a w' ⟨v104, v107, v110, v113, v116, v119, m19_, ha, Q_HO0_3, Q_BK101, Q_HB, Q_HO105, Q_HO108, Q_HO111, Q_HO114, Q_HO117, Q_HO120, Q_X19_⟩ hb_ hon hoff
            refine ⟨_, rfl, fun K hK => ?_⟩
            have e19 : a.tmps[19]? = some (.slice A0_3 l0_3.length c0_3) := by rw [ha]; exact putSel_on (e := (11, 19, .slice A0_3 l0_3.length c0_3)) 7 rfl rfl (hon 11 (by kernel_rfl)) rfl
            replace ha := Aside0.mk ha
            have HO0_3 := Aside0.mk Q_HO0_3
            have BK101 := Aside0.mk Q_BK101
            have HB := Aside0.mk Q_HB
            refine value_ (w1 := w') (v := .int .i64 (l0_3.length : Int)) (by rfl) rfl ?_ ?_
            · go_simp
              (try simp only [i64_w])
              try rfl
            refine hK.out _ _ ⟨v104, v107, v110, v113, v116, v119, m19_, (by rw [ha.out]; exact putSel_upk 8 hb_ rfl rfl rfl), Q_HO0_3, Q_BK101, Q_HB, Q_HO105, Q_HO108, Q_HO111, fun h0_ _ => absurd ((hoff 14 (by kernel_rfl)).symm.trans h0_) (by decide), fun h0_ => absurd ((hoff 17 (by kernel_rfl)).symm.trans h0_) (by decide), fun h0_ => absurd ((hoff 18 (by kernel_rfl)).symm.trans h0_) (by decide), fun h0_ => absurd ((hoff 19 (by kernel_rfl)).symm.trans h0_) (by decide)⟩
          refine steps_cons ?_ ?_
          · rintro b a w' ⟨v104, v107, v110, v113, v116, v119, m19_, ha, Q_HO0_3, Q_BK101, Q_HB, Q_HO105, Q_HO108, Q_HO111, Q_HO114, Q_HO117, Q_HO120, Q_X19_⟩ hb_ hon hoff
            refine ⟨_, rfl, fun K hK => ?_⟩
            have e20 : a.tmps[20]? = some (.int .i64 (l0_3.length : Int)) := by rw [ha]; exact putSel_on (e := (12, 20, .int .i64 (l0_3.length : Int))) 8 rfl rfl (hon 12 (by kernel_rfl)) rfl
            replace ha := Aside0.mk ha
            have HO0_3 := Aside0.mk Q_HO0_3
            have BK101 := Aside0.mk Q_BK101
            have HB := Aside0.mk Q_HB
            refine value_ (w1 := w') (v := .int .u64 (IntKind.u64.wrap ((l0_3.length : Int)))) (by rfl) rfl ?_ ?_
            · go_simp
              (try simp only [i64_w])
              try rfl
            refine hK.out _ _ ⟨v104, v107, v110, v113, v116, v119, m19_, (by rw [ha.out]; exact putSel_upk 9 hb_ rfl rfl rfl), Q_HO0_3, Q_BK101, Q_HB, Q_HO105, Q_HO108, Q_HO111, fun h0_ _ => absurd ((hoff 14 (by kernel_rfl)).symm.trans h0_) (by decide), fun h0_ => absurd ((hoff 17 (by kernel_rfl)).symm.trans h0_) (by decide), fun h0_ => absurd ((hoff 18 (by kernel_rfl)).symm.trans h0_) (by decide), fun h0_ => absurd ((hoff 19 (by kernel_rfl)).symm.trans h0_) (by decide)⟩
          refine steps_cons ?_ ?_
          · rintro b a w' ⟨v104, v107, v110, v113, v116, v119, m19_, ha, Q_HO0_3, Q_BK101, Q_HB, Q_HO105, Q_HO108, Q_HO111, Q_HO114, Q_HO117, Q_HO120, Q_X19_⟩ hb_ hon hoff
            refine ⟨_, rfl, fun K hK => ?_⟩
            have e21 : a.tmps[21]? = some (.int .u64 (IntKind.u64.wrap ((l0_3.length : Int)))) := by rw [ha]; exact putSel_on (e := (13, 21, .int .u64 (IntKind.u64.wrap ((l0_3.length : Int))))) 9 rfl rfl (hon 13 (by kernel_rfl)) rfl
            replace ha := Aside0.mk ha
            have HO0_3 := Aside0.mk Q_HO0_3
            have BK101 := Aside0.mk Q_BK101
            have HB := Aside0.mk Q_HB
            have HO108 := Aside0.mk (Q_HO108 (hon 6 (by kernel_rfl)) (hoff 17 (by kernel_rfl)))
            have HO111 := Aside0.mk (Q_HO111 (hon 9 (by kernel_rfl)) (hoff 17 (by kernel_rfl)))
            refine goes_ Try.func34 (by kernel_rfl) rfl #[.int .u64 (IntKind.u64.wrap ((l0_3.length : Int)))] (by rfl) rfl rfl (by first | (simp only [List.map_toArray, List.map_cons, List.map_nil, Act.eval, Array.getD_eq_getD_getElem?, Option.getD_some, e21]; done) | (simp only [List.map_toArray, List.map_cons, List.map_nil, Act.eval, Array.getD_eq_getD_getElem?, Option.getD_some, e21]; rfl)) ?_
            with_reducible refine (wire_Var.calls k (IntKind.u64.wrap ((l0_3.length : Int))) t112 _ A6.out).mono ?_
            rintro e w19 ⟨v113, rfl, ho0, hb⟩
            refine ⟨_, rfl, ?_⟩
            have n0_ := Aside0.mk (Kd.V_elder' (by (with_reducible repeat (first | apply Kd.V_alloc | apply Kd.V_drewN | apply Kd.V_drew)); exact HO0_3.out) (Kd.R_base ho0) hb)
            have n1_ := Aside0.mk (Kd.R_elder' (by (with_reducible repeat (first | apply Kd.R_alloc | apply Kd.R_drewN | apply Kd.R_drew)); exact HO108.out) (Kd.R_base ho0) hb)
            have n2_ := Aside0.mk (Kd.R_elder' (by (with_reducible repeat (first | apply Kd.R_alloc | apply Kd.R_drewN | apply Kd.R_drew)); exact HO111.out) (Kd.R_base ho0) hb)
            have n3_ := Aside0.mk (Kd.R_lower (Kd.R_new' (Kd.R_new' (Kd.R_newM (M := fun k_ => (w.heap.size ≤ k_)) ho0 (below_size (by repeat (first | (with_reducible first | exact HB.out | apply below_alloc | apply pw_below_drewN | apply below_drew1 | refine below_set ?_ GE101.out) | exact HB.out))) (fun k_ h_ => h_)) (Kd.R_lt (by (with_reducible repeat (first | apply Kd.R_alloc | apply Kd.R_drewN | apply Kd.R_drew)); exact HO108.out))) (Kd.R_lt (by (with_reducible repeat (first | apply Kd.R_alloc | apply Kd.R_drewN | apply Kd.R_drew)); exact HO111.out))) (below_size (by repeat (first | (with_reducible first | exact HB.out | apply below_alloc | apply pw_below_drewN | apply below_drew1 | refine below_set ?_ GE101.out) | exact HB.out))))
            have n4_ := Aside0.mk (blk_below (g := gb101) (o := .cells #[.int .i64 a0_0, .int .u64 a0_1, .int .u64 a0_2, .slice A0_3 l0_3.length c0_3] 25 (0, 0)) (by (with_reducible repeat (first | refine blk_drewN ?_ _ | refine blk_drew ?_ | refine blk_alloc ?_ _)); exact BK101.out) hb)
            have n5_ := Aside0.mk (below_step (by repeat (first | (with_reducible first | exact HB.out | apply below_alloc | apply pw_below_drewN | apply below_drew1 | refine below_set ?_ GE101.out) | exact HB.out)) hb)
            have z_HO105 := fun (h0_ : b 3 = true) (h1_ : b 17 = false) => (show Kd.R (Kd.int .u8) 5 w19 w.heap.size (fun k_ => (w.heap.size ≤ k_)) v104 y103 from by first | exact (Kd.R_elder' (by (with_reducible repeat (first | apply Kd.R_alloc | apply Kd.R_drewN | apply Kd.R_drew)); exact (Q_HO105 h0_ h1_)) (Kd.R_base ho0) hb) | exact Kd.R_mono (Kd.R_elder' (by (with_reducible repeat (first | apply Kd.R_alloc | apply Kd.R_drewN | apply Kd.R_drew)); exact (Q_HO105 h0_ h1_)) (Kd.R_base ho0) hb) (fun _ h_ => by first | trivial | exact h_ | exact h_.1))
            clear HO0_3
            clear HO108
            clear HO111
            clear BK101
            clear HB
            have HO0_3 := n0_
            have HO108 := n1_
            have HO111 := n2_
            have HO114 := n3_
            have BK101 := n4_
            have HB := n5_
            clear n0_ n1_ n2_ n3_ n4_ n5_
            (try clear hb)
            (try clear hb2)
            (try clear hk)
            (try clear hi)
            (try clear ho0)
            refine hK.out _ _ ⟨v104, v107, v110, v113, v116, v119, m19_, (by rw [ha.out]; exact putSel_upk 10 hb_ rfl rfl rfl), (by (with_reducible repeat (first | apply Kd.V_alloc | apply Kd.V_drewN | apply Kd.V_drew)); exact Kd.V_mono HO0_3.out (fun _ hk => (by first | exact hk | (simp only [hk, ne_eq, not_false_eq_true, and_self, true_and, and_true, or_true, true_or]; done)))), (by (with_reducible repeat (first | refine blk_drewN ?_ _ | refine blk_drew ?_ | refine blk_alloc ?_ _)); exact BK101.out), (by repeat (first | (with_reducible first | exact HB.out | apply below_alloc | apply pw_below_drewN | apply below_drew1 | refine below_set ?_ GE101.out) | exact HB.out)), z_HO105, fun _ _ => (by (with_reducible repeat (first | apply Kd.R_alloc | apply Kd.R_drewN | apply Kd.R_drew)); exact Kd.R_mono HO108.out (fun _ hk => (by first | exact hk | (simp only [hk, ne_eq, not_false_eq_true, and_self, true_and, and_true, or_true, true_or]; done)))), fun _ _ => (by (with_reducible repeat (first | apply Kd.R_alloc | apply Kd.R_drewN | apply Kd.R_drew)); exact Kd.R_mono HO111.out (fun _ hk => (by first | exact hk | (simp only [hk, ne_eq, not_false_eq_true, and_self, true_and, and_true, or_true, true_or]; done)))), fun _ _ => (by (with_reducible repeat (first | apply Kd.R_alloc | apply Kd.R_drewN | apply Kd.R_drew)); exact Kd.R_mono HO114.out (fun _ hk => (by first | exact hk | (simp only [hk, ne_eq, not_false_eq_true, and_self, true_and, and_true, or_true, true_or]; done)))), fun h0_ => absurd ((hoff 17 (by kernel_rfl)).symm.trans h0_) (by decide), fun h0_ => absurd ((hoff 18 (by kernel_rfl)).symm.trans h0_) (by decide), fun h0_ => absurd ((hoff 19 (by kernel_rfl)).symm.trans h0_) (by decide)⟩
          refine steps_cons ?_ ?_
          · rintro b a w' ⟨v104, v107, v110, v113, v116, v119, m19_, ha, Q_HO0_3, Q_BK101, Q_HB, Q_HO105, Q_HO108, Q_HO111, Q_HO114, Q_HO117, Q_HO120, Q_X19_⟩ hb_ hon hoff
            refine ⟨_, rfl, fun K hK => ?_⟩
            have e23 : a.tmps[23]? = some (.pointer (some ⟨gb101, 3, none⟩)) := by rw [ha]; exact (putSel_off rfl).trans rfl
            replace ha := Aside0.mk ha
            have HO0_3 := Aside0.mk Q_HO0_3
            have BK101 := Aside0.mk Q_BK101
            have HB := Aside0.mk Q_HB
            have hc0_ : w'.cell? ⟨gb101, 0, none⟩ = some (.int .i64 a0_0) := (blk_cell BK101.out 0).trans rfl
            have hc1_ : w'.cell? ⟨gb101, 1, none⟩ = some (.int .u64 a0_1) := (blk_cell BK101.out 1).trans rfl
            have hc2_ : w'.cell? ⟨gb101, 2, none⟩ = some (.int .u64 a0_2) := (blk_cell BK101.out 2).trans rfl
            have hc3_ : w'.cell? ⟨gb101, 3, none⟩ = some (.slice A0_3 l0_3.length c0_3) := (blk_cell BK101.out 3).trans rfl
            refine value_ (w1 := w') (v := .slice A0_3 l0_3.length c0_3) (by rfl) rfl ?_ ?_
            · go_simp
              (try simp only [i64_w])
              try rfl
            refine hK.out _ _ ⟨v104, v107, v110, v113, v116, v119, m19_, (by rw [ha.out]; exact putSel_upk 11 hb_ rfl rfl rfl), Q_HO0_3, Q_BK101, Q_HB, Q_HO105, Q_HO108, Q_HO111, Q_HO114, fun h0_ => absurd ((hoff 17 (by kernel_rfl)).symm.trans h0_) (by decide), fun h0_ => absurd ((hoff 18 (by kernel_rfl)).symm.trans h0_) (by decide), fun h0_ => absurd ((hoff 19 (by kernel_rfl)).symm.trans h0_) (by decide)⟩
          refine steps_cons ?_ ?_
          · rintro b a w' ⟨v104, v107, v110, v113, v116, v119, m19_, ha, Q_HO0_3, Q_BK101, Q_HB, Q_HO105, Q_HO108, Q_HO111, Q_HO114, Q_HO117, Q_HO120, Q_X19_⟩ hb_ hon hoff
            refine ⟨_, rfl, fun K hK => ?_⟩
            have e11 : a.tmps[11]? = some (v104) := by rw [ha]; exact putSel_on (e := (3, 11, v104)) 2 rfl rfl (hon 3 (by kernel_rfl)) rfl
            have e14 : a.tmps[14]? = some (v107) := by rw [ha]; exact putSel_on (e := (6, 14, v107)) 4 rfl rfl (hon 6 (by kernel_rfl)) rfl
            have e17 : a.tmps[17]? = some (v110) := by rw [ha]; exact putSel_on (e := (9, 17, v110)) 6 rfl rfl (hon 9 (by kernel_rfl)) rfl
            have e22 : a.tmps[22]? = some (v113) := by rw [ha]; exact putSel_on (e := (14, 22, v113)) 10 rfl rfl (hon 14 (by kernel_rfl)) rfl
            have e24 : a.tmps[24]? = some (.slice A0_3 l0_3.length c0_3) := by rw [ha]; exact putSel_on (e := (16, 24, .slice A0_3 l0_3.length c0_3)) 11 rfl rfl (hon 16 (by kernel_rfl)) rfl
            replace ha := Aside0.mk ha
            have HO0_3 := Aside0.mk Q_HO0_3
            have BK101 := Aside0.mk Q_BK101
            have HB := Aside0.mk Q_HB
            have HO105 := Aside0.mk (Q_HO105 (hon 3 (by kernel_rfl)) hb_)
            have HO108 := Aside0.mk (Q_HO108 (hon 6 (by kernel_rfl)) hb_)
            have HO111 := Aside0.mk (Q_HO111 (hon 9 (by kernel_rfl)) hb_)
            have HO114 := Aside0.mk (Q_HO114 (hon 14 (by kernel_rfl)) hb_)
            obtain ⟨Ao22, co22, eo22⟩ := Kd.R_slice HO105.out
            (first | subst eo22 | (injection eo22 with f1_ f2_ f3_; have f4_ := f1_.symm; have f5_ := f3_.symm; clear f1_ f2_ f3_; subst f4_; subst f5_))
            obtain ⟨Ao23, co23, eo23⟩ := Kd.R_slice HO108.out
            (first | subst eo23 | (injection eo23 with f1_ f2_ f3_; have f4_ := f1_.symm; have f5_ := f3_.symm; clear f1_ f2_ f3_; subst f4_; subst f5_))
            obtain ⟨Ao24, co24, eo24⟩ := Kd.R_slice HO111.out
            (first | subst eo24 | (injection eo24 with f1_ f2_ f3_; have f4_ := f1_.symm; have f5_ := f3_.symm; clear f1_ f2_ f3_; subst f4_; subst f5_))
            obtain ⟨Ao25, co25, eo25⟩ := Kd.R_slice HO114.out
            (first | subst eo25 | (injection eo25 with f1_ f2_ f3_; have f4_ := f1_.symm; have f5_ := f3_.symm; clear f1_ f2_ f3_; subst f4_; subst f5_))
            refine Kd.N_lit_step (Kd.slice 5 (Kd.int .u8)) _ 23 ?hg (N' := 25) ?hd (xs := ([y103, t106, t109, t112, l0_3] : List (List Int))) (inner := [.slice Ao22 y103.length co22, .slice Ao23 t106.length co23, .slice Ao24 t109.length co24, .slice Ao25 t112.length co25, .slice A0_3 l0_3.length c0_3]) (ok := (fun k_ => (P0_3_ k_ ∨ w.heap.size ≤ k_) ∧ k_ ≠ gb101)) (okp := (fun k_ => (P0_3_ k_ ∨ w.heap.size ≤ k_) ∧ k_ ≠ gb101)) ?hr ?hp (fun _ hk => (by first | exact hk | (simp only [hk, ne_eq, not_false_eq_true, and_self, true_and, and_true, or_true, true_or]; done))) ((show ∀ k_, w'.heap.size ≤ k_ → (fun k_ => (P0_3_ k_ ∨ w.heap.size ≤ k_) ∧ k_ ≠ gb101) k_ from fun k_ hk => ⟨(.inr (Nat.le_trans (below_size (by repeat (first | (with_reducible first | exact HB.out | apply below_alloc | apply pw_below_drewN | apply below_drew1 | refine below_set ?_ GE101.out) | exact HB.out))) hk)), Kd.freshB (g := gb101) (o := .cells #[.int .i64 a0_0, .int .u64 a0_1, .int .u64 a0_2, .slice A0_3 l0_3.length c0_3] 25 (0, 0)) (by (with_reducible repeat (first | refine blk_drewN ?_ _ | refine blk_drew ?_ | refine blk_alloc ?_ _)); exact BK101.out) k_ hk⟩) _ (Nat.le_refl _)) (Below.refl _ _) (Nat.le_refl _) (by simp) ?_; (case hd => rfl); (case hg => rfl); (case hr => first | (go_simp; done) | (go_simp; rfl)); (case hp => exact (Reps.one (show Kd.FK (Kd.slice 5 (Kd.int .u8)) _ _ y103 [.slice Ao22 y103.length co22] from (Kd.FK_slice_mk (Kd.R_reads' (Kd.R_mono (ok' := (fun k_ => (P0_3_ k_ ∨ w.heap.size ≤ k_) ∧ k_ ≠ gb101)) (Kd.R_types (HO105.out) BK101.out (by decide)) (fun k_ hk => (by first | exact hk | (simp only [hk, ne_eq, not_false_eq_true, and_self, true_and, and_true, or_true, true_or]; done))))).2.1 (Kd.R_F (Kd.R_mono (ok' := (fun k_ => (P0_3_ k_ ∨ w.heap.size ≤ k_) ∧ k_ ≠ gb101)) (Kd.R_types (HO105.out) BK101.out (by decide)) (fun k_ hk => (by first | exact hk | (simp only [hk, ne_eq, not_false_eq_true, and_self, true_and, and_true, or_true, true_or]; done))))))) (Reps.one (show Kd.FK (Kd.slice 5 (Kd.int .u8)) _ _ t106 [.slice Ao23 t106.length co23] from (Kd.FK_slice_mk (Kd.R_reads' (Kd.R_mono (ok' := (fun k_ => (P0_3_ k_ ∨ w.heap.size ≤ k_) ∧ k_ ≠ gb101)) (Kd.R_types (HO108.out) BK101.out (by decide)) (fun k_ hk => (by first | exact hk | (simp only [hk, ne_eq, not_false_eq_true, and_self, true_and, and_true, or_true, true_or]; done))))).2.1 (Kd.R_F (Kd.R_mono (ok' := (fun k_ => (P0_3_ k_ ∨ w.heap.size ≤ k_) ∧ k_ ≠ gb101)) (Kd.R_types (HO108.out) BK101.out (by decide)) (fun k_ hk => (by first | exact hk | (simp only [hk, ne_eq, not_false_eq_true, and_self, true_and, and_true, or_true, true_or]; done))))))) (Reps.one (show Kd.FK (Kd.slice 5 (Kd.int .u8)) _ _ t109 [.slice Ao24 t109.length co24] from (Kd.FK_slice_mk (Kd.R_reads' (Kd.R_mono (ok' := (fun k_ => (P0_3_ k_ ∨ w.heap.size ≤ k_) ∧ k_ ≠ gb101)) (Kd.R_types (HO111.out) BK101.out (by decide)) (fun k_ hk => (by first | exact hk | (simp only [hk, ne_eq, not_false_eq_true, and_self, true_and, and_true, or_true, true_or]; done))))).2.1 (Kd.R_F (Kd.R_mono (ok' := (fun k_ => (P0_3_ k_ ∨ w.heap.size ≤ k_) ∧ k_ ≠ gb101)) (Kd.R_types (HO111.out) BK101.out (by decide)) (fun k_ hk => (by first | exact hk | (simp only [hk, ne_eq, not_false_eq_true, and_self, true_and, and_true, or_true, true_or]; done))))))) (Reps.one (show Kd.FK (Kd.slice 5 (Kd.int .u8)) _ _ t112 [.slice Ao25 t112.length co25] from (Kd.FK_slice_mk (Kd.R_reads' (Kd.R_mono (ok' := (fun k_ => (P0_3_ k_ ∨ w.heap.size ≤ k_) ∧ k_ ≠ gb101)) (Kd.R_types (HO114.out) BK101.out (by decide)) (fun k_ hk => (by first | exact hk | (simp only [hk, ne_eq, not_false_eq_true, and_self, true_and, and_true, or_true, true_or]; done))))).2.1 (Kd.R_F (Kd.R_mono (ok' := (fun k_ => (P0_3_ k_ ∨ w.heap.size ≤ k_) ∧ k_ ≠ gb101)) (Kd.R_types (HO114.out) BK101.out (by decide)) (fun k_ hk => (by first | exact hk | (simp only [hk, ne_eq, not_false_eq_true, and_self, true_and, and_true, or_true, true_or]; done))))))) (Reps.one (show Kd.FK (Kd.slice 5 (Kd.int .u8)) _ _ l0_3 [.slice A0_3 l0_3.length c0_3] from (Kd.FK_slice_mk (Kd.V_reads' (Kd.V_mono (ok' := (fun k_ => (P0_3_ k_ ∨ w.heap.size ≤ k_) ∧ k_ ≠ gb101)) (HO0_3.out) (fun k_ hk => (by first | exact hk | (simp only [hk, ne_eq, not_false_eq_true, and_self, true_and, and_true, or_true, true_or]; done))))).2.1 (Kd.V_F (Kd.V_mono (ok' := (fun k_ => (P0_3_ k_ ∨ w.heap.size ≤ k_) ∧ k_ ≠ gb101)) (HO0_3.out) (fun k_ hk => (by first | exact hk | (simp only [hk, ne_eq, not_false_eq_true, and_self, true_and, and_true, or_true, true_or]; done))))))) (Reps.none _ _)))))))
            intro v116 w26 ho27 hb hg_ hnew_
            clear hg_ hnew_
            (first | rw [← Ny115.out] at ho27 | (simp only [Int.reduceToNat] at ho27; rw [← Ny115.out] at ho27))
            have n0_ := Aside0.mk (Kd.V_elder' (by (with_reducible repeat (first | apply Kd.V_alloc | apply Kd.V_drewN | apply Kd.V_drew)); exact HO0_3.out) (Kd.N_base ho27) hb)
            have n1_ := Aside0.mk (Kd.N_lower ho27 (below_size (by repeat (first | (with_reducible first | exact HB.out | apply below_alloc | apply pw_below_drewN | apply below_drew1 | refine below_set ?_ GE101.out) | exact HB.out))))
            have n2_ := Aside0.mk (blk_below (g := gb101) (o := .cells #[.int .i64 a0_0, .int .u64 a0_1, .int .u64 a0_2, .slice A0_3 l0_3.length c0_3] 25 (0, 0)) (by (with_reducible repeat (first | refine blk_drewN ?_ _ | refine blk_drew ?_ | refine blk_alloc ?_ _)); exact BK101.out) hb)
            have n3_ := Aside0.mk (below_step (by repeat (first | (with_reducible first | exact HB.out | apply below_alloc | apply pw_below_drewN | apply below_drew1 | refine below_set ?_ GE101.out) | exact HB.out)) hb)
            clear HO0_3
            clear BK101
            clear HB
            clear HO105
            clear HO108
            clear HO111
            clear HO114
            have HO0_3 := n0_
            have HO117 := n1_
            have BK101 := n2_
            have HB := n3_
            clear n0_ n1_ n2_ n3_
            clear hb ho27
            refine hK.out _ _ ⟨.slice Ao22 y103.length co22, .slice Ao23 t106.length co23, .slice Ao24 t109.length co24, .slice Ao25 t112.length co25, v116, v119, m19_, (by rw [ha.out]; exact putSel_upk 12 hb_ rfl rfl rfl), (by (with_reducible repeat (first | apply Kd.V_alloc | apply Kd.V_drewN | apply Kd.V_drew)); exact Kd.V_mono HO0_3.out (fun _ hk => (by first | exact hk | (simp only [hk, ne_eq, not_false_eq_true, and_self, true_and, and_true, or_true, true_or]; done)))), (by (with_reducible repeat (first | refine blk_drewN ?_ _ | refine blk_drew ?_ | refine blk_alloc ?_ _)); exact BK101.out), (by repeat (first | (with_reducible first | exact HB.out | apply below_alloc | apply pw_below_drewN | apply below_drew1 | refine below_set ?_ GE101.out) | exact HB.out)), fun _ h1_ => absurd ((up_self b 17).symm.trans h1_) (by decide), fun _ h1_ => absurd ((up_self b 17).symm.trans h1_) (by decide), fun _ h1_ => absurd ((up_self b 17).symm.trans h1_) (by decide), fun _ h1_ => absurd ((up_self b 17).symm.trans h1_) (by decide), fun _ => (by (with_reducible repeat (first | apply Kd.N_alloc | apply Kd.N_drewN | apply Kd.N_drew)); first | exact HO117.out | exact Kd.R_mono HO117.out (fun _ hk => (by first | exact hk | (simp only [hk, ne_eq, not_false_eq_true, and_self, true_and, and_true, or_true, true_or]; done))) | exact Kd.V_mono HO117.out (fun _ hk => (by first | exact hk | (simp only [hk, ne_eq, not_false_eq_true, and_self, true_and, and_true, or_true, true_or]; done))) | exact Kd.N_mono HO117.out (fun _ hk => (by first | exact hk | (simp only [hk, ne_eq, not_false_eq_true, and_self, true_and, and_true, or_true, true_or]; done)))), fun h0_ => absurd ((hoff 18 (by kernel_rfl)).symm.trans h0_) (by decide), fun h0_ => absurd ((hoff 19 (by kernel_rfl)).symm.trans h0_) (by decide)⟩
          refine steps_cons ?_ ?_
          · rintro b a w' ⟨v104, v107, v110, v113, v116, v119, m19_, ha, Q_HO0_3, Q_BK101, Q_HB, Q_HO105, Q_HO108, Q_HO111, Q_HO114, Q_HO117, Q_HO120, Q_X19_⟩ hb_ hon hoff
            refine ⟨_, rfl, fun K hK => ?_⟩
            have e25 : a.tmps[25]? = some (v116) := by rw [ha]; exact putSel_on (e := (17, 25, v116)) 12 rfl rfl (hon 17 (by kernel_rfl)) rfl
            replace ha := Aside0.mk ha
            have HO0_3 := Aside0.mk Q_HO0_3
            have BK101 := Aside0.mk Q_BK101
            have HB := Aside0.mk Q_HB
            have HO117 := Aside0.mk (Q_HO117 (hon 17 (by kernel_rfl)))
            obtain ⟨Ao28, co28, eo28⟩ := Kd.N_slice HO117.out
            (first | subst eo28 | (injection eo28 with f1_ f2_ f3_; have f4_ := f1_.symm; have f5_ := f3_.symm; clear f1_ f2_ f3_; subst f4_; subst f5_))
            refine goes_ Try.func33 (by kernel_rfl) rfl #[.slice Ao28 y115.length co28, .slice none 0 0] (by rfl) rfl rfl (by first | (simp only [List.map_toArray, List.map_cons, List.map_nil, Act.eval, Array.getD_eq_getD_getElem?, Option.getD_some, e25]; done) | (simp only [List.map_toArray, List.map_cons, List.map_nil, Act.eval, Array.getD_eq_getD_getElem?, Option.getD_some, e25]; rfl)) ?_
            refine (bytes_Join.calls _ _ y115 _ _ ([] : List Int) t118 _ ?side1 ?side2 ?side3 ?side4 A7.out (spot_of_N HO117.out)).mono ?_
            (case side1 => repeat (first | exact (Kd.N_reads' HO117.out).2.2 | (with_reducible refine Kd.C_alloc ?_ _) | (with_reducible refine Kd.C_drewN ?_ _) | (with_reducible refine Kd.C_drew ?_)))
            (case side2 => exact (Kd.N_reads' HO117.out).2.1)
            (case side3 => exact Kd.C_nil _ _)
            (case side4 => exact Nat.le_refl _)
            rintro e w29 ⟨v119, rfl, ho0, hb⟩
            refine ⟨_, rfl, ?_⟩
            have n0_ := Aside0.mk (Kd.V_below (by (with_reducible repeat (first | apply Kd.V_alloc | apply Kd.V_drewN | apply Kd.V_drew)); exact HO0_3.out) hb)
            have n1_ := Aside0.mk (Kd.N_below (by (with_reducible repeat (first | apply Kd.N_alloc | apply Kd.N_drewN | apply Kd.N_drew)); exact HO117.out) hb)
            have n2_ := Aside0.mk (Kd.V_lower (Kd.V_mono (ok' := fun k_ => (P0_3_ k_ ∨ w.heap.size ≤ k_) ∧ some k_ ≠ (.slice Ao28 y115.length co28 : Value).ownBlock ∧ k_ ≠ gb101) ho0 (fun k_ hk_ => ⟨(.inr (Nat.le_trans (below_size (by repeat (first | (with_reducible first | exact HB.out | apply below_alloc | apply pw_below_drewN | apply below_drew1 | refine below_set ?_ GE101.out) | exact HB.out))) hk_.2.1)), (Kd.fresh' (Kd.N_lt (by (with_reducible repeat (first | apply Kd.N_alloc | apply Kd.N_drewN | apply Kd.N_drew)); exact HO117.out)) k_ hk_.2.1), (Kd.freshB (g := gb101) (o := .cells #[.int .i64 a0_0, .int .u64 a0_1, .int .u64 a0_2, .slice A0_3 l0_3.length c0_3] 25 (0, 0)) (by (with_reducible repeat (first | refine blk_drewN ?_ _ | refine blk_drew ?_ | refine blk_alloc ?_ _)); exact BK101.out) k_ hk_.2.1)⟩)) (below_size (by repeat (first | (with_reducible first | exact HB.out | apply below_alloc | apply pw_below_drewN | apply below_drew1 | refine below_set ?_ GE101.out) | exact HB.out))))
            have n3_ := Aside0.mk (blk_below (g := gb101) (o := .cells #[.int .i64 a0_0, .int .u64 a0_1, .int .u64 a0_2, .slice A0_3 l0_3.length c0_3] 25 (0, 0)) (by (with_reducible repeat (first | refine blk_drewN ?_ _ | refine blk_drew ?_ | refine blk_alloc ?_ _)); exact BK101.out) hb)
            have n4_ := Aside0.mk (below_step (by repeat (first | (with_reducible first | exact HB.out | apply below_alloc | apply pw_below_drewN | apply below_drew1 | refine below_set ?_ GE101.out) | exact HB.out)) hb)
            clear HO0_3
            clear HO117
            clear BK101
            clear HB
            have HO0_3 := n0_
            have HO117 := n1_
            have HO120 := n2_
            have BK101 := n3_
            have HB := n4_
            clear n0_ n1_ n2_ n3_ n4_
            (try clear hb)
            (try clear hb2)
            (try clear hk)
            (try clear hi)
            (try clear ho0)
            refine hK.out _ _ ⟨v104, v107, v110, v113, .slice Ao28 y115.length co28, v119, m19_, (by rw [ha.out]; exact putSel_upk 13 hb_ rfl rfl rfl), (by (with_reducible repeat (first | apply Kd.V_alloc | apply Kd.V_drewN | apply Kd.V_drew)); exact HO0_3.out), (by (with_reducible repeat (first | refine blk_drewN ?_ _ | refine blk_drew ?_ | refine blk_alloc ?_ _)); exact BK101.out), (by repeat (first | (with_reducible first | exact HB.out | apply below_alloc | apply pw_below_drewN | apply below_drew1 | refine below_set ?_ GE101.out) | exact HB.out)), fun _ h1_ => absurd ((hon 17 (by kernel_rfl)).symm.trans h1_) (by decide), fun _ h1_ => absurd ((hon 17 (by kernel_rfl)).symm.trans h1_) (by decide), fun _ h1_ => absurd ((hon 17 (by kernel_rfl)).symm.trans h1_) (by decide), fun _ h1_ => absurd ((hon 17 (by kernel_rfl)).symm.trans h1_) (by decide), fun _ => (by (with_reducible repeat (first | apply Kd.N_alloc | apply Kd.N_drewN | apply Kd.N_drew)); first | exact HO117.out | exact Kd.R_mono HO117.out (fun _ hk => (by first | exact hk | (simp only [hk, ne_eq, not_false_eq_true, and_self, true_and, and_true, or_true, true_or]; done))) | exact Kd.V_mono HO117.out (fun _ hk => (by first | exact hk | (simp only [hk, ne_eq, not_false_eq_true, and_self, true_and, and_true, or_true, true_or]; done))) | exact Kd.N_mono HO117.out (fun _ hk => (by first | exact hk | (simp only [hk, ne_eq, not_false_eq_true, and_self, true_and, and_true, or_true, true_or]; done)))), fun _ => (by (with_reducible repeat (first | apply Kd.V_alloc | apply Kd.V_drewN | apply Kd.V_drew)); first | exact HO120.out | exact Kd.R_mono HO120.out (fun _ hk => (by first | exact hk | (simp only [hk, ne_eq, not_false_eq_true, and_self, true_and, and_true, or_true, true_or]; done))) | exact Kd.V_mono HO120.out (fun _ hk => (by first | exact hk | (simp only [hk, ne_eq, not_false_eq_true, and_self, true_and, and_true, or_true, true_or]; done))) | exact Kd.N_mono HO120.out (fun _ hk => (by first | exact hk | (simp only [hk, ne_eq, not_false_eq_true, and_self, true_and, and_true, or_true, true_or]; done)))), fun h0_ => absurd ((hoff 19 (by kernel_rfl)).symm.trans h0_) (by decide)⟩
          refine steps_cons ?_ ?_
          · rintro b a w' ⟨v104, v107, v110, v113, v116, v119, m19_, ha, Q_HO0_3, Q_BK101, Q_HB, Q_HO105, Q_HO108, Q_HO111, Q_HO114, Q_HO117, Q_HO120, Q_X19_⟩ hb_ hon hoff
            refine ⟨_, rfl, fun K hK => ?_⟩
            have e26 : a.tmps[26]? = some (v119) := by rw [ha]; exact putSel_on (e := (18, 26, v119)) 13 rfl rfl (hon 18 (by kernel_rfl)) rfl
            replace ha := Aside0.mk ha
            have HO0_3 := Aside0.mk Q_HO0_3
            have BK101 := Aside0.mk Q_BK101
            have HB := Aside0.mk Q_HB
            have HO117 := Aside0.mk (Q_HO117 (hon 17 (by kernel_rfl)))
            have HO120 := Aside0.mk (Q_HO120 (hon 18 (by kernel_rfl)))
            refine value_ (w1 := w') (v := v119) (by rfl) rfl ?_ ?_
            · go_simp
              (try simp only [i64_w])
              try rfl
            refine hK.out _ _ ⟨v104, v107, v110, v113, v116, v119, (v119), (by rw [ha.out]; exact putSel_upk 14 hb_ rfl rfl rfl), Q_HO0_3, Q_BK101, Q_HB, fun _ h1_ => absurd ((hon 17 (by kernel_rfl)).symm.trans h1_) (by decide), fun _ h1_ => absurd ((hon 17 (by kernel_rfl)).symm.trans h1_) (by decide), fun _ h1_ => absurd ((hon 17 (by kernel_rfl)).symm.trans h1_) (by decide), fun _ h1_ => absurd ((hon 17 (by kernel_rfl)).symm.trans h1_) (by decide), Q_HO117, Q_HO120, fun _ => rfl⟩
          exact steps_nil
        rintro b a w29 hall ⟨v104, v107, v110, v113, v116, v119, m19_, ha, Q_HO0_3, Q_BK101, Q_HB, Q_HO105, Q_HO108, Q_HO111, Q_HO114, Q_HO117, Q_HO120, Q_X19_⟩
        clear BK101 HB HO0_3
        have hb1_ := hall 1 (by kernel_rfl)
        have hb2_ := hall 2 (by kernel_rfl)
        have hb3_ := hall 3 (by kernel_rfl)
        have hb5_ := hall 5 (by kernel_rfl)
        have hb6_ := hall 6 (by kernel_rfl)
        have hb8_ := hall 8 (by kernel_rfl)
        have hb9_ := hall 9 (by kernel_rfl)
        have hb11_ := hall 11 (by kernel_rfl)
        have hb12_ := hall 12 (by kernel_rfl)
        have hb13_ := hall 13 (by kernel_rfl)
        have hb14_ := hall 14 (by kernel_rfl)
        have hb16_ := hall 16 (by kernel_rfl)
        have hb17_ := hall 17 (by kernel_rfl)
        have hb18_ := hall 18 (by kernel_rfl)
        have hb19_ := hall 19 (by kernel_rfl)
        subst ha
        obtain rfl := Q_X19_ hb19_
        simp only [putSel, hb1_, hb2_, hb3_, hb5_, hb6_, hb8_, hb9_, hb11_, hb12_, hb13_, hb14_, hb16_, hb17_, hb18_, hb19_, if_true, Act.put, List.setIfInBounds_toArray, List.set_cons_zero, List.set_cons_succ]
        have HO0_3 := Aside0.mk Q_HO0_3
        clear Q_HO0_3
        have BK101 := Aside0.mk Q_BK101
        clear Q_BK101
        have HB := Aside0.mk Q_HB
        clear Q_HB
        clear Q_HO105
        clear Q_HO108
        clear Q_HO111
        clear Q_HO114
        have HO117 := Aside0.mk (Q_HO117 hb17_)
        clear Q_HO117
        have HO120 := Aside0.mk (Q_HO120 hb18_)
        clear Q_HO120
        clear hall hb1_ hb2_ hb3_ hb5_ hb6_ hb8_ hb9_ hb11_ hb12_ hb13_ hb14_ hb16_ hb17_ hb18_ hb19_
        try go_wp2_with (first | ((with_reducible refine gate_dst (N := 27) rfl ?_); refine Kd.R_lit (Kd.int .u8) _ 5 ?hg (N := 27) ?hd (xs := ([167, 92] : List Int)) (inner := [.int .u8 167, .int .u8 92]) (ok := fun _ => True) (okp := fun _ => True) ?hr ?hp (fun _ hk => (by first | exact hk | (simp only [hk, ne_eq, not_false_eq_true, and_self, true_and, and_true, or_true, true_or]; done))) trivial (Below.refl _ _) (Nat.le_refl _) (by simp) ?_; (case hd => rfl); (case hg => rfl); (case hr => first | (go_simp; done) | (go_simp; rfl)); (case hp => exact (Reps.one (show Kd.M (Kd.int .u8) _ _ _ 167 [.int .u8 167] from rfl) (Reps.one (show Kd.M (Kd.int .u8) _ _ _ 92 [.int .u8 92] from rfl) (Reps.none _ _)))); intro v122 w30 ho31 hb hg_ hnew_; clear hg_ hnew_; (first | rw [← Ny121.out] at ho31 | (simp only [Int.reduceToNat] at ho31; rw [← Ny121.out] at ho31)); have n0_ := Aside0.mk (Kd.V_elder' (by (with_reducible repeat (first | apply Kd.V_alloc | apply Kd.V_drewN | apply Kd.V_drew)); exact HO0_3.out) (Kd.R_base ho31) hb); have n1_ := Aside0.mk (Kd.N_elder' (by (with_reducible repeat (first | apply Kd.N_alloc | apply Kd.N_drewN | apply Kd.N_drew)); exact HO117.out) (Kd.R_base ho31) hb); have n2_ := Aside0.mk (Kd.V_elder' (by (with_reducible repeat (first | apply Kd.V_alloc | apply Kd.V_drewN | apply Kd.V_drew)); exact HO120.out) (Kd.R_base ho31) hb); have n3_ := Aside0.mk (Kd.R_lower (Kd.R_newM (M := fun k_ => (w.heap.size ≤ k_)) ho31 (below_size (by repeat (first | (with_reducible first | exact HB.out | apply below_alloc | apply pw_below_drewN | apply below_drew1 | refine below_set ?_ GE101.out) | exact HB.out))) (fun k_ h_ => h_)) (below_size (by repeat (first | (with_reducible first | exact HB.out | apply below_alloc | apply pw_below_drewN | apply below_drew1 | refine below_set ?_ GE101.out) | exact HB.out)))); have n4_ := Aside0.mk (blk_below (g := gb101) (o := .cells #[.int .i64 a0_0, .int .u64 a0_1, .int .u64 a0_2, .slice A0_3 l0_3.length c0_3] 25 (0, 0)) (by (with_reducible repeat (first | refine blk_drewN ?_ _ | refine blk_drew ?_ | refine blk_alloc ?_ _)); exact BK101.out) hb); have n5_ := Aside0.mk (below_step (by repeat (first | (with_reducible first | exact HB.out | apply below_alloc | apply pw_below_drewN | apply below_drew1 | refine below_set ?_ GE101.out) | exact HB.out)) hb); clear HO0_3; clear HO117; clear HO120; clear BK101; clear HB; have HO0_3 := n0_; have HO117 := n1_; have HO120 := n2_; have HO123 := n3_; have BK101 := n4_; have HB := n5_; clear n0_ n1_ n2_ n3_ n4_ n5_; clear hb ho31; obtain ⟨Ao32, co32, eo32⟩ := Kd.V_slice HO120.out; subst eo32) | ((with_reducible refine gate_callee (f := 36) rfl ?_); refine goesL_ (some 29) rfl rfl Try.func36 (by kernel_rfl) rfl #[.slice Ao32 t118.length co32] rfl (by (try simp only [List.map_toArray, List.map_cons, List.map_nil]); first | done | rfl | (simp only [List.length_drop, List.length_take]; rfl)) ?_; (with_reducible refine (wire_Crc.calls k _ _ t118 t124 _ ?side1 ?side2 A8.out).mono ?_); (case side1 => repeat (first | exact (Kd.V_reads' HO120.out).2.2 | (with_reducible refine Kd.C_alloc ?_ _) | (with_reducible refine Kd.C_drewN ?_ _) | (with_reducible refine Kd.C_drew ?_))); (case side2 => exact (Kd.V_reads' HO120.out).2.1); rintro e w' ⟨rfl, ⟨nd, rfl⟩⟩; refine ⟨_, rfl, ?_⟩) | ((with_reducible refine gate_callee (f := 35) rfl ?_); refine goesL_ (some 30) rfl rfl Try.func35 (by kernel_rfl) rfl #[.int .u32 t124] rfl (by (try simp only [List.map_toArray, List.map_cons, List.map_nil]); first | done | rfl | (simp only [List.length_drop, List.length_take]; rfl)) ?_; (with_reducible refine (wire_Four.calls t124 t125 _ A9.out).mono ?_); rintro e w33 ⟨v126, rfl, ho0, hb⟩; refine ⟨_, rfl, ?_⟩; have n0_ := Aside0.mk (Kd.V_elder' (by (with_reducible repeat (first | apply Kd.V_alloc | apply Kd.V_drewN | apply Kd.V_drew)); exact HO0_3.out) (Kd.R_base ho0) hb); have n1_ := Aside0.mk (Kd.N_elder' (by (with_reducible repeat (first | apply Kd.N_alloc | apply Kd.N_drewN | apply Kd.N_drew)); exact HO117.out) (Kd.R_base ho0) hb); have n2_ := Aside0.mk (Kd.V_elder' (by (with_reducible repeat (first | apply Kd.V_alloc | apply Kd.V_drewN | apply Kd.V_drew)); exact HO120.out) (Kd.R_base ho0) hb); have n3_ := Aside0.mk (Kd.R_elder' (by (with_reducible repeat (first | apply Kd.R_alloc | apply Kd.R_drewN | apply Kd.R_drew)); exact HO123.out) (Kd.R_base ho0) hb); have n4_ := Aside0.mk (Kd.R_lower (Kd.R_new' (Kd.R_newM (M := fun k_ => (w.heap.size ≤ k_)) ho0 (below_size (by repeat (first | (with_reducible first | exact HB.out | apply below_alloc | apply pw_below_drewN | apply below_drew1 | refine below_set ?_ GE101.out) | exact HB.out))) (fun k_ h_ => h_)) (Kd.R_lt (by (with_reducible repeat (first | apply Kd.R_alloc | apply Kd.R_drewN | apply Kd.R_drew)); exact HO123.out))) (below_size (by repeat (first | (with_reducible first | exact HB.out | apply below_alloc | apply pw_below_drewN | apply below_drew1 | refine below_set ?_ GE101.out) | exact HB.out)))); have n5_ := Aside0.mk (blk_below (g := gb101) (o := .cells #[.int .i64 a0_0, .int .u64 a0_1, .int .u64 a0_2, .slice A0_3 l0_3.length c0_3] 25 (0, 0)) (by (with_reducible repeat (first | refine blk_drewN ?_ _ | refine blk_drew ?_ | refine blk_alloc ?_ _)); exact BK101.out) hb); have n6_ := Aside0.mk (below_step (by repeat (first | (with_reducible first | exact HB.out | apply below_alloc | apply pw_below_drewN | apply below_drew1 | refine below_set ?_ GE101.out) | exact HB.out)) hb); clear HO0_3; clear HO117; clear HO120; clear HO123; clear BK101; clear HB; have HO0_3 := n0_; have HO117 := n1_; have HO120 := n2_; have HO123 := n3_; have HO127 := n4_; have BK101 := n5_; have HB := n6_; clear n0_ n1_ n2_ n3_ n4_ n5_ n6_; (try clear hb); (try clear hb2); (try clear hk); (try clear hi); (try clear ho0); obtain ⟨Ao35, co35, eo35⟩ := Kd.R_slice HO127.out; subst eo35) | ((with_reducible refine gate_builtin (b := .append) (xs := #[.tmp 27, .tmp 30]) rfl ?_); at_builtin; refine Kd.R_append_rows (Kd.int .u8) (w0 := w) w.heap.size rfl (.tmp 27) (.tmp 30) 23 5 (.int .u8 0) 1 rfl Try.underlying23 info5 rfl (by decide) (by omega) v122 y121 t125 _ _ _ (fun k_ => (w.heap.size ≤ k_) ∧ some k_ ≠ (.slice Ao35 t125.length co35 : Value).ownBlock) (fun _ => False) rfl rfl ?aO ?aR (fun _ _ h => h) (fun _ h => h.elim) ?aF ?aB ?aS ?aL ?_; (case aR => repeat (first | exact (Kd.R_reads' HO127.out).2.2 | (with_reducible refine Kd.C_alloc ?_ _) | (with_reducible refine Kd.C_drewN ?_ _) | (with_reducible refine Kd.C_drew ?_))); (case aB => exact (by repeat (first | (with_reducible first | exact HB.out | apply below_alloc | apply pw_below_drewN | apply below_drew1 | refine below_set ?_ GE101.out) | exact HB.out))); (case aF => exact (fun k_ hk => ⟨(Nat.le_trans (below_size (by repeat (first | (with_reducible first | exact HB.out | apply below_alloc | apply pw_below_drewN | apply below_drew1 | refine below_set ?_ GE101.out) | exact HB.out))) hk), Kd.fresh' (Kd.R_lt (by (with_reducible repeat (first | apply Kd.R_alloc | apply Kd.R_drewN | apply Kd.R_drew)); exact HO127.out)) k_ hk⟩)); (case aO => exact (by (with_reducible repeat (first | apply Kd.R_alloc | apply Kd.R_drewN | apply Kd.R_drew)); exact Kd.R_mono HO123.out (fun _ hk => (by first | exact hk | (simp only [hk, ne_eq, not_false_eq_true, and_self, true_and, and_true, or_true, true_or]; done))))); (case aS => exact (below_size (by repeat (first | (with_reducible first | exact HB.out | apply below_alloc | apply pw_below_drewN | apply below_drew1 | refine below_set ?_ GE101.out) | exact HB.out)))); (case aL => have := LMc10.out; omega); intro v129 w34 ho hb hg hat; rw [← Ny128.out] at ho; have n0_ := Aside0.mk (Kd.V_afterv (ok := (fun k_ => (P0_3_ k_ ∨ w.heap.size ≤ k_) ∧ some k_ ≠ (.slice Ao35 t125.length co35 : Value).ownBlock ∧ k_ ≠ gb101)) (by (with_reducible repeat (first | apply Kd.V_alloc | apply Kd.V_drewN | apply Kd.V_drew)); exact Kd.V_mono HO0_3.out (fun _ hk => (by first | exact hk | (simp only [hk, ne_eq, not_false_eq_true, and_self, true_and, and_true, or_true, true_or]; done)))) hg hat); have n1_ := Aside0.mk (blk_grown (g := gb101) (o := .cells #[.int .i64 a0_0, .int .u64 a0_1, .int .u64 a0_2, .slice A0_3 l0_3.length c0_3] 25 (0, 0)) (by (with_reducible repeat (first | refine blk_drewN ?_ _ | refine blk_drew ?_ | refine blk_alloc ?_ _)); exact BK101.out) hg (Kd.R_ne HO123.out BK101.out (by decide))); have n2_ := Aside0.mk (Kd.N_afterv (ok := (fun k_ => (P0_3_ k_ ∨ w.heap.size ≤ k_) ∧ some k_ ≠ (.slice Ao35 t125.length co35 : Value).ownBlock ∧ k_ ≠ gb101)) (by (with_reducible repeat (first | apply Kd.N_alloc | apply Kd.N_drewN | apply Kd.N_drew)); exact Kd.N_mono HO117.out (fun _ hk => (by first | exact hk | (simp only [hk, ne_eq, not_false_eq_true, and_self, true_and, and_true, or_true, true_or]; done)))) hg hat); have n3_ := Aside0.mk (Kd.V_afterv (ok := (fun k_ => (P0_3_ k_ ∨ w.heap.size ≤ k_) ∧ some k_ ≠ (.slice Ao35 t125.length co35 : Value).ownBlock ∧ k_ ≠ gb101)) (by (with_reducible repeat (first | apply Kd.V_alloc | apply Kd.V_drewN | apply Kd.V_drew)); exact Kd.V_mono HO120.out (fun _ hk => (by first | exact hk | (simp only [hk, ne_eq, not_false_eq_true, and_self, true_and, and_true, or_true, true_or]; done)))) hg hat); have n4_ := Aside0.mk (Kd.R_after (ok := (fun k_ => (w.heap.size ≤ k_))) (by (with_reducible repeat (first | apply Kd.R_alloc | apply Kd.R_drewN | apply Kd.R_drew)); exact Kd.R_mono HO127.out (fun _ hk => (by first | exact hk | (simp only [hk, ne_eq, not_false_eq_true, and_self, true_and, and_true, or_true, true_or]; done)))) hg hat); have n5_ := Aside0.mk (hb); have n6_ := Aside0.mk (ho); clear HO0_3; clear BK101; clear HO117; clear HO120; clear HO127; clear HB; clear HO123; have HO0_3 := n0_; have BK101 := n1_; have HO117 := n2_; have HO120 := n3_; have HO127 := n4_; have HB := n5_; have HO130 := n6_; clear n0_ n1_ n2_ n3_ n4_ n5_ n6_; clear ho hb hg hat) | ((with_reducible refine gate_builtin (b := .append) (xs := #[.tmp 31, .tmp 32]) rfl ?_); at_builtin; refine Kd.R_append_rows (Kd.int .u8) (w0 := w) w.heap.size rfl (.tmp 31) (.tmp 32) 23 5 (.int .u8 0) 1 rfl Try.underlying23 info5 rfl (by decide) (by omega) v129 y128 t118 _ _ _ (fun k_ => (w.heap.size ≤ k_) ∧ some k_ ≠ (.slice Ao35 t125.length co35 : Value).ownBlock) (fun _ => False) rfl rfl ?aO ?aR (fun _ _ h => h) (fun _ h => h.elim) ?aF ?aB ?aS ?aL ?_; (case aR => repeat (first | exact (Kd.V_reads' HO120.out).2.2 | (with_reducible refine Kd.C_alloc ?_ _) | (with_reducible refine Kd.C_drewN ?_ _) | (with_reducible refine Kd.C_drew ?_))); (case aB => exact (by repeat (first | (with_reducible first | exact HB.out | apply below_alloc | apply pw_below_drewN | apply below_drew1 | refine below_set ?_ GE101.out) | exact HB.out))); (case aF => exact (fun k_ hk => ⟨(Nat.le_trans (below_size (by repeat (first | (with_reducible first | exact HB.out | apply below_alloc | apply pw_below_drewN | apply below_drew1 | refine below_set ?_ GE101.out) | exact HB.out))) hk), Kd.fresh' (Kd.R_lt (by (with_reducible repeat (first | apply Kd.R_alloc | apply Kd.R_drewN | apply Kd.R_drew)); exact HO127.out)) k_ hk⟩)); (case aO => exact (by (with_reducible repeat (first | apply Kd.R_alloc | apply Kd.R_drewN | apply Kd.R_drew)); exact HO130.out)); (case aS => exact (below_size (by repeat (first | (with_reducible first | exact HB.out | apply below_alloc | apply pw_below_drewN | apply below_drew1 | refine below_set ?_ GE101.out) | exact HB.out)))); (case aL => have := LMc11.out; omega); intro v132 w36 ho hb hg hat; rw [← Ny131.out] at ho; have n0_ := Aside0.mk (Kd.V_afterv (ok := (fun k_ => (P0_3_ k_ ∨ w.heap.size ≤ k_) ∧ some k_ ≠ (.slice Ao35 t125.length co35 : Value).ownBlock ∧ k_ ≠ gb101)) (by (with_reducible repeat (first | apply Kd.V_alloc | apply Kd.V_drewN | apply Kd.V_drew)); exact HO0_3.out) hg hat); have n1_ := Aside0.mk (blk_grown (g := gb101) (o := .cells #[.int .i64 a0_0, .int .u64 a0_1, .int .u64 a0_2, .slice A0_3 l0_3.length c0_3] 25 (0, 0)) (by (with_reducible repeat (first | refine blk_drewN ?_ _ | refine blk_drew ?_ | refine blk_alloc ?_ _)); exact BK101.out) hg (Kd.R_ne HO130.out BK101.out (by decide))); have n2_ := Aside0.mk (Kd.N_afterv (ok := (fun k_ => (P0_3_ k_ ∨ w.heap.size ≤ k_) ∧ some k_ ≠ (.slice Ao35 t125.length co35 : Value).ownBlock ∧ k_ ≠ gb101)) (by (with_reducible repeat (first | apply Kd.N_alloc | apply Kd.N_drewN | apply Kd.N_drew)); exact HO117.out) hg hat); have n3_ := Aside0.mk (Kd.V_afterv (ok := (fun k_ => (P0_3_ k_ ∨ w.heap.size ≤ k_) ∧ some k_ ≠ (.slice Ao35 t125.length co35 : Value).ownBlock ∧ k_ ≠ gb101)) (by (with_reducible repeat (first | apply Kd.V_alloc | apply Kd.V_drewN | apply Kd.V_drew)); exact HO120.out) hg hat); have n4_ := Aside0.mk (Kd.R_after (ok := (fun k_ => (w.heap.size ≤ k_))) (by (with_reducible repeat (first | apply Kd.R_alloc | apply Kd.R_drewN | apply Kd.R_drew)); exact HO127.out) hg hat); have n5_ := Aside0.mk (hb); have n6_ := Aside0.mk (ho); clear HO0_3; clear BK101; clear HO117; clear HO120; clear HO127; clear HB; clear HO130; have HO0_3 := n0_; have BK101 := n1_; have HO117 := n2_; have HO120 := n3_; have HO127 := n4_; have HB := n5_; have HO133 := n6_; clear n0_ n1_ n2_ n3_ n4_ n5_ n6_; clear ho hb hg hat))
        go_ret2
        exact ⟨_, by first | rfl | (simp [errW_none, errW_some] <;> rfl) | (simp [*, errW_none, errW_some] <;> rfl), by (with_reducible repeat (first | apply Kd.R_alloc | apply Kd.R_drewN | apply Kd.R_drew)); exact Kd.R_mono HO133.out (fun _ hk => (by first | exact hk | (simp only [hk, ne_eq, not_false_eq_true, and_self, true_and, and_true, or_true, true_or]; done))), by repeat (first | (with_reducible first | exact HB.out | apply below_alloc | apply pw_below_drewN | apply below_drew1 | refine below_set ?_ GE101.out) | exact HB.out)⟩
      · rw [if_neg c11] at H
        exact absurd H (by simp)
    · rw [if_neg c10] at H
      exact absurd H (by simp)
  · replace c3 := Bool.eq_false_iff.mpr c3
    subst c3
    have H1 : (some (([] : List Int), 1)) = some (r1, r2) := by rw [if_neg (show ¬ (false = true) by decide)] at H; exact H
    clear H
    have H := H1
    clear H1
    simp only [Option.some.injEq, Prod.mk.injEq] at H
    obtain ⟨rfl, rfl⟩ := H
    go_enter Try.func11, Try.ntmps11
    go_wp2_with (first | ((with_reducible refine gate_dst (N := 1) rfl ?_); refine box_event ?hg (N := 1) ?hd (cs := #[.int .i64 a0_0, .int .u64 a0_1, .int .u64 a0_2, .slice A0_3 l0_3.length c0_3]) (t := 25) ?hr ?_; (case hd => rfl); (case hg => rfl); (case hr => first | (go_simp; done) | (go_simp; rfl)); intro gb101 hg w37 hbox hb; have n0_ := Aside0.mk (Kd.V_below (Kd.V_elderB (by (with_reducible repeat (first | apply Kd.V_alloc | apply Kd.V_drewN | apply Kd.V_drew)); exact HO0_3.out) gb101 (Nat.le_of_eq hg.symm)) hb); have n1_ := Aside0.mk (below_step (by repeat (first | (with_reducible first | exact HB.out | apply below_alloc | apply pw_below_drewN | apply below_drew1) | exact HB.out)) hb); have n2_ := Aside0.mk (hbox); have n3_ := Aside0.mk ((by rw [hg]; exact (below_size (by repeat (first | (with_reducible first | exact HB.out | apply below_alloc | apply pw_below_drewN | apply below_drew1) | exact HB.out))) : w.heap.size ≤ gb101)); have n4_ := Aside0.mk ((by rw [hg]; exact (below_size (by repeat (first | (with_reducible first | exact HB.out | apply below_alloc | apply pw_below_drewN | apply below_drew1) | exact HB.out))) : w.heap.size ≤ gb101)); clear HO0_3; clear HB; have HO0_3 := n0_; have HB := n1_; have BK101 := n2_; have GW101 := n3_; have GE101 := n4_; clear n0_ n1_ n2_ n3_ n4_; clear hb hbox hg; have hcz38_0 : w37.cell? ⟨gb101, 0, none⟩ = some (.int .i64 a0_0) := (blk_cell BK101.out 0).trans rfl; have hcz38_1 : w37.cell? ⟨gb101, 1, none⟩ = some (.int .u64 a0_1) := (blk_cell BK101.out 1).trans rfl; have hcz38_2 : w37.cell? ⟨gb101, 2, none⟩ = some (.int .u64 a0_2) := (blk_cell BK101.out 2).trans rfl; have hcz38_3 : w37.cell? ⟨gb101, 3, none⟩ = some (.slice A0_3 l0_3.length c0_3) := (blk_cell BK101.out 3).trans rfl; have hfz38_0 := blk_frozen BK101.out 0; have hfz38_1 := blk_frozen BK101.out 1; have hfz38_2 := blk_frozen BK101.out 2; have hfz38_3 := blk_frozen BK101.out 3) | ((with_reducible refine gate_callee (f := 18) rfl ?_); refine goesL_ (some 6) rfl rfl Try.func18 (by kernel_rfl) rfl #[.agg #[.int .i64 a0_0, .int .u64 a0_1, .int .u64 a0_2, .slice A0_3 l0_3.length c0_3]] rfl (by (try simp only [List.map_toArray, List.map_cons, List.map_nil]); first | done | rfl | (simp only [List.length_drop, List.length_take]; rfl)) ?_; (with_reducible refine (rec_May.calls a0_0 a0_1 a0_2 _ _ l0_3 false _ ?side1 ?side2 A2.out).mono ?_); (case side1 => repeat (first | exact (Kd.V_reads' HO0_3.out).2.2 | (with_reducible refine Kd.C_alloc ?_ _) | (with_reducible refine Kd.C_drewN ?_ _) | (with_reducible refine Kd.C_drew ?_))); (case side2 => exact (Kd.V_reads' HO0_3.out).2.1); rintro e w39 ⟨rfl, hb⟩; refine ⟨_, rfl, ?_⟩; have n0_ := Aside0.mk (Kd.V_below (by (with_reducible repeat (first | apply Kd.V_alloc | apply Kd.V_drewN | apply Kd.V_drew)); exact HO0_3.out) hb); have n1_ := Aside0.mk (blk_below (g := gb101) (o := .cells #[.int .i64 a0_0, .int .u64 a0_1, .int .u64 a0_2, .slice A0_3 l0_3.length c0_3] 25 (0, 0)) (by (with_reducible repeat (first | refine blk_drewN ?_ _ | refine blk_drew ?_ | refine blk_alloc ?_ _)); exact BK101.out) hb); have n2_ := Aside0.mk (below_step (by repeat (first | (with_reducible first | exact HB.out | apply below_alloc | apply pw_below_drewN | apply below_drew1 | refine below_set ?_ GE101.out) | exact HB.out)) hb); clear HO0_3; clear BK101; clear HB; have HO0_3 := n0_; have BK101 := n1_; have HB := n2_; clear n0_ n1_ n2_; (try clear hb); (try clear hb2); (try clear hk); (try clear hi)))
    go_ret2
    exact ⟨_, by first | rfl | (simp [errW_none, errW_some] <;> rfl) | (simp [*, errW_none, errW_some] <;> rfl), by first | exact Kd.R_nil _ _ _ _ _ | exact Kd.N_nil _ _ _ _ _ | exact Kd.V_nil _ _ _ _ _ | exact Kd.Q_nil _ _ _ _ _ | exact Kd.S_nil _ _ _ _ _, by repeat (first | (with_reducible first | exact HB.out | apply below_alloc | apply pw_below_drewN | apply below_drew1 | refine below_set ?_ GE101.out) | exact HB.out)⟩
def tiklaw15_first.f (k : Nat)  : Option (Bool) := (rec_Encode.f k 1 1 0 ([] : List Int)).bind fun bt134 => ((rec_Decode.f bt134.1 0).bind fun bt138 => (if bt134.2 = 0 then (if (bt134.1.length : Int) = 10 then (if 0 < (bt134.1.length : Int) then (if (rd bt134.1 0) = 167 then (if 1 < (bt134.1.length : Int) then (if (rd bt134.1 1) = 92 then (if bt138.2.2.2.2.2 = 0 then (if bt138.2.2.2.2.1 = 10 then (if bt138.2.1 = 1 then (if bt138.1 = 1 then ((rec_May.f 0 0 0 ([] : List Int)).bind fun t149 => (some (!t149))) else (some false)) else (some false)) else (some false)) else (some false)) else (some false)) else (none)) else (some false)) else (none)) else (some false)) else (some false)))
set_option maxHeartbeats 8000000 in
set_option maxRecDepth 100000 in
theorem tiklaw15_first.calls (k : Nat)  (r : Bool) (w : World) (h : tiklaw15_first.f k  = some r) :
    Calls Try.prog 10 #[] w fun e w' => e = .returned (.bool r) ∧ Below w.heap.size w w' := by
  have hu25 := Try.underlying25
  have HB := Aside0.mk (Below.refl w.heap.size w)
  have H : ((rec_Encode.f k 1 1 0 ([] : List Int)).bind fun bt134 => ((rec_Decode.f bt134.1 0).bind fun bt138 => (if bt134.2 = 0 then (if (bt134.1.length : Int) = 10 then (if 0 < (bt134.1.length : Int) then (if (rd bt134.1 0) = 167 then (if 1 < (bt134.1.length : Int) then (if (rd bt134.1 1) = 92 then (if bt138.2.2.2.2.2 = 0 then (if bt138.2.2.2.2.1 = 10 then (if bt138.2.1 = 1 then (if bt138.1 = 1 then ((rec_May.f 0 0 0 ([] : List Int)).bind fun t149 => (some (!t149))) else (some false)) else (some false)) else (some false)) else (some false)) else (some false)) else (none)) else (some false)) else (none)) else (some false)) else (some false)))) = some r := h
  clear h
  replace H := Option.bind_eq_some_iff.mp H
  obtain ⟨⟨t134, t137⟩, A10, H⟩ := H
  replace H : ((rec_Decode.f t134 0).bind fun bt138 => (if t137 = 0 then (if (t134.length : Int) = 10 then (if 0 < (t134.length : Int) then (if (rd t134 0) = 167 then (if 1 < (t134.length : Int) then (if (rd t134 1) = 92 then (if bt138.2.2.2.2.2 = 0 then (if bt138.2.2.2.2.1 = 10 then (if bt138.2.1 = 1 then (if bt138.1 = 1 then ((rec_May.f 0 0 0 ([] : List Int)).bind fun t149 => (some (!t149))) else (some false)) else (some false)) else (some false)) else (some false)) else (some false)) else (none)) else (some false)) else (none)) else (some false)) else (some false))) = some r := H
  have A1 := Aside0.mk A10
  clear A10
  replace H := Option.bind_eq_some_iff.mp H
  obtain ⟨⟨t138, t139, t140, t141, t144, t145⟩, A20, H⟩ := H
  replace H : (if t137 = 0 then (if (t134.length : Int) = 10 then (if 0 < (t134.length : Int) then (if (rd t134 0) = 167 then (if 1 < (t134.length : Int) then (if (rd t134 1) = 92 then (if t145 = 0 then (if t144 = 10 then (if t139 = 1 then (if t138 = 1 then ((rec_May.f 0 0 0 ([] : List Int)).bind fun t149 => (some (!t149))) else (some false)) else (some false)) else (some false)) else (some false)) else (some false)) else (none)) else (some false)) else (none)) else (some false)) else (some false)) = some r := H
  have A2 := Aside0.mk A20
  clear A20
  by_cases c3 : t137 = 0
  · rw [if_pos c3] at H
    have c3b0 : (t137 == 0) = true := beq_iff_eq.mpr c3
    have c3b1 : (t137 != 0) = false := bne_eq_false_iff_eq.mpr c3
    clear c3
    by_cases c4 : (t134.length : Int) = 10
    · rw [if_pos c4] at H
      have c4b0 : ((t134.length : Int) == 10) = true := beq_iff_eq.mpr c4
      have c4b1 : ((t134.length : Int) != 10) = false := bne_eq_false_iff_eq.mpr c4
      clear c4
      by_cases c5 : 0 < (t134.length : Int)
      · rw [if_pos c5] at H
        have c5b0 : decide (0 < (t134.length : Int)) = true := decide_eq_true c5
        have c5b1 : decide (0 < t134.length) = true := decide_eq_true (by omega)
        clear c5
        by_cases c6 : (rd t134 0) = 167
        · rw [if_pos c6] at H
          have c6b0 : ((rd t134 0) == 167) = true := beq_iff_eq.mpr c6
          have c6b1 : ((rd t134 0) != 167) = false := bne_eq_false_iff_eq.mpr c6
          clear c6
          by_cases c7 : 1 < (t134.length : Int)
          · rw [if_pos c7] at H
            have c7b0 : decide (1 < (t134.length : Int)) = true := decide_eq_true c7
            have c7b1 : decide (1 < t134.length) = true := decide_eq_true (by omega)
            clear c7
            by_cases c8 : (rd t134 1) = 92
            · rw [if_pos c8] at H
              have c8b0 : ((rd t134 1) == 92) = true := beq_iff_eq.mpr c8
              have c8b1 : ((rd t134 1) != 92) = false := bne_eq_false_iff_eq.mpr c8
              clear c8
              by_cases c9 : t145 = 0
              · rw [if_pos c9] at H
                have c9b0 : (t145 == 0) = true := beq_iff_eq.mpr c9
                have c9b1 : (t145 != 0) = false := bne_eq_false_iff_eq.mpr c9
                clear c9
                by_cases c10 : t144 = 10
                · rw [if_pos c10] at H
                  have c10b0 : (t144 == 10) = true := beq_iff_eq.mpr c10
                  have c10b1 : (t144 != 10) = false := bne_eq_false_iff_eq.mpr c10
                  clear c10
                  by_cases c11 : t139 = 1
                  · rw [if_pos c11] at H
                    have c11b0 : (t139 == 1) = true := beq_iff_eq.mpr c11
                    have c11b1 : (t139 != 1) = false := bne_eq_false_iff_eq.mpr c11
                    clear c11
                    by_cases c12 : t138 = 1
                    · rw [if_pos c12] at H
                      have c12b0 : (t138 == 1) = true := beq_iff_eq.mpr c12
                      have c12b1 : (t138 != 1) = false := bne_eq_false_iff_eq.mpr c12
                      clear c12
                      replace H := Option.bind_eq_some_iff.mp H
                      obtain ⟨t149, A130, H⟩ := H
                      replace H : (some (!t149)) = some r := H
                      have A13 := Aside0.mk A130
                      clear A130
                      obtain rfl := Option.some.inj H
                      go_enter Try.func10, Try.ntmps10
                      go_wp2_with (first | ((with_reducible refine gate_callee (f := 11) rfl ?_); refine goesL_ (some 8) rfl rfl Try.func11 (by kernel_rfl) rfl #[.agg #[.int .i64 1, .int .u64 1, .int .u64 0, .slice none 0 0]] rfl (by (try simp only [List.map_toArray, List.map_cons, List.map_nil]); first | done | rfl | (simp only [List.length_drop, List.length_take]; rfl)) ?_; (refine (rec_Encode.calls k 1 1 0 (fun k_ => False) _ _ ([] : List Int) t134 t137 _ ?side1 A1.out).mono ?_); (case side1 => exact Kd.V_nil _ _ _ _ _); rintro e w14 ⟨v135, rfl, ho0, hb⟩; refine ⟨_, rfl, ?_⟩; have n0_ := Aside0.mk (Kd.R_lower (Kd.R_mono (ok' := fun k_ => True) ho0 (fun _ hk_ => trivial)) (below_size (by repeat (first | (with_reducible first | exact HB.out | apply below_alloc | apply pw_below_drewN | apply below_drew1) | exact HB.out)))); have n1_ := Aside0.mk (below_step (by repeat (first | (with_reducible first | exact HB.out | apply below_alloc | apply pw_below_drewN | apply below_drew1) | exact HB.out)) hb); clear HB; have HO136 := n0_; have HB := n1_; clear n0_ n1_; (try clear hb); (try clear hb2); (try clear hk); (try clear hi); (try clear ho0); obtain ⟨Ao15, co15, eo15⟩ := Kd.R_slice HO136.out; subst eo15) | ((with_reducible refine gate_callee (f := 14) rfl ?_); refine goesL_ (some 13) rfl rfl Try.func14 (by kernel_rfl) rfl #[.slice Ao15 t134.length co15, .int .i64 0] rfl (by (try simp only [List.map_toArray, List.map_cons, List.map_nil]); first | done | rfl | (simp only [List.length_drop, List.length_take]; rfl)) ?_; (with_reducible refine (rec_Decode.calls _ _ t134 0 t138 t139 t140 t141 t144 t145 _ ?side1 ?side2 A2.out).mono ?_); (case side1 => repeat (first | exact (Kd.R_reads' HO136.out).2.2 | (with_reducible refine Kd.C_alloc ?_ _) | (with_reducible refine Kd.C_drewN ?_ _) | (with_reducible refine Kd.C_drew ?_))); (case side2 => exact (Kd.R_reads' HO136.out).2.1); rintro e w16 ⟨v142, rfl, ho0, hb⟩; refine ⟨_, rfl, ?_⟩; have n0_ := Aside0.mk (Kd.R_elder' (by (with_reducible repeat (first | apply Kd.R_alloc | apply Kd.R_drewN | apply Kd.R_drew)); exact HO136.out) (Kd.R_base ho0) hb); have n1_ := Aside0.mk (Kd.R_lower (Kd.R_new' ho0 (Kd.R_lt (by (with_reducible repeat (first | apply Kd.R_alloc | apply Kd.R_drewN | apply Kd.R_drew)); exact HO136.out))) (below_size (by repeat (first | (with_reducible first | exact HB.out | apply below_alloc | apply pw_below_drewN | apply below_drew1) | exact HB.out)))); have n2_ := Aside0.mk (below_step (by repeat (first | (with_reducible first | exact HB.out | apply below_alloc | apply pw_below_drewN | apply below_drew1) | exact HB.out)) hb); clear HO136; clear HB; have HO136 := n0_; have HO143 := n1_; have HB := n2_; clear n0_ n1_ n2_; (try clear hb); (try clear hb2); (try clear hk); (try clear hi); (try clear ho0)) | ((with_reducible refine gate_dst (N := 3) rfl ?_); (try (refine gate_guard (by rfl) ?_; dsimp only)); refine box_event ?hg (N := 3) ?hd (cs := #[.int .i64 0, .int .u64 0, .int .u64 0, .slice none 0 0]) (t := 25) ?hr ?_; (case hd => rfl); (case hg => rfl); (case hr => first | (go_simp; done) | (go_simp; rfl)); intro gb146 hg w17 hbox hb; have n0_ := Aside0.mk (Kd.R_below (by (with_reducible repeat (first | apply Kd.R_alloc | apply Kd.R_drewN | apply Kd.R_drew)); exact HO136.out) hb); have n1_ := Aside0.mk (Kd.R_below (by (with_reducible repeat (first | apply Kd.R_alloc | apply Kd.R_drewN | apply Kd.R_drew)); exact HO143.out) hb); have n2_ := Aside0.mk (below_step (by repeat (first | (with_reducible first | exact HB.out | apply below_alloc | apply pw_below_drewN | apply below_drew1) | exact HB.out)) hb); have n3_ := Aside0.mk (hbox); have n4_ := Aside0.mk ((by rw [hg]; exact (below_size (by repeat (first | (with_reducible first | exact HB.out | apply below_alloc | apply pw_below_drewN | apply below_drew1) | exact HB.out))) : w.heap.size ≤ gb146)); have n5_ := Aside0.mk ((by rw [hg]; exact (below_size (by repeat (first | (with_reducible first | exact HB.out | apply below_alloc | apply pw_below_drewN | apply below_drew1) | exact HB.out))) : w.heap.size ≤ gb146)); clear HO136; clear HO143; clear HB; have HO136 := n0_; have HO143 := n1_; have HB := n2_; have BK146 := n3_; have GW146 := n4_; have GE146 := n5_; clear n0_ n1_ n2_ n3_ n4_ n5_; clear hb hbox hg; have hcz18_0 : w17.cell? ⟨gb146, 0, none⟩ = some (.int .i64 0) := (blk_cell BK146.out 0).trans rfl; have hcz18_1 : w17.cell? ⟨gb146, 1, none⟩ = some (.int .u64 0) := (blk_cell BK146.out 1).trans rfl; have hcz18_2 : w17.cell? ⟨gb146, 2, none⟩ = some (.int .u64 0) := (blk_cell BK146.out 2).trans rfl; have hcz18_3 : w17.cell? ⟨gb146, 3, none⟩ = some (.slice none 0 0) := (blk_cell BK146.out 3).trans rfl; have hfz18_0 := blk_frozen BK146.out 0; have hfz18_1 := blk_frozen BK146.out 1; have hfz18_2 := blk_frozen BK146.out 2; have hfz18_3 := blk_frozen BK146.out 3; obtain ⟨Ao19, co19, eo19⟩ := Kd.R_slice HO143.out; subst eo19; have p147 : 0 ≤ (0 : Int) := (by omega); have q147 : 0 < (t134.length : Int) := of_decide_eq_true (by first | (with_reducible assumption) | assumption); obtain ⟨ad147, e147, hx147_0⟩ := Kd.at_int (Kd.R_reads' HO136.out).2.2 0 p147 q147; cases e147; have qi147 : (0 < t134.length) = True := eq_true (by omega); (try rw [show ((0 : Int)).toNat = 0 from rfl] at hx147_0); (try rw [Addr.add_zero'] at hx147_0); have hn147_0 : ad147.block ≠ gb146 := Kd.own_blk (Kd.R_ne HO136.out BK146.out (by decide)); have hn147_1 : ad147.block ≠ gb146 := Kd.own_blk (Kd.R_ne HO136.out BK146.out (by decide)); have hn147_2 : ad147.block ≠ gb146 := Kd.own_blk (Kd.R_ne HO136.out BK146.out (by decide)); have hn147_3 : ad147.block ≠ gb146 := Kd.own_blk (Kd.R_ne HO136.out BK146.out (by decide)); replace hx147_0 := (cell_far (p := ⟨gb146, 0, none⟩) (by first | (rw [add_block]; exact hn147_0) | (show (Addr.add _ _).block ≠ _; rw [add_block]; exact hn147_0) | exact hn147_0) (.int .i64 t138)).trans hx147_0; replace hx147_0 := (cell_far (p := ⟨gb146, 1, none⟩) (by first | (rw [add_block]; exact hn147_1) | (show (Addr.add _ _).block ≠ _; rw [add_block]; exact hn147_1) | exact hn147_1) (.int .u64 t139)).trans hx147_0; replace hx147_0 := (cell_far (p := ⟨gb146, 2, none⟩) (by first | (rw [add_block]; exact hn147_2) | (show (Addr.add _ _).block ≠ _; rw [add_block]; exact hn147_2) | exact hn147_2) (.int .u64 t140)).trans hx147_0; replace hx147_0 := (cell_far (p := ⟨gb146, 3, none⟩) (by first | (rw [add_block]; exact hn147_3) | (show (Addr.add _ _).block ≠ _; rw [add_block]; exact hn147_3) | exact hn147_3) (.slice Ao19 t141.length co19)).trans hx147_0; clear hn147_0; clear hn147_1; clear hn147_2; clear hn147_3; replace p147 := eq_true p147; replace q147 := eq_true q147; have p148 : 0 ≤ (1 : Int) := (by omega); have q148 : 1 < (t134.length : Int) := of_decide_eq_true (by first | (with_reducible assumption) | assumption); obtain ⟨ad148, e148, hx148_0⟩ := Kd.at_int (Kd.R_reads' HO136.out).2.2 1 p148 q148; obtain rfl : ad147 = ad148 := (by injection e148); (try simp only [show (1 : Int).toNat = 1 from rfl, Nat.reduceMul, Nat.reduceEqDiff, Go.Addr.add, ↓reduceIte] at hx148_0); have qi148 : (1 < t134.length) = True := eq_true (by omega); (try rw [show ((1 : Int)).toNat = 1 from rfl] at hx148_0); have hn148_0 : ad147.block ≠ gb146 := Kd.own_blk (Kd.R_ne HO136.out BK146.out (by decide)); have hn148_1 : ad147.block ≠ gb146 := Kd.own_blk (Kd.R_ne HO136.out BK146.out (by decide)); have hn148_2 : ad147.block ≠ gb146 := Kd.own_blk (Kd.R_ne HO136.out BK146.out (by decide)); have hn148_3 : ad147.block ≠ gb146 := Kd.own_blk (Kd.R_ne HO136.out BK146.out (by decide)); replace hx148_0 := (cell_far (p := ⟨gb146, 0, none⟩) (by first | (rw [add_block]; exact hn148_0) | (show (Addr.add _ _).block ≠ _; rw [add_block]; exact hn148_0) | exact hn148_0) (.int .i64 t138)).trans hx148_0; replace hx148_0 := (cell_far (p := ⟨gb146, 1, none⟩) (by first | (rw [add_block]; exact hn148_1) | (show (Addr.add _ _).block ≠ _; rw [add_block]; exact hn148_1) | exact hn148_1) (.int .u64 t139)).trans hx148_0; replace hx148_0 := (cell_far (p := ⟨gb146, 2, none⟩) (by first | (rw [add_block]; exact hn148_2) | (show (Addr.add _ _).block ≠ _; rw [add_block]; exact hn148_2) | exact hn148_2) (.int .u64 t140)).trans hx148_0; replace hx148_0 := (cell_far (p := ⟨gb146, 3, none⟩) (by first | (rw [add_block]; exact hn148_3) | (show (Addr.add _ _).block ≠ _; rw [add_block]; exact hn148_3) | exact hn148_3) (.slice Ao19 t141.length co19)).trans hx148_0; clear hn148_0; clear hn148_1; clear hn148_2; clear hn148_3; replace p148 := eq_true p148; replace q148 := eq_true q148) | (go_at_call 18; (refine (rec_May.calls 0 0 0 _ _ ([] : List Int) t149 _ ?side1 ?side2 A13.out).mono ?_); (case side1 => exact Kd.C_nil _ _); (case side2 => exact Nat.le_refl _); rintro e w20 ⟨rfl, hb⟩; have n0_ := Aside0.mk (Kd.R_below (by (with_reducible repeat (first | apply Kd.R_alloc | apply Kd.R_drewN | apply Kd.R_drew)); exact (Kd.R_mono (Kd.R_far (p := ⟨gb146, 3, none⟩) (Kd.R_far (p := ⟨gb146, 2, none⟩) (Kd.R_far (p := ⟨gb146, 1, none⟩) (Kd.R_far (p := ⟨gb146, 0, none⟩) (Kd.R_types HO136.out BK146.out (by decide)) (fun _ hk => hk.2) (.int .i64 t138)) (fun _ hk => hk.2) (.int .u64 t139)) (fun _ hk => hk.2) (.int .u64 t140)) (fun _ hk => hk.2) (.slice Ao19 t141.length co19)) (fun _ h_ => h_.1))) hb); have n1_ := Aside0.mk (Kd.R_below (by (with_reducible repeat (first | apply Kd.R_alloc | apply Kd.R_drewN | apply Kd.R_drew)); exact (Kd.R_mono (Kd.R_far (p := ⟨gb146, 3, none⟩) (Kd.R_far (p := ⟨gb146, 2, none⟩) (Kd.R_far (p := ⟨gb146, 1, none⟩) (Kd.R_far (p := ⟨gb146, 0, none⟩) (Kd.R_types HO143.out BK146.out (by decide)) (fun _ hk => hk.2) (.int .i64 t138)) (fun _ hk => hk.2) (.int .u64 t139)) (fun _ hk => hk.2) (.int .u64 t140)) (fun _ hk => hk.2) (.slice Ao19 t141.length co19)) (fun _ h_ => h_.1))) hb); have n2_ := Aside0.mk (blk_below (g := gb146) (o := .cells #[.int .i64 t138, .int .u64 t139, .int .u64 t140, .slice Ao19 t141.length co19] 25 (0, 0)) (by (with_reducible repeat (first | refine blk_drewN ?_ _ | refine blk_drew ?_ | refine blk_alloc ?_ _)); refine blk_put (cs := #[.int .i64 t138, .int .u64 t139, .int .u64 t140, .slice none 0 0]) ?_ 3 _ rfl; (with_reducible repeat (first | refine blk_drewN ?_ _ | refine blk_drew ?_ | refine blk_alloc ?_ _)); refine blk_put (cs := #[.int .i64 t138, .int .u64 t139, .int .u64 0, .slice none 0 0]) ?_ 2 _ rfl; (with_reducible repeat (first | refine blk_drewN ?_ _ | refine blk_drew ?_ | refine blk_alloc ?_ _)); refine blk_put (cs := #[.int .i64 t138, .int .u64 0, .int .u64 0, .slice none 0 0]) ?_ 1 _ rfl; (with_reducible repeat (first | refine blk_drewN ?_ _ | refine blk_drew ?_ | refine blk_alloc ?_ _)); refine blk_put (cs := #[.int .i64 0, .int .u64 0, .int .u64 0, .slice none 0 0]) ?_ 0 _ rfl; (with_reducible repeat (first | refine blk_drewN ?_ _ | refine blk_drew ?_ | refine blk_alloc ?_ _)); exact BK146.out) hb); have n3_ := Aside0.mk (below_step (by repeat (first | (with_reducible first | exact HB.out | apply below_alloc | apply pw_below_drewN | apply below_drew1 | refine below_set ?_ GE146.out) | exact HB.out)) hb); clear HO136; clear HO143; clear BK146; clear HB; have HO136 := n0_; have HO143 := n1_; have BK146 := n2_; have HB := n3_; clear n0_ n1_ n2_ n3_; (try clear hb); (try clear hb2); (try clear hk); (try clear hi)))
                      go_ret
                      exact ⟨by first | rfl | (simp [errW_none, errW_some] <;> rfl) | (simp [*, errW_none, errW_some] <;> rfl), by repeat (first | (with_reducible first | exact HB.out | apply below_alloc | apply pw_below_drewN | apply below_drew1 | refine below_set ?_ GE146.out) | exact HB.out)⟩
                    · rw [if_neg c12] at H
                      have c12b0 : (t138 == 1) = false := beq_eq_false_iff_ne.mpr c12
                      have c12b1 : (t138 != 1) = true := bne_iff_ne.mpr c12
                      obtain rfl := Option.some.inj H
                      go_enter Try.func10, Try.ntmps10
                      go_wp2_with (first | ((with_reducible refine gate_callee (f := 11) rfl ?_); refine goesL_ (some 8) rfl rfl Try.func11 (by kernel_rfl) rfl #[.agg #[.int .i64 1, .int .u64 1, .int .u64 0, .slice none 0 0]] rfl (by (try simp only [List.map_toArray, List.map_cons, List.map_nil]); first | done | rfl | (simp only [List.length_drop, List.length_take]; rfl)) ?_; (refine (rec_Encode.calls k 1 1 0 (fun k_ => False) _ _ ([] : List Int) t134 t137 _ ?side1 A1.out).mono ?_); (case side1 => exact Kd.V_nil _ _ _ _ _); rintro e w21 ⟨v135, rfl, ho0, hb⟩; refine ⟨_, rfl, ?_⟩; have n0_ := Aside0.mk (Kd.R_lower (Kd.R_mono (ok' := fun k_ => True) ho0 (fun _ hk_ => trivial)) (below_size (by repeat (first | (with_reducible first | exact HB.out | apply below_alloc | apply pw_below_drewN | apply below_drew1) | exact HB.out)))); have n1_ := Aside0.mk (below_step (by repeat (first | (with_reducible first | exact HB.out | apply below_alloc | apply pw_below_drewN | apply below_drew1) | exact HB.out)) hb); clear HB; have HO136 := n0_; have HB := n1_; clear n0_ n1_; (try clear hb); (try clear hb2); (try clear hk); (try clear hi); (try clear ho0); obtain ⟨Ao22, co22, eo22⟩ := Kd.R_slice HO136.out; subst eo22) | ((with_reducible refine gate_callee (f := 14) rfl ?_); refine goesL_ (some 13) rfl rfl Try.func14 (by kernel_rfl) rfl #[.slice Ao22 t134.length co22, .int .i64 0] rfl (by (try simp only [List.map_toArray, List.map_cons, List.map_nil]); first | done | rfl | (simp only [List.length_drop, List.length_take]; rfl)) ?_; (with_reducible refine (rec_Decode.calls _ _ t134 0 t138 t139 t140 t141 t144 t145 _ ?side1 ?side2 A2.out).mono ?_); (case side1 => repeat (first | exact (Kd.R_reads' HO136.out).2.2 | (with_reducible refine Kd.C_alloc ?_ _) | (with_reducible refine Kd.C_drewN ?_ _) | (with_reducible refine Kd.C_drew ?_))); (case side2 => exact (Kd.R_reads' HO136.out).2.1); rintro e w23 ⟨v142, rfl, ho0, hb⟩; refine ⟨_, rfl, ?_⟩; have n0_ := Aside0.mk (Kd.R_elder' (by (with_reducible repeat (first | apply Kd.R_alloc | apply Kd.R_drewN | apply Kd.R_drew)); exact HO136.out) (Kd.R_base ho0) hb); have n1_ := Aside0.mk (Kd.R_lower (Kd.R_new' ho0 (Kd.R_lt (by (with_reducible repeat (first | apply Kd.R_alloc | apply Kd.R_drewN | apply Kd.R_drew)); exact HO136.out))) (below_size (by repeat (first | (with_reducible first | exact HB.out | apply below_alloc | apply pw_below_drewN | apply below_drew1) | exact HB.out)))); have n2_ := Aside0.mk (below_step (by repeat (first | (with_reducible first | exact HB.out | apply below_alloc | apply pw_below_drewN | apply below_drew1) | exact HB.out)) hb); clear HO136; clear HB; have HO136 := n0_; have HO143 := n1_; have HB := n2_; clear n0_ n1_ n2_; (try clear hb); (try clear hb2); (try clear hk); (try clear hi); (try clear ho0)) | ((with_reducible refine gate_dst (N := 3) rfl ?_); (try (refine gate_guard (by rfl) ?_; dsimp only)); refine box_event ?hg (N := 3) ?hd (cs := #[.int .i64 0, .int .u64 0, .int .u64 0, .slice none 0 0]) (t := 25) ?hr ?_; (case hd => rfl); (case hg => rfl); (case hr => first | (go_simp; done) | (go_simp; rfl)); intro gb146 hg w24 hbox hb; have n0_ := Aside0.mk (Kd.R_below (by (with_reducible repeat (first | apply Kd.R_alloc | apply Kd.R_drewN | apply Kd.R_drew)); exact HO136.out) hb); have n1_ := Aside0.mk (Kd.R_below (by (with_reducible repeat (first | apply Kd.R_alloc | apply Kd.R_drewN | apply Kd.R_drew)); exact HO143.out) hb); have n2_ := Aside0.mk (below_step (by repeat (first | (with_reducible first | exact HB.out | apply below_alloc | apply pw_below_drewN | apply below_drew1) | exact HB.out)) hb); have n3_ := Aside0.mk (hbox); have n4_ := Aside0.mk ((by rw [hg]; exact (below_size (by repeat (first | (with_reducible first | exact HB.out | apply below_alloc | apply pw_below_drewN | apply below_drew1) | exact HB.out))) : w.heap.size ≤ gb146)); have n5_ := Aside0.mk ((by rw [hg]; exact (below_size (by repeat (first | (with_reducible first | exact HB.out | apply below_alloc | apply pw_below_drewN | apply below_drew1) | exact HB.out))) : w.heap.size ≤ gb146)); clear HO136; clear HO143; clear HB; have HO136 := n0_; have HO143 := n1_; have HB := n2_; have BK146 := n3_; have GW146 := n4_; have GE146 := n5_; clear n0_ n1_ n2_ n3_ n4_ n5_; clear hb hbox hg; have hcz25_0 : w24.cell? ⟨gb146, 0, none⟩ = some (.int .i64 0) := (blk_cell BK146.out 0).trans rfl; have hcz25_1 : w24.cell? ⟨gb146, 1, none⟩ = some (.int .u64 0) := (blk_cell BK146.out 1).trans rfl; have hcz25_2 : w24.cell? ⟨gb146, 2, none⟩ = some (.int .u64 0) := (blk_cell BK146.out 2).trans rfl; have hcz25_3 : w24.cell? ⟨gb146, 3, none⟩ = some (.slice none 0 0) := (blk_cell BK146.out 3).trans rfl; have hfz25_0 := blk_frozen BK146.out 0; have hfz25_1 := blk_frozen BK146.out 1; have hfz25_2 := blk_frozen BK146.out 2; have hfz25_3 := blk_frozen BK146.out 3; obtain ⟨Ao26, co26, eo26⟩ := Kd.R_slice HO143.out; subst eo26; have p147 : 0 ≤ (0 : Int) := (by omega); have q147 : 0 < (t134.length : Int) := of_decide_eq_true (by first | (with_reducible assumption) | assumption); obtain ⟨ad147, e147, hx147_0⟩ := Kd.at_int (Kd.R_reads' HO136.out).2.2 0 p147 q147; cases e147; have qi147 : (0 < t134.length) = True := eq_true (by omega); (try rw [show ((0 : Int)).toNat = 0 from rfl] at hx147_0); (try rw [Addr.add_zero'] at hx147_0); have hn147_0 : ad147.block ≠ gb146 := Kd.own_blk (Kd.R_ne HO136.out BK146.out (by decide)); have hn147_1 : ad147.block ≠ gb146 := Kd.own_blk (Kd.R_ne HO136.out BK146.out (by decide)); have hn147_2 : ad147.block ≠ gb146 := Kd.own_blk (Kd.R_ne HO136.out BK146.out (by decide)); have hn147_3 : ad147.block ≠ gb146 := Kd.own_blk (Kd.R_ne HO136.out BK146.out (by decide)); replace hx147_0 := (cell_far (p := ⟨gb146, 0, none⟩) (by first | (rw [add_block]; exact hn147_0) | (show (Addr.add _ _).block ≠ _; rw [add_block]; exact hn147_0) | exact hn147_0) (.int .i64 t138)).trans hx147_0; replace hx147_0 := (cell_far (p := ⟨gb146, 1, none⟩) (by first | (rw [add_block]; exact hn147_1) | (show (Addr.add _ _).block ≠ _; rw [add_block]; exact hn147_1) | exact hn147_1) (.int .u64 t139)).trans hx147_0; replace hx147_0 := (cell_far (p := ⟨gb146, 2, none⟩) (by first | (rw [add_block]; exact hn147_2) | (show (Addr.add _ _).block ≠ _; rw [add_block]; exact hn147_2) | exact hn147_2) (.int .u64 t140)).trans hx147_0; replace hx147_0 := (cell_far (p := ⟨gb146, 3, none⟩) (by first | (rw [add_block]; exact hn147_3) | (show (Addr.add _ _).block ≠ _; rw [add_block]; exact hn147_3) | exact hn147_3) (.slice Ao26 t141.length co26)).trans hx147_0; clear hn147_0; clear hn147_1; clear hn147_2; clear hn147_3; replace p147 := eq_true p147; replace q147 := eq_true q147; have p148 : 0 ≤ (1 : Int) := (by omega); have q148 : 1 < (t134.length : Int) := of_decide_eq_true (by first | (with_reducible assumption) | assumption); obtain ⟨ad148, e148, hx148_0⟩ := Kd.at_int (Kd.R_reads' HO136.out).2.2 1 p148 q148; obtain rfl : ad147 = ad148 := (by injection e148); (try simp only [show (1 : Int).toNat = 1 from rfl, Nat.reduceMul, Nat.reduceEqDiff, Go.Addr.add, ↓reduceIte] at hx148_0); have qi148 : (1 < t134.length) = True := eq_true (by omega); (try rw [show ((1 : Int)).toNat = 1 from rfl] at hx148_0); have hn148_0 : ad147.block ≠ gb146 := Kd.own_blk (Kd.R_ne HO136.out BK146.out (by decide)); have hn148_1 : ad147.block ≠ gb146 := Kd.own_blk (Kd.R_ne HO136.out BK146.out (by decide)); have hn148_2 : ad147.block ≠ gb146 := Kd.own_blk (Kd.R_ne HO136.out BK146.out (by decide)); have hn148_3 : ad147.block ≠ gb146 := Kd.own_blk (Kd.R_ne HO136.out BK146.out (by decide)); replace hx148_0 := (cell_far (p := ⟨gb146, 0, none⟩) (by first | (rw [add_block]; exact hn148_0) | (show (Addr.add _ _).block ≠ _; rw [add_block]; exact hn148_0) | exact hn148_0) (.int .i64 t138)).trans hx148_0; replace hx148_0 := (cell_far (p := ⟨gb146, 1, none⟩) (by first | (rw [add_block]; exact hn148_1) | (show (Addr.add _ _).block ≠ _; rw [add_block]; exact hn148_1) | exact hn148_1) (.int .u64 t139)).trans hx148_0; replace hx148_0 := (cell_far (p := ⟨gb146, 2, none⟩) (by first | (rw [add_block]; exact hn148_2) | (show (Addr.add _ _).block ≠ _; rw [add_block]; exact hn148_2) | exact hn148_2) (.int .u64 t140)).trans hx148_0; replace hx148_0 := (cell_far (p := ⟨gb146, 3, none⟩) (by first | (rw [add_block]; exact hn148_3) | (show (Addr.add _ _).block ≠ _; rw [add_block]; exact hn148_3) | exact hn148_3) (.slice Ao26 t141.length co26)).trans hx148_0; clear hn148_0; clear hn148_1; clear hn148_2; clear hn148_3; replace p148 := eq_true p148; replace q148 := eq_true q148))
                      go_ret
                      exact ⟨by first | rfl | (simp [errW_none, errW_some] <;> rfl) | (simp [*, errW_none, errW_some] <;> rfl), by repeat (first | (with_reducible first | exact HB.out | apply below_alloc | apply pw_below_drewN | apply below_drew1 | refine below_set ?_ GE146.out) | exact HB.out)⟩
                  · rw [if_neg c11] at H
                    have c11b0 : (t139 == 1) = false := beq_eq_false_iff_ne.mpr c11
                    have c11b1 : (t139 != 1) = true := bne_iff_ne.mpr c11
                    obtain rfl := Option.some.inj H
                    go_enter Try.func10, Try.ntmps10
                    go_wp2_with (first | ((with_reducible refine gate_callee (f := 11) rfl ?_); refine goesL_ (some 8) rfl rfl Try.func11 (by kernel_rfl) rfl #[.agg #[.int .i64 1, .int .u64 1, .int .u64 0, .slice none 0 0]] rfl (by (try simp only [List.map_toArray, List.map_cons, List.map_nil]); first | done | rfl | (simp only [List.length_drop, List.length_take]; rfl)) ?_; (refine (rec_Encode.calls k 1 1 0 (fun k_ => False) _ _ ([] : List Int) t134 t137 _ ?side1 A1.out).mono ?_); (case side1 => exact Kd.V_nil _ _ _ _ _); rintro e w27 ⟨v135, rfl, ho0, hb⟩; refine ⟨_, rfl, ?_⟩; have n0_ := Aside0.mk (Kd.R_lower (Kd.R_mono (ok' := fun k_ => True) ho0 (fun _ hk_ => trivial)) (below_size (by repeat (first | (with_reducible first | exact HB.out | apply below_alloc | apply pw_below_drewN | apply below_drew1) | exact HB.out)))); have n1_ := Aside0.mk (below_step (by repeat (first | (with_reducible first | exact HB.out | apply below_alloc | apply pw_below_drewN | apply below_drew1) | exact HB.out)) hb); clear HB; have HO136 := n0_; have HB := n1_; clear n0_ n1_; (try clear hb); (try clear hb2); (try clear hk); (try clear hi); (try clear ho0); obtain ⟨Ao28, co28, eo28⟩ := Kd.R_slice HO136.out; subst eo28) | ((with_reducible refine gate_callee (f := 14) rfl ?_); refine goesL_ (some 13) rfl rfl Try.func14 (by kernel_rfl) rfl #[.slice Ao28 t134.length co28, .int .i64 0] rfl (by (try simp only [List.map_toArray, List.map_cons, List.map_nil]); first | done | rfl | (simp only [List.length_drop, List.length_take]; rfl)) ?_; (with_reducible refine (rec_Decode.calls _ _ t134 0 t138 t139 t140 t141 t144 t145 _ ?side1 ?side2 A2.out).mono ?_); (case side1 => repeat (first | exact (Kd.R_reads' HO136.out).2.2 | (with_reducible refine Kd.C_alloc ?_ _) | (with_reducible refine Kd.C_drewN ?_ _) | (with_reducible refine Kd.C_drew ?_))); (case side2 => exact (Kd.R_reads' HO136.out).2.1); rintro e w29 ⟨v142, rfl, ho0, hb⟩; refine ⟨_, rfl, ?_⟩; have n0_ := Aside0.mk (Kd.R_elder' (by (with_reducible repeat (first | apply Kd.R_alloc | apply Kd.R_drewN | apply Kd.R_drew)); exact HO136.out) (Kd.R_base ho0) hb); have n1_ := Aside0.mk (Kd.R_lower (Kd.R_new' ho0 (Kd.R_lt (by (with_reducible repeat (first | apply Kd.R_alloc | apply Kd.R_drewN | apply Kd.R_drew)); exact HO136.out))) (below_size (by repeat (first | (with_reducible first | exact HB.out | apply below_alloc | apply pw_below_drewN | apply below_drew1) | exact HB.out)))); have n2_ := Aside0.mk (below_step (by repeat (first | (with_reducible first | exact HB.out | apply below_alloc | apply pw_below_drewN | apply below_drew1) | exact HB.out)) hb); clear HO136; clear HB; have HO136 := n0_; have HO143 := n1_; have HB := n2_; clear n0_ n1_ n2_; (try clear hb); (try clear hb2); (try clear hk); (try clear hi); (try clear ho0)) | ((with_reducible refine gate_dst (N := 3) rfl ?_); (try (refine gate_guard (by rfl) ?_; dsimp only)); refine box_event ?hg (N := 3) ?hd (cs := #[.int .i64 0, .int .u64 0, .int .u64 0, .slice none 0 0]) (t := 25) ?hr ?_; (case hd => rfl); (case hg => rfl); (case hr => first | (go_simp; done) | (go_simp; rfl)); intro gb146 hg w30 hbox hb; have n0_ := Aside0.mk (Kd.R_below (by (with_reducible repeat (first | apply Kd.R_alloc | apply Kd.R_drewN | apply Kd.R_drew)); exact HO136.out) hb); have n1_ := Aside0.mk (Kd.R_below (by (with_reducible repeat (first | apply Kd.R_alloc | apply Kd.R_drewN | apply Kd.R_drew)); exact HO143.out) hb); have n2_ := Aside0.mk (below_step (by repeat (first | (with_reducible first | exact HB.out | apply below_alloc | apply pw_below_drewN | apply below_drew1) | exact HB.out)) hb); have n3_ := Aside0.mk (hbox); have n4_ := Aside0.mk ((by rw [hg]; exact (below_size (by repeat (first | (with_reducible first | exact HB.out | apply below_alloc | apply pw_below_drewN | apply below_drew1) | exact HB.out))) : w.heap.size ≤ gb146)); have n5_ := Aside0.mk ((by rw [hg]; exact (below_size (by repeat (first | (with_reducible first | exact HB.out | apply below_alloc | apply pw_below_drewN | apply below_drew1) | exact HB.out))) : w.heap.size ≤ gb146)); clear HO136; clear HO143; clear HB; have HO136 := n0_; have HO143 := n1_; have HB := n2_; have BK146 := n3_; have GW146 := n4_; have GE146 := n5_; clear n0_ n1_ n2_ n3_ n4_ n5_; clear hb hbox hg; have hcz31_0 : w30.cell? ⟨gb146, 0, none⟩ = some (.int .i64 0) := (blk_cell BK146.out 0).trans rfl; have hcz31_1 : w30.cell? ⟨gb146, 1, none⟩ = some (.int .u64 0) := (blk_cell BK146.out 1).trans rfl; have hcz31_2 : w30.cell? ⟨gb146, 2, none⟩ = some (.int .u64 0) := (blk_cell BK146.out 2).trans rfl; have hcz31_3 : w30.cell? ⟨gb146, 3, none⟩ = some (.slice none 0 0) := (blk_cell BK146.out 3).trans rfl; have hfz31_0 := blk_frozen BK146.out 0; have hfz31_1 := blk_frozen BK146.out 1; have hfz31_2 := blk_frozen BK146.out 2; have hfz31_3 := blk_frozen BK146.out 3; obtain ⟨Ao32, co32, eo32⟩ := Kd.R_slice HO143.out; subst eo32; have p147 : 0 ≤ (0 : Int) := (by omega); have q147 : 0 < (t134.length : Int) := of_decide_eq_true (by first | (with_reducible assumption) | assumption); obtain ⟨ad147, e147, hx147_0⟩ := Kd.at_int (Kd.R_reads' HO136.out).2.2 0 p147 q147; cases e147; have qi147 : (0 < t134.length) = True := eq_true (by omega); (try rw [show ((0 : Int)).toNat = 0 from rfl] at hx147_0); (try rw [Addr.add_zero'] at hx147_0); have hn147_0 : ad147.block ≠ gb146 := Kd.own_blk (Kd.R_ne HO136.out BK146.out (by decide)); have hn147_1 : ad147.block ≠ gb146 := Kd.own_blk (Kd.R_ne HO136.out BK146.out (by decide)); have hn147_2 : ad147.block ≠ gb146 := Kd.own_blk (Kd.R_ne HO136.out BK146.out (by decide)); have hn147_3 : ad147.block ≠ gb146 := Kd.own_blk (Kd.R_ne HO136.out BK146.out (by decide)); replace hx147_0 := (cell_far (p := ⟨gb146, 0, none⟩) (by first | (rw [add_block]; exact hn147_0) | (show (Addr.add _ _).block ≠ _; rw [add_block]; exact hn147_0) | exact hn147_0) (.int .i64 t138)).trans hx147_0; replace hx147_0 := (cell_far (p := ⟨gb146, 1, none⟩) (by first | (rw [add_block]; exact hn147_1) | (show (Addr.add _ _).block ≠ _; rw [add_block]; exact hn147_1) | exact hn147_1) (.int .u64 t139)).trans hx147_0; replace hx147_0 := (cell_far (p := ⟨gb146, 2, none⟩) (by first | (rw [add_block]; exact hn147_2) | (show (Addr.add _ _).block ≠ _; rw [add_block]; exact hn147_2) | exact hn147_2) (.int .u64 t140)).trans hx147_0; replace hx147_0 := (cell_far (p := ⟨gb146, 3, none⟩) (by first | (rw [add_block]; exact hn147_3) | (show (Addr.add _ _).block ≠ _; rw [add_block]; exact hn147_3) | exact hn147_3) (.slice Ao32 t141.length co32)).trans hx147_0; clear hn147_0; clear hn147_1; clear hn147_2; clear hn147_3; replace p147 := eq_true p147; replace q147 := eq_true q147; have p148 : 0 ≤ (1 : Int) := (by omega); have q148 : 1 < (t134.length : Int) := of_decide_eq_true (by first | (with_reducible assumption) | assumption); obtain ⟨ad148, e148, hx148_0⟩ := Kd.at_int (Kd.R_reads' HO136.out).2.2 1 p148 q148; obtain rfl : ad147 = ad148 := (by injection e148); (try simp only [show (1 : Int).toNat = 1 from rfl, Nat.reduceMul, Nat.reduceEqDiff, Go.Addr.add, ↓reduceIte] at hx148_0); have qi148 : (1 < t134.length) = True := eq_true (by omega); (try rw [show ((1 : Int)).toNat = 1 from rfl] at hx148_0); have hn148_0 : ad147.block ≠ gb146 := Kd.own_blk (Kd.R_ne HO136.out BK146.out (by decide)); have hn148_1 : ad147.block ≠ gb146 := Kd.own_blk (Kd.R_ne HO136.out BK146.out (by decide)); have hn148_2 : ad147.block ≠ gb146 := Kd.own_blk (Kd.R_ne HO136.out BK146.out (by decide)); have hn148_3 : ad147.block ≠ gb146 := Kd.own_blk (Kd.R_ne HO136.out BK146.out (by decide)); replace hx148_0 := (cell_far (p := ⟨gb146, 0, none⟩) (by first | (rw [add_block]; exact hn148_0) | (show (Addr.add _ _).block ≠ _; rw [add_block]; exact hn148_0) | exact hn148_0) (.int .i64 t138)).trans hx148_0; replace hx148_0 := (cell_far (p := ⟨gb146, 1, none⟩) (by first | (rw [add_block]; exact hn148_1) | (show (Addr.add _ _).block ≠ _; rw [add_block]; exact hn148_1) | exact hn148_1) (.int .u64 t139)).trans hx148_0; replace hx148_0 := (cell_far (p := ⟨gb146, 2, none⟩) (by first | (rw [add_block]; exact hn148_2) | (show (Addr.add _ _).block ≠ _; rw [add_block]; exact hn148_2) | exact hn148_2) (.int .u64 t140)).trans hx148_0; replace hx148_0 := (cell_far (p := ⟨gb146, 3, none⟩) (by first | (rw [add_block]; exact hn148_3) | (show (Addr.add _ _).block ≠ _; rw [add_block]; exact hn148_3) | exact hn148_3) (.slice Ao32 t141.length co32)).trans hx148_0; clear hn148_0; clear hn148_1; clear hn148_2; clear hn148_3; replace p148 := eq_true p148; replace q148 := eq_true q148))
                    go_ret
                    exact ⟨by first | rfl | (simp [errW_none, errW_some] <;> rfl) | (simp [*, errW_none, errW_some] <;> rfl), by repeat (first | (with_reducible first | exact HB.out | apply below_alloc | apply pw_below_drewN | apply below_drew1 | refine below_set ?_ GE146.out) | exact HB.out)⟩
                · rw [if_neg c10] at H
                  have c10b0 : (t144 == 10) = false := beq_eq_false_iff_ne.mpr c10
                  have c10b1 : (t144 != 10) = true := bne_iff_ne.mpr c10
                  obtain rfl := Option.some.inj H
                  go_enter Try.func10, Try.ntmps10
                  go_wp2_with (first | ((with_reducible refine gate_callee (f := 11) rfl ?_); refine goesL_ (some 8) rfl rfl Try.func11 (by kernel_rfl) rfl #[.agg #[.int .i64 1, .int .u64 1, .int .u64 0, .slice none 0 0]] rfl (by (try simp only [List.map_toArray, List.map_cons, List.map_nil]); first | done | rfl | (simp only [List.length_drop, List.length_take]; rfl)) ?_; (refine (rec_Encode.calls k 1 1 0 (fun k_ => False) _ _ ([] : List Int) t134 t137 _ ?side1 A1.out).mono ?_); (case side1 => exact Kd.V_nil _ _ _ _ _); rintro e w33 ⟨v135, rfl, ho0, hb⟩; refine ⟨_, rfl, ?_⟩; have n0_ := Aside0.mk (Kd.R_lower (Kd.R_mono (ok' := fun k_ => True) ho0 (fun _ hk_ => trivial)) (below_size (by repeat (first | (with_reducible first | exact HB.out | apply below_alloc | apply pw_below_drewN | apply below_drew1) | exact HB.out)))); have n1_ := Aside0.mk (below_step (by repeat (first | (with_reducible first | exact HB.out | apply below_alloc | apply pw_below_drewN | apply below_drew1) | exact HB.out)) hb); clear HB; have HO136 := n0_; have HB := n1_; clear n0_ n1_; (try clear hb); (try clear hb2); (try clear hk); (try clear hi); (try clear ho0); obtain ⟨Ao34, co34, eo34⟩ := Kd.R_slice HO136.out; subst eo34) | ((with_reducible refine gate_callee (f := 14) rfl ?_); refine goesL_ (some 13) rfl rfl Try.func14 (by kernel_rfl) rfl #[.slice Ao34 t134.length co34, .int .i64 0] rfl (by (try simp only [List.map_toArray, List.map_cons, List.map_nil]); first | done | rfl | (simp only [List.length_drop, List.length_take]; rfl)) ?_; (with_reducible refine (rec_Decode.calls _ _ t134 0 t138 t139 t140 t141 t144 t145 _ ?side1 ?side2 A2.out).mono ?_); (case side1 => repeat (first | exact (Kd.R_reads' HO136.out).2.2 | (with_reducible refine Kd.C_alloc ?_ _) | (with_reducible refine Kd.C_drewN ?_ _) | (with_reducible refine Kd.C_drew ?_))); (case side2 => exact (Kd.R_reads' HO136.out).2.1); rintro e w35 ⟨v142, rfl, ho0, hb⟩; refine ⟨_, rfl, ?_⟩; have n0_ := Aside0.mk (Kd.R_elder' (by (with_reducible repeat (first | apply Kd.R_alloc | apply Kd.R_drewN | apply Kd.R_drew)); exact HO136.out) (Kd.R_base ho0) hb); have n1_ := Aside0.mk (Kd.R_lower (Kd.R_new' ho0 (Kd.R_lt (by (with_reducible repeat (first | apply Kd.R_alloc | apply Kd.R_drewN | apply Kd.R_drew)); exact HO136.out))) (below_size (by repeat (first | (with_reducible first | exact HB.out | apply below_alloc | apply pw_below_drewN | apply below_drew1) | exact HB.out)))); have n2_ := Aside0.mk (below_step (by repeat (first | (with_reducible first | exact HB.out | apply below_alloc | apply pw_below_drewN | apply below_drew1) | exact HB.out)) hb); clear HO136; clear HB; have HO136 := n0_; have HO143 := n1_; have HB := n2_; clear n0_ n1_ n2_; (try clear hb); (try clear hb2); (try clear hk); (try clear hi); (try clear ho0)) | ((with_reducible refine gate_dst (N := 3) rfl ?_); (try (refine gate_guard (by rfl) ?_; dsimp only)); refine box_event ?hg (N := 3) ?hd (cs := #[.int .i64 0, .int .u64 0, .int .u64 0, .slice none 0 0]) (t := 25) ?hr ?_; (case hd => rfl); (case hg => rfl); (case hr => first | (go_simp; done) | (go_simp; rfl)); intro gb146 hg w36 hbox hb; have n0_ := Aside0.mk (Kd.R_below (by (with_reducible repeat (first | apply Kd.R_alloc | apply Kd.R_drewN | apply Kd.R_drew)); exact HO136.out) hb); have n1_ := Aside0.mk (Kd.R_below (by (with_reducible repeat (first | apply Kd.R_alloc | apply Kd.R_drewN | apply Kd.R_drew)); exact HO143.out) hb); have n2_ := Aside0.mk (below_step (by repeat (first | (with_reducible first | exact HB.out | apply below_alloc | apply pw_below_drewN | apply below_drew1) | exact HB.out)) hb); have n3_ := Aside0.mk (hbox); have n4_ := Aside0.mk ((by rw [hg]; exact (below_size (by repeat (first | (with_reducible first | exact HB.out | apply below_alloc | apply pw_below_drewN | apply below_drew1) | exact HB.out))) : w.heap.size ≤ gb146)); have n5_ := Aside0.mk ((by rw [hg]; exact (below_size (by repeat (first | (with_reducible first | exact HB.out | apply below_alloc | apply pw_below_drewN | apply below_drew1) | exact HB.out))) : w.heap.size ≤ gb146)); clear HO136; clear HO143; clear HB; have HO136 := n0_; have HO143 := n1_; have HB := n2_; have BK146 := n3_; have GW146 := n4_; have GE146 := n5_; clear n0_ n1_ n2_ n3_ n4_ n5_; clear hb hbox hg; have hcz37_0 : w36.cell? ⟨gb146, 0, none⟩ = some (.int .i64 0) := (blk_cell BK146.out 0).trans rfl; have hcz37_1 : w36.cell? ⟨gb146, 1, none⟩ = some (.int .u64 0) := (blk_cell BK146.out 1).trans rfl; have hcz37_2 : w36.cell? ⟨gb146, 2, none⟩ = some (.int .u64 0) := (blk_cell BK146.out 2).trans rfl; have hcz37_3 : w36.cell? ⟨gb146, 3, none⟩ = some (.slice none 0 0) := (blk_cell BK146.out 3).trans rfl; have hfz37_0 := blk_frozen BK146.out 0; have hfz37_1 := blk_frozen BK146.out 1; have hfz37_2 := blk_frozen BK146.out 2; have hfz37_3 := blk_frozen BK146.out 3; obtain ⟨Ao38, co38, eo38⟩ := Kd.R_slice HO143.out; subst eo38; have p147 : 0 ≤ (0 : Int) := (by omega); have q147 : 0 < (t134.length : Int) := of_decide_eq_true (by first | (with_reducible assumption) | assumption); obtain ⟨ad147, e147, hx147_0⟩ := Kd.at_int (Kd.R_reads' HO136.out).2.2 0 p147 q147; cases e147; have qi147 : (0 < t134.length) = True := eq_true (by omega); (try rw [show ((0 : Int)).toNat = 0 from rfl] at hx147_0); (try rw [Addr.add_zero'] at hx147_0); have hn147_0 : ad147.block ≠ gb146 := Kd.own_blk (Kd.R_ne HO136.out BK146.out (by decide)); have hn147_1 : ad147.block ≠ gb146 := Kd.own_blk (Kd.R_ne HO136.out BK146.out (by decide)); have hn147_2 : ad147.block ≠ gb146 := Kd.own_blk (Kd.R_ne HO136.out BK146.out (by decide)); have hn147_3 : ad147.block ≠ gb146 := Kd.own_blk (Kd.R_ne HO136.out BK146.out (by decide)); replace hx147_0 := (cell_far (p := ⟨gb146, 0, none⟩) (by first | (rw [add_block]; exact hn147_0) | (show (Addr.add _ _).block ≠ _; rw [add_block]; exact hn147_0) | exact hn147_0) (.int .i64 t138)).trans hx147_0; replace hx147_0 := (cell_far (p := ⟨gb146, 1, none⟩) (by first | (rw [add_block]; exact hn147_1) | (show (Addr.add _ _).block ≠ _; rw [add_block]; exact hn147_1) | exact hn147_1) (.int .u64 t139)).trans hx147_0; replace hx147_0 := (cell_far (p := ⟨gb146, 2, none⟩) (by first | (rw [add_block]; exact hn147_2) | (show (Addr.add _ _).block ≠ _; rw [add_block]; exact hn147_2) | exact hn147_2) (.int .u64 t140)).trans hx147_0; replace hx147_0 := (cell_far (p := ⟨gb146, 3, none⟩) (by first | (rw [add_block]; exact hn147_3) | (show (Addr.add _ _).block ≠ _; rw [add_block]; exact hn147_3) | exact hn147_3) (.slice Ao38 t141.length co38)).trans hx147_0; clear hn147_0; clear hn147_1; clear hn147_2; clear hn147_3; replace p147 := eq_true p147; replace q147 := eq_true q147; have p148 : 0 ≤ (1 : Int) := (by omega); have q148 : 1 < (t134.length : Int) := of_decide_eq_true (by first | (with_reducible assumption) | assumption); obtain ⟨ad148, e148, hx148_0⟩ := Kd.at_int (Kd.R_reads' HO136.out).2.2 1 p148 q148; obtain rfl : ad147 = ad148 := (by injection e148); (try simp only [show (1 : Int).toNat = 1 from rfl, Nat.reduceMul, Nat.reduceEqDiff, Go.Addr.add, ↓reduceIte] at hx148_0); have qi148 : (1 < t134.length) = True := eq_true (by omega); (try rw [show ((1 : Int)).toNat = 1 from rfl] at hx148_0); have hn148_0 : ad147.block ≠ gb146 := Kd.own_blk (Kd.R_ne HO136.out BK146.out (by decide)); have hn148_1 : ad147.block ≠ gb146 := Kd.own_blk (Kd.R_ne HO136.out BK146.out (by decide)); have hn148_2 : ad147.block ≠ gb146 := Kd.own_blk (Kd.R_ne HO136.out BK146.out (by decide)); have hn148_3 : ad147.block ≠ gb146 := Kd.own_blk (Kd.R_ne HO136.out BK146.out (by decide)); replace hx148_0 := (cell_far (p := ⟨gb146, 0, none⟩) (by first | (rw [add_block]; exact hn148_0) | (show (Addr.add _ _).block ≠ _; rw [add_block]; exact hn148_0) | exact hn148_0) (.int .i64 t138)).trans hx148_0; replace hx148_0 := (cell_far (p := ⟨gb146, 1, none⟩) (by first | (rw [add_block]; exact hn148_1) | (show (Addr.add _ _).block ≠ _; rw [add_block]; exact hn148_1) | exact hn148_1) (.int .u64 t139)).trans hx148_0; replace hx148_0 := (cell_far (p := ⟨gb146, 2, none⟩) (by first | (rw [add_block]; exact hn148_2) | (show (Addr.add _ _).block ≠ _; rw [add_block]; exact hn148_2) | exact hn148_2) (.int .u64 t140)).trans hx148_0; replace hx148_0 := (cell_far (p := ⟨gb146, 3, none⟩) (by first | (rw [add_block]; exact hn148_3) | (show (Addr.add _ _).block ≠ _; rw [add_block]; exact hn148_3) | exact hn148_3) (.slice Ao38 t141.length co38)).trans hx148_0; clear hn148_0; clear hn148_1; clear hn148_2; clear hn148_3; replace p148 := eq_true p148; replace q148 := eq_true q148))
                  go_ret
                  exact ⟨by first | rfl | (simp [errW_none, errW_some] <;> rfl) | (simp [*, errW_none, errW_some] <;> rfl), by repeat (first | (with_reducible first | exact HB.out | apply below_alloc | apply pw_below_drewN | apply below_drew1 | refine below_set ?_ GE146.out) | exact HB.out)⟩
              · rw [if_neg c9] at H
                have c9b0 : (t145 == 0) = false := beq_eq_false_iff_ne.mpr c9
                have c9b1 : (t145 != 0) = true := bne_iff_ne.mpr c9
                obtain rfl := Option.some.inj H
                go_enter Try.func10, Try.ntmps10
                go_wp2_with (first | ((with_reducible refine gate_callee (f := 11) rfl ?_); refine goesL_ (some 8) rfl rfl Try.func11 (by kernel_rfl) rfl #[.agg #[.int .i64 1, .int .u64 1, .int .u64 0, .slice none 0 0]] rfl (by (try simp only [List.map_toArray, List.map_cons, List.map_nil]); first | done | rfl | (simp only [List.length_drop, List.length_take]; rfl)) ?_; (refine (rec_Encode.calls k 1 1 0 (fun k_ => False) _ _ ([] : List Int) t134 t137 _ ?side1 A1.out).mono ?_); (case side1 => exact Kd.V_nil _ _ _ _ _); rintro e w39 ⟨v135, rfl, ho0, hb⟩; refine ⟨_, rfl, ?_⟩; have n0_ := Aside0.mk (Kd.R_lower (Kd.R_mono (ok' := fun k_ => True) ho0 (fun _ hk_ => trivial)) (below_size (by repeat (first | (with_reducible first | exact HB.out | apply below_alloc | apply pw_below_drewN | apply below_drew1) | exact HB.out)))); have n1_ := Aside0.mk (below_step (by repeat (first | (with_reducible first | exact HB.out | apply below_alloc | apply pw_below_drewN | apply below_drew1) | exact HB.out)) hb); clear HB; have HO136 := n0_; have HB := n1_; clear n0_ n1_; (try clear hb); (try clear hb2); (try clear hk); (try clear hi); (try clear ho0); obtain ⟨Ao40, co40, eo40⟩ := Kd.R_slice HO136.out; subst eo40) | ((with_reducible refine gate_callee (f := 14) rfl ?_); refine goesL_ (some 13) rfl rfl Try.func14 (by kernel_rfl) rfl #[.slice Ao40 t134.length co40, .int .i64 0] rfl (by (try simp only [List.map_toArray, List.map_cons, List.map_nil]); first | done | rfl | (simp only [List.length_drop, List.length_take]; rfl)) ?_; (with_reducible refine (rec_Decode.calls _ _ t134 0 t138 t139 t140 t141 t144 t145 _ ?side1 ?side2 A2.out).mono ?_); (case side1 => repeat (first | exact (Kd.R_reads' HO136.out).2.2 | (with_reducible refine Kd.C_alloc ?_ _) | (with_reducible refine Kd.C_drewN ?_ _) | (with_reducible refine Kd.C_drew ?_))); (case side2 => exact (Kd.R_reads' HO136.out).2.1); rintro e w41 ⟨v142, rfl, ho0, hb⟩; refine ⟨_, rfl, ?_⟩; have n0_ := Aside0.mk (Kd.R_elder' (by (with_reducible repeat (first | apply Kd.R_alloc | apply Kd.R_drewN | apply Kd.R_drew)); exact HO136.out) (Kd.R_base ho0) hb); have n1_ := Aside0.mk (Kd.R_lower (Kd.R_new' ho0 (Kd.R_lt (by (with_reducible repeat (first | apply Kd.R_alloc | apply Kd.R_drewN | apply Kd.R_drew)); exact HO136.out))) (below_size (by repeat (first | (with_reducible first | exact HB.out | apply below_alloc | apply pw_below_drewN | apply below_drew1) | exact HB.out)))); have n2_ := Aside0.mk (below_step (by repeat (first | (with_reducible first | exact HB.out | apply below_alloc | apply pw_below_drewN | apply below_drew1) | exact HB.out)) hb); clear HO136; clear HB; have HO136 := n0_; have HO143 := n1_; have HB := n2_; clear n0_ n1_ n2_; (try clear hb); (try clear hb2); (try clear hk); (try clear hi); (try clear ho0)) | ((with_reducible refine gate_dst (N := 3) rfl ?_); (try (refine gate_guard (by rfl) ?_; dsimp only)); refine box_event ?hg (N := 3) ?hd (cs := #[.int .i64 0, .int .u64 0, .int .u64 0, .slice none 0 0]) (t := 25) ?hr ?_; (case hd => rfl); (case hg => rfl); (case hr => first | (go_simp; done) | (go_simp; rfl)); intro gb146 hg w42 hbox hb; have n0_ := Aside0.mk (Kd.R_below (by (with_reducible repeat (first | apply Kd.R_alloc | apply Kd.R_drewN | apply Kd.R_drew)); exact HO136.out) hb); have n1_ := Aside0.mk (Kd.R_below (by (with_reducible repeat (first | apply Kd.R_alloc | apply Kd.R_drewN | apply Kd.R_drew)); exact HO143.out) hb); have n2_ := Aside0.mk (below_step (by repeat (first | (with_reducible first | exact HB.out | apply below_alloc | apply pw_below_drewN | apply below_drew1) | exact HB.out)) hb); have n3_ := Aside0.mk (hbox); have n4_ := Aside0.mk ((by rw [hg]; exact (below_size (by repeat (first | (with_reducible first | exact HB.out | apply below_alloc | apply pw_below_drewN | apply below_drew1) | exact HB.out))) : w.heap.size ≤ gb146)); have n5_ := Aside0.mk ((by rw [hg]; exact (below_size (by repeat (first | (with_reducible first | exact HB.out | apply below_alloc | apply pw_below_drewN | apply below_drew1) | exact HB.out))) : w.heap.size ≤ gb146)); clear HO136; clear HO143; clear HB; have HO136 := n0_; have HO143 := n1_; have HB := n2_; have BK146 := n3_; have GW146 := n4_; have GE146 := n5_; clear n0_ n1_ n2_ n3_ n4_ n5_; clear hb hbox hg; have hcz43_0 : w42.cell? ⟨gb146, 0, none⟩ = some (.int .i64 0) := (blk_cell BK146.out 0).trans rfl; have hcz43_1 : w42.cell? ⟨gb146, 1, none⟩ = some (.int .u64 0) := (blk_cell BK146.out 1).trans rfl; have hcz43_2 : w42.cell? ⟨gb146, 2, none⟩ = some (.int .u64 0) := (blk_cell BK146.out 2).trans rfl; have hcz43_3 : w42.cell? ⟨gb146, 3, none⟩ = some (.slice none 0 0) := (blk_cell BK146.out 3).trans rfl; have hfz43_0 := blk_frozen BK146.out 0; have hfz43_1 := blk_frozen BK146.out 1; have hfz43_2 := blk_frozen BK146.out 2; have hfz43_3 := blk_frozen BK146.out 3; obtain ⟨Ao44, co44, eo44⟩ := Kd.R_slice HO143.out; subst eo44; have p147 : 0 ≤ (0 : Int) := (by omega); have q147 : 0 < (t134.length : Int) := of_decide_eq_true (by first | (with_reducible assumption) | assumption); obtain ⟨ad147, e147, hx147_0⟩ := Kd.at_int (Kd.R_reads' HO136.out).2.2 0 p147 q147; cases e147; have qi147 : (0 < t134.length) = True := eq_true (by omega); (try rw [show ((0 : Int)).toNat = 0 from rfl] at hx147_0); (try rw [Addr.add_zero'] at hx147_0); have hn147_0 : ad147.block ≠ gb146 := Kd.own_blk (Kd.R_ne HO136.out BK146.out (by decide)); have hn147_1 : ad147.block ≠ gb146 := Kd.own_blk (Kd.R_ne HO136.out BK146.out (by decide)); have hn147_2 : ad147.block ≠ gb146 := Kd.own_blk (Kd.R_ne HO136.out BK146.out (by decide)); have hn147_3 : ad147.block ≠ gb146 := Kd.own_blk (Kd.R_ne HO136.out BK146.out (by decide)); replace hx147_0 := (cell_far (p := ⟨gb146, 0, none⟩) (by first | (rw [add_block]; exact hn147_0) | (show (Addr.add _ _).block ≠ _; rw [add_block]; exact hn147_0) | exact hn147_0) (.int .i64 t138)).trans hx147_0; replace hx147_0 := (cell_far (p := ⟨gb146, 1, none⟩) (by first | (rw [add_block]; exact hn147_1) | (show (Addr.add _ _).block ≠ _; rw [add_block]; exact hn147_1) | exact hn147_1) (.int .u64 t139)).trans hx147_0; replace hx147_0 := (cell_far (p := ⟨gb146, 2, none⟩) (by first | (rw [add_block]; exact hn147_2) | (show (Addr.add _ _).block ≠ _; rw [add_block]; exact hn147_2) | exact hn147_2) (.int .u64 t140)).trans hx147_0; replace hx147_0 := (cell_far (p := ⟨gb146, 3, none⟩) (by first | (rw [add_block]; exact hn147_3) | (show (Addr.add _ _).block ≠ _; rw [add_block]; exact hn147_3) | exact hn147_3) (.slice Ao44 t141.length co44)).trans hx147_0; clear hn147_0; clear hn147_1; clear hn147_2; clear hn147_3; replace p147 := eq_true p147; replace q147 := eq_true q147; have p148 : 0 ≤ (1 : Int) := (by omega); have q148 : 1 < (t134.length : Int) := of_decide_eq_true (by first | (with_reducible assumption) | assumption); obtain ⟨ad148, e148, hx148_0⟩ := Kd.at_int (Kd.R_reads' HO136.out).2.2 1 p148 q148; obtain rfl : ad147 = ad148 := (by injection e148); (try simp only [show (1 : Int).toNat = 1 from rfl, Nat.reduceMul, Nat.reduceEqDiff, Go.Addr.add, ↓reduceIte] at hx148_0); have qi148 : (1 < t134.length) = True := eq_true (by omega); (try rw [show ((1 : Int)).toNat = 1 from rfl] at hx148_0); have hn148_0 : ad147.block ≠ gb146 := Kd.own_blk (Kd.R_ne HO136.out BK146.out (by decide)); have hn148_1 : ad147.block ≠ gb146 := Kd.own_blk (Kd.R_ne HO136.out BK146.out (by decide)); have hn148_2 : ad147.block ≠ gb146 := Kd.own_blk (Kd.R_ne HO136.out BK146.out (by decide)); have hn148_3 : ad147.block ≠ gb146 := Kd.own_blk (Kd.R_ne HO136.out BK146.out (by decide)); replace hx148_0 := (cell_far (p := ⟨gb146, 0, none⟩) (by first | (rw [add_block]; exact hn148_0) | (show (Addr.add _ _).block ≠ _; rw [add_block]; exact hn148_0) | exact hn148_0) (.int .i64 t138)).trans hx148_0; replace hx148_0 := (cell_far (p := ⟨gb146, 1, none⟩) (by first | (rw [add_block]; exact hn148_1) | (show (Addr.add _ _).block ≠ _; rw [add_block]; exact hn148_1) | exact hn148_1) (.int .u64 t139)).trans hx148_0; replace hx148_0 := (cell_far (p := ⟨gb146, 2, none⟩) (by first | (rw [add_block]; exact hn148_2) | (show (Addr.add _ _).block ≠ _; rw [add_block]; exact hn148_2) | exact hn148_2) (.int .u64 t140)).trans hx148_0; replace hx148_0 := (cell_far (p := ⟨gb146, 3, none⟩) (by first | (rw [add_block]; exact hn148_3) | (show (Addr.add _ _).block ≠ _; rw [add_block]; exact hn148_3) | exact hn148_3) (.slice Ao44 t141.length co44)).trans hx148_0; clear hn148_0; clear hn148_1; clear hn148_2; clear hn148_3; replace p148 := eq_true p148; replace q148 := eq_true q148))
                go_ret
                exact ⟨by first | rfl | (simp [errW_none, errW_some] <;> rfl) | (simp [*, errW_none, errW_some] <;> rfl), by repeat (first | (with_reducible first | exact HB.out | apply below_alloc | apply pw_below_drewN | apply below_drew1 | refine below_set ?_ GE146.out) | exact HB.out)⟩
            · rw [if_neg c8] at H
              have c8b0 : ((rd t134 1) == 92) = false := beq_eq_false_iff_ne.mpr c8
              have c8b1 : ((rd t134 1) != 92) = true := bne_iff_ne.mpr c8
              obtain rfl := Option.some.inj H
              go_enter Try.func10, Try.ntmps10
              go_wp2_with (first | ((with_reducible refine gate_callee (f := 11) rfl ?_); refine goesL_ (some 8) rfl rfl Try.func11 (by kernel_rfl) rfl #[.agg #[.int .i64 1, .int .u64 1, .int .u64 0, .slice none 0 0]] rfl (by (try simp only [List.map_toArray, List.map_cons, List.map_nil]); first | done | rfl | (simp only [List.length_drop, List.length_take]; rfl)) ?_; (refine (rec_Encode.calls k 1 1 0 (fun k_ => False) _ _ ([] : List Int) t134 t137 _ ?side1 A1.out).mono ?_); (case side1 => exact Kd.V_nil _ _ _ _ _); rintro e w45 ⟨v135, rfl, ho0, hb⟩; refine ⟨_, rfl, ?_⟩; have n0_ := Aside0.mk (Kd.R_lower (Kd.R_mono (ok' := fun k_ => True) ho0 (fun _ hk_ => trivial)) (below_size (by repeat (first | (with_reducible first | exact HB.out | apply below_alloc | apply pw_below_drewN | apply below_drew1) | exact HB.out)))); have n1_ := Aside0.mk (below_step (by repeat (first | (with_reducible first | exact HB.out | apply below_alloc | apply pw_below_drewN | apply below_drew1) | exact HB.out)) hb); clear HB; have HO136 := n0_; have HB := n1_; clear n0_ n1_; (try clear hb); (try clear hb2); (try clear hk); (try clear hi); (try clear ho0); obtain ⟨Ao46, co46, eo46⟩ := Kd.R_slice HO136.out; subst eo46) | ((with_reducible refine gate_callee (f := 14) rfl ?_); refine goesL_ (some 13) rfl rfl Try.func14 (by kernel_rfl) rfl #[.slice Ao46 t134.length co46, .int .i64 0] rfl (by (try simp only [List.map_toArray, List.map_cons, List.map_nil]); first | done | rfl | (simp only [List.length_drop, List.length_take]; rfl)) ?_; (with_reducible refine (rec_Decode.calls _ _ t134 0 t138 t139 t140 t141 t144 t145 _ ?side1 ?side2 A2.out).mono ?_); (case side1 => repeat (first | exact (Kd.R_reads' HO136.out).2.2 | (with_reducible refine Kd.C_alloc ?_ _) | (with_reducible refine Kd.C_drewN ?_ _) | (with_reducible refine Kd.C_drew ?_))); (case side2 => exact (Kd.R_reads' HO136.out).2.1); rintro e w47 ⟨v142, rfl, ho0, hb⟩; refine ⟨_, rfl, ?_⟩; have n0_ := Aside0.mk (Kd.R_elder' (by (with_reducible repeat (first | apply Kd.R_alloc | apply Kd.R_drewN | apply Kd.R_drew)); exact HO136.out) (Kd.R_base ho0) hb); have n1_ := Aside0.mk (Kd.R_lower (Kd.R_new' ho0 (Kd.R_lt (by (with_reducible repeat (first | apply Kd.R_alloc | apply Kd.R_drewN | apply Kd.R_drew)); exact HO136.out))) (below_size (by repeat (first | (with_reducible first | exact HB.out | apply below_alloc | apply pw_below_drewN | apply below_drew1) | exact HB.out)))); have n2_ := Aside0.mk (below_step (by repeat (first | (with_reducible first | exact HB.out | apply below_alloc | apply pw_below_drewN | apply below_drew1) | exact HB.out)) hb); clear HO136; clear HB; have HO136 := n0_; have HO143 := n1_; have HB := n2_; clear n0_ n1_ n2_; (try clear hb); (try clear hb2); (try clear hk); (try clear hi); (try clear ho0)) | ((with_reducible refine gate_dst (N := 3) rfl ?_); (try (refine gate_guard (by rfl) ?_; dsimp only)); refine box_event ?hg (N := 3) ?hd (cs := #[.int .i64 0, .int .u64 0, .int .u64 0, .slice none 0 0]) (t := 25) ?hr ?_; (case hd => rfl); (case hg => rfl); (case hr => first | (go_simp; done) | (go_simp; rfl)); intro gb146 hg w48 hbox hb; have n0_ := Aside0.mk (Kd.R_below (by (with_reducible repeat (first | apply Kd.R_alloc | apply Kd.R_drewN | apply Kd.R_drew)); exact HO136.out) hb); have n1_ := Aside0.mk (Kd.R_below (by (with_reducible repeat (first | apply Kd.R_alloc | apply Kd.R_drewN | apply Kd.R_drew)); exact HO143.out) hb); have n2_ := Aside0.mk (below_step (by repeat (first | (with_reducible first | exact HB.out | apply below_alloc | apply pw_below_drewN | apply below_drew1) | exact HB.out)) hb); have n3_ := Aside0.mk (hbox); have n4_ := Aside0.mk ((by rw [hg]; exact (below_size (by repeat (first | (with_reducible first | exact HB.out | apply below_alloc | apply pw_below_drewN | apply below_drew1) | exact HB.out))) : w.heap.size ≤ gb146)); have n5_ := Aside0.mk ((by rw [hg]; exact (below_size (by repeat (first | (with_reducible first | exact HB.out | apply below_alloc | apply pw_below_drewN | apply below_drew1) | exact HB.out))) : w.heap.size ≤ gb146)); clear HO136; clear HO143; clear HB; have HO136 := n0_; have HO143 := n1_; have HB := n2_; have BK146 := n3_; have GW146 := n4_; have GE146 := n5_; clear n0_ n1_ n2_ n3_ n4_ n5_; clear hb hbox hg; have hcz49_0 : w48.cell? ⟨gb146, 0, none⟩ = some (.int .i64 0) := (blk_cell BK146.out 0).trans rfl; have hcz49_1 : w48.cell? ⟨gb146, 1, none⟩ = some (.int .u64 0) := (blk_cell BK146.out 1).trans rfl; have hcz49_2 : w48.cell? ⟨gb146, 2, none⟩ = some (.int .u64 0) := (blk_cell BK146.out 2).trans rfl; have hcz49_3 : w48.cell? ⟨gb146, 3, none⟩ = some (.slice none 0 0) := (blk_cell BK146.out 3).trans rfl; have hfz49_0 := blk_frozen BK146.out 0; have hfz49_1 := blk_frozen BK146.out 1; have hfz49_2 := blk_frozen BK146.out 2; have hfz49_3 := blk_frozen BK146.out 3; obtain ⟨Ao50, co50, eo50⟩ := Kd.R_slice HO143.out; subst eo50; have p147 : 0 ≤ (0 : Int) := (by omega); have q147 : 0 < (t134.length : Int) := of_decide_eq_true (by first | (with_reducible assumption) | assumption); obtain ⟨ad147, e147, hx147_0⟩ := Kd.at_int (Kd.R_reads' HO136.out).2.2 0 p147 q147; cases e147; have qi147 : (0 < t134.length) = True := eq_true (by omega); (try rw [show ((0 : Int)).toNat = 0 from rfl] at hx147_0); (try rw [Addr.add_zero'] at hx147_0); have hn147_0 : ad147.block ≠ gb146 := Kd.own_blk (Kd.R_ne HO136.out BK146.out (by decide)); have hn147_1 : ad147.block ≠ gb146 := Kd.own_blk (Kd.R_ne HO136.out BK146.out (by decide)); have hn147_2 : ad147.block ≠ gb146 := Kd.own_blk (Kd.R_ne HO136.out BK146.out (by decide)); have hn147_3 : ad147.block ≠ gb146 := Kd.own_blk (Kd.R_ne HO136.out BK146.out (by decide)); replace hx147_0 := (cell_far (p := ⟨gb146, 0, none⟩) (by first | (rw [add_block]; exact hn147_0) | (show (Addr.add _ _).block ≠ _; rw [add_block]; exact hn147_0) | exact hn147_0) (.int .i64 t138)).trans hx147_0; replace hx147_0 := (cell_far (p := ⟨gb146, 1, none⟩) (by first | (rw [add_block]; exact hn147_1) | (show (Addr.add _ _).block ≠ _; rw [add_block]; exact hn147_1) | exact hn147_1) (.int .u64 t139)).trans hx147_0; replace hx147_0 := (cell_far (p := ⟨gb146, 2, none⟩) (by first | (rw [add_block]; exact hn147_2) | (show (Addr.add _ _).block ≠ _; rw [add_block]; exact hn147_2) | exact hn147_2) (.int .u64 t140)).trans hx147_0; replace hx147_0 := (cell_far (p := ⟨gb146, 3, none⟩) (by first | (rw [add_block]; exact hn147_3) | (show (Addr.add _ _).block ≠ _; rw [add_block]; exact hn147_3) | exact hn147_3) (.slice Ao50 t141.length co50)).trans hx147_0; clear hn147_0; clear hn147_1; clear hn147_2; clear hn147_3; replace p147 := eq_true p147; replace q147 := eq_true q147; have p148 : 0 ≤ (1 : Int) := (by omega); have q148 : 1 < (t134.length : Int) := of_decide_eq_true (by first | (with_reducible assumption) | assumption); obtain ⟨ad148, e148, hx148_0⟩ := Kd.at_int (Kd.R_reads' HO136.out).2.2 1 p148 q148; obtain rfl : ad147 = ad148 := (by injection e148); (try simp only [show (1 : Int).toNat = 1 from rfl, Nat.reduceMul, Nat.reduceEqDiff, Go.Addr.add, ↓reduceIte] at hx148_0); have qi148 : (1 < t134.length) = True := eq_true (by omega); (try rw [show ((1 : Int)).toNat = 1 from rfl] at hx148_0); have hn148_0 : ad147.block ≠ gb146 := Kd.own_blk (Kd.R_ne HO136.out BK146.out (by decide)); have hn148_1 : ad147.block ≠ gb146 := Kd.own_blk (Kd.R_ne HO136.out BK146.out (by decide)); have hn148_2 : ad147.block ≠ gb146 := Kd.own_blk (Kd.R_ne HO136.out BK146.out (by decide)); have hn148_3 : ad147.block ≠ gb146 := Kd.own_blk (Kd.R_ne HO136.out BK146.out (by decide)); replace hx148_0 := (cell_far (p := ⟨gb146, 0, none⟩) (by first | (rw [add_block]; exact hn148_0) | (show (Addr.add _ _).block ≠ _; rw [add_block]; exact hn148_0) | exact hn148_0) (.int .i64 t138)).trans hx148_0; replace hx148_0 := (cell_far (p := ⟨gb146, 1, none⟩) (by first | (rw [add_block]; exact hn148_1) | (show (Addr.add _ _).block ≠ _; rw [add_block]; exact hn148_1) | exact hn148_1) (.int .u64 t139)).trans hx148_0; replace hx148_0 := (cell_far (p := ⟨gb146, 2, none⟩) (by first | (rw [add_block]; exact hn148_2) | (show (Addr.add _ _).block ≠ _; rw [add_block]; exact hn148_2) | exact hn148_2) (.int .u64 t140)).trans hx148_0; replace hx148_0 := (cell_far (p := ⟨gb146, 3, none⟩) (by first | (rw [add_block]; exact hn148_3) | (show (Addr.add _ _).block ≠ _; rw [add_block]; exact hn148_3) | exact hn148_3) (.slice Ao50 t141.length co50)).trans hx148_0; clear hn148_0; clear hn148_1; clear hn148_2; clear hn148_3; replace p148 := eq_true p148; replace q148 := eq_true q148))
              go_ret
              exact ⟨by first | rfl | (simp [errW_none, errW_some] <;> rfl) | (simp [*, errW_none, errW_some] <;> rfl), by repeat (first | (with_reducible first | exact HB.out | apply below_alloc | apply pw_below_drewN | apply below_drew1 | refine below_set ?_ GE146.out) | exact HB.out)⟩
          · rw [if_neg c7] at H
            exact absurd H (by simp)
        · rw [if_neg c6] at H
          have c6b0 : ((rd t134 0) == 167) = false := beq_eq_false_iff_ne.mpr c6
          have c6b1 : ((rd t134 0) != 167) = true := bne_iff_ne.mpr c6
          obtain rfl := Option.some.inj H
          go_enter Try.func10, Try.ntmps10
          go_wp2_with (first | ((with_reducible refine gate_callee (f := 11) rfl ?_); refine goesL_ (some 8) rfl rfl Try.func11 (by kernel_rfl) rfl #[.agg #[.int .i64 1, .int .u64 1, .int .u64 0, .slice none 0 0]] rfl (by (try simp only [List.map_toArray, List.map_cons, List.map_nil]); first | done | rfl | (simp only [List.length_drop, List.length_take]; rfl)) ?_; (refine (rec_Encode.calls k 1 1 0 (fun k_ => False) _ _ ([] : List Int) t134 t137 _ ?side1 A1.out).mono ?_); (case side1 => exact Kd.V_nil _ _ _ _ _); rintro e w51 ⟨v135, rfl, ho0, hb⟩; refine ⟨_, rfl, ?_⟩; have n0_ := Aside0.mk (Kd.R_lower (Kd.R_mono (ok' := fun k_ => True) ho0 (fun _ hk_ => trivial)) (below_size (by repeat (first | (with_reducible first | exact HB.out | apply below_alloc | apply pw_below_drewN | apply below_drew1) | exact HB.out)))); have n1_ := Aside0.mk (below_step (by repeat (first | (with_reducible first | exact HB.out | apply below_alloc | apply pw_below_drewN | apply below_drew1) | exact HB.out)) hb); clear HB; have HO136 := n0_; have HB := n1_; clear n0_ n1_; (try clear hb); (try clear hb2); (try clear hk); (try clear hi); (try clear ho0); obtain ⟨Ao52, co52, eo52⟩ := Kd.R_slice HO136.out; subst eo52) | ((with_reducible refine gate_callee (f := 14) rfl ?_); refine goesL_ (some 13) rfl rfl Try.func14 (by kernel_rfl) rfl #[.slice Ao52 t134.length co52, .int .i64 0] rfl (by (try simp only [List.map_toArray, List.map_cons, List.map_nil]); first | done | rfl | (simp only [List.length_drop, List.length_take]; rfl)) ?_; (with_reducible refine (rec_Decode.calls _ _ t134 0 t138 t139 t140 t141 t144 t145 _ ?side1 ?side2 A2.out).mono ?_); (case side1 => repeat (first | exact (Kd.R_reads' HO136.out).2.2 | (with_reducible refine Kd.C_alloc ?_ _) | (with_reducible refine Kd.C_drewN ?_ _) | (with_reducible refine Kd.C_drew ?_))); (case side2 => exact (Kd.R_reads' HO136.out).2.1); rintro e w53 ⟨v142, rfl, ho0, hb⟩; refine ⟨_, rfl, ?_⟩; have n0_ := Aside0.mk (Kd.R_elder' (by (with_reducible repeat (first | apply Kd.R_alloc | apply Kd.R_drewN | apply Kd.R_drew)); exact HO136.out) (Kd.R_base ho0) hb); have n1_ := Aside0.mk (Kd.R_lower (Kd.R_new' ho0 (Kd.R_lt (by (with_reducible repeat (first | apply Kd.R_alloc | apply Kd.R_drewN | apply Kd.R_drew)); exact HO136.out))) (below_size (by repeat (first | (with_reducible first | exact HB.out | apply below_alloc | apply pw_below_drewN | apply below_drew1) | exact HB.out)))); have n2_ := Aside0.mk (below_step (by repeat (first | (with_reducible first | exact HB.out | apply below_alloc | apply pw_below_drewN | apply below_drew1) | exact HB.out)) hb); clear HO136; clear HB; have HO136 := n0_; have HO143 := n1_; have HB := n2_; clear n0_ n1_ n2_; (try clear hb); (try clear hb2); (try clear hk); (try clear hi); (try clear ho0)) | ((with_reducible refine gate_dst (N := 3) rfl ?_); (try (refine gate_guard (by rfl) ?_; dsimp only)); refine box_event ?hg (N := 3) ?hd (cs := #[.int .i64 0, .int .u64 0, .int .u64 0, .slice none 0 0]) (t := 25) ?hr ?_; (case hd => rfl); (case hg => rfl); (case hr => first | (go_simp; done) | (go_simp; rfl)); intro gb146 hg w54 hbox hb; have n0_ := Aside0.mk (Kd.R_below (by (with_reducible repeat (first | apply Kd.R_alloc | apply Kd.R_drewN | apply Kd.R_drew)); exact HO136.out) hb); have n1_ := Aside0.mk (Kd.R_below (by (with_reducible repeat (first | apply Kd.R_alloc | apply Kd.R_drewN | apply Kd.R_drew)); exact HO143.out) hb); have n2_ := Aside0.mk (below_step (by repeat (first | (with_reducible first | exact HB.out | apply below_alloc | apply pw_below_drewN | apply below_drew1) | exact HB.out)) hb); have n3_ := Aside0.mk (hbox); have n4_ := Aside0.mk ((by rw [hg]; exact (below_size (by repeat (first | (with_reducible first | exact HB.out | apply below_alloc | apply pw_below_drewN | apply below_drew1) | exact HB.out))) : w.heap.size ≤ gb146)); have n5_ := Aside0.mk ((by rw [hg]; exact (below_size (by repeat (first | (with_reducible first | exact HB.out | apply below_alloc | apply pw_below_drewN | apply below_drew1) | exact HB.out))) : w.heap.size ≤ gb146)); clear HO136; clear HO143; clear HB; have HO136 := n0_; have HO143 := n1_; have HB := n2_; have BK146 := n3_; have GW146 := n4_; have GE146 := n5_; clear n0_ n1_ n2_ n3_ n4_ n5_; clear hb hbox hg; have hcz55_0 : w54.cell? ⟨gb146, 0, none⟩ = some (.int .i64 0) := (blk_cell BK146.out 0).trans rfl; have hcz55_1 : w54.cell? ⟨gb146, 1, none⟩ = some (.int .u64 0) := (blk_cell BK146.out 1).trans rfl; have hcz55_2 : w54.cell? ⟨gb146, 2, none⟩ = some (.int .u64 0) := (blk_cell BK146.out 2).trans rfl; have hcz55_3 : w54.cell? ⟨gb146, 3, none⟩ = some (.slice none 0 0) := (blk_cell BK146.out 3).trans rfl; have hfz55_0 := blk_frozen BK146.out 0; have hfz55_1 := blk_frozen BK146.out 1; have hfz55_2 := blk_frozen BK146.out 2; have hfz55_3 := blk_frozen BK146.out 3; obtain ⟨Ao56, co56, eo56⟩ := Kd.R_slice HO143.out; subst eo56; have p147 : 0 ≤ (0 : Int) := (by omega); have q147 : 0 < (t134.length : Int) := of_decide_eq_true (by first | (with_reducible assumption) | assumption); obtain ⟨ad147, e147, hx147_0⟩ := Kd.at_int (Kd.R_reads' HO136.out).2.2 0 p147 q147; cases e147; have qi147 : (0 < t134.length) = True := eq_true (by omega); (try rw [show ((0 : Int)).toNat = 0 from rfl] at hx147_0); (try rw [Addr.add_zero'] at hx147_0); have hn147_0 : ad147.block ≠ gb146 := Kd.own_blk (Kd.R_ne HO136.out BK146.out (by decide)); have hn147_1 : ad147.block ≠ gb146 := Kd.own_blk (Kd.R_ne HO136.out BK146.out (by decide)); have hn147_2 : ad147.block ≠ gb146 := Kd.own_blk (Kd.R_ne HO136.out BK146.out (by decide)); have hn147_3 : ad147.block ≠ gb146 := Kd.own_blk (Kd.R_ne HO136.out BK146.out (by decide)); replace hx147_0 := (cell_far (p := ⟨gb146, 0, none⟩) (by first | (rw [add_block]; exact hn147_0) | (show (Addr.add _ _).block ≠ _; rw [add_block]; exact hn147_0) | exact hn147_0) (.int .i64 t138)).trans hx147_0; replace hx147_0 := (cell_far (p := ⟨gb146, 1, none⟩) (by first | (rw [add_block]; exact hn147_1) | (show (Addr.add _ _).block ≠ _; rw [add_block]; exact hn147_1) | exact hn147_1) (.int .u64 t139)).trans hx147_0; replace hx147_0 := (cell_far (p := ⟨gb146, 2, none⟩) (by first | (rw [add_block]; exact hn147_2) | (show (Addr.add _ _).block ≠ _; rw [add_block]; exact hn147_2) | exact hn147_2) (.int .u64 t140)).trans hx147_0; replace hx147_0 := (cell_far (p := ⟨gb146, 3, none⟩) (by first | (rw [add_block]; exact hn147_3) | (show (Addr.add _ _).block ≠ _; rw [add_block]; exact hn147_3) | exact hn147_3) (.slice Ao56 t141.length co56)).trans hx147_0; clear hn147_0; clear hn147_1; clear hn147_2; clear hn147_3; replace p147 := eq_true p147; replace q147 := eq_true q147))
          go_ret
          exact ⟨by first | rfl | (simp [errW_none, errW_some] <;> rfl) | (simp [*, errW_none, errW_some] <;> rfl), by repeat (first | (with_reducible first | exact HB.out | apply below_alloc | apply pw_below_drewN | apply below_drew1 | refine below_set ?_ GE146.out) | exact HB.out)⟩
      · rw [if_neg c5] at H
        exact absurd H (by simp)
    · rw [if_neg c4] at H
      have c4b0 : ((t134.length : Int) == 10) = false := beq_eq_false_iff_ne.mpr c4
      have c4b1 : ((t134.length : Int) != 10) = true := bne_iff_ne.mpr c4
      obtain rfl := Option.some.inj H
      go_enter Try.func10, Try.ntmps10
      go_wp2_with (first | ((with_reducible refine gate_callee (f := 11) rfl ?_); refine goesL_ (some 8) rfl rfl Try.func11 (by kernel_rfl) rfl #[.agg #[.int .i64 1, .int .u64 1, .int .u64 0, .slice none 0 0]] rfl (by (try simp only [List.map_toArray, List.map_cons, List.map_nil]); first | done | rfl | (simp only [List.length_drop, List.length_take]; rfl)) ?_; (refine (rec_Encode.calls k 1 1 0 (fun k_ => False) _ _ ([] : List Int) t134 t137 _ ?side1 A1.out).mono ?_); (case side1 => exact Kd.V_nil _ _ _ _ _); rintro e w57 ⟨v135, rfl, ho0, hb⟩; refine ⟨_, rfl, ?_⟩; have n0_ := Aside0.mk (Kd.R_lower (Kd.R_mono (ok' := fun k_ => True) ho0 (fun _ hk_ => trivial)) (below_size (by repeat (first | (with_reducible first | exact HB.out | apply below_alloc | apply pw_below_drewN | apply below_drew1) | exact HB.out)))); have n1_ := Aside0.mk (below_step (by repeat (first | (with_reducible first | exact HB.out | apply below_alloc | apply pw_below_drewN | apply below_drew1) | exact HB.out)) hb); clear HB; have HO136 := n0_; have HB := n1_; clear n0_ n1_; (try clear hb); (try clear hb2); (try clear hk); (try clear hi); (try clear ho0); obtain ⟨Ao58, co58, eo58⟩ := Kd.R_slice HO136.out; subst eo58) | ((with_reducible refine gate_callee (f := 14) rfl ?_); refine goesL_ (some 13) rfl rfl Try.func14 (by kernel_rfl) rfl #[.slice Ao58 t134.length co58, .int .i64 0] rfl (by (try simp only [List.map_toArray, List.map_cons, List.map_nil]); first | done | rfl | (simp only [List.length_drop, List.length_take]; rfl)) ?_; (with_reducible refine (rec_Decode.calls _ _ t134 0 t138 t139 t140 t141 t144 t145 _ ?side1 ?side2 A2.out).mono ?_); (case side1 => repeat (first | exact (Kd.R_reads' HO136.out).2.2 | (with_reducible refine Kd.C_alloc ?_ _) | (with_reducible refine Kd.C_drewN ?_ _) | (with_reducible refine Kd.C_drew ?_))); (case side2 => exact (Kd.R_reads' HO136.out).2.1); rintro e w59 ⟨v142, rfl, ho0, hb⟩; refine ⟨_, rfl, ?_⟩; have n0_ := Aside0.mk (Kd.R_elder' (by (with_reducible repeat (first | apply Kd.R_alloc | apply Kd.R_drewN | apply Kd.R_drew)); exact HO136.out) (Kd.R_base ho0) hb); have n1_ := Aside0.mk (Kd.R_lower (Kd.R_new' ho0 (Kd.R_lt (by (with_reducible repeat (first | apply Kd.R_alloc | apply Kd.R_drewN | apply Kd.R_drew)); exact HO136.out))) (below_size (by repeat (first | (with_reducible first | exact HB.out | apply below_alloc | apply pw_below_drewN | apply below_drew1) | exact HB.out)))); have n2_ := Aside0.mk (below_step (by repeat (first | (with_reducible first | exact HB.out | apply below_alloc | apply pw_below_drewN | apply below_drew1) | exact HB.out)) hb); clear HO136; clear HB; have HO136 := n0_; have HO143 := n1_; have HB := n2_; clear n0_ n1_ n2_; (try clear hb); (try clear hb2); (try clear hk); (try clear hi); (try clear ho0)) | ((with_reducible refine gate_dst (N := 3) rfl ?_); (try (refine gate_guard (by rfl) ?_; dsimp only)); refine box_event ?hg (N := 3) ?hd (cs := #[.int .i64 0, .int .u64 0, .int .u64 0, .slice none 0 0]) (t := 25) ?hr ?_; (case hd => rfl); (case hg => rfl); (case hr => first | (go_simp; done) | (go_simp; rfl)); intro gb146 hg w60 hbox hb; have n0_ := Aside0.mk (Kd.R_below (by (with_reducible repeat (first | apply Kd.R_alloc | apply Kd.R_drewN | apply Kd.R_drew)); exact HO136.out) hb); have n1_ := Aside0.mk (Kd.R_below (by (with_reducible repeat (first | apply Kd.R_alloc | apply Kd.R_drewN | apply Kd.R_drew)); exact HO143.out) hb); have n2_ := Aside0.mk (below_step (by repeat (first | (with_reducible first | exact HB.out | apply below_alloc | apply pw_below_drewN | apply below_drew1) | exact HB.out)) hb); have n3_ := Aside0.mk (hbox); have n4_ := Aside0.mk ((by rw [hg]; exact (below_size (by repeat (first | (with_reducible first | exact HB.out | apply below_alloc | apply pw_below_drewN | apply below_drew1) | exact HB.out))) : w.heap.size ≤ gb146)); have n5_ := Aside0.mk ((by rw [hg]; exact (below_size (by repeat (first | (with_reducible first | exact HB.out | apply below_alloc | apply pw_below_drewN | apply below_drew1) | exact HB.out))) : w.heap.size ≤ gb146)); clear HO136; clear HO143; clear HB; have HO136 := n0_; have HO143 := n1_; have HB := n2_; have BK146 := n3_; have GW146 := n4_; have GE146 := n5_; clear n0_ n1_ n2_ n3_ n4_ n5_; clear hb hbox hg; have hcz61_0 : w60.cell? ⟨gb146, 0, none⟩ = some (.int .i64 0) := (blk_cell BK146.out 0).trans rfl; have hcz61_1 : w60.cell? ⟨gb146, 1, none⟩ = some (.int .u64 0) := (blk_cell BK146.out 1).trans rfl; have hcz61_2 : w60.cell? ⟨gb146, 2, none⟩ = some (.int .u64 0) := (blk_cell BK146.out 2).trans rfl; have hcz61_3 : w60.cell? ⟨gb146, 3, none⟩ = some (.slice none 0 0) := (blk_cell BK146.out 3).trans rfl; have hfz61_0 := blk_frozen BK146.out 0; have hfz61_1 := blk_frozen BK146.out 1; have hfz61_2 := blk_frozen BK146.out 2; have hfz61_3 := blk_frozen BK146.out 3; obtain ⟨Ao62, co62, eo62⟩ := Kd.R_slice HO143.out; subst eo62))
      go_ret
      exact ⟨by first | rfl | (simp [errW_none, errW_some] <;> rfl) | (simp [*, errW_none, errW_some] <;> rfl), by repeat (first | (with_reducible first | exact HB.out | apply below_alloc | apply pw_below_drewN | apply below_drew1 | refine below_set ?_ GE146.out) | exact HB.out)⟩
  · rw [if_neg c3] at H
    have c3b0 : (t137 == 0) = false := beq_eq_false_iff_ne.mpr c3
    have c3b1 : (t137 != 0) = true := bne_iff_ne.mpr c3
    obtain rfl := Option.some.inj H
    go_enter Try.func10, Try.ntmps10
    go_wp2_with (first | ((with_reducible refine gate_callee (f := 11) rfl ?_); refine goesL_ (some 8) rfl rfl Try.func11 (by kernel_rfl) rfl #[.agg #[.int .i64 1, .int .u64 1, .int .u64 0, .slice none 0 0]] rfl (by (try simp only [List.map_toArray, List.map_cons, List.map_nil]); first | done | rfl | (simp only [List.length_drop, List.length_take]; rfl)) ?_; (refine (rec_Encode.calls k 1 1 0 (fun k_ => False) _ _ ([] : List Int) t134 t137 _ ?side1 A1.out).mono ?_); (case side1 => exact Kd.V_nil _ _ _ _ _); rintro e w63 ⟨v135, rfl, ho0, hb⟩; refine ⟨_, rfl, ?_⟩; have n0_ := Aside0.mk (Kd.R_lower (Kd.R_mono (ok' := fun k_ => True) ho0 (fun _ hk_ => trivial)) (below_size (by repeat (first | (with_reducible first | exact HB.out | apply below_alloc | apply pw_below_drewN | apply below_drew1) | exact HB.out)))); have n1_ := Aside0.mk (below_step (by repeat (first | (with_reducible first | exact HB.out | apply below_alloc | apply pw_below_drewN | apply below_drew1) | exact HB.out)) hb); clear HB; have HO136 := n0_; have HB := n1_; clear n0_ n1_; (try clear hb); (try clear hb2); (try clear hk); (try clear hi); (try clear ho0); obtain ⟨Ao64, co64, eo64⟩ := Kd.R_slice HO136.out; subst eo64) | ((with_reducible refine gate_callee (f := 14) rfl ?_); refine goesL_ (some 13) rfl rfl Try.func14 (by kernel_rfl) rfl #[.slice Ao64 t134.length co64, .int .i64 0] rfl (by (try simp only [List.map_toArray, List.map_cons, List.map_nil]); first | done | rfl | (simp only [List.length_drop, List.length_take]; rfl)) ?_; (with_reducible refine (rec_Decode.calls _ _ t134 0 t138 t139 t140 t141 t144 t145 _ ?side1 ?side2 A2.out).mono ?_); (case side1 => repeat (first | exact (Kd.R_reads' HO136.out).2.2 | (with_reducible refine Kd.C_alloc ?_ _) | (with_reducible refine Kd.C_drewN ?_ _) | (with_reducible refine Kd.C_drew ?_))); (case side2 => exact (Kd.R_reads' HO136.out).2.1); rintro e w65 ⟨v142, rfl, ho0, hb⟩; refine ⟨_, rfl, ?_⟩; have n0_ := Aside0.mk (Kd.R_elder' (by (with_reducible repeat (first | apply Kd.R_alloc | apply Kd.R_drewN | apply Kd.R_drew)); exact HO136.out) (Kd.R_base ho0) hb); have n1_ := Aside0.mk (Kd.R_lower (Kd.R_new' ho0 (Kd.R_lt (by (with_reducible repeat (first | apply Kd.R_alloc | apply Kd.R_drewN | apply Kd.R_drew)); exact HO136.out))) (below_size (by repeat (first | (with_reducible first | exact HB.out | apply below_alloc | apply pw_below_drewN | apply below_drew1) | exact HB.out)))); have n2_ := Aside0.mk (below_step (by repeat (first | (with_reducible first | exact HB.out | apply below_alloc | apply pw_below_drewN | apply below_drew1) | exact HB.out)) hb); clear HO136; clear HB; have HO136 := n0_; have HO143 := n1_; have HB := n2_; clear n0_ n1_ n2_; (try clear hb); (try clear hb2); (try clear hk); (try clear hi); (try clear ho0)) | ((with_reducible refine gate_dst (N := 3) rfl ?_); (try (refine gate_guard (by rfl) ?_; dsimp only)); refine box_event ?hg (N := 3) ?hd (cs := #[.int .i64 0, .int .u64 0, .int .u64 0, .slice none 0 0]) (t := 25) ?hr ?_; (case hd => rfl); (case hg => rfl); (case hr => first | (go_simp; done) | (go_simp; rfl)); intro gb146 hg w66 hbox hb; have n0_ := Aside0.mk (Kd.R_below (by (with_reducible repeat (first | apply Kd.R_alloc | apply Kd.R_drewN | apply Kd.R_drew)); exact HO136.out) hb); have n1_ := Aside0.mk (Kd.R_below (by (with_reducible repeat (first | apply Kd.R_alloc | apply Kd.R_drewN | apply Kd.R_drew)); exact HO143.out) hb); have n2_ := Aside0.mk (below_step (by repeat (first | (with_reducible first | exact HB.out | apply below_alloc | apply pw_below_drewN | apply below_drew1) | exact HB.out)) hb); have n3_ := Aside0.mk (hbox); have n4_ := Aside0.mk ((by rw [hg]; exact (below_size (by repeat (first | (with_reducible first | exact HB.out | apply below_alloc | apply pw_below_drewN | apply below_drew1) | exact HB.out))) : w.heap.size ≤ gb146)); have n5_ := Aside0.mk ((by rw [hg]; exact (below_size (by repeat (first | (with_reducible first | exact HB.out | apply below_alloc | apply pw_below_drewN | apply below_drew1) | exact HB.out))) : w.heap.size ≤ gb146)); clear HO136; clear HO143; clear HB; have HO136 := n0_; have HO143 := n1_; have HB := n2_; have BK146 := n3_; have GW146 := n4_; have GE146 := n5_; clear n0_ n1_ n2_ n3_ n4_ n5_; clear hb hbox hg; have hcz67_0 : w66.cell? ⟨gb146, 0, none⟩ = some (.int .i64 0) := (blk_cell BK146.out 0).trans rfl; have hcz67_1 : w66.cell? ⟨gb146, 1, none⟩ = some (.int .u64 0) := (blk_cell BK146.out 1).trans rfl; have hcz67_2 : w66.cell? ⟨gb146, 2, none⟩ = some (.int .u64 0) := (blk_cell BK146.out 2).trans rfl; have hcz67_3 : w66.cell? ⟨gb146, 3, none⟩ = some (.slice none 0 0) := (blk_cell BK146.out 3).trans rfl; have hfz67_0 := blk_frozen BK146.out 0; have hfz67_1 := blk_frozen BK146.out 1; have hfz67_2 := blk_frozen BK146.out 2; have hfz67_3 := blk_frozen BK146.out 3; obtain ⟨Ao68, co68, eo68⟩ := Kd.R_slice HO143.out; subst eo68))
    go_ret
    exact ⟨by first | rfl | (simp [errW_none, errW_some] <;> rfl) | (simp [*, errW_none, errW_some] <;> rfl), by repeat (first | (with_reducible first | exact HB.out | apply below_alloc | apply pw_below_drewN | apply below_drew1 | refine below_set ?_ GE146.out) | exact HB.out)⟩
end Go.Proofs.Ytdklanenmihpdaa.PL
namespace Go.Proofs.Ytdklanenmihpdaa.PL
open Go.RowKit Go.Proofs.YtdklanenmihpdaaW.PrintWords Go.Proofs.YtdklanenmihpdaaW.PrintLast Go.Proofs.YtdklanenmihpdaaW.PrintMore
attribute [local go_sem] max2_int min2_int max_two min_two max_three min_three max_four min_four
open Go.Proofs.Ytdklanenmihpdaa.Hand
open Go.Proofs.Ytdklanenmihpdaa.PA
set_option linter.unusedVariables false
set_option linter.unusedSimpArgs false
mutual
def tiklaw15_RecApart.j0 : Nat → Bool → Int → Int → Int → List Int → Int → Int → Int → List Int → Option (Bool)
  | 0, _, _, _, _, _, _, _, _, _ => none
  | k + 1, x24, x317000, x317001, x317002, x317003, x318000, x318001, x318002, x318003 => if x24 = true then ((tiklaw15_first.f k).bind fun t319 => (some t319)) else ((rec_Encode.f k x317000 x317001 x317002 x317003).bind fun bt320 => ((rec_Encode.f k x318000 x318001 x318002 x318003).bind fun bt324 => ((rec_May.f x317000 x317001 x317002 x317003).bind fun t328 => (if ((bt320.2 == 0) != t328) = true then (tiklaw15_RecApart.j1 k bt320.1 bt320.2 bt324.1 bt324.2 true x317000 x317001 x317002 x317003 x318000 x318001 x318002 x318003) else (if bt320.2 = 0 then (tiklaw15_RecApart.j1 k bt320.1 bt320.2 bt324.1 bt324.2 false x317000 x317001 x317002 x317003 x318000 x318001 x318002 x318003) else (if bt320.2 = 1 then (tiklaw15_RecApart.j1 k bt320.1 bt320.2 bt324.1 bt324.2 ((bt320.1.length : Int) != 0) x317000 x317001 x317002 x317003 x318000 x318001 x318002 x318003) else (tiklaw15_RecApart.j1 k bt320.1 bt320.2 bt324.1 bt324.2 true x317000 x317001 x317002 x317003 x318000 x318001 x318002 x318003)))))))
def tiklaw15_RecApart.j1 : Nat → List Int → Int → List Int → Int → Bool → Int → Int → Int → List Int → Int → Int → Int → List Int → Option (Bool)
  | 0, _, _, _, _, _, _, _, _, _, _, _, _, _ => none
  | k + 1, x5, x6, x7, x8, x53, x317000, x317001, x317002, x317003, x318000, x318001, x318002, x318003 => if x53 = true then (some false) else (if x6 = 0 then (tiklaw15_RecApart.j2 k x5 x7 (x8 != 0) x317000 x317001 x317002 x317003 x318000 x318001 x318002 x318003) else (tiklaw15_RecApart.j2 k x5 x7 true x317000 x317001 x317002 x317003 x318000 x318001 x318002 x318003))
def tiklaw15_RecApart.j2 : Nat → List Int → List Int → Bool → Int → Int → Int → List Int → Int → Int → Int → List Int → Option (Bool)
  | 0, _, _, _, _, _, _, _, _, _, _, _ => none
  | k + 1, x5, x7, x59, x317000, x317001, x317002, x317003, x318000, x318001, x318002, x318003 => if x59 = true then ((tiklaw15_first.f k).bind fun t329 => (some t329)) else (if (x5.length : Int) < (x7.length : Int) then (if 0 ≤ (x5.length : Int) then (if (x5.length : Int) ≤ (x7.length : Int) then ((tikref_Bytes.f (x7.take ((x5.length : Int) : Int).toNat) x5).bind fun t334 => (if t334 = true then (tiklaw15_RecApart.j3 k x5 x7 true x317000 x317001 x317002 x317003 x318000 x318001 x318002 x318003) else (if (x7.length : Int) < (x5.length : Int) then (if 0 ≤ (x7.length : Int) then (if (x7.length : Int) ≤ (x5.length : Int) then ((tikref_Bytes.f (x5.take ((x7.length : Int) : Int).toNat) x7).bind fun t339 => (tiklaw15_RecApart.j3 k x5 x7 t339 x317000 x317001 x317002 x317003 x318000 x318001 x318002 x318003)) else (none)) else (none)) else (tiklaw15_RecApart.j3 k x5 x7 false x317000 x317001 x317002 x317003 x318000 x318001 x318002 x318003)))) else (none)) else (none)) else (if (x7.length : Int) < (x5.length : Int) then (if 0 ≤ (x7.length : Int) then (if (x7.length : Int) ≤ (x5.length : Int) then ((tikref_Bytes.f (x5.take ((x7.length : Int) : Int).toNat) x7).bind fun t344 => (tiklaw15_RecApart.j3 k x5 x7 t344 x317000 x317001 x317002 x317003 x318000 x318001 x318002 x318003)) else (none)) else (none)) else (tiklaw15_RecApart.j3 k x5 x7 false x317000 x317001 x317002 x317003 x318000 x318001 x318002 x318003)))
def tiklaw15_RecApart.j3 : Nat → List Int → List Int → Bool → Int → Int → Int → List Int → Int → Int → Int → List Int → Option (Bool)
  | 0, _, _, _, _, _, _, _, _, _, _, _ => none
  | k + 1, x5, x7, x9, x317000, x317001, x317002, x317003, x318000, x318001, x318002, x318003 => (tikref_CopyBytes.f x5).bind fun t345 => (if t345.length + x7.length < 140737488355328 then ((rec_Decode.f (t345 ++ x7) (x5.length : Int)).bind fun bt351 => ((tiklaw15_first.f k).bind fun t360 => (if t360 = true then ((tikref_Bytes.f x5 x7).bind fun t361 => ((rec_Same.f x317000 x317001 x317002 x317003 x318000 x318001 x318002 x318003).bind fun t362 => (if (t361 == t362) = true then (if x9 = true then (some false) else (if bt351.2.2.2.2.2 = 0 then ((rec_Same.f bt351.1 bt351.2.1 bt351.2.2.1 bt351.2.2.2.1 x318000 x318001 x318002 x318003).bind fun t363 => (if t363 = true then (some (bt351.2.2.2.2.1 == (wrap64 ((x5.length : Int) + (x7.length : Int))))) else (some false))) else (some false))) else (some false)))) else (some false)))) else (none))
end
def tiklaw15_RecApart.f (k : Nat) (a0_0 : Int) (a0_1 : Int) (a0_2 : Int) (l0_3 : List Int) (a1_0 : Int) (a1_1 : Int) (a1_2 : Int) (l1_3 : List Int) : Option (Bool) := (tiklaw15_first.f k).bind fun t318 => (if t318 = true then (if (l0_3.length : Int) > 3000 then (tiklaw15_RecApart.j0 k true a0_0 a0_1 a0_2 l0_3 a1_0 a1_1 a1_2 l1_3) else (tiklaw15_RecApart.j0 k (decide ((l1_3.length : Int) > 3000)) a0_0 a0_1 a0_2 l0_3 a1_0 a1_1 a1_2 l1_3)) else (some false))
end Go.Proofs.Ytdklanenmihpdaa.PL
namespace Go.Proofs.Ytdklanenmihpdaa.Hand
open Go.RowKit Go.Proofs.YtdklanenmihpdaaW.PrintWords Go.Proofs.YtdklanenmihpdaaW.PrintLast Go.Proofs.YtdklanenmihpdaaW.PrintMore Go.Proofs.Ytdklanenmihpdaa.PA Go.Proofs.Ytdklanenmihpdaa.PL
theorem enc_bytes {k s t : Int} {b : List Int} (h : MayR k s t b) (hb : Bytes255 b) : Bytes255 (encL k s t b) := by
  have hb1 := h.b1
  have hk : 0 ≤ k ∧ k < 256 := by rcases h.may.1 with h | h <;> omega
  intro x hx
  simp only [encL, bodyL, List.mem_cons, List.mem_append] at hx
  rcases hx with rfl | rfl | hx | rfl | hx | hx | hx | hx
  · omega
  · omega
  · exact four_bytes _ x hx
  · exact hk
  · exact varL_bytes s h.s0 h.s1 x hx
  · exact varL_bytes t h.t0 h.t1 x hx
  · exact varL_bytes _ (by omega) (by omega) x hx
  · exact hb x hx
theorem body_bytes {k s t : Int} {b : List Int} (h : MayR k s t b) (hb : Bytes255 b) : Bytes255 (bodyL k s t b) := fun x hx => enc_bytes h hb x (by simp [encL, hx])
theorem enc_small {k s t : Int} {b : List Int} (h : MayR k s t b) (hl : b.length ≤ 3000) : (encL k s t b).length ≤ 3040 ∧ (bodyL k s t b).length ≤ 3040 := by
  have h1 := varL_len s h.s0 h.s1
  have h2 := varL_len t h.t0 h.t1
  have h3 := varL_len (b.length : Int) (by omega) (by omega)
  simp only [encL, bodyL, fourL, List.length_cons, List.length_append, List.length_nil]
  omega
theorem enc_f (k : Nat) (a0 a1 a2 : Int) (l : List Int) (h1 : 0 ≤ a1 ∧ a1 < 18446744073709551616) (h2 : 0 ≤ a2 ∧ a2 < 18446744073709551616) (hb : Bytes255 l) (hl : l.length ≤ 3000) (hk : 40000 ≤ k) :
    rec_Encode.f k a0 a1 a2 l = some (if mayL a0 a1 a2 l.length then (encL a0 a1 a2 l, 0) else ([], 1)) := by
  unfold rec_Encode.f
  rw [may_f, Option.bind_some]
  by_cases hm : mayL a0 a1 a2 l.length
  case neg => rw [decide_eq_false hm, if_neg hm]; exact if_neg (by simp)
  rw [decide_eq_true hm, if_pos hm]
  refine (if_pos rfl).trans ?_
  have hM : MayR a0 a1 a2 l := ⟨hm, h1.1, h2.1⟩
  have hw : IntKind.u64.wrap (l.length : Int) = (l.length : Int) := IntWalk.u64_in _ (by omega)
  have h0 : a0 % 256 = a0 := by rcases hm.1 with h | h <;> omega
  have hs := enc_small hM hl
  have hbb := body_bytes hM hb
  have hj : bytes_Join.f [[a0], varL 9 a1, varL 9 a2, varL 9 (l.length : Int), l] [] = some (bodyL a0 a1 a2 l) := by
    have e : ([[a0], varL 9 a1, varL 9 a2, varL 9 (l.length : Int), l] : List (List Int)).flatten = bodyL a0 a1 a2 l := by simp [bodyL]
    unfold bytes_Join.f
    rw [e]
    exact if_pos ⟨by simp, by simp, rfl, List.all_eq_true.2 (fun x hx => byteB_iff.2 (hbb x hx)), by omega⟩
  have hc := wireCrc_any k (bodyL a0 a1 a2 l) (by omega) hbb (by omega)
  have hf : ∀ c, wire_Four.f c = some (fourL c) := fun _ => rfl
  rw [wireVar_any k (by omega) a1 h1.1 h1.2, Option.bind_some, wireVar_any k (by omega) a2 h2.1 h2.2, Option.bind_some, hw, wireVar_any k (by omega) _ (by omega) (by omega), Option.bind_some, h0, hj, Option.bind_some, Option.bind_some, hc, Option.bind_some, hf, Option.bind_some]
  refine (if_pos (by simp [fourL])).trans ?_
  rw [Option.bind_some]
  refine (if_pos (by simp [fourL]; omega)).trans ?_
  rfl
theorem dec_f (l : List Int) (a : Int) (hb : Bytes255 l) (hl : l.length < 140737488355328) (h0 : 0 ≤ a) (h1 : a ≤ l.length) : rec_Decode.f l a = some (decOut (decV l a)) := by
  unfold rec_Decode.f
  rw [if_pos ⟨List.all_eq_true.2 (fun x hx => byteB_iff.2 (hb x hx)), hl⟩, if_neg (by omega)]
theorem same_f {k s t k' s' t' : Int} {b b' : List Int} (ha : Bytes255 b) (hb : Bytes255 b') : rec_Same.f k s t b k' s' t' b' = some (decide (k = k' ∧ s = s' ∧ t = t' ∧ b = b')) := by
  have e : bytes_Equal.f b b' = some (decide (b = b')) := congrArg some (equal_bytes ha hb)
  unfold rec_Same.f
  rw [e]
  by_cases h1 : k = k' <;> by_cases h2 : s = s' <;> by_cases h3 : t = t' <;> simp [h1, h2, h3]
theorem rfirst_f (k : Nat) (hk : 40000 ≤ k) : tiklaw15_first.f k = some true := by
  have hm : mayL 1 1 0 (([] : List Int).length : Int) := ⟨.inl rfl, by omega, by omega, by omega, by simp⟩
  have hM : MayR 1 1 0 [] := ⟨hm, by omega, by omega⟩
  have he := enc_f k 1 1 0 [] ⟨by omega, by omega⟩ ⟨by omega, by omega⟩ (by simp [Bytes255]) (by simp) hk
  rw [if_pos hm] at he
  have h1 : varL 9 1 = [1] := varL_small 9 1 (by omega) (by omega)
  have h0 : varL 9 0 = [0] := varL_small 9 0 (by omega) (by omega)
  have hlen : (encL 1 1 0 []).length = 10 := by simp [encL, bodyL, fourL, h1, h0]
  have hd := dec_enc [] [] hM
  rw [List.append_nil, List.nil_append] at hd
  have hdf := dec_f (encL 1 1 0 []) 0 (enc_bytes hM (by simp [Bytes255])) (by omega) (by omega) (by omega)
  have hd' : decV (encL 1 1 0 []) 0 = .ok (1, 1, 0, [], 10) := by
    have := hd
    rw [hlen] at this
    simpa using this
  rw [hd'] at hdf
  have hr0 : rd (encL 1 1 0 []) 0 = 167 := rfl
  have hr1 : rd (encL 1 1 0 []) 1 = 92 := rfl
  have hmm : rec_May.f 0 0 0 [] = some false := rfl
  unfold tiklaw15_first.f
  rw [he, Option.bind_some, hdf, Option.bind_some, hlen]
  dsimp only [decOut]
  rw [hr0, hr1, hmm]
  rfl
theorem front_bytes {l : List Int} (h : Bytes255 l) (n : Nat) : Bytes255 (l.take n) := fun x hx => h x (List.mem_of_mem_take hx)
theorem rcopy_f (l : List Int) (h : l.length < 140737488355328) : tikref_CopyBytes.f l = some l := copy_any l h
end Go.Proofs.Ytdklanenmihpdaa.Hand
namespace Go.Proofs.Ytdklanenmihpdaa.Hand
open Go.RowKit Go.Proofs.YtdklanenmihpdaaW.PrintWords Go.Proofs.YtdklanenmihpdaaW.PrintLast Go.Proofs.YtdklanenmihpdaaW.PrintMore Go.Proofs.Ytdklanenmihpdaa.PA
theorem crcV_bound (l : List Int) : 0 ≤ crcV l ∧ crcV l < 4294967296 := by
  unfold crcV nB
  have := (crcL l 0xffffffff#32 ^^^ 0xffffffff#32).isLt
  omega
theorem big_step (n c : Int) (h0 : 0 ≤ n) (h1 : n < 72057594037927936) (hc : 0 ≤ c ∧ c < 256) : Go.bits .or .u64 (IntKind.u64.wrap (n * 256)) (IntKind.u64.wrap c) = n * 256 + c := by
  rw [IntWalk.u64_in _ (by omega), IntWalk.u64_in _ (by omega), u64_or _ _ (by omega) (by omega) (by omega) (by omega)]
  have e1 : (n * 256).toNat = n.toNat * 2 ^ 8 := by omega
  have e2 := or_high c.toNat n.toNat 8 (by omega)
  rw [e1, Nat.or_comm, e2]
  omega
theorem big_any (k : Nat) (hk : 5 ≤ k) (x0 x1 x2 x3 : Int) (h0 : 0 ≤ x0 ∧ x0 < 256) (h1 : 0 ≤ x1 ∧ x1 < 256) (h2 : 0 ≤ x2 ∧ x2 < 256) (h3 : 0 ≤ x3 ∧ x3 < 256) : tikref2_Big.f k [x0, x1, x2, x3] = some (((x0 * 256 + x1) * 256 + x2) * 256 + x3) := by
  obtain ⟨k, rfl⟩ : ∃ m, k = m + 1 + 1 + 1 + 1 + 1 := ⟨k - 5, by omega⟩
  have w : ∀ i : Int, 0 ≤ i → i < 100 → wrap64 (i + 1) = i + 1 := fun i _ _ => IntWalk.wrap64_in _ (by omega)
  have r0 : rd [x0, x1, x2, x3] 0 = x0 := rfl
  have r1 : rd [x0, x1, x2, x3] (0 + 1) = x1 := rfl
  have r2 : rd [x0, x1, x2, x3] (0 + 1 + 1) = x2 := rfl
  have r3 : rd [x0, x1, x2, x3] (0 + 1 + 1 + 1) = x3 := rfl
  have b0 := big_step 0 x0 (by omega) (by omega) h0
  have b1 := big_step (0 * 256 + x0) x1 (by omega) (by omega) h1
  have b2 := big_step ((0 * 256 + x0) * 256 + x1) x2 (by omega) (by omega) h2
  have b3 := big_step (((0 * 256 + x0) * 256 + x1) * 256 + x2) x3 (by omega) (by omega) h3
  unfold tikref2_Big.f
  rw [tikref2_Big.l0]
  refine (if_pos (by simp)).trans ((if_pos (by omega)).trans ?_)
  rw [r0, b0, w 0 (by omega) (by omega), tikref2_Big.l0]
  refine (if_pos (by simp)).trans ((if_pos (by omega)).trans ?_)
  rw [r1, b1, w (0 + 1) (by omega) (by omega), tikref2_Big.l0]
  refine (if_pos (by simp)).trans ((if_pos (by omega)).trans ?_)
  rw [r2, b2, w (0 + 1 + 1) (by omega) (by omega), tikref2_Big.l0]
  refine (if_pos (by simp)).trans ((if_pos (by omega)).trans ?_)
  rw [r3, b3, w (0 + 1 + 1 + 1) (by omega) (by omega), tikref2_Big.l0]
  refine (if_neg (by simp)).trans ?_
  congr 1
  omega
theorem big_four (k : Nat) (hk : 5 ≤ k) (c : Int) (hc : 0 ≤ c ∧ c < 4294967296) : tikref2_Big.f k (fourL c) = some c := by
  unfold fourL
  rw [big_any k hk _ _ _ _ (by omega) (by omega) (by omega) (by omega)]
  congr 1
  omega
theorem decV_nz {l : List Int} {a x : Int} (h : decV l a = .error x) : x ≠ 0 := by
  unfold decV at h
  repeat' split at h
  all_goals first
    | (injection h with h; subst h; decide)
    | (injection h with h; subst h; assumption)
    | cases h
end Go.Proofs.Ytdklanenmihpdaa.Hand
