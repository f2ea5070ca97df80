/- Texts of this claim, put together. -/
import Derived.Test.YtlgfmmkabnbllaaDoorProg
import Derived.Below
import Derived.Deep.Draws
import Derived.Deep.AppendLies
import Derived.Maps.AppendAt
import Derived.OwnWalk
import Derived.Laws.BytesArg
import Derived.Laws.MakeOwn
import Derived.Laws.OwnMore
import Derived.Deep.OwnRows
import Derived.Tactics
import Derived.Lib.ConvBytes
import Derived.Laws.Slices
import Derived.WalkKit
import Derived.KernelRfl
import Derived.RowKit3
import Derived.Deep.LoopGhost
import Derived.Deep.QuietTactic
import Derived.BigQuiet
import Derived.WideLaws
import Derived.Deep.DeepCutAuto
import Derived.Deep.CutBlock
import Derived.Deep.RegionHeld3
import Derived.Laws.Rows
import Derived.Lib.AppendStr
import Derived.ArgAppend
import Derived.Laws.IdiomCopy
import Derived.OrdersHeld
import Derived.Laws.BitsLemmas
import Derived.RowKit
import Derived.Test.YtlgfmmkabnbllaaDoorMDPg
import Derived.Test.YtlgfmmkabnbllaaDoorMDPWWords
import Derived.Test.YtlgfmmkabnbllaaDoorMDPWLast
import Derived.Test.YtlgfmmkabnbllaaDoorMDPWTab
import Derived.Test.YtlgfmmkabnbllaaDoorMDPWApart
import Derived.Test.YtlgfmmkabnbllaaDoorMDPWFoot
import Derived.Test.YtlgfmmkabnbllaaDoorMDPWShare
import Derived.Test.YtlgfmmkabnbllaaDoorMDPWN
import Derived.Test.YtlgfmmkabnbllaaDoorMDPWEqStruct
import Derived.Test.YtlgfmmkabnbllaaDoorMDPWRepsOne
import Derived.Test.YtlgfmmkabnbllaaDoorMDPWInv
import Derived.Test.YtlgfmmkabnbllaaDoorMDPWMore
set_option linter.unusedVariables false
set_option linter.unusedSimpArgs false
namespace Go.Proofs.YtlgfmmkabnbllaaDoor.PV
open Go.RowKit Go.Proofs.YtlgfmmkabnbllaaDoorW.PrintWords Go.Proofs.YtlgfmmkabnbllaaDoorW.PrintLast Go.Proofs.YtlgfmmkabnbllaaDoorW.PrintMore
attribute [local go_sem] max2_int min2_int max_two min_two max_three min_three max_four min_four
open Go.Proofs.YtlgfmmkabnbllaaDoor.Hand
open Go.Proofs.YtlgfmmkabnbllaaDoor.PD
open Go.Proofs.YtlgfmmkabnbllaaDoor.PF (tiklaw23_first.f tiklaw23_first.mono tiklaw23_first.calls)
set_option linter.unusedVariables false
set_option linter.unusedSimpArgs false
def errW : Option Int → Value
  | none => .nilIface
  | some c => .iface 0 (.int .i64 c)
theorem errW_none : errW none = .nilIface := rfl
theorem errW_some (c : Int) : errW (some c) = .iface 0 (.int .i64 c) := rfl
structure S36 where
  f0 : Int
  f1 : Int
  f2 : Int
  f3 : Int
  f4 : Int
  f5 : Nat
def z36 : S36 := ⟨(0 : Int), (0 : Int), (0 : Int), (0 : Int), (0 : Int), (0 : Nat)⟩
def k36 : Kd S36 := Kd.iso (Kd.pair (Kd.int .i64) (Kd.pair (Kd.int .u64) (Kd.pair (Kd.int .u64) (Kd.pair (Kd.int .u64) (Kd.pair (Kd.int .u64) kF64))))) (fun x : S36 => (x.f0, x.f1, x.f2, x.f3, x.f4, x.f5))
theorem k36_open {w : World} {x : S36} {cs : List Value} (h : k36.K w x cs) : cs = [.int .i64 x.f0, .int .u64 x.f1, .int .u64 x.f2, .int .u64 x.f3, .int .u64 x.f4, .float .f64 x.f5] := by
  obtain ⟨_, _, rfl, rfl, ⟨_, _, rfl, rfl, ⟨_, _, rfl, rfl, ⟨_, _, rfl, rfl, ⟨_, _, rfl, rfl, rfl⟩⟩⟩⟩⟩ := h
  exact rfl
def rd_T36 (xs : List S36) (i : Int) : S36 := xs.getD i.toNat z36
theorem at_T36 {w : World} {A : Option Addr} {n : Nat} {xs : List S36} (h : Kd.C k36 w A n xs) (i : Int) (h0 : 0 ≤ i) (h1 : i < n) : ∃ ad , A = some ad ∧ w.cell? (ad.add (i.toNat * 6)) = some (.int .i64 (rd_T36 xs i).f0) ∧ w.cell? ⟨(ad.add (i.toNat * 6)).block, (ad.add (i.toNat * 6)).off + 1, none⟩ = some (.int .u64 (rd_T36 xs i).f1) ∧ w.cell? ⟨(ad.add (i.toNat * 6)).block, (ad.add (i.toNat * 6)).off + 2, none⟩ = some (.int .u64 (rd_T36 xs i).f2) ∧ w.cell? ⟨(ad.add (i.toNat * 6)).block, (ad.add (i.toNat * 6)).off + 3, none⟩ = some (.int .u64 (rd_T36 xs i).f3) ∧ w.cell? ⟨(ad.add (i.toNat * 6)).block, (ad.add (i.toNat * 6)).off + 4, none⟩ = some (.int .u64 (rd_T36 xs i).f4) ∧ w.cell? ⟨(ad.add (i.toNat * 6)).block, (ad.add (i.toNat * 6)).off + 5, none⟩ = some (.float .f64 (rd_T36 xs i).f5) := by
  obtain ⟨ad, c, e, _, hK, hc0⟩ := Kd.C_get h z36 i h0 h1
  have hc : ∀ j u, c[j]? = some u → w.cell? (ad.add (i.toNat * 6 + j)) = some u := hc0
  obtain rfl := k36_open hK
  exact ⟨ad, e, hc 0 _ rfl, by rw [← add_field _ _ 1 (by omega)]; exact hc 1 _ rfl, by rw [← add_field _ _ 2 (by omega)]; exact hc 2 _ rfl, by rw [← add_field _ _ 3 (by omega)]; exact hc 3 _ rfl, by rw [← add_field _ _ 4 (by omega)]; exact hc 4 _ rfl, by rw [← add_field _ _ 5 (by omega)]; exact hc 5 _ rfl⟩
end Go.Proofs.YtlgfmmkabnbllaaDoor.PV
namespace Go.Proofs.YtlgfmmkabnbllaaDoor.PV
open Go.RowKit Go.Proofs.YtlgfmmkabnbllaaDoorW.PrintWords Go.Proofs.YtlgfmmkabnbllaaDoorW.PrintLast Go.Proofs.YtlgfmmkabnbllaaDoorW.PrintMore
attribute [local go_sem] max2_int min2_int max_two min_two max_three min_three max_four min_four
open Go.Proofs.YtlgfmmkabnbllaaDoor.Hand
open Go.Proofs.YtlgfmmkabnbllaaDoor.PD
open Go.Proofs.YtlgfmmkabnbllaaDoor.PF (tiklaw23_first.f tiklaw23_first.mono tiklaw23_first.calls)
set_option linter.unusedVariables false
set_option linter.unusedSimpArgs false
theorem eqA39 (d : Nat) (w : World) (x0 y0 : Int) (x1 y1 : Int) :
    (Op.equalIn (d + 2) 39 (.agg #[.int .u64 x0, .int .u64 x1]) (.agg #[.int .u64 y0, .int .u64 y1])).run Tryd.prog w = .ok (x0 == y0 && (x1 == y1)) w := by
  refine eqA_of Tryd.underlying39 (by kernel_rfl) ?_
  refine eqf_cons (by rfl) (by go_simp; rfl) (by go_simp; rfl) (by go_simp) ?_
  exact eqf_last (by rfl) (by go_simp; rfl) (by go_simp; rfl) (by go_simp)
end Go.Proofs.YtlgfmmkabnbllaaDoor.PV
namespace Go.Proofs.YtlgfmmkabnbllaaDoor.PV
open Go.RowKit Go.Proofs.YtlgfmmkabnbllaaDoorW.PrintWords Go.Proofs.YtlgfmmkabnbllaaDoorW.PrintLast Go.Proofs.YtlgfmmkabnbllaaDoorW.PrintMore
attribute [local go_sem] max2_int min2_int max_two min_two max_three min_three max_four min_four
open Go.Proofs.YtlgfmmkabnbllaaDoor.Hand
open Go.Proofs.YtlgfmmkabnbllaaDoor.PD
open Go.Proofs.YtlgfmmkabnbllaaDoor.PF (tiklaw23_first.f tiklaw23_first.mono tiklaw23_first.calls)
set_option linter.unusedVariables false
set_option linter.unusedSimpArgs false
attribute [local go_sem high] eqA39
mutual
def tiklaw23_DeckPlays.l0 : Nat → List (S36) → Int → Int → Int → Int → Int → Bool → Int → Int → Int → Int → Int → Int → Int → Int → Int → Int → Int → Int → Option (Bool)
 | 0, _, _, _, _, _, _, _, _, _, _, _, _, _, _, _, _, _, _, _ => none
 | k + 1, x0, x5, x114000, x114001, x114002, x114003, x114004, x114005, x114006, x114007, x114008, x114009, x122000, x122001, x122002, x122003, x122004, x122005, x122006 => if x5 < (x0.length : Int) then ((deck_Deck_Rate.f x114000 x114001 x114002 x114003 x114004 x114005 x114006 x114007 x114008 x114009).bind fun bt123 => (if 0 ≤ x5 then ((tiklaw23_Does.f k bt123.2.2.1 bt123.2.2.2.1 bt123.2.2.2.2.1 bt123.2.2.2.2.2.1 bt123.2.2.2.2.2.2.1 bt123.2.2.2.2.2.2.2.1 bt123.2.2.2.2.2.2.2.2.1 bt123.2.2.2.2.2.2.2.2.2.1 bt123.2.2.2.2.2.2.2.2.2.2.1 bt123.2.2.2.2.2.2.2.2.2.2.2 ((rd_T36 x0 x5).f0) ((rd_T36 x0 x5).f1) ((rd_T36 x0 x5).f2) ((rd_T36 x0 x5).f3) ((rd_T36 x0 x5).f4) ((rd_T36 x0 x5).f5)).bind fun bt137 => ((refPlain.f k x122000 x122001 x122002 x122003 x122004 x122005 x122006 ((rd_T36 x0 x5).f0) ((rd_T36 x0 x5).f1) ((rd_T36 x0 x5).f2) ((rd_T36 x0 x5).f3) ((rd_T36 x0 x5).f4) ((rd_T36 x0 x5).f5)).bind fun bt149 => (if bt137.1 = bt149.1 then ((deck_Deck_Mode.f bt137.2.1 bt137.2.2.1 bt137.2.2.2.1 bt137.2.2.2.2.1 bt137.2.2.2.2.2.1 bt137.2.2.2.2.2.2.1 bt137.2.2.2.2.2.2.2.1 bt137.2.2.2.2.2.2.2.2.1 bt137.2.2.2.2.2.2.2.2.2.1 bt137.2.2.2.2.2.2.2.2.2.2).bind fun bt157 => (if bt157.1 = bt149.2.1 then ((deck_Deck_Mode.f bt157.2.1 bt157.2.2.1 bt157.2.2.2.1 bt157.2.2.2.2.1 bt157.2.2.2.2.2.1 bt157.2.2.2.2.2.2.1 bt157.2.2.2.2.2.2.2.1 bt157.2.2.2.2.2.2.2.2.1 bt157.2.2.2.2.2.2.2.2.2.1 bt157.2.2.2.2.2.2.2.2.2.2).bind fun bt168 => (if bt168.1 = 0 then (tiklaw23_DeckPlays.j1 k x0 x5 false bt168.2.1 bt168.2.2.1 bt168.2.2.2.1 bt168.2.2.2.2.1 bt168.2.2.2.2.2.1 bt168.2.2.2.2.2.2.1 bt168.2.2.2.2.2.2.2.1 bt168.2.2.2.2.2.2.2.2.1 bt168.2.2.2.2.2.2.2.2.2.1 bt168.2.2.2.2.2.2.2.2.2.2 bt149.2.1 bt149.2.2.1 bt149.2.2.2.1 bt149.2.2.2.2.1 bt149.2.2.2.2.2.1 bt149.2.2.2.2.2.2.1 bt149.2.2.2.2.2.2.2) else ((deck_Deck_Pos.f bt168.2.1 bt168.2.2.1 bt168.2.2.2.1 bt168.2.2.2.2.1 bt168.2.2.2.2.2.1 bt168.2.2.2.2.2.2.1 bt168.2.2.2.2.2.2.2.1 bt168.2.2.2.2.2.2.2.2.1 bt168.2.2.2.2.2.2.2.2.2.1 bt168.2.2.2.2.2.2.2.2.2.2).bind fun bt179 => (tiklaw23_DeckPlays.j1 k x0 x5 (bt179.1 != bt149.2.2.1) bt179.2.1 bt179.2.2.1 bt179.2.2.2.1 bt179.2.2.2.2.1 bt179.2.2.2.2.2.1 bt179.2.2.2.2.2.2.1 bt179.2.2.2.2.2.2.2.1 bt179.2.2.2.2.2.2.2.2.1 bt179.2.2.2.2.2.2.2.2.2.1 bt179.2.2.2.2.2.2.2.2.2.2 bt149.2.1 bt149.2.2.1 bt149.2.2.2.1 bt149.2.2.2.2.1 bt149.2.2.2.2.2.1 bt149.2.2.2.2.2.2.1 bt149.2.2.2.2.2.2.2)))) else (tiklaw23_DeckPlays.j1 k x0 x5 true bt157.2.1 bt157.2.2.1 bt157.2.2.2.1 bt157.2.2.2.2.1 bt157.2.2.2.2.2.1 bt157.2.2.2.2.2.2.1 bt157.2.2.2.2.2.2.2.1 bt157.2.2.2.2.2.2.2.2.1 bt157.2.2.2.2.2.2.2.2.2.1 bt157.2.2.2.2.2.2.2.2.2.2 bt149.2.1 bt149.2.2.1 bt149.2.2.2.1 bt149.2.2.2.2.1 bt149.2.2.2.2.2.1 bt149.2.2.2.2.2.2.1 bt149.2.2.2.2.2.2.2))) else (tiklaw23_DeckPlays.j1 k x0 x5 true bt137.2.1 bt137.2.2.1 bt137.2.2.2.1 bt137.2.2.2.2.1 bt137.2.2.2.2.2.1 bt137.2.2.2.2.2.2.1 bt137.2.2.2.2.2.2.2.1 bt137.2.2.2.2.2.2.2.2.1 bt137.2.2.2.2.2.2.2.2.2.1 bt137.2.2.2.2.2.2.2.2.2.2 bt149.2.1 bt149.2.2.1 bt149.2.2.2.1 bt149.2.2.2.2.1 bt149.2.2.2.2.2.1 bt149.2.2.2.2.2.2.1 bt149.2.2.2.2.2.2.2)))) else (none))) else ((tiklaw23_first.f k).bind fun t122 => (some t122))
def tiklaw23_DeckPlays.j1 : Nat → List (S36) → Int → Bool → Int → Int → Int → Int → Bool → Int → Int → Int → Int → Int → Int → Int → Int → Int → Int → Int → Int → Option (Bool)
 | 0, _, _, _, _, _, _, _, _, _, _, _, _, _, _, _, _, _, _, _, _ => none
 | k + 1, x0, x5, x60, x114000, x114001, x114002, x114003, x114004, x114005, x114006, x114007, x114008, x114009, x122000, x122001, x122002, x122003, x122004, x122005, x122006 => if x60 = true then (some false) else ((deck_Deck_Rate.f x114000 x114001 x114002 x114003 x114004 x114005 x114006 x114007 x114008 x114009).bind fun bt190 => ((refRate.f x122000 x122001 x122002 x122003 x122004 x122005 x122006).bind fun bt202 => (if (!(bt190.1 == bt202.1) || (!(bt190.2.1 == bt202.2.1))) = true then (some false) else (tiklaw23_DeckPlays.l0 k x0 (wrap64 (x5 + 1)) bt190.2.2.1 bt190.2.2.2.1 bt190.2.2.2.2.1 bt190.2.2.2.2.2.1 bt190.2.2.2.2.2.2.1 bt190.2.2.2.2.2.2.2.1 bt190.2.2.2.2.2.2.2.2.1 bt190.2.2.2.2.2.2.2.2.2.1 bt190.2.2.2.2.2.2.2.2.2.2.1 bt190.2.2.2.2.2.2.2.2.2.2.2 bt202.2.2.1 bt202.2.2.2.1 bt202.2.2.2.2.1 bt202.2.2.2.2.2.1 bt202.2.2.2.2.2.2.1 bt202.2.2.2.2.2.2.2.1 bt202.2.2.2.2.2.2.2.2))))
end
def tiklaw23_DeckPlays.f (k : Nat) (l0 : List (S36)) : Option (Bool) := (tiklaw23_first.f k).bind fun t101 => (if t101 = true then (if (l0.length : Int) > 200 then ((tiklaw23_first.f k).bind fun t102 => (some t102)) else ((deck_New.f).bind fun bt103 => ((refNew.f).bind fun bt114 => (if false = true then (some false) else (tiklaw23_DeckPlays.l0 k l0 0 bt103.1 bt103.2.1 bt103.2.2.1 bt103.2.2.2.1 bt103.2.2.2.2.1 bt103.2.2.2.2.2.1 bt103.2.2.2.2.2.2.1 bt103.2.2.2.2.2.2.2.1 bt103.2.2.2.2.2.2.2.2.1 bt103.2.2.2.2.2.2.2.2.2 bt114.1 bt114.2.1 bt114.2.2.1 bt114.2.2.2.1 bt114.2.2.2.2.1 bt114.2.2.2.2.2.1 bt114.2.2.2.2.2.2))))) else (some false))
def tiklaw23_DeckPlays.T12 : Bool × List (List Nat × List Nat) := (true, [([], []), ([], []), ([], []), ([1, 2], [1, 2]), ([3], [3]), ([0, 4], [0, 4]), ([], []), ([], []), ([], []), ([7, 8], [7, 8]), ([9], [9]), ([6, 10, 5], [6, 10]), ([5, 11], [5, 11]), ([12, 11], [12]), ([13], [13]), ([14, 13, 13], [13, 14]), ([13], [13]), ([16, 13], [13, 16]), ([17, 13], [13, 17]), ([18, 13], [13, 18]), ([15, 19, 13], [13, 15, 19]), ([13, 20], [13, 20]), ([21, 15], [21]), ([22], [22]), ([23, 22, 22], [22, 23]), ([24, 22], [22, 24]), ([25, 24, 22], [22, 25]), ([26], [26]), ([27, 26, 26], [26, 27]), ([26], [26]), ([29, 26], [26, 29]), ([30, 26], [26, 30]), ([31, 26], [26, 31]), ([28, 32, 26], [26, 28, 32]), ([26, 33, 22], [22, 26, 33]), ([22, 34], [22, 34])])
def tiklaw23_DeckPlays.B12 : List Nat := [0, 0, 0, 6, 14, 31, 0, 0, 0, 384, 896, 2047, 4095, 8191, 16383, 32767, 16383, 81919, 212991, 475135, 1048575, 2097151, 4194303, 8388607, 16777215, 33554431, 67108863, 134217727, 268435455, 134217727, 671088639, 1744830463, 3892314111, 8589934591, 17179869183, 34359738367]
theorem tiklaw23_DeckPlays.tab12 : rtab .any (opsOf Tryd.f3 12) = tiklaw23_DeckPlays.T12 := by kernel_rfl
theorem tiklaw23_DeckPlays.bits12 : waitsOk tiklaw23_DeckPlays.T12.2 tiklaw23_DeckPlays.B12 = true := by kernel_rfl
def tiklaw23_DeckPlays.T15 : Bool × List (List Nat × List Nat) := (true, [([], []), ([0], [0]), ([], []), ([2], [2]), ([1, 3], [1, 3]), ([], []), ([5], [5]), ([4, 6], [4, 6])])
def tiklaw23_DeckPlays.B15 : List Nat := [0, 1, 0, 4, 15, 0, 32, 127]
theorem tiklaw23_DeckPlays.tab15 : rtab .any (opsOf Tryd.f3 15) = tiklaw23_DeckPlays.T15 := by kernel_rfl
theorem tiklaw23_DeckPlays.bits15 : waitsOk tiklaw23_DeckPlays.T15.2 tiklaw23_DeckPlays.B15 = true := by kernel_rfl
set_option maxHeartbeats 8000000 in
set_option maxRecDepth 100000 in
theorem tiklaw23_DeckPlays.calls (k : Nat) (A0 : Option Addr) (c0 : Nat) (l0 : List (S36)) (r : Bool) (w : World) (hr0 : Kd.C k36 w A0 l0.length l0) (hc0 : l0.length ≤ c0) (hT : TabW w) (hr_ : Aside0 (r = true)) (h : tiklaw23_DeckPlays.f k l0 = some r) :
  Calls Tryd.prog 3 #[.slice A0 l0.length c0] w fun e w' => e = .returned (.bool r) ∧ Below w.heap.size w w' := by
 have HT := Aside0.mk hT
 clear hT
 have hu30 := Tryd.underlying30
 have hu36 := Tryd.underlying36
 have hu39 := Tryd.underlying39
 have HR0 := Aside0.mk hr0
 have HC0 := Aside0.mk hc0
 clear hr0 hc0
 have HB := Aside0.mk (Below.refl w.heap.size w)
 have H : ((tiklaw23_first.f k).bind fun t101 => (if t101 = true then (if (l0.length : Int) > 200 then ((tiklaw23_first.f k).bind fun t102 => (some t102)) else ((deck_New.f).bind fun bt103 => ((refNew.f).bind fun bt114 => (if false = true then (some false) else (tiklaw23_DeckPlays.l0 k l0 0 bt103.1 bt103.2.1 bt103.2.2.1 bt103.2.2.2.1 bt103.2.2.2.2.1 bt103.2.2.2.2.2.1 bt103.2.2.2.2.2.2.1 bt103.2.2.2.2.2.2.2.1 bt103.2.2.2.2.2.2.2.2.1 bt103.2.2.2.2.2.2.2.2.2 bt114.1 bt114.2.1 bt114.2.2.1 bt114.2.2.2.1 bt114.2.2.2.2.1 bt114.2.2.2.2.2.1 bt114.2.2.2.2.2.2))))) else (some false))) = some r := h
 clear h
 replace H := Option.bind_eq_some_iff.mp H
 obtain ⟨t101, A20, H⟩ := H
 replace H : (if t101 = true then (if (l0.length : Int) > 200 then ((tiklaw23_first.f k).bind fun t102 => (some t102)) else ((deck_New.f).bind fun bt103 => ((refNew.f).bind fun bt114 => (if false = true then (some false) else (tiklaw23_DeckPlays.l0 k l0 0 bt103.1 bt103.2.1 bt103.2.2.1 bt103.2.2.2.1 bt103.2.2.2.2.1 bt103.2.2.2.2.2.1 bt103.2.2.2.2.2.2.1 bt103.2.2.2.2.2.2.2.1 bt103.2.2.2.2.2.2.2.2.1 bt103.2.2.2.2.2.2.2.2.2 bt114.1 bt114.2.1 bt114.2.2.1 bt114.2.2.2.1 bt114.2.2.2.2.1 bt114.2.2.2.2.2.1 bt114.2.2.2.2.2.2))))) else (some false)) = some r := H
 have A2 := Aside0.mk A20
 clear A20
 by_cases c3 : t101 = true
 ·subst c3
  have H1 : (if (l0.length : Int) > 200 then ((tiklaw23_first.f k).bind fun t102 => (some t102)) else ((deck_New.f).bind fun bt103 => ((refNew.f).bind fun bt114 => (if false = true then (some false) else (tiklaw23_DeckPlays.l0 k l0 0 bt103.1 bt103.2.1 bt103.2.2.1 bt103.2.2.2.1 bt103.2.2.2.2.1 bt103.2.2.2.2.2.1 bt103.2.2.2.2.2.2.1 bt103.2.2.2.2.2.2.2.1 bt103.2.2.2.2.2.2.2.2.1 bt103.2.2.2.2.2.2.2.2.2 bt114.1 bt114.2.1 bt114.2.2.1 bt114.2.2.2.1 bt114.2.2.2.2.1 bt114.2.2.2.2.2.1 bt114.2.2.2.2.2.2))))) = some r := by rw [if_pos rfl] at H; exact H
  clear H
  have H := H1
  clear H1
  by_cases c4 : (l0.length : Int) > 200
  ·rw [if_pos c4] at H
   have c4b0 : decide (200 < (l0.length : Int)) = true := decide_eq_true c4
   have c4b1 : decide (200 < l0.length) = true := decide_eq_true (by omega)
   clear c4
   replace H := Option.bind_eq_some_iff.mp H
   obtain ⟨t102, A50, H⟩ := H
   replace H : (some t102) = some r := H
   have A5 := Aside0.mk A50
   clear A50
   obtain rfl := Option.some.inj H
   go_enter Tryd.func3, Tryd.ntmps3
   go_wp2_with (first | ((with_reducible refine gate_callee (f := 12) rfl ?_); refine goesL_ (some 7) rfl rfl Tryd.func12 (by kernel_rfl) rfl #[] rfl (by (try simp only [List.map_toArray, List.map_cons, List.map_nil]); first | done | rfl | (simp only [List.length_drop, List.length_take]; rfl)) ?_; (with_reducible refine (tiklaw23_first.calls k  true _ ?side1 A2.out).mono ?_); (case side1 => first | (with_reducible exact HT.out) | exact tabAt HT.out (by repeat (first | (with_reducible first | exact HB.out | apply below_alloc | apply pw_below_drewN | apply below_drew1) | exact HB.out))); rintro e w6 ⟨rfl, hb⟩; refine ⟨_, rfl, ?_⟩; have n0_ := Aside0.mk (below_step (by repeat (first | (with_reducible first | exact HB.out | apply below_alloc | apply pw_below_drewN | apply below_drew1) | exact HB.out)) hb); clear HB; have HB := n0_; clear n0_; (try clear hb); (try clear hb2); (try clear hk); (try clear hi)) | ((with_reducible refine gate_callee (f := 12) rfl ?_); refine goesL_ (some 12) rfl rfl Tryd.func12 (by kernel_rfl) rfl #[] rfl (by (try simp only [List.map_toArray, List.map_cons, List.map_nil]); first | done | rfl | (simp only [List.length_drop, List.length_take]; rfl)) ?_; (with_reducible refine (tiklaw23_first.calls k  t102 _ ?side1 A5.out).mono ?_); (case side1 => first | (with_reducible exact HT.out) | exact tabAt HT.out (by repeat (first | (with_reducible first | exact HB.out | apply below_alloc | apply pw_below_drewN | apply below_drew1) | exact HB.out))); rintro e w7 ⟨rfl, hb⟩; refine ⟨_, rfl, ?_⟩; have n0_ := Aside0.mk (below_step (by repeat (first | (with_reducible first | exact HB.out | apply below_alloc | apply pw_below_drewN | apply below_drew1) | exact HB.out)) hb); clear HB; have HB := n0_; clear n0_; (try clear hb); (try clear hb2); (try clear hk); (try clear hi)))
   go_ret
   exact ⟨by first | rfl | (simp [errW_none, errW_some] <;> rfl) | (simp [*, errW_none, errW_some] <;> rfl), by repeat (first | (with_reducible first | exact HB.out | apply below_alloc | apply pw_below_drewN | apply below_drew1) | exact HB.out)⟩
  ·rw [if_neg c4] at H
   have c4b0 : decide (200 < (l0.length : Int)) = false := decide_eq_false c4
   have c4b1 : decide (200 < l0.length) = false := decide_eq_false (by omega)
   clear c4
   replace H := Option.bind_eq_some_iff.mp H
   obtain ⟨⟨t103, t104, t105, t106, t107, t108, t109, t110, t111, t112⟩, A80, H⟩ := H
   replace H : ((refNew.f).bind fun bt114 => (if false = true then (some false) else (tiklaw23_DeckPlays.l0 k l0 0 t103 t104 t105 t106 t107 t108 t109 t110 t111 t112 bt114.1 bt114.2.1 bt114.2.2.1 bt114.2.2.2.1 bt114.2.2.2.2.1 bt114.2.2.2.2.2.1 bt114.2.2.2.2.2.2))) = some r := H
   have A8 := Aside0.mk A80
   clear A80
   replace H := Option.bind_eq_some_iff.mp H
   obtain ⟨⟨t114, t115, t116, t117, t118, t119, t120⟩, A90, H⟩ := H
   replace H : (if false = true then (some false) else (tiklaw23_DeckPlays.l0 k l0 0 t103 t104 t105 t106 t107 t108 t109 t110 t111 t112 t114 t115 t116 t117 t118 t119 t120)) = some r := H
   have A9 := Aside0.mk A90
   clear A90
   have H1 : (tiklaw23_DeckPlays.l0 k l0 0 t103 t104 t105 t106 t107 t108 t109 t110 t111 t112 t114 t115 t116 t117 t118 t119 t120) = some r := by first | (rw [if_neg (show ¬ (false = true) by decide)] at H; exact H) | exact (if_neg not_false).symm.trans H
   clear H
   have H := H1
   clear H1
   have H' := Aside0.mk H
   clear H
   go_enter Tryd.func3, Tryd.ntmps3
   go_wp2_with (first | ((with_reducible refine gate_callee (f := 12) rfl ?_); refine goesL_ (some 7) rfl rfl Tryd.func12 (by kernel_rfl) rfl #[] rfl (by (try simp only [List.map_toArray, List.map_cons, List.map_nil]); first | done | rfl | (simp only [List.length_drop, List.length_take]; rfl)) ?_; (with_reducible refine (tiklaw23_first.calls k  true _ ?side1 A2.out).mono ?_); (case side1 => first | (with_reducible exact HT.out) | exact tabAt HT.out (by repeat (first | (with_reducible first | exact HB.out | apply below_alloc | apply pw_below_drewN | apply below_drew1) | exact HB.out))); rintro e w10 ⟨rfl, hb⟩; refine ⟨_, rfl, ?_⟩; have n0_ := Aside0.mk (below_step (by repeat (first | (with_reducible first | exact HB.out | apply below_alloc | apply pw_below_drewN | apply below_drew1) | exact HB.out)) hb); clear HB; have HB := n0_; clear n0_; (try clear hb); (try clear hb2); (try clear hk); (try clear hi)) | ((with_reducible refine gate_callee (f := 13) rfl ?_); refine goesL_ (some 13) rfl rfl Tryd.func13 (by kernel_rfl) rfl #[] rfl (by (try simp only [List.map_toArray, List.map_cons, List.map_nil]); first | done | rfl | (simp only [List.length_drop, List.length_take]; rfl)) ?_; (with_reducible refine (deck_New.calls  t103 t104 t105 t106 t107 t108 t109 t110 t111 t112 w _ ?side1 A8.out).mono ?_); (case side1 => repeat (first | (with_reducible first | exact HB.out | apply below_alloc | apply pw_below_drewN | apply below_drew1) | exact HB.out)); rintro e w11 ⟨g113, rfl, hi, hb, hb2, hnew⟩; refine ⟨_, rfl, ?_⟩; have n0_ := Aside0.mk (hb); have n1_ := Aside0.mk (hi); clear HB; have HB := n0_; have HI113 := n1_; clear n0_ n1_; (try clear hb); (try clear hb2); (try clear hk); (try clear hi)) | ((with_reducible refine gate_callee (f := 14) rfl ?_); refine goesL_ (some 14) rfl rfl Tryd.func14 (by kernel_rfl) rfl #[] rfl (by (try simp only [List.map_toArray, List.map_cons, List.map_nil]); first | done | rfl | (simp only [List.length_drop, List.length_take]; rfl)) ?_; (with_reducible refine (refNew.calls  t114 t115 t116 t117 t118 t119 t120 w _ ?side1 A9.out).mono ?_); (case side1 => repeat (first | (with_reducible first | exact HB.out | apply below_alloc | apply pw_below_drewN | apply below_drew1 | refine below_set ?_ (IsS100.ge HI113.out)) | exact HB.out)); rintro e w12 ⟨g121, rfl, hi, hb, hb2, hnew⟩; refine ⟨_, rfl, ?_⟩; have n0_ := Aside0.mk ((Nat.ne_of_lt (Nat.lt_of_lt_of_le (IsS100.lt (show IsS100 w _ g113 t103 t104 t105 t106 t107 t108 t109 t110 t111 t112 from by repeat (first | (with_reducible first | exact HI113.out | apply IsS100.alloc | apply IsS100.drewN | apply IsS100.drew) | exact HI113.out))) hnew) : g113 ≠ g121)); have n1_ := Aside0.mk ((Nat.ne_of_gt (Nat.lt_of_lt_of_le (IsS100.lt (show IsS100 w _ g113 t103 t104 t105 t106 t107 t108 t109 t110 t111 t112 from by repeat (first | (with_reducible first | exact HI113.out | apply IsS100.alloc | apply IsS100.drewN | apply IsS100.drew) | exact HI113.out))) hnew) : g121 ≠ g113)); have n2_ := Aside0.mk (IsS100.below (by repeat (first | (with_reducible first | exact HI113.out | apply IsS100.alloc | apply IsS100.drewN | apply IsS100.drew) | exact HI113.out)) hb2); have n3_ := Aside0.mk (hb); have n4_ := Aside0.mk (hi); clear HI113; clear HB; have NB113_121 := n0_; have NB121_113 := n1_; have HI113 := n2_; have HB := n3_; have HI121 := n4_; clear n0_ n1_ n2_ n3_ n4_; (try clear hb); (try clear hb2); (try clear hk); (try clear hi)))
   go_loopg [5] k (fun kq v5 w' => ∃ (x5_1 : Int) (x114000_1 : Int) (x114001_1 : Int) (x114002_1 : Int) (x114003_1 : Int) (x114004_1 : Bool) (x114005_1 : Int) (x114006_1 : Int) (x114007_1 : Int) (x114008_1 : Int) (x114009_1 : Int) (x122000_1 : Int) (x122001_1 : Int) (x122002_1 : Int) (x122003_1 : Int) (x122004_1 : Int) (x122005_1 : Int) (x122006_1 : Int), v5 = .int .i64 x5_1 ∧ Aside0 (tiklaw23_DeckPlays.l0 kq l0 x5_1 x114000_1 x114001_1 x114002_1 x114003_1 x114004_1 x114005_1 x114006_1 x114007_1 x114008_1 x114009_1 x122000_1 x122001_1 x122002_1 x122003_1 x122004_1 x122005_1 x122006_1 = some r) ∧ Aside0 (kq ≤ k) ∧ Aside0 (IsS100 w w' g113 x114000_1 x114001_1 x114002_1 x114003_1 x114004_1 x114005_1 x114006_1 x114007_1 x114008_1 x114009_1) ∧ Aside0 (IsS43 w w' g121 x122000_1 x122001_1 x122002_1 x122003_1 x122004_1 x122005_1 x122006_1) ∧ Aside0 (Below w.heap.size w w'))
   case atStart => exact ⟨(0), (t103), (t104), (t105), (t106), (t107), (t108), (t109), (t110), (t111), (t112), (t114), (t115), (t116), (t117), (t118), (t119), (t120), (by first | rfl | (simp; done) | (simp [*]; done)), H', ⟨Nat.le_refl _⟩, ⟨by repeat (first | (with_reducible first | exact HI113.out | apply IsS100.alloc | apply IsS100.drewN | apply IsS100.drew) | exact HI113.out)⟩, ⟨by repeat (first | (with_reducible first | exact HI121.out | apply IsS43.alloc | apply IsS43.drewN | apply IsS43.drew) | exact HI121.out)⟩, ⟨by repeat (first | (with_reducible first | exact HB.out | apply below_alloc | apply pw_below_drewN | apply below_drew1 | refine below_set ?_ (IsS100.ge HI113.out) | refine below_set ?_ (IsS43.ge HI121.out)) | exact HB.out)⟩⟩
   case round =>
    clear H'
    try clear c1
    try clear p2
    try clear c3
    try clear c4
    try clear c4b0
    try clear c4b1
    try clear c12
    obtain ⟨x5_1, x114000_1, x114001_1, x114002_1, x114003_1, x114004_1, x114005_1, x114006_1, x114007_1, x114008_1, x114009_1, x122000_1, x122001_1, x122002_1, x122003_1, x122004_1, x122005_1, x122006_1, rfl, HA, HK1, HI113, HI121, HB⟩ := hrel
    cases gk with
    | zero => exact absurd HA.out (by simp [tiklaw23_DeckPlays.l0])
    | succ k1 =>
     have H := HA.out
     clear HA
     simp only [tiklaw23_DeckPlays.l0] at H
     by_cases c13 : x5_1 < (l0.length : Int)
     ·rw [if_pos c13] at H
      have c13b0 : decide (x5_1 < (l0.length : Int)) = true := decide_eq_true c13
      clear c13
      replace H := Option.bind_eq_some_iff.mp H
      obtain ⟨⟨t123, t124, t125, t126, t127, t128, t129, t130, t131, t132, t133, t134⟩, A140, H⟩ := H
      replace H : (if 0 ≤ x5_1 then ((tiklaw23_Does.f k1 t125 t126 t127 t128 t129 t130 t131 t132 t133 t134 ((rd_T36 l0 x5_1).f0) ((rd_T36 l0 x5_1).f1) ((rd_T36 l0 x5_1).f2) ((rd_T36 l0 x5_1).f3) ((rd_T36 l0 x5_1).f4) ((rd_T36 l0 x5_1).f5)).bind fun bt137 => ((refPlain.f k1 x122000_1 x122001_1 x122002_1 x122003_1 x122004_1 x122005_1 x122006_1 ((rd_T36 l0 x5_1).f0) ((rd_T36 l0 x5_1).f1) ((rd_T36 l0 x5_1).f2) ((rd_T36 l0 x5_1).f3) ((rd_T36 l0 x5_1).f4) ((rd_T36 l0 x5_1).f5)).bind fun bt149 => (if bt137.1 = bt149.1 then ((deck_Deck_Mode.f bt137.2.1 bt137.2.2.1 bt137.2.2.2.1 bt137.2.2.2.2.1 bt137.2.2.2.2.2.1 bt137.2.2.2.2.2.2.1 bt137.2.2.2.2.2.2.2.1 bt137.2.2.2.2.2.2.2.2.1 bt137.2.2.2.2.2.2.2.2.2.1 bt137.2.2.2.2.2.2.2.2.2.2).bind fun bt157 => (if bt157.1 = bt149.2.1 then ((deck_Deck_Mode.f bt157.2.1 bt157.2.2.1 bt157.2.2.2.1 bt157.2.2.2.2.1 bt157.2.2.2.2.2.1 bt157.2.2.2.2.2.2.1 bt157.2.2.2.2.2.2.2.1 bt157.2.2.2.2.2.2.2.2.1 bt157.2.2.2.2.2.2.2.2.2.1 bt157.2.2.2.2.2.2.2.2.2.2).bind fun bt168 => (if bt168.1 = 0 then (tiklaw23_DeckPlays.j1 k1 l0 x5_1 false bt168.2.1 bt168.2.2.1 bt168.2.2.2.1 bt168.2.2.2.2.1 bt168.2.2.2.2.2.1 bt168.2.2.2.2.2.2.1 bt168.2.2.2.2.2.2.2.1 bt168.2.2.2.2.2.2.2.2.1 bt168.2.2.2.2.2.2.2.2.2.1 bt168.2.2.2.2.2.2.2.2.2.2 bt149.2.1 bt149.2.2.1 bt149.2.2.2.1 bt149.2.2.2.2.1 bt149.2.2.2.2.2.1 bt149.2.2.2.2.2.2.1 bt149.2.2.2.2.2.2.2) else ((deck_Deck_Pos.f bt168.2.1 bt168.2.2.1 bt168.2.2.2.1 bt168.2.2.2.2.1 bt168.2.2.2.2.2.1 bt168.2.2.2.2.2.2.1 bt168.2.2.2.2.2.2.2.1 bt168.2.2.2.2.2.2.2.2.1 bt168.2.2.2.2.2.2.2.2.2.1 bt168.2.2.2.2.2.2.2.2.2.2).bind fun bt179 => (tiklaw23_DeckPlays.j1 k1 l0 x5_1 (bt179.1 != bt149.2.2.1) bt179.2.1 bt179.2.2.1 bt179.2.2.2.1 bt179.2.2.2.2.1 bt179.2.2.2.2.2.1 bt179.2.2.2.2.2.2.1 bt179.2.2.2.2.2.2.2.1 bt179.2.2.2.2.2.2.2.2.1 bt179.2.2.2.2.2.2.2.2.2.1 bt179.2.2.2.2.2.2.2.2.2.2 bt149.2.1 bt149.2.2.1 bt149.2.2.2.1 bt149.2.2.2.2.1 bt149.2.2.2.2.2.1 bt149.2.2.2.2.2.2.1 bt149.2.2.2.2.2.2.2)))) else (tiklaw23_DeckPlays.j1 k1 l0 x5_1 true bt157.2.1 bt157.2.2.1 bt157.2.2.2.1 bt157.2.2.2.2.1 bt157.2.2.2.2.2.1 bt157.2.2.2.2.2.2.1 bt157.2.2.2.2.2.2.2.1 bt157.2.2.2.2.2.2.2.2.1 bt157.2.2.2.2.2.2.2.2.2.1 bt157.2.2.2.2.2.2.2.2.2.2 bt149.2.1 bt149.2.2.1 bt149.2.2.2.1 bt149.2.2.2.2.1 bt149.2.2.2.2.2.1 bt149.2.2.2.2.2.2.1 bt149.2.2.2.2.2.2.2))) else (tiklaw23_DeckPlays.j1 k1 l0 x5_1 true bt137.2.1 bt137.2.2.1 bt137.2.2.2.1 bt137.2.2.2.2.1 bt137.2.2.2.2.2.1 bt137.2.2.2.2.2.2.1 bt137.2.2.2.2.2.2.2.1 bt137.2.2.2.2.2.2.2.2.1 bt137.2.2.2.2.2.2.2.2.2.1 bt137.2.2.2.2.2.2.2.2.2.2 bt149.2.1 bt149.2.2.1 bt149.2.2.2.1 bt149.2.2.2.2.1 bt149.2.2.2.2.2.1 bt149.2.2.2.2.2.2.1 bt149.2.2.2.2.2.2.2)))) else (none)) = some r := H
      have A14 := Aside0.mk A140
      clear A140
      have HC15 := Aside0.mk H
      clear H
      go_upto_region 12 with (first | ((with_reducible refine gate_callee (f := 15) rfl ?_); refine goesL_ (some 24) rfl rfl Tryd.func15 (by kernel_rfl) rfl #[.pointer (some ⟨g113, 0, none⟩)] rfl (by (try simp only [List.map_toArray, List.map_cons, List.map_nil]); first | done | rfl | (simp only [List.length_drop, List.length_take]; rfl)) ?_; (with_reducible refine (deck_Deck_Rate.calls g113 x114000_1 x114001_1 x114002_1 x114003_1 x114004_1 x114005_1 x114006_1 x114007_1 x114008_1 x114009_1 t123 t124 t125 t126 t127 t128 t129 t130 t131 t132 t133 t134 w _ ?side1 ?side2 A14.out).mono ?_); (case side1 => repeat (first | (with_reducible first | exact HI113.out | apply IsS100.alloc | apply IsS100.drewN | apply IsS100.drew) | exact HI113.out)); (case side2 => repeat (first | (with_reducible first | exact HB.out | apply below_alloc | apply pw_below_drewN | apply below_drew1 | refine below_set ?_ (IsS100.ge HI113.out) | refine below_set ?_ (IsS43.ge HI121.out)) | exact HB.out)); rintro e w16 ⟨rfl, hi, hb, hk⟩; refine ⟨_, rfl, ?_⟩; have n0_ := Aside0.mk (keepRef (show IsS43 w _ g121 x122000_1 x122001_1 x122002_1 x122003_1 x122004_1 x122005_1 x122006_1 from by repeat (first | (with_reducible first | exact HI121.out | apply IsS43.alloc | apply IsS43.drewN | apply IsS43.drew) | exact HI121.out)) hk (NB121_113.out)); have n1_ := Aside0.mk (hb); have n2_ := Aside0.mk (hi); clear HI121; clear HB; clear HI113; have HI121 := n0_; have HB := n1_; have HI113 := n2_; clear n0_ n1_ n2_; (try clear hb); (try clear hb2); (try clear hk); (try clear hi)) | ((with_reducible refine gate_dst (N := 6) rfl ?_); refine box_event ?hg (N := 6) ?hd (cs := #[.int .u64 0, .int .u64 0]) (t := 30) ?hr ?_; (case hd => rfl); (case hg => rfl); (case hr => first | (go_simp; done) | (go_simp; rfl)); intro gb135 hg w17 hbox hb; have n0_ := Aside0.mk (IsS100.below (by repeat (first | (with_reducible first | exact HI113.out | apply IsS100.alloc | apply IsS100.drewN | apply IsS100.drew) | exact HI113.out)) hb); have n1_ := Aside0.mk (IsS43.below (by repeat (first | (with_reducible first | exact HI121.out | apply IsS43.alloc | apply IsS43.drewN | apply IsS43.drew) | exact HI121.out)) hb); have n2_ := Aside0.mk (below_step (by repeat (first | (with_reducible first | exact HB.out | apply below_alloc | apply pw_below_drewN | apply below_drew1 | refine below_set ?_ (IsS100.ge HI113.out) | refine below_set ?_ (IsS43.ge HI121.out)) | exact HB.out)) hb); have n3_ := Aside0.mk (hbox); have n4_ := Aside0.mk ((by rw [hg]; exact (below_size (by repeat (first | (with_reducible first | exact HB.out | apply below_alloc | apply pw_below_drewN | apply below_drew1 | refine below_set ?_ (IsS100.ge HI113.out) | refine below_set ?_ (IsS43.ge HI121.out)) | exact HB.out))) : w.heap.size ≤ gb135)); have n5_ := Aside0.mk ((by rw [hg]; exact (below_size (by repeat (first | (with_reducible first | exact HB.out | apply below_alloc | apply pw_below_drewN | apply below_drew1 | refine below_set ?_ (IsS100.ge HI113.out) | refine below_set ?_ (IsS43.ge HI121.out)) | exact HB.out))) : w.heap.size ≤ gb135)); have n6_ := Aside0.mk ((by rw [hg]; exact Nat.ne_of_lt (IsS100.lt (show IsS100 w _ g113 t125 t126 t127 t128 t129 t130 t131 t132 t133 t134 from by repeat (first | (with_reducible first | exact HI113.out | apply IsS100.alloc | apply IsS100.drewN | apply IsS100.drew) | exact HI113.out))) : g113 ≠ gb135)); have n7_ := Aside0.mk ((by rw [hg]; exact Nat.ne_of_gt (IsS100.lt (show IsS100 w _ g113 t125 t126 t127 t128 t129 t130 t131 t132 t133 t134 from by repeat (first | (with_reducible first | exact HI113.out | apply IsS100.alloc | apply IsS100.drewN | apply IsS100.drew) | exact HI113.out))) : gb135 ≠ g113)); have n8_ := Aside0.mk ((by rw [hg]; exact Nat.ne_of_lt (IsS43.lt (show IsS43 w _ g121 x122000_1 x122001_1 x122002_1 x122003_1 x122004_1 x122005_1 x122006_1 from by repeat (first | (with_reducible first | exact HI121.out | apply IsS43.alloc | apply IsS43.drewN | apply IsS43.drew) | exact HI121.out))) : g121 ≠ gb135)); have n9_ := Aside0.mk ((by rw [hg]; exact Nat.ne_of_gt (IsS43.lt (show IsS43 w _ g121 x122000_1 x122001_1 x122002_1 x122003_1 x122004_1 x122005_1 x122006_1 from by repeat (first | (with_reducible first | exact HI121.out | apply IsS43.alloc | apply IsS43.drewN | apply IsS43.drew) | exact HI121.out))) : gb135 ≠ g121)); clear HI113; clear HI121; clear HB; have HI113 := n0_; have HI121 := n1_; have HB := n2_; have BK135 := n3_; have GW135 := n4_; have GE135 := n5_; have NB113_135 := n6_; have NB135_113 := n7_; have NB121_135 := n8_; have NB135_121 := n9_; clear n0_ n1_ n2_ n3_ n4_ n5_ n6_ n7_ n8_ n9_; clear hb hbox hg; have hnb18 := NB135_113.out; have hnc18 := NB113_135.out; have hnb19 := NB135_121.out; have hnc19 := NB121_135.out; have hcz20_0 : w17.cell? ⟨gb135, 0, none⟩ = some (.int .u64 0) := (blk_cell BK135.out 0).trans rfl; have hcz20_1 : w17.cell? ⟨gb135, 1, none⟩ = some (.int .u64 0) := (blk_cell BK135.out 1).trans rfl; have hfz20_0 := blk_frozen BK135.out 0; have hfz20_1 := blk_frozen BK135.out 1))
      (try simp only [Act.put, List.setIfInBounds_toArray, List.set_cons_zero, List.set_cons_succ])
      go_cut [60] (fun v60 wc => ∃ (kq : Nat) (x60_14 : Bool) (x114000_14 : Int) (x114001_14 : Int) (x114002_14 : Int) (x114003_14 : Int) (x114004_14 : Bool) (x114005_14 : Int) (x114006_14 : Int) (x114007_14 : Int) (x114008_14 : Int) (x114009_14 : Int) (x122000_14 : Int) (x122001_14 : Int) (x122002_14 : Int) (x122003_14 : Int) (x122004_14 : Int) (x122005_14 : Int) (x122006_14 : Int), v60 = .bool x60_14 ∧ Aside0 (tiklaw23_DeckPlays.j1 kq l0 x5_1 x60_14 x114000_14 x114001_14 x114002_14 x114003_14 x114004_14 x114005_14 x114006_14 x114007_14 x114008_14 x114009_14 x122000_14 x122001_14 x122002_14 x122003_14 x122004_14 x122005_14 x122006_14 = some r) ∧ Aside0 (kq ≤ k1) ∧ Aside0 (wc.heap[gb135]? = some (.cells #[.int .u64 t123, .int .u64 t124] 30 (0, 0))) ∧ Aside0 (IsS100 w wc g113 x114000_14 x114001_14 x114002_14 x114003_14 x114004_14 x114005_14 x114006_14 x114007_14 x114008_14 x114009_14) ∧ Aside0 (IsS43 w wc g121 x122000_14 x122001_14 x122002_14 x122003_14 x122004_14 x122005_14 x122006_14) ∧ Aside0 (Below w.heap.size w wc))
      case first =>
       have H := HC15.out
       clear HC15
       by_cases c21 : 0 ≤ x5_1
       ·rw [if_pos c21] at H
        have c21b0 : decide (0 ≤ x5_1) = true := decide_eq_true c21
        clear c21
        (first | rw [c21b0] | (simp only [i64_w, i32_w]; rw [c21b0]) | skip)
        replace H := Option.bind_eq_some_iff.mp H
        obtain ⟨⟨t137, t138, t139, t140, t141, t142, t143, t144, t145, t146, t147⟩, A220, H⟩ := H
        replace H : ((refPlain.f k1 x122000_1 x122001_1 x122002_1 x122003_1 x122004_1 x122005_1 x122006_1 ((rd_T36 l0 x5_1).f0) ((rd_T36 l0 x5_1).f1) ((rd_T36 l0 x5_1).f2) ((rd_T36 l0 x5_1).f3) ((rd_T36 l0 x5_1).f4) ((rd_T36 l0 x5_1).f5)).bind fun bt149 => (if t137 = bt149.1 then ((deck_Deck_Mode.f t138 t139 t140 t141 t142 t143 t144 t145 t146 t147).bind fun bt157 => (if bt157.1 = bt149.2.1 then ((deck_Deck_Mode.f bt157.2.1 bt157.2.2.1 bt157.2.2.2.1 bt157.2.2.2.2.1 bt157.2.2.2.2.2.1 bt157.2.2.2.2.2.2.1 bt157.2.2.2.2.2.2.2.1 bt157.2.2.2.2.2.2.2.2.1 bt157.2.2.2.2.2.2.2.2.2.1 bt157.2.2.2.2.2.2.2.2.2.2).bind fun bt168 => (if bt168.1 = 0 then (tiklaw23_DeckPlays.j1 k1 l0 x5_1 false bt168.2.1 bt168.2.2.1 bt168.2.2.2.1 bt168.2.2.2.2.1 bt168.2.2.2.2.2.1 bt168.2.2.2.2.2.2.1 bt168.2.2.2.2.2.2.2.1 bt168.2.2.2.2.2.2.2.2.1 bt168.2.2.2.2.2.2.2.2.2.1 bt168.2.2.2.2.2.2.2.2.2.2 bt149.2.1 bt149.2.2.1 bt149.2.2.2.1 bt149.2.2.2.2.1 bt149.2.2.2.2.2.1 bt149.2.2.2.2.2.2.1 bt149.2.2.2.2.2.2.2) else ((deck_Deck_Pos.f bt168.2.1 bt168.2.2.1 bt168.2.2.2.1 bt168.2.2.2.2.1 bt168.2.2.2.2.2.1 bt168.2.2.2.2.2.2.1 bt168.2.2.2.2.2.2.2.1 bt168.2.2.2.2.2.2.2.2.1 bt168.2.2.2.2.2.2.2.2.2.1 bt168.2.2.2.2.2.2.2.2.2.2).bind fun bt179 => (tiklaw23_DeckPlays.j1 k1 l0 x5_1 (bt179.1 != bt149.2.2.1) bt179.2.1 bt179.2.2.1 bt179.2.2.2.1 bt179.2.2.2.2.1 bt179.2.2.2.2.2.1 bt179.2.2.2.2.2.2.1 bt179.2.2.2.2.2.2.2.1 bt179.2.2.2.2.2.2.2.2.1 bt179.2.2.2.2.2.2.2.2.2.1 bt179.2.2.2.2.2.2.2.2.2.2 bt149.2.1 bt149.2.2.1 bt149.2.2.2.1 bt149.2.2.2.2.1 bt149.2.2.2.2.2.1 bt149.2.2.2.2.2.2.1 bt149.2.2.2.2.2.2.2)))) else (tiklaw23_DeckPlays.j1 k1 l0 x5_1 true bt157.2.1 bt157.2.2.1 bt157.2.2.2.1 bt157.2.2.2.2.1 bt157.2.2.2.2.2.1 bt157.2.2.2.2.2.2.1 bt157.2.2.2.2.2.2.2.1 bt157.2.2.2.2.2.2.2.2.1 bt157.2.2.2.2.2.2.2.2.2.1 bt157.2.2.2.2.2.2.2.2.2.2 bt149.2.1 bt149.2.2.1 bt149.2.2.2.1 bt149.2.2.2.2.1 bt149.2.2.2.2.2.1 bt149.2.2.2.2.2.2.1 bt149.2.2.2.2.2.2.2))) else (tiklaw23_DeckPlays.j1 k1 l0 x5_1 true t138 t139 t140 t141 t142 t143 t144 t145 t146 t147 bt149.2.1 bt149.2.2.1 bt149.2.2.2.1 bt149.2.2.2.2.1 bt149.2.2.2.2.2.1 bt149.2.2.2.2.2.2.1 bt149.2.2.2.2.2.2.2))) = some r := H
        have A22 := Aside0.mk A220
        clear A220
        replace H := Option.bind_eq_some_iff.mp H
        obtain ⟨⟨t149, t150, t151, t152, t153, t154, t155, t156⟩, A230, H⟩ := H
        replace H : (if t137 = t149 then ((deck_Deck_Mode.f t138 t139 t140 t141 t142 t143 t144 t145 t146 t147).bind fun bt157 => (if bt157.1 = t150 then ((deck_Deck_Mode.f bt157.2.1 bt157.2.2.1 bt157.2.2.2.1 bt157.2.2.2.2.1 bt157.2.2.2.2.2.1 bt157.2.2.2.2.2.2.1 bt157.2.2.2.2.2.2.2.1 bt157.2.2.2.2.2.2.2.2.1 bt157.2.2.2.2.2.2.2.2.2.1 bt157.2.2.2.2.2.2.2.2.2.2).bind fun bt168 => (if bt168.1 = 0 then (tiklaw23_DeckPlays.j1 k1 l0 x5_1 false bt168.2.1 bt168.2.2.1 bt168.2.2.2.1 bt168.2.2.2.2.1 bt168.2.2.2.2.2.1 bt168.2.2.2.2.2.2.1 bt168.2.2.2.2.2.2.2.1 bt168.2.2.2.2.2.2.2.2.1 bt168.2.2.2.2.2.2.2.2.2.1 bt168.2.2.2.2.2.2.2.2.2.2 t150 t151 t152 t153 t154 t155 t156) else ((deck_Deck_Pos.f bt168.2.1 bt168.2.2.1 bt168.2.2.2.1 bt168.2.2.2.2.1 bt168.2.2.2.2.2.1 bt168.2.2.2.2.2.2.1 bt168.2.2.2.2.2.2.2.1 bt168.2.2.2.2.2.2.2.2.1 bt168.2.2.2.2.2.2.2.2.2.1 bt168.2.2.2.2.2.2.2.2.2.2).bind fun bt179 => (tiklaw23_DeckPlays.j1 k1 l0 x5_1 (bt179.1 != t151) bt179.2.1 bt179.2.2.1 bt179.2.2.2.1 bt179.2.2.2.2.1 bt179.2.2.2.2.2.1 bt179.2.2.2.2.2.2.1 bt179.2.2.2.2.2.2.2.1 bt179.2.2.2.2.2.2.2.2.1 bt179.2.2.2.2.2.2.2.2.2.1 bt179.2.2.2.2.2.2.2.2.2.2 t150 t151 t152 t153 t154 t155 t156)))) else (tiklaw23_DeckPlays.j1 k1 l0 x5_1 true bt157.2.1 bt157.2.2.1 bt157.2.2.2.1 bt157.2.2.2.2.1 bt157.2.2.2.2.2.1 bt157.2.2.2.2.2.2.1 bt157.2.2.2.2.2.2.2.1 bt157.2.2.2.2.2.2.2.2.1 bt157.2.2.2.2.2.2.2.2.2.1 bt157.2.2.2.2.2.2.2.2.2.2 t150 t151 t152 t153 t154 t155 t156))) else (tiklaw23_DeckPlays.j1 k1 l0 x5_1 true t138 t139 t140 t141 t142 t143 t144 t145 t146 t147 t150 t151 t152 t153 t154 t155 t156)) = some r := H
        have A23 := Aside0.mk A230
        clear A230
        by_cases c24 : t137 = t149
        ·rw [if_pos c24] at H
         have c24b0 : (t137 == t149) = true := beq_iff_eq.mpr c24
         have c24b1 : (t137 != t149) = false := bne_eq_false_iff_eq.mpr c24
         clear c24
         replace H := Option.bind_eq_some_iff.mp H
         obtain ⟨⟨t157, t158, t159, t160, t161, t162, t163, t164, t165, t166, t167⟩, A250, H⟩ := H
         replace H : (if t157 = t150 then ((deck_Deck_Mode.f t158 t159 t160 t161 t162 t163 t164 t165 t166 t167).bind fun bt168 => (if bt168.1 = 0 then (tiklaw23_DeckPlays.j1 k1 l0 x5_1 false bt168.2.1 bt168.2.2.1 bt168.2.2.2.1 bt168.2.2.2.2.1 bt168.2.2.2.2.2.1 bt168.2.2.2.2.2.2.1 bt168.2.2.2.2.2.2.2.1 bt168.2.2.2.2.2.2.2.2.1 bt168.2.2.2.2.2.2.2.2.2.1 bt168.2.2.2.2.2.2.2.2.2.2 t150 t151 t152 t153 t154 t155 t156) else ((deck_Deck_Pos.f bt168.2.1 bt168.2.2.1 bt168.2.2.2.1 bt168.2.2.2.2.1 bt168.2.2.2.2.2.1 bt168.2.2.2.2.2.2.1 bt168.2.2.2.2.2.2.2.1 bt168.2.2.2.2.2.2.2.2.1 bt168.2.2.2.2.2.2.2.2.2.1 bt168.2.2.2.2.2.2.2.2.2.2).bind fun bt179 => (tiklaw23_DeckPlays.j1 k1 l0 x5_1 (bt179.1 != t151) bt179.2.1 bt179.2.2.1 bt179.2.2.2.1 bt179.2.2.2.2.1 bt179.2.2.2.2.2.1 bt179.2.2.2.2.2.2.1 bt179.2.2.2.2.2.2.2.1 bt179.2.2.2.2.2.2.2.2.1 bt179.2.2.2.2.2.2.2.2.2.1 bt179.2.2.2.2.2.2.2.2.2.2 t150 t151 t152 t153 t154 t155 t156)))) else (tiklaw23_DeckPlays.j1 k1 l0 x5_1 true t158 t159 t160 t161 t162 t163 t164 t165 t166 t167 t150 t151 t152 t153 t154 t155 t156)) = some r := H
         have A25 := Aside0.mk A250
         clear A250
         by_cases c26 : t157 = t150
         ·rw [if_pos c26] at H
          have c26b0 : (t157 == t150) = true := beq_iff_eq.mpr c26
          have c26b1 : (t157 != t150) = false := bne_eq_false_iff_eq.mpr c26
          clear c26
          replace H := Option.bind_eq_some_iff.mp H
          obtain ⟨⟨t168, t169, t170, t171, t172, t173, t174, t175, t176, t177, t178⟩, A270, H⟩ := H
          replace H : (if t168 = 0 then (tiklaw23_DeckPlays.j1 k1 l0 x5_1 false t169 t170 t171 t172 t173 t174 t175 t176 t177 t178 t150 t151 t152 t153 t154 t155 t156) else ((deck_Deck_Pos.f t169 t170 t171 t172 t173 t174 t175 t176 t177 t178).bind fun bt179 => (tiklaw23_DeckPlays.j1 k1 l0 x5_1 (bt179.1 != t151) bt179.2.1 bt179.2.2.1 bt179.2.2.2.1 bt179.2.2.2.2.1 bt179.2.2.2.2.2.1 bt179.2.2.2.2.2.2.1 bt179.2.2.2.2.2.2.2.1 bt179.2.2.2.2.2.2.2.2.1 bt179.2.2.2.2.2.2.2.2.2.1 bt179.2.2.2.2.2.2.2.2.2.2 t150 t151 t152 t153 t154 t155 t156))) = some r := H
          have A27 := Aside0.mk A270
          clear A270
          by_cases c28 : t168 = 0
          ·rw [if_pos c28] at H
           have c28b0 : (t168 == 0) = true := beq_iff_eq.mpr c28
           have c28b1 : (t168 != 0) = false := bne_eq_false_iff_eq.mpr c28
           clear c28
           have H' := Aside0.mk H
           clear H
           try go_wp2
           have n0_ : Aside0 (((w17.setCell ⟨gb135, 0, none⟩ (.int .u64 t123)).setCell ⟨gb135, 1, none⟩ (.int .u64 t124)).heap[gb135]? = some (.cells #[.int .u64 t123, .int .u64 t124] 30 (0, 0))) := ⟨by (with_reducible repeat (first | refine blk_drewN ?_ _ | refine blk_drew ?_ | refine blk_alloc ?_ _)); refine blk_put (cs := #[.int .u64 t123, .int .u64 0]) ?_ 1 _ rfl; (with_reducible repeat (first | refine blk_drewN ?_ _ | refine blk_drew ?_ | refine blk_alloc ?_ _)); refine blk_put (cs := #[.int .u64 0, .int .u64 0]) ?_ 0 _ rfl; (with_reducible repeat (first | refine blk_drewN ?_ _ | refine blk_drew ?_ | refine blk_alloc ?_ _)); exact BK135.out⟩
           have n1_ : Aside0 (IsS100 w ((w17.setCell ⟨gb135, 0, none⟩ (.int .u64 t123)).setCell ⟨gb135, 1, none⟩ (.int .u64 t124)) g113 t125 t126 t127 t128 t129 t130 t131 t132 t133 t134) := ⟨by repeat (first | (with_reducible first | exact HI113.out | apply IsS100.alloc | apply IsS100.drewN | apply IsS100.drew | refine IsS100.far ?_ NB113_135.out _) | exact HI113.out)⟩
           have n2_ : Aside0 (IsS43 w ((w17.setCell ⟨gb135, 0, none⟩ (.int .u64 t123)).setCell ⟨gb135, 1, none⟩ (.int .u64 t124)) g121 x122000_1 x122001_1 x122002_1 x122003_1 x122004_1 x122005_1 x122006_1) := ⟨by repeat (first | (with_reducible first | exact HI121.out | apply IsS43.alloc | apply IsS43.drewN | apply IsS43.drew | refine IsS43.far ?_ NB121_135.out _) | exact HI121.out)⟩
           have n3_ : Aside0 (Below w.heap.size w ((w17.setCell ⟨gb135, 0, none⟩ (.int .u64 t123)).setCell ⟨gb135, 1, none⟩ (.int .u64 t124))) := ⟨by repeat (first | (with_reducible first | exact HB.out | apply below_alloc | apply pw_below_drewN | apply below_drew1 | refine below_set ?_ (IsS100.ge HI113.out) | refine below_set ?_ (IsS43.ge HI121.out) | refine below_set ?_ GE135.out) | exact HB.out)⟩
           (try clear BK135)
           (try clear HI113)
           (try clear HI121)
           (try clear HB)
           generalize ((w17.setCell ⟨gb135, 0, none⟩ (.int .u64 t123)).setCell ⟨gb135, 1, none⟩ (.int .u64 t124)) = w29 at n0_ n1_ n2_ n3_ ⊢
           have BK135 := n0_
           have HI113 := n1_
           have HI121 := n2_
           have HB := n3_
           clear n0_ n1_ n2_ n3_
           have n0_ := Aside0.mk (blk_drew BK135.out)
           have n1_ := Aside0.mk (IsS100.drew HI113.out)
           have n2_ := Aside0.mk (IsS43.drew HI121.out)
           have n3_ := Aside0.mk (below_drew1 HB.out)
           clear BK135
           clear HI113
           clear HI121
           clear HB
           have BK135 := n0_
           have HI113 := n1_
           have HI121 := n2_
           have HB := n3_
           clear n0_ n1_ n2_ n3_
           have p136 : 0 ≤ (x5_1 : Int) := of_decide_eq_true (by first | (with_reducible assumption) | assumption)
           have q136 : x5_1 < (l0.length : Int) := of_decide_eq_true (by first | (with_reducible assumption) | assumption)
           obtain ⟨ad136, e136, hx136_0, hx136_1, hx136_2, hx136_3, hx136_4, hx136_5⟩ := at_T36 HR0.out x5_1 p136 q136
           have hw136_5 := hx136_5
           have hw136_4 := hx136_4
           have hw136_3 := hx136_3
           have hw136_2 := hx136_2
           have hw136_1 := hx136_1
           have hw136_0 := hx136_0
           cases e136
           replace hx136_0 := (HB.out.cell (World.block_lt_of_cell? w _ hx136_0)).trans hx136_0
           replace hx136_1 := (HB.out.cell (World.block_lt_of_cell? w _ hx136_1)).trans hx136_1
           replace hx136_2 := (HB.out.cell (World.block_lt_of_cell? w _ hx136_2)).trans hx136_2
           replace hx136_3 := (HB.out.cell (World.block_lt_of_cell? w _ hx136_3)).trans hx136_3
           replace hx136_4 := (HB.out.cell (World.block_lt_of_cell? w _ hx136_4)).trans hx136_4
           replace hx136_5 := (HB.out.cell (World.block_lt_of_cell? w _ hx136_5)).trans hx136_5
           replace p136 := eq_true p136
           replace q136 := eq_true q136
           have p148 : 0 ≤ (x5_1 : Int) := of_decide_eq_true (by first | (with_reducible assumption) | assumption)
           have q148 : x5_1 < (l0.length : Int) := of_decide_eq_true (by first | (with_reducible assumption) | assumption)
           obtain ⟨ad148, e148, hx148_0, hx148_1, hx148_2, hx148_3, hx148_4, hx148_5⟩ := at_T36 HR0.out x5_1 p148 q148
           have hw148_5 := hx148_5
           have hw148_4 := hx148_4
           have hw148_3 := hx148_3
           have hw148_2 := hx148_2
           have hw148_1 := hx148_1
           have hw148_0 := hx148_0
           obtain rfl : ad136 = ad148 := (by injection e148)
           replace hx148_0 := (HB.out.cell (World.block_lt_of_cell? w _ hx148_0)).trans hx148_0
           replace hx148_1 := (HB.out.cell (World.block_lt_of_cell? w _ hx148_1)).trans hx148_1
           replace hx148_2 := (HB.out.cell (World.block_lt_of_cell? w _ hx148_2)).trans hx148_2
           replace hx148_3 := (HB.out.cell (World.block_lt_of_cell? w _ hx148_3)).trans hx148_3
           replace hx148_4 := (HB.out.cell (World.block_lt_of_cell? w _ hx148_4)).trans hx148_4
           replace hx148_5 := (HB.out.cell (World.block_lt_of_cell? w _ hx148_5)).trans hx148_5
           replace p148 := eq_true p148
           replace q148 := eq_true q148
           refine start_ (n := 36) (S := fun w' => True ∧ True ∧ True ∧ True ∧ True ∧ True ∧ True ∧ w'.cell? (ad136.add ((x5_1).toNat * 6)) = some (.int .i64 ((rd_T36 l0 x5_1).f0)) ∧ w'.cell? ⟨(ad136.add ((x5_1).toNat * 6)).block, (ad136.add ((x5_1).toNat * 6)).off + 1, none⟩ = some (.int .u64 ((rd_T36 l0 x5_1).f1)) ∧ w'.cell? ⟨(ad136.add ((x5_1).toNat * 6)).block, (ad136.add ((x5_1).toNat * 6)).off + 2, none⟩ = some (.int .u64 ((rd_T36 l0 x5_1).f2)) ∧ w'.cell? ⟨(ad136.add ((x5_1).toNat * 6)).block, (ad136.add ((x5_1).toNat * 6)).off + 3, none⟩ = some (.int .u64 ((rd_T36 l0 x5_1).f3)) ∧ w'.cell? ⟨(ad136.add ((x5_1).toNat * 6)).block, (ad136.add ((x5_1).toNat * 6)).off + 4, none⟩ = some (.int .u64 ((rd_T36 l0 x5_1).f4)) ∧ w'.cell? ⟨(ad136.add ((x5_1).toNat * 6)).block, (ad136.add ((x5_1).toNat * 6)).off + 5, none⟩ = some (.float .f64 ((rd_T36 l0 x5_1).f5)) ∧ w'.cell? (ad136.add ((x5_1).toNat * 6)) = some (.int .i64 ((rd_T36 l0 x5_1).f0)) ∧ w'.cell? ⟨(ad136.add ((x5_1).toNat * 6)).block, (ad136.add ((x5_1).toNat * 6)).off + 1, none⟩ = some (.int .u64 ((rd_T36 l0 x5_1).f1)) ∧ w'.cell? ⟨(ad136.add ((x5_1).toNat * 6)).block, (ad136.add ((x5_1).toNat * 6)).off + 2, none⟩ = some (.int .u64 ((rd_T36 l0 x5_1).f2)) ∧ w'.cell? ⟨(ad136.add ((x5_1).toNat * 6)).block, (ad136.add ((x5_1).toNat * 6)).off + 3, none⟩ = some (.int .u64 ((rd_T36 l0 x5_1).f3)) ∧ w'.cell? ⟨(ad136.add ((x5_1).toNat * 6)).block, (ad136.add ((x5_1).toNat * 6)).off + 4, none⟩ = some (.int .u64 ((rd_T36 l0 x5_1).f4)) ∧ w'.cell? ⟨(ad136.add ((x5_1).toNat * 6)).block, (ad136.add ((x5_1).toNat * 6)).off + 5, none⟩ = some (.float .f64 ((rd_T36 l0 x5_1).f5))) (ds := []) #[false, false, false, false, false, false, false, false, false, false, false, false, false, false, false, false, false, false, false, false, false, false, false, false, false, false, false, false, false, false, false, false, false, false, false, false] (by kernel_rfl) rfl rfl ⟨trivial, trivial, trivial, trivial, trivial, trivial, trivial, ((HB.out.cell (World.block_lt_of_cell? w _ hw136_0)).trans hw136_0), ((HB.out.cell (World.block_lt_of_cell? w _ hw136_1)).trans hw136_1), ((HB.out.cell (World.block_lt_of_cell? w _ hw136_2)).trans hw136_2), ((HB.out.cell (World.block_lt_of_cell? w _ hw136_3)).trans hw136_3), ((HB.out.cell (World.block_lt_of_cell? w _ hw136_4)).trans hw136_4), ((HB.out.cell (World.block_lt_of_cell? w _ hw136_5)).trans hw136_5), ((HB.out.cell (World.block_lt_of_cell? w _ hw148_0)).trans hw148_0), ((HB.out.cell (World.block_lt_of_cell? w _ hw148_1)).trans hw148_1), ((HB.out.cell (World.block_lt_of_cell? w _ hw148_2)).trans hw148_2), ((HB.out.cell (World.block_lt_of_cell? w _ hw148_3)).trans hw148_3), ((HB.out.cell (World.block_lt_of_cell? w _ hw148_4)).trans hw148_4), ((HB.out.cell (World.block_lt_of_cell? w _ hw148_5)).trans hw148_5)⟩ (fun hHeld => ?_); refine with_tabW tiklaw23_DeckPlays.tab12 tiklaw23_DeckPlays.bits12 (fun HT_ HW_ => ?_)
           generalize w29.drew = w30 at BK135 HI113 HI121 HB hx136_0 hx136_1 hx136_2 hx136_3 hx136_4 hx136_5 hx148_0 hx148_1 hx148_2 hx148_3 hx148_4 hx148_5 hHeld ⊢
           refine pure_ (i := 0) (N := some 25) (v := ?_) (a' := ?_) #[true, false, false, false, false, false, false, false, false, false, false, false, false, false, false, false, false, false, false, false, false, false, false, false, false, false, false, false, false, false, false, false, false, false, false, false] rfl rfl (any_of HT_.out (by kernel_rfl)) (fun _ _ _ h => h) (Or.inl ⟨by rfl, ?_⟩) ?_ ?_
           rotate_left
           ·intro w'
            go_simp
            with_reducible rfl
           rotate_left
           ·simp only [Act.put, List.setIfInBounds_toArray, List.set_cons_zero, List.set_cons_succ, i64_w, i32_w]
            rfl
           refine pure_ (i := 1) (N := some 26) (v := ?_) (a' := ?_) #[true, true, false, false, false, false, false, false, false, false, false, false, false, false, false, false, false, false, false, false, false, false, false, false, false, false, false, false, false, false, false, false, false, false, false, false] rfl rfl (any_of HT_.out (by kernel_rfl)) (fun _ _ _ h => h) (Or.inl ⟨by rfl, ?_⟩) ?_ ?_
           rotate_left
           ·intro w'
            go_simp
            with_reducible rfl
           rotate_left
           ·simp only [Act.put, List.setIfInBounds_toArray, List.set_cons_zero, List.set_cons_succ, i64_w, i32_w]
            rfl
           refine pure_ (i := 2) (N := some 27) (v := ?_) (a' := ?_) #[true, true, true, false, false, false, false, false, false, false, false, false, false, false, false, false, false, false, false, false, false, false, false, false, false, false, false, false, false, false, false, false, false, false, false, false] rfl rfl (any_of HT_.out (by kernel_rfl)) (fun _ _ _ h => h) (Or.inl ⟨by rfl, ?_⟩) ?_ ?_
           rotate_left
           ·intro w'
            go_simp
            with_reducible rfl
           rotate_left
           ·simp only [Act.put, List.setIfInBounds_toArray, List.set_cons_zero, List.set_cons_succ, i64_w, i32_w]
            rfl
           refine pure_ (i := 3) (N := some 28) (v := ?_) (a' := ?_) #[true, true, true, true, false, false, false, false, false, false, false, false, false, false, false, false, false, false, false, false, false, false, false, false, false, false, false, false, false, false, false, false, false, false, false, false] rfl rfl (any_of HT_.out (by kernel_rfl)) (fun _ _ _ h => h) (Or.inl ⟨by rfl, ?_⟩) ?_ ?_
           rotate_left
           ·intro w'
            go_simp
            with_reducible rfl
           rotate_left
           ·simp only [Act.put, List.setIfInBounds_toArray, List.set_cons_zero, List.set_cons_succ, i64_w, i32_w]
            rfl
           refine pure_ (i := 6) (N := some 31) (v := ?_) (a' := ?_) #[true, true, true, true, false, false, true, false, false, false, false, false, false, false, false, false, false, false, false, false, false, false, false, false, false, false, false, false, false, false, false, false, false, false, false, false] rfl rfl (any_of HT_.out (by kernel_rfl)) (fun _ _ _ h => h) (Or.inl ⟨by rfl, ?_⟩) ?_ ?_
           rotate_left
           ·intro w'
            go_simp
            with_reducible rfl
           rotate_left
           ·simp only [Act.put, List.setIfInBounds_toArray, List.set_cons_zero, List.set_cons_succ, i64_w, i32_w]
            rfl
           refine pure_ (i := 7) (N := some 32) (v := ?_) (a' := ?_) #[true, true, true, true, false, false, true, true, false, false, false, false, false, false, false, false, false, false, false, false, false, false, false, false, false, false, false, false, false, false, false, false, false, false, false, false] rfl rfl (any_of HT_.out (by kernel_rfl)) (fun _ _ _ h => h) (Or.inl ⟨by rfl, ?_⟩) ?_ ?_
           rotate_left
           ·intro w'
            go_simp
            with_reducible rfl
           rotate_left
           ·simp only [Act.put, List.setIfInBounds_toArray, List.set_cons_zero, List.set_cons_succ, i64_w, i32_w]
            rfl
           refine pure_ (i := 8) (N := some 33) (v := ?_) (a' := ?_) #[true, true, true, true, false, false, true, true, true, false, false, false, false, false, false, false, false, false, false, false, false, false, false, false, false, false, false, false, false, false, false, false, false, false, false, false] rfl rfl (any_of HT_.out (by kernel_rfl)) (fun _ _ _ h => h) (Or.inl ⟨by rfl, ?_⟩) ?_ ?_
           rotate_left
           ·intro w'
            go_simp
            with_reducible rfl
           rotate_left
           ·simp only [Act.put, List.setIfInBounds_toArray, List.set_cons_zero, List.set_cons_succ, i64_w, i32_w]
            rfl
           refine pure_ (i := 9) (N := some 34) (v := ?_) (a' := ?_) #[true, true, true, true, false, false, true, true, true, true, false, false, false, false, false, false, false, false, false, false, false, false, false, false, false, false, false, false, false, false, false, false, false, false, false, false] rfl rfl (any_of HT_.out (by kernel_rfl)) (fun _ _ _ h => h) (Or.inl ⟨by rfl, ?_⟩) ?_ ?_
           rotate_left
           ·intro w'
            go_simp
            with_reducible rfl
           rotate_left
           ·simp only [Act.put, List.setIfInBounds_toArray, List.set_cons_zero, List.set_cons_succ, i64_w, i32_w]
            rfl
           refine take_ (i := 4) (N := some 29) (v := ?_) (a' := ?_) #[true, true, true, true, true, false, true, true, true, true, false, false, false, false, false, false, false, false, false, false, false, false, false, false, false, false, false, false, false, false, false, false, false, false, false, false] rfl rfl (take_ofW HT_.out HW_.out (by kernel_rfl)) (fun _ _ _ h => h) (Or.inl ⟨by rfl, ?_⟩) hHeld ?_ ?_
           rotate_left
           ·rintro w' ⟨s0, s1, s2, s3, s4, s5, s6, s7, s8, s9, s10, s11, s12, s13, s14, s15, s16, s17, s18⟩
            go_simp
            with_reducible rfl
           rotate_left
           ·simp only [Act.put, List.setIfInBounds_toArray, List.set_cons_zero, List.set_cons_succ, i64_w, i32_w]
            rfl
           refine take_ (i := 10) (N := some 35) (v := ?_) (a' := ?_) #[true, true, true, true, true, false, true, true, true, true, true, false, false, false, false, false, false, false, false, false, false, false, false, false, false, false, false, false, false, false, false, false, false, false, false, false] rfl rfl (take_ofW HT_.out HW_.out (by kernel_rfl)) (fun _ _ _ h => h) (Or.inl ⟨by rfl, ?_⟩) hHeld ?_ ?_
           rotate_left
           ·rintro w' ⟨s0, s1, s2, s3, s4, s5, s6, s7, s8, s9, s10, s11, s12, s13, s14, s15, s16, s17, s18⟩
            go_simp
            with_reducible rfl
           rotate_left
           ·simp only [Act.put, List.setIfInBounds_toArray, List.set_cons_zero, List.set_cons_succ, i64_w, i32_w]
            rfl
           refine one_ (i := 5) (N := some 30) #[true, true, true, true, true, true, true, true, true, true, true, false, false, false, false, false, false, false, false, false, false, false, false, false, false, false, false, false, false, false, false, false, false, false, false, false] rfl rfl (one_of HT_.out (by kernel_rfl)) (by decide) (fun K hK => ?_)
           refine goes_ Tryd.func16 (by kernel_rfl) rfl #[.pointer (some ⟨g113, 0, none⟩), .agg #[.int .i64 ((rd_T36 l0 x5_1).f0), .int .u64 ((rd_T36 l0 x5_1).f1), .int .u64 ((rd_T36 l0 x5_1).f2), .int .u64 ((rd_T36 l0 x5_1).f3), .int .u64 ((rd_T36 l0 x5_1).f4), .float .f64 ((rd_T36 l0 x5_1).f5)]] (by rfl) rfl rfl (by (try simp only [List.map_toArray, List.map_cons, List.map_nil]); first | done | rfl | (simp only [List.length_drop, List.length_take]; rfl)) ?_
           with_reducible refine (tiklaw23_Does.calls k1 g113 t125 t126 t127 t128 t129 t130 t131 t132 t133 t134 ((rd_T36 l0 x5_1).f0) ((rd_T36 l0 x5_1).f1) ((rd_T36 l0 x5_1).f2) ((rd_T36 l0 x5_1).f3) ((rd_T36 l0 x5_1).f4) ((rd_T36 l0 x5_1).f5) t137 t138 t139 t140 t141 t142 t143 t144 t145 t146 t147 w _ ?side1 ?side2 ?side3 A22.out).mono ?_
           (case side1 => repeat (first | (with_reducible first | exact HI113.out | apply IsS100.alloc | apply IsS100.drewN | apply IsS100.drew | refine IsS100.far ?_ NB113_135.out _) | exact HI113.out))
           (case side2 => repeat (first | (with_reducible first | exact HB.out | apply below_alloc | apply pw_below_drewN | apply below_drew1 | refine below_set ?_ (IsS100.ge HI113.out) | refine below_set ?_ (IsS43.ge HI121.out) | refine below_set ?_ GE135.out) | exact HB.out))
           (case side3 => first | (with_reducible exact HT.out) | exact tabAt HT.out (by repeat (first | (with_reducible first | exact HB.out | apply below_alloc | apply pw_below_drewN | apply below_drew1 | refine below_set ?_ (IsS100.ge HI113.out) | refine below_set ?_ (IsS43.ge HI121.out) | refine below_set ?_ GE135.out) | exact HB.out)))
           rintro e w31 ⟨rfl, hi, hb, hk⟩
           refine ⟨_, rfl, ?_⟩
           have n0_ := Aside0.mk (keepRef (show IsS43 w _ g121 x122000_1 x122001_1 x122002_1 x122003_1 x122004_1 x122005_1 x122006_1 from by repeat (first | (with_reducible first | exact HI121.out | apply IsS43.alloc | apply IsS43.drewN | apply IsS43.drew | refine IsS43.far ?_ NB121_135.out _) | exact HI121.out)) hk (NB121_113.out))
           have n1_ := Aside0.mk (KeepBut.blk hk (g' := gb135) (o := .cells #[.int .u64 t123, .int .u64 t124] 30 (0, 0)) (by (with_reducible repeat (first | refine blk_drewN ?_ _ | refine blk_drew ?_ | refine blk_alloc ?_ _)); exact BK135.out) NB135_113.out (by simp))
           have n2_ := Aside0.mk (hb)
           have n3_ := Aside0.mk (hi)
           clear HI121
           clear BK135
           clear HB
           clear HI113
           have HI121 := n0_
           have BK135 := n1_
           have HB := n2_
           have HI113 := n3_
           clear n0_ n1_ n2_ n3_
           (try clear hb)
           (try clear hb2)
           (try clear hk)
           (try clear hi)
           refine hK.out _ _ ⟨trivial, trivial, trivial, trivial, trivial, trivial, trivial, ((HB.out.cell (World.block_lt_of_cell? w _ hw136_0)).trans hw136_0), ((HB.out.cell (World.block_lt_of_cell? w _ hw136_1)).trans hw136_1), ((HB.out.cell (World.block_lt_of_cell? w _ hw136_2)).trans hw136_2), ((HB.out.cell (World.block_lt_of_cell? w _ hw136_3)).trans hw136_3), ((HB.out.cell (World.block_lt_of_cell? w _ hw136_4)).trans hw136_4), ((HB.out.cell (World.block_lt_of_cell? w _ hw136_5)).trans hw136_5), ((HB.out.cell (World.block_lt_of_cell? w _ hw148_0)).trans hw148_0), ((HB.out.cell (World.block_lt_of_cell? w _ hw148_1)).trans hw148_1), ((HB.out.cell (World.block_lt_of_cell? w _ hw148_2)).trans hw148_2), ((HB.out.cell (World.block_lt_of_cell? w _ hw148_3)).trans hw148_3), ((HB.out.cell (World.block_lt_of_cell? w _ hw148_4)).trans hw148_4), ((HB.out.cell (World.block_lt_of_cell? w _ hw148_5)).trans hw148_5)⟩ (fun hHeld => ?_)
           clear hK K
           refine norm_ (a' := ?_) ?_ ?_
           rotate_left
           ·show Act.put _ (some 30) _ = _
            simp only [Act.put, List.setIfInBounds_toArray, List.set_cons_zero, List.set_cons_succ, i64_w, i32_w]
            rfl
           refine one_ (i := 11) (N := some 36) #[true, true, true, true, true, true, true, true, true, true, true, true, false, false, false, false, false, false, false, false, false, false, false, false, false, false, false, false, false, false, false, false, false, false, false, false] rfl rfl (one_of HT_.out (by kernel_rfl)) (by decide) (fun K hK => ?_)
           refine goes_ Tryd.func17 (by kernel_rfl) rfl #[.pointer (some ⟨g121, 0, none⟩), .agg #[.int .i64 ((rd_T36 l0 x5_1).f0), .int .u64 ((rd_T36 l0 x5_1).f1), .int .u64 ((rd_T36 l0 x5_1).f2), .int .u64 ((rd_T36 l0 x5_1).f3), .int .u64 ((rd_T36 l0 x5_1).f4), .float .f64 ((rd_T36 l0 x5_1).f5)]] (by rfl) rfl rfl (by (try simp only [List.map_toArray, List.map_cons, List.map_nil]); first | done | rfl | (simp only [List.length_drop, List.length_take]; rfl)) ?_
           with_reducible refine (refPlain.calls k1 g121 x122000_1 x122001_1 x122002_1 x122003_1 x122004_1 x122005_1 x122006_1 ((rd_T36 l0 x5_1).f0) ((rd_T36 l0 x5_1).f1) ((rd_T36 l0 x5_1).f2) ((rd_T36 l0 x5_1).f3) ((rd_T36 l0 x5_1).f4) ((rd_T36 l0 x5_1).f5) t149 t150 t151 t152 t153 t154 t155 t156 w _ ?side1 ?side2 A23.out).mono ?_
           (case side1 => repeat (first | (with_reducible first | exact HI121.out | apply IsS43.alloc | apply IsS43.drewN | apply IsS43.drew | refine IsS43.far ?_ NB121_135.out _) | exact HI121.out))
           (case side2 => repeat (first | (with_reducible first | exact HB.out | apply below_alloc | apply pw_below_drewN | apply below_drew1 | refine below_set ?_ (IsS100.ge HI113.out) | refine below_set ?_ (IsS43.ge HI121.out) | refine below_set ?_ GE135.out) | exact HB.out))
           rintro e w32 ⟨rfl, hi, hb, hk⟩
           refine ⟨_, rfl, ?_⟩
           have n0_ := Aside0.mk (keepDeck (show IsS100 w _ g113 t138 t139 t140 t141 t142 t143 t144 t145 t146 t147 from by repeat (first | (with_reducible first | exact HI113.out | apply IsS100.alloc | apply IsS100.drewN | apply IsS100.drew | refine IsS100.far ?_ NB113_135.out _) | exact HI113.out)) hk (NB113_121.out))
           have n1_ := Aside0.mk (KeepR.blk hk (g' := gb135) (o := .cells #[.int .u64 t123, .int .u64 t124] 30 (0, 0)) (by (with_reducible repeat (first | refine blk_drewN ?_ _ | refine blk_drew ?_ | refine blk_alloc ?_ _)); exact BK135.out) NB135_121.out (by simp))
           have n2_ := Aside0.mk (hb)
           have n3_ := Aside0.mk (hi)
           clear HI113
           clear BK135
           clear HB
           clear HI121
           have HI113 := n0_
           have BK135 := n1_
           have HB := n2_
           have HI121 := n3_
           clear n0_ n1_ n2_ n3_
           (try clear hb)
           (try clear hb2)
           (try clear hk)
           (try clear hi)
           refine hK.out _ _ ⟨trivial, trivial, trivial, trivial, trivial, trivial, trivial, ((HB.out.cell (World.block_lt_of_cell? w _ hw136_0)).trans hw136_0), ((HB.out.cell (World.block_lt_of_cell? w _ hw136_1)).trans hw136_1), ((HB.out.cell (World.block_lt_of_cell? w _ hw136_2)).trans hw136_2), ((HB.out.cell (World.block_lt_of_cell? w _ hw136_3)).trans hw136_3), ((HB.out.cell (World.block_lt_of_cell? w _ hw136_4)).trans hw136_4), ((HB.out.cell (World.block_lt_of_cell? w _ hw136_5)).trans hw136_5), ((HB.out.cell (World.block_lt_of_cell? w _ hw148_0)).trans hw148_0), ((HB.out.cell (World.block_lt_of_cell? w _ hw148_1)).trans hw148_1), ((HB.out.cell (World.block_lt_of_cell? w _ hw148_2)).trans hw148_2), ((HB.out.cell (World.block_lt_of_cell? w _ hw148_3)).trans hw148_3), ((HB.out.cell (World.block_lt_of_cell? w _ hw148_4)).trans hw148_4), ((HB.out.cell (World.block_lt_of_cell? w _ hw148_5)).trans hw148_5)⟩ (fun hHeld => ?_)
           refine strengthen_ (S' := fun w' : World => w'.cell? ⟨g121, 0, none⟩ = some (.int .i64 t150) ∧ w'.cell? ⟨g121, 1, none⟩ = some (.int .u64 t151) ∧ w'.cell? ⟨g121, 2, none⟩ = some (.int .u64 t152) ∧ w'.cell? ⟨g121, 3, none⟩ = some (.int .u64 t153) ∧ w'.cell? ⟨g121, 4, none⟩ = some (.int .u64 t154) ∧ w'.cell? ⟨g121, 5, none⟩ = some (.int .u64 t155) ∧ w'.cell? ⟨g121, 6, none⟩ = some (.int .u64 t156) ∧ w'.cell? (ad136.add ((x5_1).toNat * 6)) = some (.int .i64 ((rd_T36 l0 x5_1).f0)) ∧ w'.cell? ⟨(ad136.add ((x5_1).toNat * 6)).block, (ad136.add ((x5_1).toNat * 6)).off + 1, none⟩ = some (.int .u64 ((rd_T36 l0 x5_1).f1)) ∧ w'.cell? ⟨(ad136.add ((x5_1).toNat * 6)).block, (ad136.add ((x5_1).toNat * 6)).off + 2, none⟩ = some (.int .u64 ((rd_T36 l0 x5_1).f2)) ∧ w'.cell? ⟨(ad136.add ((x5_1).toNat * 6)).block, (ad136.add ((x5_1).toNat * 6)).off + 3, none⟩ = some (.int .u64 ((rd_T36 l0 x5_1).f3)) ∧ w'.cell? ⟨(ad136.add ((x5_1).toNat * 6)).block, (ad136.add ((x5_1).toNat * 6)).off + 4, none⟩ = some (.int .u64 ((rd_T36 l0 x5_1).f4)) ∧ w'.cell? ⟨(ad136.add ((x5_1).toNat * 6)).block, (ad136.add ((x5_1).toNat * 6)).off + 5, none⟩ = some (.float .f64 ((rd_T36 l0 x5_1).f5)) ∧ w'.cell? (ad136.add ((x5_1).toNat * 6)) = some (.int .i64 ((rd_T36 l0 x5_1).f0)) ∧ w'.cell? ⟨(ad136.add ((x5_1).toNat * 6)).block, (ad136.add ((x5_1).toNat * 6)).off + 1, none⟩ = some (.int .u64 ((rd_T36 l0 x5_1).f1)) ∧ w'.cell? ⟨(ad136.add ((x5_1).toNat * 6)).block, (ad136.add ((x5_1).toNat * 6)).off + 2, none⟩ = some (.int .u64 ((rd_T36 l0 x5_1).f2)) ∧ w'.cell? ⟨(ad136.add ((x5_1).toNat * 6)).block, (ad136.add ((x5_1).toNat * 6)).off + 3, none⟩ = some (.int .u64 ((rd_T36 l0 x5_1).f3)) ∧ w'.cell? ⟨(ad136.add ((x5_1).toNat * 6)).block, (ad136.add ((x5_1).toNat * 6)).off + 4, none⟩ = some (.int .u64 ((rd_T36 l0 x5_1).f4)) ∧ w'.cell? ⟨(ad136.add ((x5_1).toNat * 6)).block, (ad136.add ((x5_1).toNat * 6)).off + 5, none⟩ = some (.float .f64 ((rd_T36 l0 x5_1).f5))) (fun w' h => ⟨trivial, trivial, trivial, trivial, trivial, trivial, trivial, h.2.2.2.2.2.2.2⟩) _ _ _ _ ⟨(blk_cell (Aside0.mk HI121.out.1).out 0).trans rfl, (blk_cell (Aside0.mk HI121.out.1).out 1).trans rfl, (blk_cell (Aside0.mk HI121.out.1).out 2).trans rfl, (blk_cell (Aside0.mk HI121.out.1).out 3).trans rfl, (blk_cell (Aside0.mk HI121.out.1).out 4).trans rfl, (blk_cell (Aside0.mk HI121.out.1).out 5).trans rfl, (blk_cell (Aside0.mk HI121.out.1).out 6).trans rfl, ((HB.out.cell (World.block_lt_of_cell? w _ hw136_0)).trans hw136_0), ((HB.out.cell (World.block_lt_of_cell? w _ hw136_1)).trans hw136_1), ((HB.out.cell (World.block_lt_of_cell? w _ hw136_2)).trans hw136_2), ((HB.out.cell (World.block_lt_of_cell? w _ hw136_3)).trans hw136_3), ((HB.out.cell (World.block_lt_of_cell? w _ hw136_4)).trans hw136_4), ((HB.out.cell (World.block_lt_of_cell? w _ hw136_5)).trans hw136_5), ((HB.out.cell (World.block_lt_of_cell? w _ hw148_0)).trans hw148_0), ((HB.out.cell (World.block_lt_of_cell? w _ hw148_1)).trans hw148_1), ((HB.out.cell (World.block_lt_of_cell? w _ hw148_2)).trans hw148_2), ((HB.out.cell (World.block_lt_of_cell? w _ hw148_3)).trans hw148_3), ((HB.out.cell (World.block_lt_of_cell? w _ hw148_4)).trans hw148_4), ((HB.out.cell (World.block_lt_of_cell? w _ hw148_5)).trans hw148_5)⟩ ?_
           clear hHeld
           have hHeld : (fun w' : World => w'.cell? ⟨g121, 0, none⟩ = some (.int .i64 t150) ∧ w'.cell? ⟨g121, 1, none⟩ = some (.int .u64 t151) ∧ w'.cell? ⟨g121, 2, none⟩ = some (.int .u64 t152) ∧ w'.cell? ⟨g121, 3, none⟩ = some (.int .u64 t153) ∧ w'.cell? ⟨g121, 4, none⟩ = some (.int .u64 t154) ∧ w'.cell? ⟨g121, 5, none⟩ = some (.int .u64 t155) ∧ w'.cell? ⟨g121, 6, none⟩ = some (.int .u64 t156) ∧ w'.cell? (ad136.add ((x5_1).toNat * 6)) = some (.int .i64 ((rd_T36 l0 x5_1).f0)) ∧ w'.cell? ⟨(ad136.add ((x5_1).toNat * 6)).block, (ad136.add ((x5_1).toNat * 6)).off + 1, none⟩ = some (.int .u64 ((rd_T36 l0 x5_1).f1)) ∧ w'.cell? ⟨(ad136.add ((x5_1).toNat * 6)).block, (ad136.add ((x5_1).toNat * 6)).off + 2, none⟩ = some (.int .u64 ((rd_T36 l0 x5_1).f2)) ∧ w'.cell? ⟨(ad136.add ((x5_1).toNat * 6)).block, (ad136.add ((x5_1).toNat * 6)).off + 3, none⟩ = some (.int .u64 ((rd_T36 l0 x5_1).f3)) ∧ w'.cell? ⟨(ad136.add ((x5_1).toNat * 6)).block, (ad136.add ((x5_1).toNat * 6)).off + 4, none⟩ = some (.int .u64 ((rd_T36 l0 x5_1).f4)) ∧ w'.cell? ⟨(ad136.add ((x5_1).toNat * 6)).block, (ad136.add ((x5_1).toNat * 6)).off + 5, none⟩ = some (.float .f64 ((rd_T36 l0 x5_1).f5)) ∧ w'.cell? (ad136.add ((x5_1).toNat * 6)) = some (.int .i64 ((rd_T36 l0 x5_1).f0)) ∧ w'.cell? ⟨(ad136.add ((x5_1).toNat * 6)).block, (ad136.add ((x5_1).toNat * 6)).off + 1, none⟩ = some (.int .u64 ((rd_T36 l0 x5_1).f1)) ∧ w'.cell? ⟨(ad136.add ((x5_1).toNat * 6)).block, (ad136.add ((x5_1).toNat * 6)).off + 2, none⟩ = some (.int .u64 ((rd_T36 l0 x5_1).f2)) ∧ w'.cell? ⟨(ad136.add ((x5_1).toNat * 6)).block, (ad136.add ((x5_1).toNat * 6)).off + 3, none⟩ = some (.int .u64 ((rd_T36 l0 x5_1).f3)) ∧ w'.cell? ⟨(ad136.add ((x5_1).toNat * 6)).block, (ad136.add ((x5_1).toNat * 6)).off + 4, none⟩ = some (.int .u64 ((rd_T36 l0 x5_1).f4)) ∧ w'.cell? ⟨(ad136.add ((x5_1).toNat * 6)).block, (ad136.add ((x5_1).toNat * 6)).off + 5, none⟩ = some (.float .f64 ((rd_T36 l0 x5_1).f5))) _ := ⟨(blk_cell (Aside0.mk HI121.out.1).out 0).trans rfl, (blk_cell (Aside0.mk HI121.out.1).out 1).trans rfl, (blk_cell (Aside0.mk HI121.out.1).out 2).trans rfl, (blk_cell (Aside0.mk HI121.out.1).out 3).trans rfl, (blk_cell (Aside0.mk HI121.out.1).out 4).trans rfl, (blk_cell (Aside0.mk HI121.out.1).out 5).trans rfl, (blk_cell (Aside0.mk HI121.out.1).out 6).trans rfl, ((HB.out.cell (World.block_lt_of_cell? w _ hw136_0)).trans hw136_0), ((HB.out.cell (World.block_lt_of_cell? w _ hw136_1)).trans hw136_1), ((HB.out.cell (World.block_lt_of_cell? w _ hw136_2)).trans hw136_2), ((HB.out.cell (World.block_lt_of_cell? w _ hw136_3)).trans hw136_3), ((HB.out.cell (World.block_lt_of_cell? w _ hw136_4)).trans hw136_4), ((HB.out.cell (World.block_lt_of_cell? w _ hw136_5)).trans hw136_5), ((HB.out.cell (World.block_lt_of_cell? w _ hw148_0)).trans hw148_0), ((HB.out.cell (World.block_lt_of_cell? w _ hw148_1)).trans hw148_1), ((HB.out.cell (World.block_lt_of_cell? w _ hw148_2)).trans hw148_2), ((HB.out.cell (World.block_lt_of_cell? w _ hw148_3)).trans hw148_3), ((HB.out.cell (World.block_lt_of_cell? w _ hw148_4)).trans hw148_4), ((HB.out.cell (World.block_lt_of_cell? w _ hw148_5)).trans hw148_5)⟩
           clear hK K
           refine norm_ (a' := ?_) ?_ ?_
           rotate_left
           ·show Act.put _ (some 36) _ = _
            simp only [Act.put, List.setIfInBounds_toArray, List.set_cons_zero, List.set_cons_succ, i64_w, i32_w]
            rfl
           refine pure_ (i := 12) (N := some 37) (v := ?_) (a' := ?_) #[true, true, true, true, true, true, true, true, true, true, true, true, true, false, false, false, false, false, false, false, false, false, false, false, false, false, false, false, false, false, false, false, false, false, false, false] rfl rfl (any_of HT_.out (by kernel_rfl)) (fun _ _ _ h => h) (Or.inl ⟨by rfl, ?_⟩) ?_ ?_
           rotate_left
           ·intro w'
            go_simp
            with_reducible rfl
           rotate_left
           ·simp only [Act.put, List.setIfInBounds_toArray, List.set_cons_zero, List.set_cons_succ, i64_w, i32_w]
            rfl
           refine pure_ (i := 13) (N := some 38) (v := ?_) (a' := ?_) #[true, true, true, true, true, true, true, true, true, true, true, true, true, true, false, false, false, false, false, false, false, false, false, false, false, false, false, false, false, false, false, false, false, false, false, false] rfl rfl (any_of HT_.out (by kernel_rfl)) (fun _ _ _ h => h) (Or.inl ⟨by rfl, ?_⟩) ?_ ?_
           rotate_left
           ·intro w'
            go_simp
            with_reducible rfl
           rotate_left
           ·simp only [Act.put, List.setIfInBounds_toArray, List.set_cons_zero, List.set_cons_succ, i64_w, i32_w]
            rfl
           refine pure_ (i := 14) (N := some 39) (v := ?_) (a' := ?_) #[true, true, true, true, true, true, true, true, true, true, true, true, true, true, true, false, false, false, false, false, false, false, false, false, false, false, false, false, false, false, false, false, false, false, false, false] rfl rfl (any_of HT_.out (by kernel_rfl)) (fun _ _ _ h => h) (Or.inl ⟨by rfl, ?_⟩) ?_ ?_
           rotate_left
           ·intro w'
            go_simp
            with_reducible rfl
           rotate_left
           ·simp only [Act.put, List.setIfInBounds_toArray, List.set_cons_zero, List.set_cons_succ, i64_w, i32_w]
            rfl
           refine pure_ (i := 16) (N := some 41) (v := ?_) (a' := ?_) #[true, true, true, true, true, true, true, true, true, true, true, true, true, true, true, false, true, false, false, false, false, false, false, false, false, false, false, false, false, false, false, false, false, false, false, false] rfl rfl (any_of HT_.out (by kernel_rfl)) (fun _ _ _ h => h) (Or.inl ⟨by rfl, ?_⟩) ?_ ?_
           rotate_left
           ·intro w'
            go_simp
            with_reducible rfl
           rotate_left
           ·simp only [Act.put, List.setIfInBounds_toArray, List.set_cons_zero, List.set_cons_succ, i64_w, i32_w]
            rfl
           refine pure_ (i := 17) (N := some 42) (v := ?_) (a' := ?_) #[true, true, true, true, true, true, true, true, true, true, true, true, true, true, true, false, true, true, false, false, false, false, false, false, false, false, false, false, false, false, false, false, false, false, false, false] rfl rfl (any_of HT_.out (by kernel_rfl)) (fun _ _ _ h => h) (Or.inl ⟨by rfl, ?_⟩) ?_ ?_
           rotate_left
           ·intro w'
            go_simp
            with_reducible rfl
           rotate_left
           ·simp only [Act.put, List.setIfInBounds_toArray, List.set_cons_zero, List.set_cons_succ, i64_w, i32_w]
            rfl
           refine pure_ (i := 18) (N := some 43) (v := ?_) (a' := ?_) #[true, true, true, true, true, true, true, true, true, true, true, true, true, true, true, false, true, true, true, false, false, false, false, false, false, false, false, false, false, false, false, false, false, false, false, false] rfl rfl (any_of HT_.out (by kernel_rfl)) (fun _ _ _ h => h) (Or.inl ⟨by rfl, ?_⟩) ?_ ?_
           rotate_left
           ·intro w'
            go_simp
            with_reducible rfl
           rotate_left
           ·simp only [Act.put, List.setIfInBounds_toArray, List.set_cons_zero, List.set_cons_succ, i64_w, i32_w]
            rfl
           refine take_ (i := 19) (N := some 44) (v := ?_) (a' := ?_) #[true, true, true, true, true, true, true, true, true, true, true, true, true, true, true, false, true, true, true, true, false, false, false, false, false, false, false, false, false, false, false, false, false, false, false, false] rfl rfl (take_ofW HT_.out HW_.out (by kernel_rfl)) (fun _ _ _ h => h) (Or.inl ⟨by rfl, ?_⟩) hHeld ?_ ?_
           rotate_left
           ·rintro w' ⟨s0, s1, s2, s3, s4, s5, s6, s7, s8, s9, s10, s11, s12, s13, s14, s15, s16, s17, s18⟩
            go_simp
            with_reducible rfl
           rotate_left
           ·simp only [Act.put, List.setIfInBounds_toArray, List.set_cons_zero, List.set_cons_succ, i64_w, i32_w]
            rfl
           refine one_ (i := 15) (N := some 40) #[true, true, true, true, true, true, true, true, true, true, true, true, true, true, true, true, true, true, true, true, false, false, false, false, false, false, false, false, false, false, false, false, false, false, false, false] rfl rfl (one_of HT_.out (by kernel_rfl)) (by decide) (fun K hK => ?_)
           refine goes_ Tryd.func18 (by kernel_rfl) rfl #[.pointer (some ⟨g113, 0, none⟩)] (by rfl) rfl rfl (by (try simp only [List.map_toArray, List.map_cons, List.map_nil]); first | done | rfl | (simp only [List.length_drop, List.length_take]; rfl)) ?_
           with_reducible refine (deck_Deck_Mode.calls g113 t138 t139 t140 t141 t142 t143 t144 t145 t146 t147 t157 t158 t159 t160 t161 t162 t163 t164 t165 t166 t167 w _ ?side1 ?side2 A25.out).mono ?_
           (case side1 => repeat (first | (with_reducible first | exact HI113.out | apply IsS100.alloc | apply IsS100.drewN | apply IsS100.drew | refine IsS100.far ?_ NB113_135.out _) | exact HI113.out))
           (case side2 => repeat (first | (with_reducible first | exact HB.out | apply below_alloc | apply pw_below_drewN | apply below_drew1 | refine below_set ?_ (IsS100.ge HI113.out) | refine below_set ?_ (IsS43.ge HI121.out) | refine below_set ?_ GE135.out) | exact HB.out))
           rintro e w33 ⟨rfl, hi, hb, hk⟩
           refine ⟨_, rfl, ?_⟩
           have n0_ := Aside0.mk (keepRef (show IsS43 w _ g121 t150 t151 t152 t153 t154 t155 t156 from by repeat (first | (with_reducible first | exact HI121.out | apply IsS43.alloc | apply IsS43.drewN | apply IsS43.drew | refine IsS43.far ?_ NB121_135.out _) | exact HI121.out)) hk (NB121_113.out))
           have n1_ := Aside0.mk (KeepBut.blk hk (g' := gb135) (o := .cells #[.int .u64 t123, .int .u64 t124] 30 (0, 0)) (by (with_reducible repeat (first | refine blk_drewN ?_ _ | refine blk_drew ?_ | refine blk_alloc ?_ _)); exact BK135.out) NB135_113.out (by simp))
           have n2_ := Aside0.mk (hb)
           have n3_ := Aside0.mk (hi)
           clear HI121
           clear BK135
           clear HB
           clear HI113
           have HI121 := n0_
           have BK135 := n1_
           have HB := n2_
           have HI113 := n3_
           clear n0_ n1_ n2_ n3_
           (try clear hb)
           (try clear hb2)
           (try clear hk)
           (try clear hi)
           refine hK.out _ _ ⟨(blk_cell (Aside0.mk HI121.out.1).out 0).trans rfl, (blk_cell (Aside0.mk HI121.out.1).out 1).trans rfl, (blk_cell (Aside0.mk HI121.out.1).out 2).trans rfl, (blk_cell (Aside0.mk HI121.out.1).out 3).trans rfl, (blk_cell (Aside0.mk HI121.out.1).out 4).trans rfl, (blk_cell (Aside0.mk HI121.out.1).out 5).trans rfl, (blk_cell (Aside0.mk HI121.out.1).out 6).trans rfl, ((HB.out.cell (World.block_lt_of_cell? w _ hw136_0)).trans hw136_0), ((HB.out.cell (World.block_lt_of_cell? w _ hw136_1)).trans hw136_1), ((HB.out.cell (World.block_lt_of_cell? w _ hw136_2)).trans hw136_2), ((HB.out.cell (World.block_lt_of_cell? w _ hw136_3)).trans hw136_3), ((HB.out.cell (World.block_lt_of_cell? w _ hw136_4)).trans hw136_4), ((HB.out.cell (World.block_lt_of_cell? w _ hw136_5)).trans hw136_5), ((HB.out.cell (World.block_lt_of_cell? w _ hw148_0)).trans hw148_0), ((HB.out.cell (World.block_lt_of_cell? w _ hw148_1)).trans hw148_1), ((HB.out.cell (World.block_lt_of_cell? w _ hw148_2)).trans hw148_2), ((HB.out.cell (World.block_lt_of_cell? w _ hw148_3)).trans hw148_3), ((HB.out.cell (World.block_lt_of_cell? w _ hw148_4)).trans hw148_4), ((HB.out.cell (World.block_lt_of_cell? w _ hw148_5)).trans hw148_5)⟩ (fun hHeld => ?_)
           clear hK K
           refine norm_ (a' := ?_) ?_ ?_
           rotate_left
           ·show Act.put _ (some 40) _ = _
            simp only [Act.put, List.setIfInBounds_toArray, List.set_cons_zero, List.set_cons_succ, i64_w, i32_w]
            rfl
           refine pure_ (i := 20) (N := some 45) (v := ?_) (a' := ?_) #[true, true, true, true, true, true, true, true, true, true, true, true, true, true, true, true, true, true, true, true, true, false, false, false, false, false, false, false, false, false, false, false, false, false, false, false] rfl rfl (any_of HT_.out (by kernel_rfl)) (fun _ _ _ h => h) (Or.inl ⟨by rfl, ?_⟩) ?_ ?_
           rotate_left
           ·intro w'
            go_simp
            with_reducible rfl
           rotate_left
           ·simp only [Act.put, List.setIfInBounds_toArray, List.set_cons_zero, List.set_cons_succ, i64_w, i32_w]
            rfl
           refine pure_ (i := 21) (N := some 46) (v := ?_) (a' := ?_) #[true, true, true, true, true, true, true, true, true, true, true, true, true, true, true, true, true, true, true, true, true, true, false, false, false, false, false, false, false, false, false, false, false, false, false, false] rfl rfl (any_of HT_.out (by kernel_rfl)) (fun _ _ _ h => h) (Or.inl ⟨by rfl, ?_⟩) ?_ ?_
           rotate_left
           ·intro w'
            go_simp
            with_reducible rfl
           rotate_left
           ·simp only [Act.put, List.setIfInBounds_toArray, List.set_cons_zero, List.set_cons_succ, i64_w, i32_w]
            rfl
           refine pure_ (i := 22) (N := some 47) (v := ?_) (a' := ?_) #[true, true, true, true, true, true, true, true, true, true, true, true, true, true, true, true, true, true, true, true, true, true, true, false, false, false, false, false, false, false, false, false, false, false, false, false] rfl rfl (any_of HT_.out (by kernel_rfl)) (fun _ _ _ h => h) (Or.inl ⟨by rfl, ?_⟩) ?_ ?_
           rotate_left
           ·intro w'
            go_simp
            with_reducible rfl
           rotate_left
           ·simp only [Act.put, List.setIfInBounds_toArray, List.set_cons_zero, List.set_cons_succ, i64_w, i32_w]
            rfl
           refine pure_ (i := 23) (N := some 48) (v := ?_) (a' := ?_) #[true, true, true, true, true, true, true, true, true, true, true, true, true, true, true, true, true, true, true, true, true, true, true, true, false, false, false, false, false, false, false, false, false, false, false, false] rfl rfl (any_of HT_.out (by kernel_rfl)) (fun _ _ _ h => h) (Or.inl ⟨by rfl, ?_⟩) ?_ ?_
           rotate_left
           ·intro w'
            go_simp
            with_reducible rfl
           rotate_left
           ·simp only [Act.put, List.setIfInBounds_toArray, List.set_cons_zero, List.set_cons_succ, i64_w, i32_w]
            rfl
           refine one_ (i := 24) (N := some 49) #[true, true, true, true, true, true, true, true, true, true, true, true, true, true, true, true, true, true, true, true, true, true, true, true, true, false, false, false, false, false, false, false, false, false, false, false] rfl rfl (one_of HT_.out (by kernel_rfl)) (by decide) (fun K hK => ?_)
           refine goes_ Tryd.func18 (by kernel_rfl) rfl #[.pointer (some ⟨g113, 0, none⟩)] (by rfl) rfl rfl (by (try simp only [List.map_toArray, List.map_cons, List.map_nil]); first | done | rfl | (simp only [List.length_drop, List.length_take]; rfl)) ?_
           with_reducible refine (deck_Deck_Mode.calls g113 t158 t159 t160 t161 t162 t163 t164 t165 t166 t167 t168 t169 t170 t171 t172 t173 t174 t175 t176 t177 t178 w _ ?side1 ?side2 A27.out).mono ?_
           (case side1 => repeat (first | (with_reducible first | exact HI113.out | apply IsS100.alloc | apply IsS100.drewN | apply IsS100.drew | refine IsS100.far ?_ NB113_135.out _) | exact HI113.out))
           (case side2 => repeat (first | (with_reducible first | exact HB.out | apply below_alloc | apply pw_below_drewN | apply below_drew1 | refine below_set ?_ (IsS100.ge HI113.out) | refine below_set ?_ (IsS43.ge HI121.out) | refine below_set ?_ GE135.out) | exact HB.out))
           rintro e w34 ⟨rfl, hi, hb, hk⟩
           refine ⟨_, rfl, ?_⟩
           have n0_ := Aside0.mk (keepRef (show IsS43 w _ g121 t150 t151 t152 t153 t154 t155 t156 from by repeat (first | (with_reducible first | exact HI121.out | apply IsS43.alloc | apply IsS43.drewN | apply IsS43.drew | refine IsS43.far ?_ NB121_135.out _) | exact HI121.out)) hk (NB121_113.out))
           have n1_ := Aside0.mk (KeepBut.blk hk (g' := gb135) (o := .cells #[.int .u64 t123, .int .u64 t124] 30 (0, 0)) (by (with_reducible repeat (first | refine blk_drewN ?_ _ | refine blk_drew ?_ | refine blk_alloc ?_ _)); exact BK135.out) NB135_113.out (by simp))
           have n2_ := Aside0.mk (hb)
           have n3_ := Aside0.mk (hi)
           clear HI121
           clear BK135
           clear HB
           clear HI113
           have HI121 := n0_
           have BK135 := n1_
           have HB := n2_
           have HI113 := n3_
           clear n0_ n1_ n2_ n3_
           (try clear hb)
           (try clear hb2)
           (try clear hk)
           (try clear hi)
           refine hK.out _ _ ⟨(blk_cell (Aside0.mk HI121.out.1).out 0).trans rfl, (blk_cell (Aside0.mk HI121.out.1).out 1).trans rfl, (blk_cell (Aside0.mk HI121.out.1).out 2).trans rfl, (blk_cell (Aside0.mk HI121.out.1).out 3).trans rfl, (blk_cell (Aside0.mk HI121.out.1).out 4).trans rfl, (blk_cell (Aside0.mk HI121.out.1).out 5).trans rfl, (blk_cell (Aside0.mk HI121.out.1).out 6).trans rfl, ((HB.out.cell (World.block_lt_of_cell? w _ hw136_0)).trans hw136_0), ((HB.out.cell (World.block_lt_of_cell? w _ hw136_1)).trans hw136_1), ((HB.out.cell (World.block_lt_of_cell? w _ hw136_2)).trans hw136_2), ((HB.out.cell (World.block_lt_of_cell? w _ hw136_3)).trans hw136_3), ((HB.out.cell (World.block_lt_of_cell? w _ hw136_4)).trans hw136_4), ((HB.out.cell (World.block_lt_of_cell? w _ hw136_5)).trans hw136_5), ((HB.out.cell (World.block_lt_of_cell? w _ hw148_0)).trans hw148_0), ((HB.out.cell (World.block_lt_of_cell? w _ hw148_1)).trans hw148_1), ((HB.out.cell (World.block_lt_of_cell? w _ hw148_2)).trans hw148_2), ((HB.out.cell (World.block_lt_of_cell? w _ hw148_3)).trans hw148_3), ((HB.out.cell (World.block_lt_of_cell? w _ hw148_4)).trans hw148_4), ((HB.out.cell (World.block_lt_of_cell? w _ hw148_5)).trans hw148_5)⟩ (fun hHeld => ?_)
           clear hK K
           refine norm_ (a' := ?_) ?_ ?_
           rotate_left
           ·show Act.put _ (some 49) _ = _
            simp only [Act.put, List.setIfInBounds_toArray, List.set_cons_zero, List.set_cons_succ, i64_w, i32_w]
            rfl
           refine pure_ (i := 25) (N := some 50) (v := ?_) (a' := ?_) #[true, true, true, true, true, true, true, true, true, true, true, true, true, true, true, true, true, true, true, true, true, true, true, true, true, true, false, false, false, false, false, false, false, false, false, false] rfl rfl (any_of HT_.out (by kernel_rfl)) (fun _ _ _ h => h) (Or.inl ⟨by rfl, ?_⟩) ?_ ?_
           rotate_left
           ·intro w'
            go_simp
            with_reducible rfl
           rotate_left
           ·simp only [Act.put, List.setIfInBounds_toArray, List.set_cons_zero, List.set_cons_succ, i64_w, i32_w]
            rfl
           refine pure_ (i := 26) (N := some 51) (v := ?_) (a' := ?_) #[true, true, true, true, true, true, true, true, true, true, true, true, true, true, true, true, true, true, true, true, true, true, true, true, true, true, true, false, false, false, false, false, false, false, false, false] rfl rfl (any_of HT_.out (by kernel_rfl)) (fun _ _ _ h => h) (Or.inl ⟨by rfl, ?_⟩) ?_ ?_
           rotate_left
           ·intro w'
            go_simp
            with_reducible rfl
           rotate_left
           ·simp only [Act.put, List.setIfInBounds_toArray, List.set_cons_zero, List.set_cons_succ, i64_w, i32_w]
            rfl
           refine pure_ (i := 27) (N := some 52) (v := undef) (a' := ?_) #[true, true, true, true, true, true, true, true, true, true, true, true, true, true, true, true, true, true, true, true, true, true, true, true, true, true, true, true, false, false, false, false, false, false, false, false] rfl rfl (any_of HT_.out (by kernel_rfl)) (fun _ _ _ h => h) (Or.inr ⟨by rfl, rfl⟩) ?_ ?_
           rotate_left
           ·simp only [Act.put, List.setIfInBounds_toArray, List.set_cons_zero, List.set_cons_succ, i64_w, i32_w]
            rfl
           refine pure_ (i := 28) (N := some 53) (v := undef) (a' := ?_) #[true, true, true, true, true, true, true, true, true, true, true, true, true, true, true, true, true, true, true, true, true, true, true, true, true, true, true, true, true, false, false, false, false, false, false, false] rfl rfl (any_of HT_.out (by kernel_rfl)) (fun _ _ _ h => h) (Or.inr ⟨by rfl, rfl⟩) ?_ ?_
           rotate_left
           ·simp only [Act.put, List.setIfInBounds_toArray, List.set_cons_zero, List.set_cons_succ, i64_w, i32_w]
            rfl
           refine pure_ (i := 29) (N := some 54) (v := undef) (a' := ?_) #[true, true, true, true, true, true, true, true, true, true, true, true, true, true, true, true, true, true, true, true, true, true, true, true, true, true, true, true, true, true, false, false, false, false, false, false] rfl rfl (any_of HT_.out (by kernel_rfl)) (fun _ _ _ h => h) (Or.inr ⟨by rfl, rfl⟩) ?_ ?_
           rotate_left
           ·simp only [Act.put, List.setIfInBounds_toArray, List.set_cons_zero, List.set_cons_succ, i64_w, i32_w]
            rfl
           refine pure_ (i := 30) (N := some 55) (v := undef) (a' := ?_) #[true, true, true, true, true, true, true, true, true, true, true, true, true, true, true, true, true, true, true, true, true, true, true, true, true, true, true, true, true, true, true, false, false, false, false, false] rfl rfl (any_of HT_.out (by kernel_rfl)) (fun _ _ _ h => h) (Or.inr ⟨by rfl, rfl⟩) ?_ ?_
           rotate_left
           ·simp only [Act.put, List.setIfInBounds_toArray, List.set_cons_zero, List.set_cons_succ, i64_w, i32_w]
            rfl
           refine pure_ (i := 31) (N := some 56) (v := undef) (a' := ?_) #[true, true, true, true, true, true, true, true, true, true, true, true, true, true, true, true, true, true, true, true, true, true, true, true, true, true, true, true, true, true, true, true, false, false, false, false] rfl rfl (any_of HT_.out (by kernel_rfl)) (fun _ _ _ h => h) (Or.inr ⟨by rfl, rfl⟩) ?_ ?_
           rotate_left
           ·simp only [Act.put, List.setIfInBounds_toArray, List.set_cons_zero, List.set_cons_succ, i64_w, i32_w]
            rfl
           refine pure_ (i := 32) (N := some 57) (v := undef) (a' := ?_) #[true, true, true, true, true, true, true, true, true, true, true, true, true, true, true, true, true, true, true, true, true, true, true, true, true, true, true, true, true, true, true, true, true, false, false, false] rfl rfl (any_of HT_.out (by kernel_rfl)) (fun _ _ _ h => h) (Or.inr ⟨by rfl, rfl⟩) ?_ ?_
           rotate_left
           ·simp only [Act.put, List.setIfInBounds_toArray, List.set_cons_zero, List.set_cons_succ, i64_w, i32_w]
            rfl
           refine pure_ (i := 33) (N := some 58) (v := undef) (a' := ?_) #[true, true, true, true, true, true, true, true, true, true, true, true, true, true, true, true, true, true, true, true, true, true, true, true, true, true, true, true, true, true, true, true, true, true, false, false] rfl rfl (any_of HT_.out (by kernel_rfl)) (fun _ _ _ h => h) (Or.inr ⟨by rfl, rfl⟩) ?_ ?_
           rotate_left
           ·simp only [Act.put, List.setIfInBounds_toArray, List.set_cons_zero, List.set_cons_succ, i64_w, i32_w]
            rfl
           refine pure_ (i := 34) (N := some 59) (v := ?_) (a' := ?_) #[true, true, true, true, true, true, true, true, true, true, true, true, true, true, true, true, true, true, true, true, true, true, true, true, true, true, true, true, true, true, true, true, true, true, true, false] rfl rfl (any_of HT_.out (by kernel_rfl)) (fun _ _ _ h => h) (Or.inl ⟨by rfl, ?_⟩) ?_ ?_
           rotate_left
           ·intro w'
            go_simp
            with_reducible rfl
           rotate_left
           ·simp only [Act.put, List.setIfInBounds_toArray, List.set_cons_zero, List.set_cons_succ, i64_w, i32_w]
            rfl
           refine pure_ (i := 35) (N := some 60) (v := ?_) (a' := ?_) #[true, true, true, true, true, true, true, true, true, true, true, true, true, true, true, true, true, true, true, true, true, true, true, true, true, true, true, true, true, true, true, true, true, true, true, true] rfl rfl (any_of HT_.out (by kernel_rfl)) (fun _ _ _ h => h) (Or.inl ⟨by rfl, ?_⟩) ?_ ?_
           rotate_left
           ·intro w'
            go_simp
            with_reducible rfl
           rotate_left
           ·simp only [Act.put, List.setIfInBounds_toArray, List.set_cons_zero, List.set_cons_succ, i64_w, i32_w]
            rfl
           refine done_ (done_of HT_.out (by kernel_rfl)) ?_
           try go_wp2
           go_meet
           case rel => exact ⟨_, (false), (t169), (t170), (t171), (t172), (t173), (t174), (t175), (t176), (t177), (t178), (t150), (t151), (t152), (t153), (t154), (t155), (t156), (by first | rfl | (simp; done) | (simp [*]; done)), H', ⟨by have := HK1.out; first | omega | exact Nat.le_refl _⟩, ⟨by (with_reducible repeat (first | refine blk_drewN ?_ _ | refine blk_drew ?_ | refine blk_alloc ?_ _)); exact BK135.out⟩, ⟨by repeat (first | (with_reducible first | exact HI113.out | apply IsS100.alloc | apply IsS100.drewN | apply IsS100.drew | refine IsS100.far ?_ NB113_135.out _) | exact HI113.out)⟩, ⟨by repeat (first | (with_reducible first | exact HI121.out | apply IsS43.alloc | apply IsS43.drewN | apply IsS43.drew | refine IsS43.far ?_ NB121_135.out _) | exact HI121.out)⟩, ⟨by repeat (first | (with_reducible first | exact HB.out | apply below_alloc | apply pw_below_drewN | apply below_drew1 | refine below_set ?_ (IsS100.ge HI113.out) | refine below_set ?_ (IsS43.ge HI121.out) | refine below_set ?_ GE135.out) | exact HB.out)⟩⟩
          ·rw [if_neg c28] at H
           have c28b0 : (t168 == 0) = false := beq_eq_false_iff_ne.mpr c28
           have c28b1 : (t168 != 0) = true := bne_iff_ne.mpr c28
           replace H := Option.bind_eq_some_iff.mp H
           obtain ⟨⟨t179, t180, t181, t182, t183, t184, t185, t186, t187, t188, t189⟩, A350, H⟩ := H
           replace H : (tiklaw23_DeckPlays.j1 k1 l0 x5_1 (t179 != t151) t180 t181 t182 t183 t184 t185 t186 t187 t188 t189 t150 t151 t152 t153 t154 t155 t156) = some r := H
           have A35 := Aside0.mk A350
           clear A350
           have H' := Aside0.mk H
           clear H
           try go_wp2
           have n0_ : Aside0 (((w17.setCell ⟨gb135, 0, none⟩ (.int .u64 t123)).setCell ⟨gb135, 1, none⟩ (.int .u64 t124)).heap[gb135]? = some (.cells #[.int .u64 t123, .int .u64 t124] 30 (0, 0))) := ⟨by (with_reducible repeat (first | refine blk_drewN ?_ _ | refine blk_drew ?_ | refine blk_alloc ?_ _)); refine blk_put (cs := #[.int .u64 t123, .int .u64 0]) ?_ 1 _ rfl; (with_reducible repeat (first | refine blk_drewN ?_ _ | refine blk_drew ?_ | refine blk_alloc ?_ _)); refine blk_put (cs := #[.int .u64 0, .int .u64 0]) ?_ 0 _ rfl; (with_reducible repeat (first | refine blk_drewN ?_ _ | refine blk_drew ?_ | refine blk_alloc ?_ _)); exact BK135.out⟩
           have n1_ : Aside0 (IsS100 w ((w17.setCell ⟨gb135, 0, none⟩ (.int .u64 t123)).setCell ⟨gb135, 1, none⟩ (.int .u64 t124)) g113 t125 t126 t127 t128 t129 t130 t131 t132 t133 t134) := ⟨by repeat (first | (with_reducible first | exact HI113.out | apply IsS100.alloc | apply IsS100.drewN | apply IsS100.drew | refine IsS100.far ?_ NB113_135.out _) | exact HI113.out)⟩
           have n2_ : Aside0 (IsS43 w ((w17.setCell ⟨gb135, 0, none⟩ (.int .u64 t123)).setCell ⟨gb135, 1, none⟩ (.int .u64 t124)) g121 x122000_1 x122001_1 x122002_1 x122003_1 x122004_1 x122005_1 x122006_1) := ⟨by repeat (first | (with_reducible first | exact HI121.out | apply IsS43.alloc | apply IsS43.drewN | apply IsS43.drew | refine IsS43.far ?_ NB121_135.out _) | exact HI121.out)⟩
           have n3_ : Aside0 (Below w.heap.size w ((w17.setCell ⟨gb135, 0, none⟩ (.int .u64 t123)).setCell ⟨gb135, 1, none⟩ (.int .u64 t124))) := ⟨by repeat (first | (with_reducible first | exact HB.out | apply below_alloc | apply pw_below_drewN | apply below_drew1 | refine below_set ?_ (IsS100.ge HI113.out) | refine below_set ?_ (IsS43.ge HI121.out) | refine below_set ?_ GE135.out) | exact HB.out)⟩
           (try clear BK135)
           (try clear HI113)
           (try clear HI121)
           (try clear HB)
           generalize ((w17.setCell ⟨gb135, 0, none⟩ (.int .u64 t123)).setCell ⟨gb135, 1, none⟩ (.int .u64 t124)) = w36 at n0_ n1_ n2_ n3_ ⊢
           have BK135 := n0_
           have HI113 := n1_
           have HI121 := n2_
           have HB := n3_
           clear n0_ n1_ n2_ n3_
           have n0_ := Aside0.mk (blk_drew BK135.out)
           have n1_ := Aside0.mk (IsS100.drew HI113.out)
           have n2_ := Aside0.mk (IsS43.drew HI121.out)
           have n3_ := Aside0.mk (below_drew1 HB.out)
           clear BK135
           clear HI113
           clear HI121
           clear HB
           have BK135 := n0_
           have HI113 := n1_
           have HI121 := n2_
           have HB := n3_
           clear n0_ n1_ n2_ n3_
           have p136 : 0 ≤ (x5_1 : Int) := of_decide_eq_true (by first | (with_reducible assumption) | assumption)
           have q136 : x5_1 < (l0.length : Int) := of_decide_eq_true (by first | (with_reducible assumption) | assumption)
           obtain ⟨ad136, e136, hx136_0, hx136_1, hx136_2, hx136_3, hx136_4, hx136_5⟩ := at_T36 HR0.out x5_1 p136 q136
           have hw136_5 := hx136_5
           have hw136_4 := hx136_4
           have hw136_3 := hx136_3
           have hw136_2 := hx136_2
           have hw136_1 := hx136_1
           have hw136_0 := hx136_0
           cases e136
           replace hx136_0 := (HB.out.cell (World.block_lt_of_cell? w _ hx136_0)).trans hx136_0
           replace hx136_1 := (HB.out.cell (World.block_lt_of_cell? w _ hx136_1)).trans hx136_1
           replace hx136_2 := (HB.out.cell (World.block_lt_of_cell? w _ hx136_2)).trans hx136_2
           replace hx136_3 := (HB.out.cell (World.block_lt_of_cell? w _ hx136_3)).trans hx136_3
           replace hx136_4 := (HB.out.cell (World.block_lt_of_cell? w _ hx136_4)).trans hx136_4
           replace hx136_5 := (HB.out.cell (World.block_lt_of_cell? w _ hx136_5)).trans hx136_5
           replace p136 := eq_true p136
           replace q136 := eq_true q136
           have p148 : 0 ≤ (x5_1 : Int) := of_decide_eq_true (by first | (with_reducible assumption) | assumption)
           have q148 : x5_1 < (l0.length : Int) := of_decide_eq_true (by first | (with_reducible assumption) | assumption)
           obtain ⟨ad148, e148, hx148_0, hx148_1, hx148_2, hx148_3, hx148_4, hx148_5⟩ := at_T36 HR0.out x5_1 p148 q148
           have hw148_5 := hx148_5
           have hw148_4 := hx148_4
           have hw148_3 := hx148_3
           have hw148_2 := hx148_2
           have hw148_1 := hx148_1
           have hw148_0 := hx148_0
           obtain rfl : ad136 = ad148 := (by injection e148)
           replace hx148_0 := (HB.out.cell (World.block_lt_of_cell? w _ hx148_0)).trans hx148_0
           replace hx148_1 := (HB.out.cell (World.block_lt_of_cell? w _ hx148_1)).trans hx148_1
           replace hx148_2 := (HB.out.cell (World.block_lt_of_cell? w _ hx148_2)).trans hx148_2
           replace hx148_3 := (HB.out.cell (World.block_lt_of_cell? w _ hx148_3)).trans hx148_3
           replace hx148_4 := (HB.out.cell (World.block_lt_of_cell? w _ hx148_4)).trans hx148_4
           replace hx148_5 := (HB.out.cell (World.block_lt_of_cell? w _ hx148_5)).trans hx148_5
           replace p148 := eq_true p148
           replace q148 := eq_true q148
           refine start_ (n := 36) (S := fun w' => True ∧ True ∧ True ∧ True ∧ True ∧ True ∧ True ∧ w'.cell? (ad136.add ((x5_1).toNat * 6)) = some (.int .i64 ((rd_T36 l0 x5_1).f0)) ∧ w'.cell? ⟨(ad136.add ((x5_1).toNat * 6)).block, (ad136.add ((x5_1).toNat * 6)).off + 1, none⟩ = some (.int .u64 ((rd_T36 l0 x5_1).f1)) ∧ w'.cell? ⟨(ad136.add ((x5_1).toNat * 6)).block, (ad136.add ((x5_1).toNat * 6)).off + 2, none⟩ = some (.int .u64 ((rd_T36 l0 x5_1).f2)) ∧ w'.cell? ⟨(ad136.add ((x5_1).toNat * 6)).block, (ad136.add ((x5_1).toNat * 6)).off + 3, none⟩ = some (.int .u64 ((rd_T36 l0 x5_1).f3)) ∧ w'.cell? ⟨(ad136.add ((x5_1).toNat * 6)).block, (ad136.add ((x5_1).toNat * 6)).off + 4, none⟩ = some (.int .u64 ((rd_T36 l0 x5_1).f4)) ∧ w'.cell? ⟨(ad136.add ((x5_1).toNat * 6)).block, (ad136.add ((x5_1).toNat * 6)).off + 5, none⟩ = some (.float .f64 ((rd_T36 l0 x5_1).f5)) ∧ w'.cell? (ad136.add ((x5_1).toNat * 6)) = some (.int .i64 ((rd_T36 l0 x5_1).f0)) ∧ w'.cell? ⟨(ad136.add ((x5_1).toNat * 6)).block, (ad136.add ((x5_1).toNat * 6)).off + 1, none⟩ = some (.int .u64 ((rd_T36 l0 x5_1).f1)) ∧ w'.cell? ⟨(ad136.add ((x5_1).toNat * 6)).block, (ad136.add ((x5_1).toNat * 6)).off + 2, none⟩ = some (.int .u64 ((rd_T36 l0 x5_1).f2)) ∧ w'.cell? ⟨(ad136.add ((x5_1).toNat * 6)).block, (ad136.add ((x5_1).toNat * 6)).off + 3, none⟩ = some (.int .u64 ((rd_T36 l0 x5_1).f3)) ∧ w'.cell? ⟨(ad136.add ((x5_1).toNat * 6)).block, (ad136.add ((x5_1).toNat * 6)).off + 4, none⟩ = some (.int .u64 ((rd_T36 l0 x5_1).f4)) ∧ w'.cell? ⟨(ad136.add ((x5_1).toNat * 6)).block, (ad136.add ((x5_1).toNat * 6)).off + 5, none⟩ = some (.float .f64 ((rd_T36 l0 x5_1).f5))) (ds := []) #[false, false, false, false, false, false, false, false, false, false, false, false, false, false, false, false, false, false, false, false, false, false, false, false, false, false, false, false, false, false, false, false, false, false, false, false] (by kernel_rfl) rfl rfl ⟨trivial, trivial, trivial, trivial, trivial, trivial, trivial, ((HB.out.cell (World.block_lt_of_cell? w _ hw136_0)).trans hw136_0), ((HB.out.cell (World.block_lt_of_cell? w _ hw136_1)).trans hw136_1), ((HB.out.cell (World.block_lt_of_cell? w _ hw136_2)).trans hw136_2), ((HB.out.cell (World.block_lt_of_cell? w _ hw136_3)).trans hw136_3), ((HB.out.cell (World.block_lt_of_cell? w _ hw136_4)).trans hw136_4), ((HB.out.cell (World.block_lt_of_cell? w _ hw136_5)).trans hw136_5), ((HB.out.cell (World.block_lt_of_cell? w _ hw148_0)).trans hw148_0), ((HB.out.cell (World.block_lt_of_cell? w _ hw148_1)).trans hw148_1), ((HB.out.cell (World.block_lt_of_cell? w _ hw148_2)).trans hw148_2), ((HB.out.cell (World.block_lt_of_cell? w _ hw148_3)).trans hw148_3), ((HB.out.cell (World.block_lt_of_cell? w _ hw148_4)).trans hw148_4), ((HB.out.cell (World.block_lt_of_cell? w _ hw148_5)).trans hw148_5)⟩ (fun hHeld => ?_); refine with_tabW tiklaw23_DeckPlays.tab12 tiklaw23_DeckPlays.bits12 (fun HT_ HW_ => ?_)
           generalize w36.drew = w37 at BK135 HI113 HI121 HB hx136_0 hx136_1 hx136_2 hx136_3 hx136_4 hx136_5 hx148_0 hx148_1 hx148_2 hx148_3 hx148_4 hx148_5 hHeld ⊢
           refine pure_ (i := 0) (N := some 25) (v := ?_) (a' := ?_) #[true, false, false, false, false, false, false, false, false, false, false, false, false, false, false, false, false, false, false, false, false, false, false, false, false, false, false, false, false, false, false, false, false, false, false, false] rfl rfl (any_of HT_.out (by kernel_rfl)) (fun _ _ _ h => h) (Or.inl ⟨by rfl, ?_⟩) ?_ ?_
           rotate_left
           ·intro w'
            go_simp
            with_reducible rfl
           rotate_left
           ·simp only [Act.put, List.setIfInBounds_toArray, List.set_cons_zero, List.set_cons_succ, i64_w, i32_w]
            rfl
           refine pure_ (i := 1) (N := some 26) (v := ?_) (a' := ?_) #[true, true, false, false, false, false, false, false, false, false, false, false, false, false, false, false, false, false, false, false, false, false, false, false, false, false, false, false, false, false, false, false, false, false, false, false] rfl rfl (any_of HT_.out (by kernel_rfl)) (fun _ _ _ h => h) (Or.inl ⟨by rfl, ?_⟩) ?_ ?_
           rotate_left
           ·intro w'
            go_simp
            with_reducible rfl
           rotate_left
           ·simp only [Act.put, List.setIfInBounds_toArray, List.set_cons_zero, List.set_cons_succ, i64_w, i32_w]
            rfl
           refine pure_ (i := 2) (N := some 27) (v := ?_) (a' := ?_) #[true, true, true, false, false, false, false, false, false, false, false, false, false, false, false, false, false, false, false, false, false, false, false, false, false, false, false, false, false, false, false, false, false, false, false, false] rfl rfl (any_of HT_.out (by kernel_rfl)) (fun _ _ _ h => h) (Or.inl ⟨by rfl, ?_⟩) ?_ ?_
           rotate_left
           ·intro w'
            go_simp
            with_reducible rfl
           rotate_left
           ·simp only [Act.put, List.setIfInBounds_toArray, List.set_cons_zero, List.set_cons_succ, i64_w, i32_w]
            rfl
           refine pure_ (i := 3) (N := some 28) (v := ?_) (a' := ?_) #[true, true, true, true, false, false, false, false, false, false, false, false, false, false, false, false, false, false, false, false, false, false, false, false, false, false, false, false, false, false, false, false, false, false, false, false] rfl rfl (any_of HT_.out (by kernel_rfl)) (fun _ _ _ h => h) (Or.inl ⟨by rfl, ?_⟩) ?_ ?_
           rotate_left
           ·intro w'
            go_simp
            with_reducible rfl
           rotate_left
           ·simp only [Act.put, List.setIfInBounds_toArray, List.set_cons_zero, List.set_cons_succ, i64_w, i32_w]
            rfl
           refine pure_ (i := 6) (N := some 31) (v := ?_) (a' := ?_) #[true, true, true, true, false, false, true, false, false, false, false, false, false, false, false, false, false, false, false, false, false, false, false, false, false, false, false, false, false, false, false, false, false, false, false, false] rfl rfl (any_of HT_.out (by kernel_rfl)) (fun _ _ _ h => h) (Or.inl ⟨by rfl, ?_⟩) ?_ ?_
           rotate_left
           ·intro w'
            go_simp
            with_reducible rfl
           rotate_left
           ·simp only [Act.put, List.setIfInBounds_toArray, List.set_cons_zero, List.set_cons_succ, i64_w, i32_w]
            rfl
           refine pure_ (i := 7) (N := some 32) (v := ?_) (a' := ?_) #[true, true, true, true, false, false, true, true, false, false, false, false, false, false, false, false, false, false, false, false, false, false, false, false, false, false, false, false, false, false, false, false, false, false, false, false] rfl rfl (any_of HT_.out (by kernel_rfl)) (fun _ _ _ h => h) (Or.inl ⟨by rfl, ?_⟩) ?_ ?_
           rotate_left
           ·intro w'
            go_simp
            with_reducible rfl
           rotate_left
           ·simp only [Act.put, List.setIfInBounds_toArray, List.set_cons_zero, List.set_cons_succ, i64_w, i32_w]
            rfl
           refine pure_ (i := 8) (N := some 33) (v := ?_) (a' := ?_) #[true, true, true, true, false, false, true, true, true, false, false, false, false, false, false, false, false, false, false, false, false, false, false, false, false, false, false, false, false, false, false, false, false, false, false, false] rfl rfl (any_of HT_.out (by kernel_rfl)) (fun _ _ _ h => h) (Or.inl ⟨by rfl, ?_⟩) ?_ ?_
           rotate_left
           ·intro w'
            go_simp
            with_reducible rfl
           rotate_left
           ·simp only [Act.put, List.setIfInBounds_toArray, List.set_cons_zero, List.set_cons_succ, i64_w, i32_w]
            rfl
           refine pure_ (i := 9) (N := some 34) (v := ?_) (a' := ?_) #[true, true, true, true, false, false, true, true, true, true, false, false, false, false, false, false, false, false, false, false, false, false, false, false, false, false, false, false, false, false, false, false, false, false, false, false] rfl rfl (any_of HT_.out (by kernel_rfl)) (fun _ _ _ h => h) (Or.inl ⟨by rfl, ?_⟩) ?_ ?_
           rotate_left
           ·intro w'
            go_simp
            with_reducible rfl
           rotate_left
           ·simp only [Act.put, List.setIfInBounds_toArray, List.set_cons_zero, List.set_cons_succ, i64_w, i32_w]
            rfl
           refine take_ (i := 4) (N := some 29) (v := ?_) (a' := ?_) #[true, true, true, true, true, false, true, true, true, true, false, false, false, false, false, false, false, false, false, false, false, false, false, false, false, false, false, false, false, false, false, false, false, false, false, false] rfl rfl (take_ofW HT_.out HW_.out (by kernel_rfl)) (fun _ _ _ h => h) (Or.inl ⟨by rfl, ?_⟩) hHeld ?_ ?_
           rotate_left
           ·rintro w' ⟨s0, s1, s2, s3, s4, s5, s6, s7, s8, s9, s10, s11, s12, s13, s14, s15, s16, s17, s18⟩
            go_simp
            with_reducible rfl
           rotate_left
           ·simp only [Act.put, List.setIfInBounds_toArray, List.set_cons_zero, List.set_cons_succ, i64_w, i32_w]
            rfl
           refine take_ (i := 10) (N := some 35) (v := ?_) (a' := ?_) #[true, true, true, true, true, false, true, true, true, true, true, false, false, false, false, false, false, false, false, false, false, false, false, false, false, false, false, false, false, false, false, false, false, false, false, false] rfl rfl (take_ofW HT_.out HW_.out (by kernel_rfl)) (fun _ _ _ h => h) (Or.inl ⟨by rfl, ?_⟩) hHeld ?_ ?_
           rotate_left
           ·rintro w' ⟨s0, s1, s2, s3, s4, s5, s6, s7, s8, s9, s10, s11, s12, s13, s14, s15, s16, s17, s18⟩
            go_simp
            with_reducible rfl
           rotate_left
           ·simp only [Act.put, List.setIfInBounds_toArray, List.set_cons_zero, List.set_cons_succ, i64_w, i32_w]
            rfl
           refine one_ (i := 5) (N := some 30) #[true, true, true, true, true, true, true, true, true, true, true, false, false, false, false, false, false, false, false, false, false, false, false, false, false, false, false, false, false, false, false, false, false, false, false, false] rfl rfl (one_of HT_.out (by kernel_rfl)) (by decide) (fun K hK => ?_)
           refine goes_ Tryd.func16 (by kernel_rfl) rfl #[.pointer (some ⟨g113, 0, none⟩), .agg #[.int .i64 ((rd_T36 l0 x5_1).f0), .int .u64 ((rd_T36 l0 x5_1).f1), .int .u64 ((rd_T36 l0 x5_1).f2), .int .u64 ((rd_T36 l0 x5_1).f3), .int .u64 ((rd_T36 l0 x5_1).f4), .float .f64 ((rd_T36 l0 x5_1).f5)]] (by rfl) rfl rfl (by (try simp only [List.map_toArray, List.map_cons, List.map_nil]); first | done | rfl | (simp only [List.length_drop, List.length_take]; rfl)) ?_
           with_reducible refine (tiklaw23_Does.calls k1 g113 t125 t126 t127 t128 t129 t130 t131 t132 t133 t134 ((rd_T36 l0 x5_1).f0) ((rd_T36 l0 x5_1).f1) ((rd_T36 l0 x5_1).f2) ((rd_T36 l0 x5_1).f3) ((rd_T36 l0 x5_1).f4) ((rd_T36 l0 x5_1).f5) t137 t138 t139 t140 t141 t142 t143 t144 t145 t146 t147 w _ ?side1 ?side2 ?side3 A22.out).mono ?_
           (case side1 => repeat (first | (with_reducible first | exact HI113.out | apply IsS100.alloc | apply IsS100.drewN | apply IsS100.drew | refine IsS100.far ?_ NB113_135.out _) | exact HI113.out))
           (case side2 => repeat (first | (with_reducible first | exact HB.out | apply below_alloc | apply pw_below_drewN | apply below_drew1 | refine below_set ?_ (IsS100.ge HI113.out) | refine below_set ?_ (IsS43.ge HI121.out) | refine below_set ?_ GE135.out) | exact HB.out))
           (case side3 => first | (with_reducible exact HT.out) | exact tabAt HT.out (by repeat (first | (with_reducible first | exact HB.out | apply below_alloc | apply pw_below_drewN | apply below_drew1 | refine below_set ?_ (IsS100.ge HI113.out) | refine below_set ?_ (IsS43.ge HI121.out) | refine below_set ?_ GE135.out) | exact HB.out)))
           rintro e w38 ⟨rfl, hi, hb, hk⟩
           refine ⟨_, rfl, ?_⟩
           have n0_ := Aside0.mk (keepRef (show IsS43 w _ g121 x122000_1 x122001_1 x122002_1 x122003_1 x122004_1 x122005_1 x122006_1 from by repeat (first | (with_reducible first | exact HI121.out | apply IsS43.alloc | apply IsS43.drewN | apply IsS43.drew | refine IsS43.far ?_ NB121_135.out _) | exact HI121.out)) hk (NB121_113.out))
           have n1_ := Aside0.mk (KeepBut.blk hk (g' := gb135) (o := .cells #[.int .u64 t123, .int .u64 t124] 30 (0, 0)) (by (with_reducible repeat (first | refine blk_drewN ?_ _ | refine blk_drew ?_ | refine blk_alloc ?_ _)); exact BK135.out) NB135_113.out (by simp))
           have n2_ := Aside0.mk (hb)
           have n3_ := Aside0.mk (hi)
           clear HI121
           clear BK135
           clear HB
           clear HI113
           have HI121 := n0_
           have BK135 := n1_
           have HB := n2_
           have HI113 := n3_
           clear n0_ n1_ n2_ n3_
           (try clear hb)
           (try clear hb2)
           (try clear hk)
           (try clear hi)
           refine hK.out _ _ ⟨trivial, trivial, trivial, trivial, trivial, trivial, trivial, ((HB.out.cell (World.block_lt_of_cell? w _ hw136_0)).trans hw136_0), ((HB.out.cell (World.block_lt_of_cell? w _ hw136_1)).trans hw136_1), ((HB.out.cell (World.block_lt_of_cell? w _ hw136_2)).trans hw136_2), ((HB.out.cell (World.block_lt_of_cell? w _ hw136_3)).trans hw136_3), ((HB.out.cell (World.block_lt_of_cell? w _ hw136_4)).trans hw136_4), ((HB.out.cell (World.block_lt_of_cell? w _ hw136_5)).trans hw136_5), ((HB.out.cell (World.block_lt_of_cell? w _ hw148_0)).trans hw148_0), ((HB.out.cell (World.block_lt_of_cell? w _ hw148_1)).trans hw148_1), ((HB.out.cell (World.block_lt_of_cell? w _ hw148_2)).trans hw148_2), ((HB.out.cell (World.block_lt_of_cell? w _ hw148_3)).trans hw148_3), ((HB.out.cell (World.block_lt_of_cell? w _ hw148_4)).trans hw148_4), ((HB.out.cell (World.block_lt_of_cell? w _ hw148_5)).trans hw148_5)⟩ (fun hHeld => ?_)
           clear hK K
           refine norm_ (a' := ?_) ?_ ?_
           rotate_left
           ·show Act.put _ (some 30) _ = _
            simp only [Act.put, List.setIfInBounds_toArray, List.set_cons_zero, List.set_cons_succ, i64_w, i32_w]
            rfl
           refine one_ (i := 11) (N := some 36) #[true, true, true, true, true, true, true, true, true, true, true, true, false, false, false, false, false, false, false, false, false, false, false, false, false, false, false, false, false, false, false, false, false, false, false, false] rfl rfl (one_of HT_.out (by kernel_rfl)) (by decide) (fun K hK => ?_)
           refine goes_ Tryd.func17 (by kernel_rfl) rfl #[.pointer (some ⟨g121, 0, none⟩), .agg #[.int .i64 ((rd_T36 l0 x5_1).f0), .int .u64 ((rd_T36 l0 x5_1).f1), .int .u64 ((rd_T36 l0 x5_1).f2), .int .u64 ((rd_T36 l0 x5_1).f3), .int .u64 ((rd_T36 l0 x5_1).f4), .float .f64 ((rd_T36 l0 x5_1).f5)]] (by rfl) rfl rfl (by (try simp only [List.map_toArray, List.map_cons, List.map_nil]); first | done | rfl | (simp only [List.length_drop, List.length_take]; rfl)) ?_
           with_reducible refine (refPlain.calls k1 g121 x122000_1 x122001_1 x122002_1 x122003_1 x122004_1 x122005_1 x122006_1 ((rd_T36 l0 x5_1).f0) ((rd_T36 l0 x5_1).f1) ((rd_T36 l0 x5_1).f2) ((rd_T36 l0 x5_1).f3) ((rd_T36 l0 x5_1).f4) ((rd_T36 l0 x5_1).f5) t149 t150 t151 t152 t153 t154 t155 t156 w _ ?side1 ?side2 A23.out).mono ?_
           (case side1 => repeat (first | (with_reducible first | exact HI121.out | apply IsS43.alloc | apply IsS43.drewN | apply IsS43.drew | refine IsS43.far ?_ NB121_135.out _) | exact HI121.out))
           (case side2 => repeat (first | (with_reducible first | exact HB.out | apply below_alloc | apply pw_below_drewN | apply below_drew1 | refine below_set ?_ (IsS100.ge HI113.out) | refine below_set ?_ (IsS43.ge HI121.out) | refine below_set ?_ GE135.out) | exact HB.out))
           rintro e w39 ⟨rfl, hi, hb, hk⟩
           refine ⟨_, rfl, ?_⟩
           have n0_ := Aside0.mk (keepDeck (show IsS100 w _ g113 t138 t139 t140 t141 t142 t143 t144 t145 t146 t147 from by repeat (first | (with_reducible first | exact HI113.out | apply IsS100.alloc | apply IsS100.drewN | apply IsS100.drew | refine IsS100.far ?_ NB113_135.out _) | exact HI113.out)) hk (NB113_121.out))
           have n1_ := Aside0.mk (KeepR.blk hk (g' := gb135) (o := .cells #[.int .u64 t123, .int .u64 t124] 30 (0, 0)) (by (with_reducible repeat (first | refine blk_drewN ?_ _ | refine blk_drew ?_ | refine blk_alloc ?_ _)); exact BK135.out) NB135_121.out (by simp))
           have n2_ := Aside0.mk (hb)
           have n3_ := Aside0.mk (hi)
           clear HI113
           clear BK135
           clear HB
           clear HI121
           have HI113 := n0_
           have BK135 := n1_
           have HB := n2_
           have HI121 := n3_
           clear n0_ n1_ n2_ n3_
           (try clear hb)
           (try clear hb2)
           (try clear hk)
           (try clear hi)
           refine hK.out _ _ ⟨trivial, trivial, trivial, trivial, trivial, trivial, trivial, ((HB.out.cell (World.block_lt_of_cell? w _ hw136_0)).trans hw136_0), ((HB.out.cell (World.block_lt_of_cell? w _ hw136_1)).trans hw136_1), ((HB.out.cell (World.block_lt_of_cell? w _ hw136_2)).trans hw136_2), ((HB.out.cell (World.block_lt_of_cell? w _ hw136_3)).trans hw136_3), ((HB.out.cell (World.block_lt_of_cell? w _ hw136_4)).trans hw136_4), ((HB.out.cell (World.block_lt_of_cell? w _ hw136_5)).trans hw136_5), ((HB.out.cell (World.block_lt_of_cell? w _ hw148_0)).trans hw148_0), ((HB.out.cell (World.block_lt_of_cell? w _ hw148_1)).trans hw148_1), ((HB.out.cell (World.block_lt_of_cell? w _ hw148_2)).trans hw148_2), ((HB.out.cell (World.block_lt_of_cell? w _ hw148_3)).trans hw148_3), ((HB.out.cell (World.block_lt_of_cell? w _ hw148_4)).trans hw148_4), ((HB.out.cell (World.block_lt_of_cell? w _ hw148_5)).trans hw148_5)⟩ (fun hHeld => ?_)
           refine strengthen_ (S' := fun w' : World => w'.cell? ⟨g121, 0, none⟩ = some (.int .i64 t150) ∧ w'.cell? ⟨g121, 1, none⟩ = some (.int .u64 t151) ∧ w'.cell? ⟨g121, 2, none⟩ = some (.int .u64 t152) ∧ w'.cell? ⟨g121, 3, none⟩ = some (.int .u64 t153) ∧ w'.cell? ⟨g121, 4, none⟩ = some (.int .u64 t154) ∧ w'.cell? ⟨g121, 5, none⟩ = some (.int .u64 t155) ∧ w'.cell? ⟨g121, 6, none⟩ = some (.int .u64 t156) ∧ w'.cell? (ad136.add ((x5_1).toNat * 6)) = some (.int .i64 ((rd_T36 l0 x5_1).f0)) ∧ w'.cell? ⟨(ad136.add ((x5_1).toNat * 6)).block, (ad136.add ((x5_1).toNat * 6)).off + 1, none⟩ = some (.int .u64 ((rd_T36 l0 x5_1).f1)) ∧ w'.cell? ⟨(ad136.add ((x5_1).toNat * 6)).block, (ad136.add ((x5_1).toNat * 6)).off + 2, none⟩ = some (.int .u64 ((rd_T36 l0 x5_1).f2)) ∧ w'.cell? ⟨(ad136.add ((x5_1).toNat * 6)).block, (ad136.add ((x5_1).toNat * 6)).off + 3, none⟩ = some (.int .u64 ((rd_T36 l0 x5_1).f3)) ∧ w'.cell? ⟨(ad136.add ((x5_1).toNat * 6)).block, (ad136.add ((x5_1).toNat * 6)).off + 4, none⟩ = some (.int .u64 ((rd_T36 l0 x5_1).f4)) ∧ w'.cell? ⟨(ad136.add ((x5_1).toNat * 6)).block, (ad136.add ((x5_1).toNat * 6)).off + 5, none⟩ = some (.float .f64 ((rd_T36 l0 x5_1).f5)) ∧ w'.cell? (ad136.add ((x5_1).toNat * 6)) = some (.int .i64 ((rd_T36 l0 x5_1).f0)) ∧ w'.cell? ⟨(ad136.add ((x5_1).toNat * 6)).block, (ad136.add ((x5_1).toNat * 6)).off + 1, none⟩ = some (.int .u64 ((rd_T36 l0 x5_1).f1)) ∧ w'.cell? ⟨(ad136.add ((x5_1).toNat * 6)).block, (ad136.add ((x5_1).toNat * 6)).off + 2, none⟩ = some (.int .u64 ((rd_T36 l0 x5_1).f2)) ∧ w'.cell? ⟨(ad136.add ((x5_1).toNat * 6)).block, (ad136.add ((x5_1).toNat * 6)).off + 3, none⟩ = some (.int .u64 ((rd_T36 l0 x5_1).f3)) ∧ w'.cell? ⟨(ad136.add ((x5_1).toNat * 6)).block, (ad136.add ((x5_1).toNat * 6)).off + 4, none⟩ = some (.int .u64 ((rd_T36 l0 x5_1).f4)) ∧ w'.cell? ⟨(ad136.add ((x5_1).toNat * 6)).block, (ad136.add ((x5_1).toNat * 6)).off + 5, none⟩ = some (.float .f64 ((rd_T36 l0 x5_1).f5))) (fun w' h => ⟨trivial, trivial, trivial, trivial, trivial, trivial, trivial, h.2.2.2.2.2.2.2⟩) _ _ _ _ ⟨(blk_cell (Aside0.mk HI121.out.1).out 0).trans rfl, (blk_cell (Aside0.mk HI121.out.1).out 1).trans rfl, (blk_cell (Aside0.mk HI121.out.1).out 2).trans rfl, (blk_cell (Aside0.mk HI121.out.1).out 3).trans rfl, (blk_cell (Aside0.mk HI121.out.1).out 4).trans rfl, (blk_cell (Aside0.mk HI121.out.1).out 5).trans rfl, (blk_cell (Aside0.mk HI121.out.1).out 6).trans rfl, ((HB.out.cell (World.block_lt_of_cell? w _ hw136_0)).trans hw136_0), ((HB.out.cell (World.block_lt_of_cell? w _ hw136_1)).trans hw136_1), ((HB.out.cell (World.block_lt_of_cell? w _ hw136_2)).trans hw136_2), ((HB.out.cell (World.block_lt_of_cell? w _ hw136_3)).trans hw136_3), ((HB.out.cell (World.block_lt_of_cell? w _ hw136_4)).trans hw136_4), ((HB.out.cell (World.block_lt_of_cell? w _ hw136_5)).trans hw136_5), ((HB.out.cell (World.block_lt_of_cell? w _ hw148_0)).trans hw148_0), ((HB.out.cell (World.block_lt_of_cell? w _ hw148_1)).trans hw148_1), ((HB.out.cell (World.block_lt_of_cell? w _ hw148_2)).trans hw148_2), ((HB.out.cell (World.block_lt_of_cell? w _ hw148_3)).trans hw148_3), ((HB.out.cell (World.block_lt_of_cell? w _ hw148_4)).trans hw148_4), ((HB.out.cell (World.block_lt_of_cell? w _ hw148_5)).trans hw148_5)⟩ ?_
           clear hHeld
           have hHeld : (fun w' : World => w'.cell? ⟨g121, 0, none⟩ = some (.int .i64 t150) ∧ w'.cell? ⟨g121, 1, none⟩ = some (.int .u64 t151) ∧ w'.cell? ⟨g121, 2, none⟩ = some (.int .u64 t152) ∧ w'.cell? ⟨g121, 3, none⟩ = some (.int .u64 t153) ∧ w'.cell? ⟨g121, 4, none⟩ = some (.int .u64 t154) ∧ w'.cell? ⟨g121, 5, none⟩ = some (.int .u64 t155) ∧ w'.cell? ⟨g121, 6, none⟩ = some (.int .u64 t156) ∧ w'.cell? (ad136.add ((x5_1).toNat * 6)) = some (.int .i64 ((rd_T36 l0 x5_1).f0)) ∧ w'.cell? ⟨(ad136.add ((x5_1).toNat * 6)).block, (ad136.add ((x5_1).toNat * 6)).off + 1, none⟩ = some (.int .u64 ((rd_T36 l0 x5_1).f1)) ∧ w'.cell? ⟨(ad136.add ((x5_1).toNat * 6)).block, (ad136.add ((x5_1).toNat * 6)).off + 2, none⟩ = some (.int .u64 ((rd_T36 l0 x5_1).f2)) ∧ w'.cell? ⟨(ad136.add ((x5_1).toNat * 6)).block, (ad136.add ((x5_1).toNat * 6)).off + 3, none⟩ = some (.int .u64 ((rd_T36 l0 x5_1).f3)) ∧ w'.cell? ⟨(ad136.add ((x5_1).toNat * 6)).block, (ad136.add ((x5_1).toNat * 6)).off + 4, none⟩ = some (.int .u64 ((rd_T36 l0 x5_1).f4)) ∧ w'.cell? ⟨(ad136.add ((x5_1).toNat * 6)).block, (ad136.add ((x5_1).toNat * 6)).off + 5, none⟩ = some (.float .f64 ((rd_T36 l0 x5_1).f5)) ∧ w'.cell? (ad136.add ((x5_1).toNat * 6)) = some (.int .i64 ((rd_T36 l0 x5_1).f0)) ∧ w'.cell? ⟨(ad136.add ((x5_1).toNat * 6)).block, (ad136.add ((x5_1).toNat * 6)).off + 1, none⟩ = some (.int .u64 ((rd_T36 l0 x5_1).f1)) ∧ w'.cell? ⟨(ad136.add ((x5_1).toNat * 6)).block, (ad136.add ((x5_1).toNat * 6)).off + 2, none⟩ = some (.int .u64 ((rd_T36 l0 x5_1).f2)) ∧ w'.cell? ⟨(ad136.add ((x5_1).toNat * 6)).block, (ad136.add ((x5_1).toNat * 6)).off + 3, none⟩ = some (.int .u64 ((rd_T36 l0 x5_1).f3)) ∧ w'.cell? ⟨(ad136.add ((x5_1).toNat * 6)).block, (ad136.add ((x5_1).toNat * 6)).off + 4, none⟩ = some (.int .u64 ((rd_T36 l0 x5_1).f4)) ∧ w'.cell? ⟨(ad136.add ((x5_1).toNat * 6)).block, (ad136.add ((x5_1).toNat * 6)).off + 5, none⟩ = some (.float .f64 ((rd_T36 l0 x5_1).f5))) _ := ⟨(blk_cell (Aside0.mk HI121.out.1).out 0).trans rfl, (blk_cell (Aside0.mk HI121.out.1).out 1).trans rfl, (blk_cell (Aside0.mk HI121.out.1).out 2).trans rfl, (blk_cell (Aside0.mk HI121.out.1).out 3).trans rfl, (blk_cell (Aside0.mk HI121.out.1).out 4).trans rfl, (blk_cell (Aside0.mk HI121.out.1).out 5).trans rfl, (blk_cell (Aside0.mk HI121.out.1).out 6).trans rfl, ((HB.out.cell (World.block_lt_of_cell? w _ hw136_0)).trans hw136_0), ((HB.out.cell (World.block_lt_of_cell? w _ hw136_1)).trans hw136_1), ((HB.out.cell (World.block_lt_of_cell? w _ hw136_2)).trans hw136_2), ((HB.out.cell (World.block_lt_of_cell? w _ hw136_3)).trans hw136_3), ((HB.out.cell (World.block_lt_of_cell? w _ hw136_4)).trans hw136_4), ((HB.out.cell (World.block_lt_of_cell? w _ hw136_5)).trans hw136_5), ((HB.out.cell (World.block_lt_of_cell? w _ hw148_0)).trans hw148_0), ((HB.out.cell (World.block_lt_of_cell? w _ hw148_1)).trans hw148_1), ((HB.out.cell (World.block_lt_of_cell? w _ hw148_2)).trans hw148_2), ((HB.out.cell (World.block_lt_of_cell? w _ hw148_3)).trans hw148_3), ((HB.out.cell (World.block_lt_of_cell? w _ hw148_4)).trans hw148_4), ((HB.out.cell (World.block_lt_of_cell? w _ hw148_5)).trans hw148_5)⟩
           clear hK K
           refine norm_ (a' := ?_) ?_ ?_
           rotate_left
           ·show Act.put _ (some 36) _ = _
            simp only [Act.put, List.setIfInBounds_toArray, List.set_cons_zero, List.set_cons_succ, i64_w, i32_w]
            rfl
           refine pure_ (i := 12) (N := some 37) (v := ?_) (a' := ?_) #[true, true, true, true, true, true, true, true, true, true, true, true, true, false, false, false, false, false, false, false, false, false, false, false, false, false, false, false, false, false, false, false, false, false, false, false] rfl rfl (any_of HT_.out (by kernel_rfl)) (fun _ _ _ h => h) (Or.inl ⟨by rfl, ?_⟩) ?_ ?_
           rotate_left
           ·intro w'
            go_simp
            with_reducible rfl
           rotate_left
           ·simp only [Act.put, List.setIfInBounds_toArray, List.set_cons_zero, List.set_cons_succ, i64_w, i32_w]
            rfl
           refine pure_ (i := 13) (N := some 38) (v := ?_) (a' := ?_) #[true, true, true, true, true, true, true, true, true, true, true, true, true, true, false, false, false, false, false, false, false, false, false, false, false, false, false, false, false, false, false, false, false, false, false, false] rfl rfl (any_of HT_.out (by kernel_rfl)) (fun _ _ _ h => h) (Or.inl ⟨by rfl, ?_⟩) ?_ ?_
           rotate_left
           ·intro w'
            go_simp
            with_reducible rfl
           rotate_left
           ·simp only [Act.put, List.setIfInBounds_toArray, List.set_cons_zero, List.set_cons_succ, i64_w, i32_w]
            rfl
           refine pure_ (i := 14) (N := some 39) (v := ?_) (a' := ?_) #[true, true, true, true, true, true, true, true, true, true, true, true, true, true, true, false, false, false, false, false, false, false, false, false, false, false, false, false, false, false, false, false, false, false, false, false] rfl rfl (any_of HT_.out (by kernel_rfl)) (fun _ _ _ h => h) (Or.inl ⟨by rfl, ?_⟩) ?_ ?_
           rotate_left
           ·intro w'
            go_simp
            with_reducible rfl
           rotate_left
           ·simp only [Act.put, List.setIfInBounds_toArray, List.set_cons_zero, List.set_cons_succ, i64_w, i32_w]
            rfl
           refine pure_ (i := 16) (N := some 41) (v := ?_) (a' := ?_) #[true, true, true, true, true, true, true, true, true, true, true, true, true, true, true, false, true, false, false, false, false, false, false, false, false, false, false, false, false, false, false, false, false, false, false, false] rfl rfl (any_of HT_.out (by kernel_rfl)) (fun _ _ _ h => h) (Or.inl ⟨by rfl, ?_⟩) ?_ ?_
           rotate_left
           ·intro w'
            go_simp
            with_reducible rfl
           rotate_left
           ·simp only [Act.put, List.setIfInBounds_toArray, List.set_cons_zero, List.set_cons_succ, i64_w, i32_w]
            rfl
           refine pure_ (i := 17) (N := some 42) (v := ?_) (a' := ?_) #[true, true, true, true, true, true, true, true, true, true, true, true, true, true, true, false, true, true, false, false, false, false, false, false, false, false, false, false, false, false, false, false, false, false, false, false] rfl rfl (any_of HT_.out (by kernel_rfl)) (fun _ _ _ h => h) (Or.inl ⟨by rfl, ?_⟩) ?_ ?_
           rotate_left
           ·intro w'
            go_simp
            with_reducible rfl
           rotate_left
           ·simp only [Act.put, List.setIfInBounds_toArray, List.set_cons_zero, List.set_cons_succ, i64_w, i32_w]
            rfl
           refine pure_ (i := 18) (N := some 43) (v := ?_) (a' := ?_) #[true, true, true, true, true, true, true, true, true, true, true, true, true, true, true, false, true, true, true, false, false, false, false, false, false, false, false, false, false, false, false, false, false, false, false, false] rfl rfl (any_of HT_.out (by kernel_rfl)) (fun _ _ _ h => h) (Or.inl ⟨by rfl, ?_⟩) ?_ ?_
           rotate_left
           ·intro w'
            go_simp
            with_reducible rfl
           rotate_left
           ·simp only [Act.put, List.setIfInBounds_toArray, List.set_cons_zero, List.set_cons_succ, i64_w, i32_w]
            rfl
           refine take_ (i := 19) (N := some 44) (v := ?_) (a' := ?_) #[true, true, true, true, true, true, true, true, true, true, true, true, true, true, true, false, true, true, true, true, false, false, false, false, false, false, false, false, false, false, false, false, false, false, false, false] rfl rfl (take_ofW HT_.out HW_.out (by kernel_rfl)) (fun _ _ _ h => h) (Or.inl ⟨by rfl, ?_⟩) hHeld ?_ ?_
           rotate_left
           ·rintro w' ⟨s0, s1, s2, s3, s4, s5, s6, s7, s8, s9, s10, s11, s12, s13, s14, s15, s16, s17, s18⟩
            go_simp
            with_reducible rfl
           rotate_left
           ·simp only [Act.put, List.setIfInBounds_toArray, List.set_cons_zero, List.set_cons_succ, i64_w, i32_w]
            rfl
           refine one_ (i := 15) (N := some 40) #[true, true, true, true, true, true, true, true, true, true, true, true, true, true, true, true, true, true, true, true, false, false, false, false, false, false, false, false, false, false, false, false, false, false, false, false] rfl rfl (one_of HT_.out (by kernel_rfl)) (by decide) (fun K hK => ?_)
           refine goes_ Tryd.func18 (by kernel_rfl) rfl #[.pointer (some ⟨g113, 0, none⟩)] (by rfl) rfl rfl (by (try simp only [List.map_toArray, List.map_cons, List.map_nil]); first | done | rfl | (simp only [List.length_drop, List.length_take]; rfl)) ?_
           with_reducible refine (deck_Deck_Mode.calls g113 t138 t139 t140 t141 t142 t143 t144 t145 t146 t147 t157 t158 t159 t160 t161 t162 t163 t164 t165 t166 t167 w _ ?side1 ?side2 A25.out).mono ?_
           (case side1 => repeat (first | (with_reducible first | exact HI113.out | apply IsS100.alloc | apply IsS100.drewN | apply IsS100.drew | refine IsS100.far ?_ NB113_135.out _) | exact HI113.out))
           (case side2 => repeat (first | (with_reducible first | exact HB.out | apply below_alloc | apply pw_below_drewN | apply below_drew1 | refine below_set ?_ (IsS100.ge HI113.out) | refine below_set ?_ (IsS43.ge HI121.out) | refine below_set ?_ GE135.out) | exact HB.out))
           rintro e w40 ⟨rfl, hi, hb, hk⟩
           refine ⟨_, rfl, ?_⟩
           have n0_ := Aside0.mk (keepRef (show IsS43 w _ g121 t150 t151 t152 t153 t154 t155 t156 from by repeat (first | (with_reducible first | exact HI121.out | apply IsS43.alloc | apply IsS43.drewN | apply IsS43.drew | refine IsS43.far ?_ NB121_135.out _) | exact HI121.out)) hk (NB121_113.out))
           have n1_ := Aside0.mk (KeepBut.blk hk (g' := gb135) (o := .cells #[.int .u64 t123, .int .u64 t124] 30 (0, 0)) (by (with_reducible repeat (first | refine blk_drewN ?_ _ | refine blk_drew ?_ | refine blk_alloc ?_ _)); exact BK135.out) NB135_113.out (by simp))
           have n2_ := Aside0.mk (hb)
           have n3_ := Aside0.mk (hi)
           clear HI121
           clear BK135
           clear HB
           clear HI113
           have HI121 := n0_
           have BK135 := n1_
           have HB := n2_
           have HI113 := n3_
           clear n0_ n1_ n2_ n3_
           (try clear hb)
           (try clear hb2)
           (try clear hk)
           (try clear hi)
           refine hK.out _ _ ⟨(blk_cell (Aside0.mk HI121.out.1).out 0).trans rfl, (blk_cell (Aside0.mk HI121.out.1).out 1).trans rfl, (blk_cell (Aside0.mk HI121.out.1).out 2).trans rfl, (blk_cell (Aside0.mk HI121.out.1).out 3).trans rfl, (blk_cell (Aside0.mk HI121.out.1).out 4).trans rfl, (blk_cell (Aside0.mk HI121.out.1).out 5).trans rfl, (blk_cell (Aside0.mk HI121.out.1).out 6).trans rfl, ((HB.out.cell (World.block_lt_of_cell? w _ hw136_0)).trans hw136_0), ((HB.out.cell (World.block_lt_of_cell? w _ hw136_1)).trans hw136_1), ((HB.out.cell (World.block_lt_of_cell? w _ hw136_2)).trans hw136_2), ((HB.out.cell (World.block_lt_of_cell? w _ hw136_3)).trans hw136_3), ((HB.out.cell (World.block_lt_of_cell? w _ hw136_4)).trans hw136_4), ((HB.out.cell (World.block_lt_of_cell? w _ hw136_5)).trans hw136_5), ((HB.out.cell (World.block_lt_of_cell? w _ hw148_0)).trans hw148_0), ((HB.out.cell (World.block_lt_of_cell? w _ hw148_1)).trans hw148_1), ((HB.out.cell (World.block_lt_of_cell? w _ hw148_2)).trans hw148_2), ((HB.out.cell (World.block_lt_of_cell? w _ hw148_3)).trans hw148_3), ((HB.out.cell (World.block_lt_of_cell? w _ hw148_4)).trans hw148_4), ((HB.out.cell (World.block_lt_of_cell? w _ hw148_5)).trans hw148_5)⟩ (fun hHeld => ?_)
           clear hK K
           refine norm_ (a' := ?_) ?_ ?_
           rotate_left
           ·show Act.put _ (some 40) _ = _
            simp only [Act.put, List.setIfInBounds_toArray, List.set_cons_zero, List.set_cons_succ, i64_w, i32_w]
            rfl
           refine pure_ (i := 20) (N := some 45) (v := ?_) (a' := ?_) #[true, true, true, true, true, true, true, true, true, true, true, true, true, true, true, true, true, true, true, true, true, false, false, false, false, false, false, false, false, false, false, false, false, false, false, false] rfl rfl (any_of HT_.out (by kernel_rfl)) (fun _ _ _ h => h) (Or.inl ⟨by rfl, ?_⟩) ?_ ?_
           rotate_left
           ·intro w'
            go_simp
            with_reducible rfl
           rotate_left
           ·simp only [Act.put, List.setIfInBounds_toArray, List.set_cons_zero, List.set_cons_succ, i64_w, i32_w]
            rfl
           refine pure_ (i := 21) (N := some 46) (v := ?_) (a' := ?_) #[true, true, true, true, true, true, true, true, true, true, true, true, true, true, true, true, true, true, true, true, true, true, false, false, false, false, false, false, false, false, false, false, false, false, false, false] rfl rfl (any_of HT_.out (by kernel_rfl)) (fun _ _ _ h => h) (Or.inl ⟨by rfl, ?_⟩) ?_ ?_
           rotate_left
           ·intro w'
            go_simp
            with_reducible rfl
           rotate_left
           ·simp only [Act.put, List.setIfInBounds_toArray, List.set_cons_zero, List.set_cons_succ, i64_w, i32_w]
            rfl
           refine pure_ (i := 22) (N := some 47) (v := ?_) (a' := ?_) #[true, true, true, true, true, true, true, true, true, true, true, true, true, true, true, true, true, true, true, true, true, true, true, false, false, false, false, false, false, false, false, false, false, false, false, false] rfl rfl (any_of HT_.out (by kernel_rfl)) (fun _ _ _ h => h) (Or.inl ⟨by rfl, ?_⟩) ?_ ?_
           rotate_left
           ·intro w'
            go_simp
            with_reducible rfl
           rotate_left
           ·simp only [Act.put, List.setIfInBounds_toArray, List.set_cons_zero, List.set_cons_succ, i64_w, i32_w]
            rfl
           refine pure_ (i := 23) (N := some 48) (v := ?_) (a' := ?_) #[true, true, true, true, true, true, true, true, true, true, true, true, true, true, true, true, true, true, true, true, true, true, true, true, false, false, false, false, false, false, false, false, false, false, false, false] rfl rfl (any_of HT_.out (by kernel_rfl)) (fun _ _ _ h => h) (Or.inl ⟨by rfl, ?_⟩) ?_ ?_
           rotate_left
           ·intro w'
            go_simp
            with_reducible rfl
           rotate_left
           ·simp only [Act.put, List.setIfInBounds_toArray, List.set_cons_zero, List.set_cons_succ, i64_w, i32_w]
            rfl
           refine one_ (i := 24) (N := some 49) #[true, true, true, true, true, true, true, true, true, true, true, true, true, true, true, true, true, true, true, true, true, true, true, true, true, false, false, false, false, false, false, false, false, false, false, false] rfl rfl (one_of HT_.out (by kernel_rfl)) (by decide) (fun K hK => ?_)
           refine goes_ Tryd.func18 (by kernel_rfl) rfl #[.pointer (some ⟨g113, 0, none⟩)] (by rfl) rfl rfl (by (try simp only [List.map_toArray, List.map_cons, List.map_nil]); first | done | rfl | (simp only [List.length_drop, List.length_take]; rfl)) ?_
           with_reducible refine (deck_Deck_Mode.calls g113 t158 t159 t160 t161 t162 t163 t164 t165 t166 t167 t168 t169 t170 t171 t172 t173 t174 t175 t176 t177 t178 w _ ?side1 ?side2 A27.out).mono ?_
           (case side1 => repeat (first | (with_reducible first | exact HI113.out | apply IsS100.alloc | apply IsS100.drewN | apply IsS100.drew | refine IsS100.far ?_ NB113_135.out _) | exact HI113.out))
           (case side2 => repeat (first | (with_reducible first | exact HB.out | apply below_alloc | apply pw_below_drewN | apply below_drew1 | refine below_set ?_ (IsS100.ge HI113.out) | refine below_set ?_ (IsS43.ge HI121.out) | refine below_set ?_ GE135.out) | exact HB.out))
           rintro e w41 ⟨rfl, hi, hb, hk⟩
           refine ⟨_, rfl, ?_⟩
           have n0_ := Aside0.mk (keepRef (show IsS43 w _ g121 t150 t151 t152 t153 t154 t155 t156 from by repeat (first | (with_reducible first | exact HI121.out | apply IsS43.alloc | apply IsS43.drewN | apply IsS43.drew | refine IsS43.far ?_ NB121_135.out _) | exact HI121.out)) hk (NB121_113.out))
           have n1_ := Aside0.mk (KeepBut.blk hk (g' := gb135) (o := .cells #[.int .u64 t123, .int .u64 t124] 30 (0, 0)) (by (with_reducible repeat (first | refine blk_drewN ?_ _ | refine blk_drew ?_ | refine blk_alloc ?_ _)); exact BK135.out) NB135_113.out (by simp))
           have n2_ := Aside0.mk (hb)
           have n3_ := Aside0.mk (hi)
           clear HI121
           clear BK135
           clear HB
           clear HI113
           have HI121 := n0_
           have BK135 := n1_
           have HB := n2_
           have HI113 := n3_
           clear n0_ n1_ n2_ n3_
           (try clear hb)
           (try clear hb2)
           (try clear hk)
           (try clear hi)
           refine hK.out _ _ ⟨(blk_cell (Aside0.mk HI121.out.1).out 0).trans rfl, (blk_cell (Aside0.mk HI121.out.1).out 1).trans rfl, (blk_cell (Aside0.mk HI121.out.1).out 2).trans rfl, (blk_cell (Aside0.mk HI121.out.1).out 3).trans rfl, (blk_cell (Aside0.mk HI121.out.1).out 4).trans rfl, (blk_cell (Aside0.mk HI121.out.1).out 5).trans rfl, (blk_cell (Aside0.mk HI121.out.1).out 6).trans rfl, ((HB.out.cell (World.block_lt_of_cell? w _ hw136_0)).trans hw136_0), ((HB.out.cell (World.block_lt_of_cell? w _ hw136_1)).trans hw136_1), ((HB.out.cell (World.block_lt_of_cell? w _ hw136_2)).trans hw136_2), ((HB.out.cell (World.block_lt_of_cell? w _ hw136_3)).trans hw136_3), ((HB.out.cell (World.block_lt_of_cell? w _ hw136_4)).trans hw136_4), ((HB.out.cell (World.block_lt_of_cell? w _ hw136_5)).trans hw136_5), ((HB.out.cell (World.block_lt_of_cell? w _ hw148_0)).trans hw148_0), ((HB.out.cell (World.block_lt_of_cell? w _ hw148_1)).trans hw148_1), ((HB.out.cell (World.block_lt_of_cell? w _ hw148_2)).trans hw148_2), ((HB.out.cell (World.block_lt_of_cell? w _ hw148_3)).trans hw148_3), ((HB.out.cell (World.block_lt_of_cell? w _ hw148_4)).trans hw148_4), ((HB.out.cell (World.block_lt_of_cell? w _ hw148_5)).trans hw148_5)⟩ (fun hHeld => ?_)
           clear hK K
           refine norm_ (a' := ?_) ?_ ?_
           rotate_left
           ·show Act.put _ (some 49) _ = _
            simp only [Act.put, List.setIfInBounds_toArray, List.set_cons_zero, List.set_cons_succ, i64_w, i32_w]
            rfl
           refine pure_ (i := 25) (N := some 50) (v := ?_) (a' := ?_) #[true, true, true, true, true, true, true, true, true, true, true, true, true, true, true, true, true, true, true, true, true, true, true, true, true, true, false, false, false, false, false, false, false, false, false, false] rfl rfl (any_of HT_.out (by kernel_rfl)) (fun _ _ _ h => h) (Or.inl ⟨by rfl, ?_⟩) ?_ ?_
           rotate_left
           ·intro w'
            go_simp
            with_reducible rfl
           rotate_left
           ·simp only [Act.put, List.setIfInBounds_toArray, List.set_cons_zero, List.set_cons_succ, i64_w, i32_w]
            rfl
           refine pure_ (i := 26) (N := some 51) (v := ?_) (a' := ?_) #[true, true, true, true, true, true, true, true, true, true, true, true, true, true, true, true, true, true, true, true, true, true, true, true, true, true, true, false, false, false, false, false, false, false, false, false] rfl rfl (any_of HT_.out (by kernel_rfl)) (fun _ _ _ h => h) (Or.inl ⟨by rfl, ?_⟩) ?_ ?_
           rotate_left
           ·intro w'
            go_simp
            with_reducible rfl
           rotate_left
           ·simp only [Act.put, List.setIfInBounds_toArray, List.set_cons_zero, List.set_cons_succ, i64_w, i32_w]
            rfl
           refine pure_ (i := 27) (N := some 52) (v := ?_) (a' := ?_) #[true, true, true, true, true, true, true, true, true, true, true, true, true, true, true, true, true, true, true, true, true, true, true, true, true, true, true, true, false, false, false, false, false, false, false, false] rfl rfl (any_of HT_.out (by kernel_rfl)) (fun _ _ _ h => h) (Or.inl ⟨by rfl, ?_⟩) ?_ ?_
           rotate_left
           ·intro w'
            go_simp
            with_reducible rfl
           rotate_left
           ·simp only [Act.put, List.setIfInBounds_toArray, List.set_cons_zero, List.set_cons_succ, i64_w, i32_w]
            rfl
           refine pure_ (i := 29) (N := some 54) (v := ?_) (a' := ?_) #[true, true, true, true, true, true, true, true, true, true, true, true, true, true, true, true, true, true, true, true, true, true, true, true, true, true, true, true, false, true, false, false, false, false, false, false] rfl rfl (any_of HT_.out (by kernel_rfl)) (fun _ _ _ h => h) (Or.inl ⟨by rfl, ?_⟩) ?_ ?_
           rotate_left
           ·intro w'
            go_simp
            with_reducible rfl
           rotate_left
           ·simp only [Act.put, List.setIfInBounds_toArray, List.set_cons_zero, List.set_cons_succ, i64_w, i32_w]
            rfl
           refine pure_ (i := 30) (N := some 55) (v := ?_) (a' := ?_) #[true, true, true, true, true, true, true, true, true, true, true, true, true, true, true, true, true, true, true, true, true, true, true, true, true, true, true, true, false, true, true, false, false, false, false, false] rfl rfl (any_of HT_.out (by kernel_rfl)) (fun _ _ _ h => h) (Or.inl ⟨by rfl, ?_⟩) ?_ ?_
           rotate_left
           ·intro w'
            go_simp
            with_reducible rfl
           rotate_left
           ·simp only [Act.put, List.setIfInBounds_toArray, List.set_cons_zero, List.set_cons_succ, i64_w, i32_w]
            rfl
           refine pure_ (i := 31) (N := some 56) (v := ?_) (a' := ?_) #[true, true, true, true, true, true, true, true, true, true, true, true, true, true, true, true, true, true, true, true, true, true, true, true, true, true, true, true, false, true, true, true, false, false, false, false] rfl rfl (any_of HT_.out (by kernel_rfl)) (fun _ _ _ h => h) (Or.inl ⟨by rfl, ?_⟩) ?_ ?_
           rotate_left
           ·intro w'
            go_simp
            with_reducible rfl
           rotate_left
           ·simp only [Act.put, List.setIfInBounds_toArray, List.set_cons_zero, List.set_cons_succ, i64_w, i32_w]
            rfl
           refine take_ (i := 32) (N := some 57) (v := ?_) (a' := ?_) #[true, true, true, true, true, true, true, true, true, true, true, true, true, true, true, true, true, true, true, true, true, true, true, true, true, true, true, true, false, true, true, true, true, false, false, false] rfl rfl (take_ofW HT_.out HW_.out (by kernel_rfl)) (fun _ _ _ h => h) (Or.inl ⟨by rfl, ?_⟩) hHeld ?_ ?_
           rotate_left
           ·rintro w' ⟨s0, s1, s2, s3, s4, s5, s6, s7, s8, s9, s10, s11, s12, s13, s14, s15, s16, s17, s18⟩
            go_simp
            with_reducible rfl
           rotate_left
           ·simp only [Act.put, List.setIfInBounds_toArray, List.set_cons_zero, List.set_cons_succ, i64_w, i32_w]
            rfl
           refine one_ (i := 28) (N := some 53) #[true, true, true, true, true, true, true, true, true, true, true, true, true, true, true, true, true, true, true, true, true, true, true, true, true, true, true, true, true, true, true, true, true, false, false, false] rfl rfl (one_of HT_.out (by kernel_rfl)) (by decide) (fun K hK => ?_)
           refine goes_ Tryd.func19 (by kernel_rfl) rfl #[.pointer (some ⟨g113, 0, none⟩)] (by rfl) rfl rfl (by (try simp only [List.map_toArray, List.map_cons, List.map_nil]); first | done | rfl | (simp only [List.length_drop, List.length_take]; rfl)) ?_
           with_reducible refine (deck_Deck_Pos.calls g113 t169 t170 t171 t172 t173 t174 t175 t176 t177 t178 t179 t180 t181 t182 t183 t184 t185 t186 t187 t188 t189 w _ ?side1 ?side2 A35.out).mono ?_
           (case side1 => repeat (first | (with_reducible first | exact HI113.out | apply IsS100.alloc | apply IsS100.drewN | apply IsS100.drew | refine IsS100.far ?_ NB113_135.out _) | exact HI113.out))
           (case side2 => repeat (first | (with_reducible first | exact HB.out | apply below_alloc | apply pw_below_drewN | apply below_drew1 | refine below_set ?_ (IsS100.ge HI113.out) | refine below_set ?_ (IsS43.ge HI121.out) | refine below_set ?_ GE135.out) | exact HB.out))
           rintro e w42 ⟨rfl, hi, hb, hk⟩
           refine ⟨_, rfl, ?_⟩
           have n0_ := Aside0.mk (keepRef (show IsS43 w _ g121 t150 t151 t152 t153 t154 t155 t156 from by repeat (first | (with_reducible first | exact HI121.out | apply IsS43.alloc | apply IsS43.drewN | apply IsS43.drew | refine IsS43.far ?_ NB121_135.out _) | exact HI121.out)) hk (NB121_113.out))
           have n1_ := Aside0.mk (KeepBut.blk hk (g' := gb135) (o := .cells #[.int .u64 t123, .int .u64 t124] 30 (0, 0)) (by (with_reducible repeat (first | refine blk_drewN ?_ _ | refine blk_drew ?_ | refine blk_alloc ?_ _)); exact BK135.out) NB135_113.out (by simp))
           have n2_ := Aside0.mk (hb)
           have n3_ := Aside0.mk (hi)
           clear HI121
           clear BK135
           clear HB
           clear HI113
           have HI121 := n0_
           have BK135 := n1_
           have HB := n2_
           have HI113 := n3_
           clear n0_ n1_ n2_ n3_
           (try clear hb)
           (try clear hb2)
           (try clear hk)
           (try clear hi)
           refine hK.out _ _ ⟨(blk_cell (Aside0.mk HI121.out.1).out 0).trans rfl, (blk_cell (Aside0.mk HI121.out.1).out 1).trans rfl, (blk_cell (Aside0.mk HI121.out.1).out 2).trans rfl, (blk_cell (Aside0.mk HI121.out.1).out 3).trans rfl, (blk_cell (Aside0.mk HI121.out.1).out 4).trans rfl, (blk_cell (Aside0.mk HI121.out.1).out 5).trans rfl, (blk_cell (Aside0.mk HI121.out.1).out 6).trans rfl, ((HB.out.cell (World.block_lt_of_cell? w _ hw136_0)).trans hw136_0), ((HB.out.cell (World.block_lt_of_cell? w _ hw136_1)).trans hw136_1), ((HB.out.cell (World.block_lt_of_cell? w _ hw136_2)).trans hw136_2), ((HB.out.cell (World.block_lt_of_cell? w _ hw136_3)).trans hw136_3), ((HB.out.cell (World.block_lt_of_cell? w _ hw136_4)).trans hw136_4), ((HB.out.cell (World.block_lt_of_cell? w _ hw136_5)).trans hw136_5), ((HB.out.cell (World.block_lt_of_cell? w _ hw148_0)).trans hw148_0), ((HB.out.cell (World.block_lt_of_cell? w _ hw148_1)).trans hw148_1), ((HB.out.cell (World.block_lt_of_cell? w _ hw148_2)).trans hw148_2), ((HB.out.cell (World.block_lt_of_cell? w _ hw148_3)).trans hw148_3), ((HB.out.cell (World.block_lt_of_cell? w _ hw148_4)).trans hw148_4), ((HB.out.cell (World.block_lt_of_cell? w _ hw148_5)).trans hw148_5)⟩ (fun hHeld => ?_)
           clear hK K
           refine norm_ (a' := ?_) ?_ ?_
           rotate_left
           ·show Act.put _ (some 53) _ = _
            simp only [Act.put, List.setIfInBounds_toArray, List.set_cons_zero, List.set_cons_succ, i64_w, i32_w]
            rfl
           refine pure_ (i := 33) (N := some 58) (v := ?_) (a' := ?_) #[true, true, true, true, true, true, true, true, true, true, true, true, true, true, true, true, true, true, true, true, true, true, true, true, true, true, true, true, true, true, true, true, true, true, false, false] rfl rfl (any_of HT_.out (by kernel_rfl)) (fun _ _ _ h => h) (Or.inl ⟨by rfl, ?_⟩) ?_ ?_
           rotate_left
           ·intro w'
            go_simp
            with_reducible rfl
           rotate_left
           ·simp only [Act.put, List.setIfInBounds_toArray, List.set_cons_zero, List.set_cons_succ, i64_w, i32_w]
            rfl
           refine pure_ (i := 34) (N := some 59) (v := ?_) (a' := ?_) #[true, true, true, true, true, true, true, true, true, true, true, true, true, true, true, true, true, true, true, true, true, true, true, true, true, true, true, true, true, true, true, true, true, true, true, false] rfl rfl (any_of HT_.out (by kernel_rfl)) (fun _ _ _ h => h) (Or.inl ⟨by rfl, ?_⟩) ?_ ?_
           rotate_left
           ·intro w'
            go_simp
            with_reducible rfl
           rotate_left
           ·simp only [Act.put, List.setIfInBounds_toArray, List.set_cons_zero, List.set_cons_succ, i64_w, i32_w]
            rfl
           refine pure_ (i := 35) (N := some 60) (v := ?_) (a' := ?_) #[true, true, true, true, true, true, true, true, true, true, true, true, true, true, true, true, true, true, true, true, true, true, true, true, true, true, true, true, true, true, true, true, true, true, true, true] rfl rfl (any_of HT_.out (by kernel_rfl)) (fun _ _ _ h => h) (Or.inl ⟨by rfl, ?_⟩) ?_ ?_
           rotate_left
           ·intro w'
            go_simp
            with_reducible rfl
           rotate_left
           ·simp only [Act.put, List.setIfInBounds_toArray, List.set_cons_zero, List.set_cons_succ, i64_w, i32_w]
            rfl
           refine done_ (done_of HT_.out (by kernel_rfl)) ?_
           try go_wp2
           go_meet
           case rel => exact ⟨_, ((t179 != t151)), (t180), (t181), (t182), (t183), (t184), (t185), (t186), (t187), (t188), (t189), (t150), (t151), (t152), (t153), (t154), (t155), (t156), (by first | rfl | (simp; done) | (simp [*]; done)), H', ⟨by have := HK1.out; first | omega | exact Nat.le_refl _⟩, ⟨by (with_reducible repeat (first | refine blk_drewN ?_ _ | refine blk_drew ?_ | refine blk_alloc ?_ _)); exact BK135.out⟩, ⟨by repeat (first | (with_reducible first | exact HI113.out | apply IsS100.alloc | apply IsS100.drewN | apply IsS100.drew | refine IsS100.far ?_ NB113_135.out _) | exact HI113.out)⟩, ⟨by repeat (first | (with_reducible first | exact HI121.out | apply IsS43.alloc | apply IsS43.drewN | apply IsS43.drew | refine IsS43.far ?_ NB121_135.out _) | exact HI121.out)⟩, ⟨by repeat (first | (with_reducible first | exact HB.out | apply below_alloc | apply pw_below_drewN | apply below_drew1 | refine below_set ?_ (IsS100.ge HI113.out) | refine below_set ?_ (IsS43.ge HI121.out) | refine below_set ?_ GE135.out) | exact HB.out)⟩⟩
         ·rw [if_neg c26] at H
          have c26b0 : (t157 == t150) = false := beq_eq_false_iff_ne.mpr c26
          have c26b1 : (t157 != t150) = true := bne_iff_ne.mpr c26
          have H' := Aside0.mk H
          clear H
          try go_wp2
          have n0_ : Aside0 (((w17.setCell ⟨gb135, 0, none⟩ (.int .u64 t123)).setCell ⟨gb135, 1, none⟩ (.int .u64 t124)).heap[gb135]? = some (.cells #[.int .u64 t123, .int .u64 t124] 30 (0, 0))) := ⟨by (with_reducible repeat (first | refine blk_drewN ?_ _ | refine blk_drew ?_ | refine blk_alloc ?_ _)); refine blk_put (cs := #[.int .u64 t123, .int .u64 0]) ?_ 1 _ rfl; (with_reducible repeat (first | refine blk_drewN ?_ _ | refine blk_drew ?_ | refine blk_alloc ?_ _)); refine blk_put (cs := #[.int .u64 0, .int .u64 0]) ?_ 0 _ rfl; (with_reducible repeat (first | refine blk_drewN ?_ _ | refine blk_drew ?_ | refine blk_alloc ?_ _)); exact BK135.out⟩
          have n1_ : Aside0 (IsS100 w ((w17.setCell ⟨gb135, 0, none⟩ (.int .u64 t123)).setCell ⟨gb135, 1, none⟩ (.int .u64 t124)) g113 t125 t126 t127 t128 t129 t130 t131 t132 t133 t134) := ⟨by repeat (first | (with_reducible first | exact HI113.out | apply IsS100.alloc | apply IsS100.drewN | apply IsS100.drew | refine IsS100.far ?_ NB113_135.out _) | exact HI113.out)⟩
          have n2_ : Aside0 (IsS43 w ((w17.setCell ⟨gb135, 0, none⟩ (.int .u64 t123)).setCell ⟨gb135, 1, none⟩ (.int .u64 t124)) g121 x122000_1 x122001_1 x122002_1 x122003_1 x122004_1 x122005_1 x122006_1) := ⟨by repeat (first | (with_reducible first | exact HI121.out | apply IsS43.alloc | apply IsS43.drewN | apply IsS43.drew | refine IsS43.far ?_ NB121_135.out _) | exact HI121.out)⟩
          have n3_ : Aside0 (Below w.heap.size w ((w17.setCell ⟨gb135, 0, none⟩ (.int .u64 t123)).setCell ⟨gb135, 1, none⟩ (.int .u64 t124))) := ⟨by repeat (first | (with_reducible first | exact HB.out | apply below_alloc | apply pw_below_drewN | apply below_drew1 | refine below_set ?_ (IsS100.ge HI113.out) | refine below_set ?_ (IsS43.ge HI121.out) | refine below_set ?_ GE135.out) | exact HB.out)⟩
          (try clear BK135)
          (try clear HI113)
          (try clear HI121)
          (try clear HB)
          generalize ((w17.setCell ⟨gb135, 0, none⟩ (.int .u64 t123)).setCell ⟨gb135, 1, none⟩ (.int .u64 t124)) = w43 at n0_ n1_ n2_ n3_ ⊢
          have BK135 := n0_
          have HI113 := n1_
          have HI121 := n2_
          have HB := n3_
          clear n0_ n1_ n2_ n3_
          have n0_ := Aside0.mk (blk_drew BK135.out)
          have n1_ := Aside0.mk (IsS100.drew HI113.out)
          have n2_ := Aside0.mk (IsS43.drew HI121.out)
          have n3_ := Aside0.mk (below_drew1 HB.out)
          clear BK135
          clear HI113
          clear HI121
          clear HB
          have BK135 := n0_
          have HI113 := n1_
          have HI121 := n2_
          have HB := n3_
          clear n0_ n1_ n2_ n3_
          have p136 : 0 ≤ (x5_1 : Int) := of_decide_eq_true (by first | (with_reducible assumption) | assumption)
          have q136 : x5_1 < (l0.length : Int) := of_decide_eq_true (by first | (with_reducible assumption) | assumption)
          obtain ⟨ad136, e136, hx136_0, hx136_1, hx136_2, hx136_3, hx136_4, hx136_5⟩ := at_T36 HR0.out x5_1 p136 q136
          have hw136_5 := hx136_5
          have hw136_4 := hx136_4
          have hw136_3 := hx136_3
          have hw136_2 := hx136_2
          have hw136_1 := hx136_1
          have hw136_0 := hx136_0
          cases e136
          replace hx136_0 := (HB.out.cell (World.block_lt_of_cell? w _ hx136_0)).trans hx136_0
          replace hx136_1 := (HB.out.cell (World.block_lt_of_cell? w _ hx136_1)).trans hx136_1
          replace hx136_2 := (HB.out.cell (World.block_lt_of_cell? w _ hx136_2)).trans hx136_2
          replace hx136_3 := (HB.out.cell (World.block_lt_of_cell? w _ hx136_3)).trans hx136_3
          replace hx136_4 := (HB.out.cell (World.block_lt_of_cell? w _ hx136_4)).trans hx136_4
          replace hx136_5 := (HB.out.cell (World.block_lt_of_cell? w _ hx136_5)).trans hx136_5
          replace p136 := eq_true p136
          replace q136 := eq_true q136
          have p148 : 0 ≤ (x5_1 : Int) := of_decide_eq_true (by first | (with_reducible assumption) | assumption)
          have q148 : x5_1 < (l0.length : Int) := of_decide_eq_true (by first | (with_reducible assumption) | assumption)
          obtain ⟨ad148, e148, hx148_0, hx148_1, hx148_2, hx148_3, hx148_4, hx148_5⟩ := at_T36 HR0.out x5_1 p148 q148
          have hw148_5 := hx148_5
          have hw148_4 := hx148_4
          have hw148_3 := hx148_3
          have hw148_2 := hx148_2
          have hw148_1 := hx148_1
          have hw148_0 := hx148_0
          obtain rfl : ad136 = ad148 := (by injection e148)
          replace hx148_0 := (HB.out.cell (World.block_lt_of_cell? w _ hx148_0)).trans hx148_0
          replace hx148_1 := (HB.out.cell (World.block_lt_of_cell? w _ hx148_1)).trans hx148_1
          replace hx148_2 := (HB.out.cell (World.block_lt_of_cell? w _ hx148_2)).trans hx148_2
          replace hx148_3 := (HB.out.cell (World.block_lt_of_cell? w _ hx148_3)).trans hx148_3
          replace hx148_4 := (HB.out.cell (World.block_lt_of_cell? w _ hx148_4)).trans hx148_4
          replace hx148_5 := (HB.out.cell (World.block_lt_of_cell? w _ hx148_5)).trans hx148_5
          replace p148 := eq_true p148
          replace q148 := eq_true q148
          refine start_ (n := 36) (S := fun w' => True ∧ True ∧ True ∧ True ∧ True ∧ True ∧ True ∧ w'.cell? (ad136.add ((x5_1).toNat * 6)) = some (.int .i64 ((rd_T36 l0 x5_1).f0)) ∧ w'.cell? ⟨(ad136.add ((x5_1).toNat * 6)).block, (ad136.add ((x5_1).toNat * 6)).off + 1, none⟩ = some (.int .u64 ((rd_T36 l0 x5_1).f1)) ∧ w'.cell? ⟨(ad136.add ((x5_1).toNat * 6)).block, (ad136.add ((x5_1).toNat * 6)).off + 2, none⟩ = some (.int .u64 ((rd_T36 l0 x5_1).f2)) ∧ w'.cell? ⟨(ad136.add ((x5_1).toNat * 6)).block, (ad136.add ((x5_1).toNat * 6)).off + 3, none⟩ = some (.int .u64 ((rd_T36 l0 x5_1).f3)) ∧ w'.cell? ⟨(ad136.add ((x5_1).toNat * 6)).block, (ad136.add ((x5_1).toNat * 6)).off + 4, none⟩ = some (.int .u64 ((rd_T36 l0 x5_1).f4)) ∧ w'.cell? ⟨(ad136.add ((x5_1).toNat * 6)).block, (ad136.add ((x5_1).toNat * 6)).off + 5, none⟩ = some (.float .f64 ((rd_T36 l0 x5_1).f5)) ∧ w'.cell? (ad136.add ((x5_1).toNat * 6)) = some (.int .i64 ((rd_T36 l0 x5_1).f0)) ∧ w'.cell? ⟨(ad136.add ((x5_1).toNat * 6)).block, (ad136.add ((x5_1).toNat * 6)).off + 1, none⟩ = some (.int .u64 ((rd_T36 l0 x5_1).f1)) ∧ w'.cell? ⟨(ad136.add ((x5_1).toNat * 6)).block, (ad136.add ((x5_1).toNat * 6)).off + 2, none⟩ = some (.int .u64 ((rd_T36 l0 x5_1).f2)) ∧ w'.cell? ⟨(ad136.add ((x5_1).toNat * 6)).block, (ad136.add ((x5_1).toNat * 6)).off + 3, none⟩ = some (.int .u64 ((rd_T36 l0 x5_1).f3)) ∧ w'.cell? ⟨(ad136.add ((x5_1).toNat * 6)).block, (ad136.add ((x5_1).toNat * 6)).off + 4, none⟩ = some (.int .u64 ((rd_T36 l0 x5_1).f4)) ∧ w'.cell? ⟨(ad136.add ((x5_1).toNat * 6)).block, (ad136.add ((x5_1).toNat * 6)).off + 5, none⟩ = some (.float .f64 ((rd_T36 l0 x5_1).f5))) (ds := []) #[false, false, false, false, false, false, false, false, false, false, false, false, false, false, false, false, false, false, false, false, false, false, false, false, false, false, false, false, false, false, false, false, false, false, false, false] (by kernel_rfl) rfl rfl ⟨trivial, trivial, trivial, trivial, trivial, trivial, trivial, ((HB.out.cell (World.block_lt_of_cell? w _ hw136_0)).trans hw136_0), ((HB.out.cell (World.block_lt_of_cell? w _ hw136_1)).trans hw136_1), ((HB.out.cell (World.block_lt_of_cell? w _ hw136_2)).trans hw136_2), ((HB.out.cell (World.block_lt_of_cell? w _ hw136_3)).trans hw136_3), ((HB.out.cell (World.block_lt_of_cell? w _ hw136_4)).trans hw136_4), ((HB.out.cell (World.block_lt_of_cell? w _ hw136_5)).trans hw136_5), ((HB.out.cell (World.block_lt_of_cell? w _ hw148_0)).trans hw148_0), ((HB.out.cell (World.block_lt_of_cell? w _ hw148_1)).trans hw148_1), ((HB.out.cell (World.block_lt_of_cell? w _ hw148_2)).trans hw148_2), ((HB.out.cell (World.block_lt_of_cell? w _ hw148_3)).trans hw148_3), ((HB.out.cell (World.block_lt_of_cell? w _ hw148_4)).trans hw148_4), ((HB.out.cell (World.block_lt_of_cell? w _ hw148_5)).trans hw148_5)⟩ (fun hHeld => ?_); refine with_tabW tiklaw23_DeckPlays.tab12 tiklaw23_DeckPlays.bits12 (fun HT_ HW_ => ?_)
          generalize w43.drew = w44 at BK135 HI113 HI121 HB hx136_0 hx136_1 hx136_2 hx136_3 hx136_4 hx136_5 hx148_0 hx148_1 hx148_2 hx148_3 hx148_4 hx148_5 hHeld ⊢
          refine pure_ (i := 0) (N := some 25) (v := ?_) (a' := ?_) #[true, false, false, false, false, false, false, false, false, false, false, false, false, false, false, false, false, false, false, false, false, false, false, false, false, false, false, false, false, false, false, false, false, false, false, false] rfl rfl (any_of HT_.out (by kernel_rfl)) (fun _ _ _ h => h) (Or.inl ⟨by rfl, ?_⟩) ?_ ?_
          rotate_left
          ·intro w'
           go_simp
           with_reducible rfl
          rotate_left
          ·simp only [Act.put, List.setIfInBounds_toArray, List.set_cons_zero, List.set_cons_succ, i64_w, i32_w]
           rfl
          refine pure_ (i := 1) (N := some 26) (v := ?_) (a' := ?_) #[true, true, false, false, false, false, false, false, false, false, false, false, false, false, false, false, false, false, false, false, false, false, false, false, false, false, false, false, false, false, false, false, false, false, false, false] rfl rfl (any_of HT_.out (by kernel_rfl)) (fun _ _ _ h => h) (Or.inl ⟨by rfl, ?_⟩) ?_ ?_
          rotate_left
          ·intro w'
           go_simp
           with_reducible rfl
          rotate_left
          ·simp only [Act.put, List.setIfInBounds_toArray, List.set_cons_zero, List.set_cons_succ, i64_w, i32_w]
           rfl
          refine pure_ (i := 2) (N := some 27) (v := ?_) (a' := ?_) #[true, true, true, false, false, false, false, false, false, false, false, false, false, false, false, false, false, false, false, false, false, false, false, false, false, false, false, false, false, false, false, false, false, false, false, false] rfl rfl (any_of HT_.out (by kernel_rfl)) (fun _ _ _ h => h) (Or.inl ⟨by rfl, ?_⟩) ?_ ?_
          rotate_left
          ·intro w'
           go_simp
           with_reducible rfl
          rotate_left
          ·simp only [Act.put, List.setIfInBounds_toArray, List.set_cons_zero, List.set_cons_succ, i64_w, i32_w]
           rfl
          refine pure_ (i := 3) (N := some 28) (v := ?_) (a' := ?_) #[true, true, true, true, false, false, false, false, false, false, false, false, false, false, false, false, false, false, false, false, false, false, false, false, false, false, false, false, false, false, false, false, false, false, false, false] rfl rfl (any_of HT_.out (by kernel_rfl)) (fun _ _ _ h => h) (Or.inl ⟨by rfl, ?_⟩) ?_ ?_
          rotate_left
          ·intro w'
           go_simp
           with_reducible rfl
          rotate_left
          ·simp only [Act.put, List.setIfInBounds_toArray, List.set_cons_zero, List.set_cons_succ, i64_w, i32_w]
           rfl
          refine pure_ (i := 6) (N := some 31) (v := ?_) (a' := ?_) #[true, true, true, true, false, false, true, false, false, false, false, false, false, false, false, false, false, false, false, false, false, false, false, false, false, false, false, false, false, false, false, false, false, false, false, false] rfl rfl (any_of HT_.out (by kernel_rfl)) (fun _ _ _ h => h) (Or.inl ⟨by rfl, ?_⟩) ?_ ?_
          rotate_left
          ·intro w'
           go_simp
           with_reducible rfl
          rotate_left
          ·simp only [Act.put, List.setIfInBounds_toArray, List.set_cons_zero, List.set_cons_succ, i64_w, i32_w]
           rfl
          refine pure_ (i := 7) (N := some 32) (v := ?_) (a' := ?_) #[true, true, true, true, false, false, true, true, false, false, false, false, false, false, false, false, false, false, false, false, false, false, false, false, false, false, false, false, false, false, false, false, false, false, false, false] rfl rfl (any_of HT_.out (by kernel_rfl)) (fun _ _ _ h => h) (Or.inl ⟨by rfl, ?_⟩) ?_ ?_
          rotate_left
          ·intro w'
           go_simp
           with_reducible rfl
          rotate_left
          ·simp only [Act.put, List.setIfInBounds_toArray, List.set_cons_zero, List.set_cons_succ, i64_w, i32_w]
           rfl
          refine pure_ (i := 8) (N := some 33) (v := ?_) (a' := ?_) #[true, true, true, true, false, false, true, true, true, false, false, false, false, false, false, false, false, false, false, false, false, false, false, false, false, false, false, false, false, false, false, false, false, false, false, false] rfl rfl (any_of HT_.out (by kernel_rfl)) (fun _ _ _ h => h) (Or.inl ⟨by rfl, ?_⟩) ?_ ?_
          rotate_left
          ·intro w'
           go_simp
           with_reducible rfl
          rotate_left
          ·simp only [Act.put, List.setIfInBounds_toArray, List.set_cons_zero, List.set_cons_succ, i64_w, i32_w]
           rfl
          refine pure_ (i := 9) (N := some 34) (v := ?_) (a' := ?_) #[true, true, true, true, false, false, true, true, true, true, false, false, false, false, false, false, false, false, false, false, false, false, false, false, false, false, false, false, false, false, false, false, false, false, false, false] rfl rfl (any_of HT_.out (by kernel_rfl)) (fun _ _ _ h => h) (Or.inl ⟨by rfl, ?_⟩) ?_ ?_
          rotate_left
          ·intro w'
           go_simp
           with_reducible rfl
          rotate_left
          ·simp only [Act.put, List.setIfInBounds_toArray, List.set_cons_zero, List.set_cons_succ, i64_w, i32_w]
           rfl
          refine take_ (i := 4) (N := some 29) (v := ?_) (a' := ?_) #[true, true, true, true, true, false, true, true, true, true, false, false, false, false, false, false, false, false, false, false, false, false, false, false, false, false, false, false, false, false, false, false, false, false, false, false] rfl rfl (take_ofW HT_.out HW_.out (by kernel_rfl)) (fun _ _ _ h => h) (Or.inl ⟨by rfl, ?_⟩) hHeld ?_ ?_
          rotate_left
          ·rintro w' ⟨s0, s1, s2, s3, s4, s5, s6, s7, s8, s9, s10, s11, s12, s13, s14, s15, s16, s17, s18⟩
           go_simp
           with_reducible rfl
          rotate_left
          ·simp only [Act.put, List.setIfInBounds_toArray, List.set_cons_zero, List.set_cons_succ, i64_w, i32_w]
           rfl
          refine take_ (i := 10) (N := some 35) (v := ?_) (a' := ?_) #[true, true, true, true, true, false, true, true, true, true, true, false, false, false, false, false, false, false, false, false, false, false, false, false, false, false, false, false, false, false, false, false, false, false, false, false] rfl rfl (take_ofW HT_.out HW_.out (by kernel_rfl)) (fun _ _ _ h => h) (Or.inl ⟨by rfl, ?_⟩) hHeld ?_ ?_
          rotate_left
          ·rintro w' ⟨s0, s1, s2, s3, s4, s5, s6, s7, s8, s9, s10, s11, s12, s13, s14, s15, s16, s17, s18⟩
           go_simp
           with_reducible rfl
          rotate_left
          ·simp only [Act.put, List.setIfInBounds_toArray, List.set_cons_zero, List.set_cons_succ, i64_w, i32_w]
           rfl
          refine one_ (i := 5) (N := some 30) #[true, true, true, true, true, true, true, true, true, true, true, false, false, false, false, false, false, false, false, false, false, false, false, false, false, false, false, false, false, false, false, false, false, false, false, false] rfl rfl (one_of HT_.out (by kernel_rfl)) (by decide) (fun K hK => ?_)
          refine goes_ Tryd.func16 (by kernel_rfl) rfl #[.pointer (some ⟨g113, 0, none⟩), .agg #[.int .i64 ((rd_T36 l0 x5_1).f0), .int .u64 ((rd_T36 l0 x5_1).f1), .int .u64 ((rd_T36 l0 x5_1).f2), .int .u64 ((rd_T36 l0 x5_1).f3), .int .u64 ((rd_T36 l0 x5_1).f4), .float .f64 ((rd_T36 l0 x5_1).f5)]] (by rfl) rfl rfl (by (try simp only [List.map_toArray, List.map_cons, List.map_nil]); first | done | rfl | (simp only [List.length_drop, List.length_take]; rfl)) ?_
          with_reducible refine (tiklaw23_Does.calls k1 g113 t125 t126 t127 t128 t129 t130 t131 t132 t133 t134 ((rd_T36 l0 x5_1).f0) ((rd_T36 l0 x5_1).f1) ((rd_T36 l0 x5_1).f2) ((rd_T36 l0 x5_1).f3) ((rd_T36 l0 x5_1).f4) ((rd_T36 l0 x5_1).f5) t137 t138 t139 t140 t141 t142 t143 t144 t145 t146 t147 w _ ?side1 ?side2 ?side3 A22.out).mono ?_
          (case side1 => repeat (first | (with_reducible first | exact HI113.out | apply IsS100.alloc | apply IsS100.drewN | apply IsS100.drew | refine IsS100.far ?_ NB113_135.out _) | exact HI113.out))
          (case side2 => repeat (first | (with_reducible first | exact HB.out | apply below_alloc | apply pw_below_drewN | apply below_drew1 | refine below_set ?_ (IsS100.ge HI113.out) | refine below_set ?_ (IsS43.ge HI121.out) | refine below_set ?_ GE135.out) | exact HB.out))
          (case side3 => first | (with_reducible exact HT.out) | exact tabAt HT.out (by repeat (first | (with_reducible first | exact HB.out | apply below_alloc | apply pw_below_drewN | apply below_drew1 | refine below_set ?_ (IsS100.ge HI113.out) | refine below_set ?_ (IsS43.ge HI121.out) | refine below_set ?_ GE135.out) | exact HB.out)))
          rintro e w45 ⟨rfl, hi, hb, hk⟩
          refine ⟨_, rfl, ?_⟩
          have n0_ := Aside0.mk (keepRef (show IsS43 w _ g121 x122000_1 x122001_1 x122002_1 x122003_1 x122004_1 x122005_1 x122006_1 from by repeat (first | (with_reducible first | exact HI121.out | apply IsS43.alloc | apply IsS43.drewN | apply IsS43.drew | refine IsS43.far ?_ NB121_135.out _) | exact HI121.out)) hk (NB121_113.out))
          have n1_ := Aside0.mk (KeepBut.blk hk (g' := gb135) (o := .cells #[.int .u64 t123, .int .u64 t124] 30 (0, 0)) (by (with_reducible repeat (first | refine blk_drewN ?_ _ | refine blk_drew ?_ | refine blk_alloc ?_ _)); exact BK135.out) NB135_113.out (by simp))
          have n2_ := Aside0.mk (hb)
          have n3_ := Aside0.mk (hi)
          clear HI121
          clear BK135
          clear HB
          clear HI113
          have HI121 := n0_
          have BK135 := n1_
          have HB := n2_
          have HI113 := n3_
          clear n0_ n1_ n2_ n3_
          (try clear hb)
          (try clear hb2)
          (try clear hk)
          (try clear hi)
          refine hK.out _ _ ⟨trivial, trivial, trivial, trivial, trivial, trivial, trivial, ((HB.out.cell (World.block_lt_of_cell? w _ hw136_0)).trans hw136_0), ((HB.out.cell (World.block_lt_of_cell? w _ hw136_1)).trans hw136_1), ((HB.out.cell (World.block_lt_of_cell? w _ hw136_2)).trans hw136_2), ((HB.out.cell (World.block_lt_of_cell? w _ hw136_3)).trans hw136_3), ((HB.out.cell (World.block_lt_of_cell? w _ hw136_4)).trans hw136_4), ((HB.out.cell (World.block_lt_of_cell? w _ hw136_5)).trans hw136_5), ((HB.out.cell (World.block_lt_of_cell? w _ hw148_0)).trans hw148_0), ((HB.out.cell (World.block_lt_of_cell? w _ hw148_1)).trans hw148_1), ((HB.out.cell (World.block_lt_of_cell? w _ hw148_2)).trans hw148_2), ((HB.out.cell (World.block_lt_of_cell? w _ hw148_3)).trans hw148_3), ((HB.out.cell (World.block_lt_of_cell? w _ hw148_4)).trans hw148_4), ((HB.out.cell (World.block_lt_of_cell? w _ hw148_5)).trans hw148_5)⟩ (fun hHeld => ?_)
          clear hK K
          refine norm_ (a' := ?_) ?_ ?_
          rotate_left
          ·show Act.put _ (some 30) _ = _
           simp only [Act.put, List.setIfInBounds_toArray, List.set_cons_zero, List.set_cons_succ, i64_w, i32_w]
           rfl
          refine one_ (i := 11) (N := some 36) #[true, true, true, true, true, true, true, true, true, true, true, true, false, false, false, false, false, false, false, false, false, false, false, false, false, false, false, false, false, false, false, false, false, false, false, false] rfl rfl (one_of HT_.out (by kernel_rfl)) (by decide) (fun K hK => ?_)
          refine goes_ Tryd.func17 (by kernel_rfl) rfl #[.pointer (some ⟨g121, 0, none⟩), .agg #[.int .i64 ((rd_T36 l0 x5_1).f0), .int .u64 ((rd_T36 l0 x5_1).f1), .int .u64 ((rd_T36 l0 x5_1).f2), .int .u64 ((rd_T36 l0 x5_1).f3), .int .u64 ((rd_T36 l0 x5_1).f4), .float .f64 ((rd_T36 l0 x5_1).f5)]] (by rfl) rfl rfl (by (try simp only [List.map_toArray, List.map_cons, List.map_nil]); first | done | rfl | (simp only [List.length_drop, List.length_take]; rfl)) ?_
          with_reducible refine (refPlain.calls k1 g121 x122000_1 x122001_1 x122002_1 x122003_1 x122004_1 x122005_1 x122006_1 ((rd_T36 l0 x5_1).f0) ((rd_T36 l0 x5_1).f1) ((rd_T36 l0 x5_1).f2) ((rd_T36 l0 x5_1).f3) ((rd_T36 l0 x5_1).f4) ((rd_T36 l0 x5_1).f5) t149 t150 t151 t152 t153 t154 t155 t156 w _ ?side1 ?side2 A23.out).mono ?_
          (case side1 => repeat (first | (with_reducible first | exact HI121.out | apply IsS43.alloc | apply IsS43.drewN | apply IsS43.drew | refine IsS43.far ?_ NB121_135.out _) | exact HI121.out))
          (case side2 => repeat (first | (with_reducible first | exact HB.out | apply below_alloc | apply pw_below_drewN | apply below_drew1 | refine below_set ?_ (IsS100.ge HI113.out) | refine below_set ?_ (IsS43.ge HI121.out) | refine below_set ?_ GE135.out) | exact HB.out))
          rintro e w46 ⟨rfl, hi, hb, hk⟩
          refine ⟨_, rfl, ?_⟩
          have n0_ := Aside0.mk (keepDeck (show IsS100 w _ g113 t138 t139 t140 t141 t142 t143 t144 t145 t146 t147 from by repeat (first | (with_reducible first | exact HI113.out | apply IsS100.alloc | apply IsS100.drewN | apply IsS100.drew | refine IsS100.far ?_ NB113_135.out _) | exact HI113.out)) hk (NB113_121.out))
          have n1_ := Aside0.mk (KeepR.blk hk (g' := gb135) (o := .cells #[.int .u64 t123, .int .u64 t124] 30 (0, 0)) (by (with_reducible repeat (first | refine blk_drewN ?_ _ | refine blk_drew ?_ | refine blk_alloc ?_ _)); exact BK135.out) NB135_121.out (by simp))
          have n2_ := Aside0.mk (hb)
          have n3_ := Aside0.mk (hi)
          clear HI113
          clear BK135
          clear HB
          clear HI121
          have HI113 := n0_
          have BK135 := n1_
          have HB := n2_
          have HI121 := n3_
          clear n0_ n1_ n2_ n3_
          (try clear hb)
          (try clear hb2)
          (try clear hk)
          (try clear hi)
          refine hK.out _ _ ⟨trivial, trivial, trivial, trivial, trivial, trivial, trivial, ((HB.out.cell (World.block_lt_of_cell? w _ hw136_0)).trans hw136_0), ((HB.out.cell (World.block_lt_of_cell? w _ hw136_1)).trans hw136_1), ((HB.out.cell (World.block_lt_of_cell? w _ hw136_2)).trans hw136_2), ((HB.out.cell (World.block_lt_of_cell? w _ hw136_3)).trans hw136_3), ((HB.out.cell (World.block_lt_of_cell? w _ hw136_4)).trans hw136_4), ((HB.out.cell (World.block_lt_of_cell? w _ hw136_5)).trans hw136_5), ((HB.out.cell (World.block_lt_of_cell? w _ hw148_0)).trans hw148_0), ((HB.out.cell (World.block_lt_of_cell? w _ hw148_1)).trans hw148_1), ((HB.out.cell (World.block_lt_of_cell? w _ hw148_2)).trans hw148_2), ((HB.out.cell (World.block_lt_of_cell? w _ hw148_3)).trans hw148_3), ((HB.out.cell (World.block_lt_of_cell? w _ hw148_4)).trans hw148_4), ((HB.out.cell (World.block_lt_of_cell? w _ hw148_5)).trans hw148_5)⟩ (fun hHeld => ?_)
          refine strengthen_ (S' := fun w' : World => w'.cell? ⟨g121, 0, none⟩ = some (.int .i64 t150) ∧ w'.cell? ⟨g121, 1, none⟩ = some (.int .u64 t151) ∧ w'.cell? ⟨g121, 2, none⟩ = some (.int .u64 t152) ∧ w'.cell? ⟨g121, 3, none⟩ = some (.int .u64 t153) ∧ w'.cell? ⟨g121, 4, none⟩ = some (.int .u64 t154) ∧ w'.cell? ⟨g121, 5, none⟩ = some (.int .u64 t155) ∧ w'.cell? ⟨g121, 6, none⟩ = some (.int .u64 t156) ∧ w'.cell? (ad136.add ((x5_1).toNat * 6)) = some (.int .i64 ((rd_T36 l0 x5_1).f0)) ∧ w'.cell? ⟨(ad136.add ((x5_1).toNat * 6)).block, (ad136.add ((x5_1).toNat * 6)).off + 1, none⟩ = some (.int .u64 ((rd_T36 l0 x5_1).f1)) ∧ w'.cell? ⟨(ad136.add ((x5_1).toNat * 6)).block, (ad136.add ((x5_1).toNat * 6)).off + 2, none⟩ = some (.int .u64 ((rd_T36 l0 x5_1).f2)) ∧ w'.cell? ⟨(ad136.add ((x5_1).toNat * 6)).block, (ad136.add ((x5_1).toNat * 6)).off + 3, none⟩ = some (.int .u64 ((rd_T36 l0 x5_1).f3)) ∧ w'.cell? ⟨(ad136.add ((x5_1).toNat * 6)).block, (ad136.add ((x5_1).toNat * 6)).off + 4, none⟩ = some (.int .u64 ((rd_T36 l0 x5_1).f4)) ∧ w'.cell? ⟨(ad136.add ((x5_1).toNat * 6)).block, (ad136.add ((x5_1).toNat * 6)).off + 5, none⟩ = some (.float .f64 ((rd_T36 l0 x5_1).f5)) ∧ w'.cell? (ad136.add ((x5_1).toNat * 6)) = some (.int .i64 ((rd_T36 l0 x5_1).f0)) ∧ w'.cell? ⟨(ad136.add ((x5_1).toNat * 6)).block, (ad136.add ((x5_1).toNat * 6)).off + 1, none⟩ = some (.int .u64 ((rd_T36 l0 x5_1).f1)) ∧ w'.cell? ⟨(ad136.add ((x5_1).toNat * 6)).block, (ad136.add ((x5_1).toNat * 6)).off + 2, none⟩ = some (.int .u64 ((rd_T36 l0 x5_1).f2)) ∧ w'.cell? ⟨(ad136.add ((x5_1).toNat * 6)).block, (ad136.add ((x5_1).toNat * 6)).off + 3, none⟩ = some (.int .u64 ((rd_T36 l0 x5_1).f3)) ∧ w'.cell? ⟨(ad136.add ((x5_1).toNat * 6)).block, (ad136.add ((x5_1).toNat * 6)).off + 4, none⟩ = some (.int .u64 ((rd_T36 l0 x5_1).f4)) ∧ w'.cell? ⟨(ad136.add ((x5_1).toNat * 6)).block, (ad136.add ((x5_1).toNat * 6)).off + 5, none⟩ = some (.float .f64 ((rd_T36 l0 x5_1).f5))) (fun w' h => ⟨trivial, trivial, trivial, trivial, trivial, trivial, trivial, h.2.2.2.2.2.2.2⟩) _ _ _ _ ⟨(blk_cell (Aside0.mk HI121.out.1).out 0).trans rfl, (blk_cell (Aside0.mk HI121.out.1).out 1).trans rfl, (blk_cell (Aside0.mk HI121.out.1).out 2).trans rfl, (blk_cell (Aside0.mk HI121.out.1).out 3).trans rfl, (blk_cell (Aside0.mk HI121.out.1).out 4).trans rfl, (blk_cell (Aside0.mk HI121.out.1).out 5).trans rfl, (blk_cell (Aside0.mk HI121.out.1).out 6).trans rfl, ((HB.out.cell (World.block_lt_of_cell? w _ hw136_0)).trans hw136_0), ((HB.out.cell (World.block_lt_of_cell? w _ hw136_1)).trans hw136_1), ((HB.out.cell (World.block_lt_of_cell? w _ hw136_2)).trans hw136_2), ((HB.out.cell (World.block_lt_of_cell? w _ hw136_3)).trans hw136_3), ((HB.out.cell (World.block_lt_of_cell? w _ hw136_4)).trans hw136_4), ((HB.out.cell (World.block_lt_of_cell? w _ hw136_5)).trans hw136_5), ((HB.out.cell (World.block_lt_of_cell? w _ hw148_0)).trans hw148_0), ((HB.out.cell (World.block_lt_of_cell? w _ hw148_1)).trans hw148_1), ((HB.out.cell (World.block_lt_of_cell? w _ hw148_2)).trans hw148_2), ((HB.out.cell (World.block_lt_of_cell? w _ hw148_3)).trans hw148_3), ((HB.out.cell (World.block_lt_of_cell? w _ hw148_4)).trans hw148_4), ((HB.out.cell (World.block_lt_of_cell? w _ hw148_5)).trans hw148_5)⟩ ?_
          clear hHeld
          have hHeld : (fun w' : World => w'.cell? ⟨g121, 0, none⟩ = some (.int .i64 t150) ∧ w'.cell? ⟨g121, 1, none⟩ = some (.int .u64 t151) ∧ w'.cell? ⟨g121, 2, none⟩ = some (.int .u64 t152) ∧ w'.cell? ⟨g121, 3, none⟩ = some (.int .u64 t153) ∧ w'.cell? ⟨g121, 4, none⟩ = some (.int .u64 t154) ∧ w'.cell? ⟨g121, 5, none⟩ = some (.int .u64 t155) ∧ w'.cell? ⟨g121, 6, none⟩ = some (.int .u64 t156) ∧ w'.cell? (ad136.add ((x5_1).toNat * 6)) = some (.int .i64 ((rd_T36 l0 x5_1).f0)) ∧ w'.cell? ⟨(ad136.add ((x5_1).toNat * 6)).block, (ad136.add ((x5_1).toNat * 6)).off + 1, none⟩ = some (.int .u64 ((rd_T36 l0 x5_1).f1)) ∧ w'.cell? ⟨(ad136.add ((x5_1).toNat * 6)).block, (ad136.add ((x5_1).toNat * 6)).off + 2, none⟩ = some (.int .u64 ((rd_T36 l0 x5_1).f2)) ∧ w'.cell? ⟨(ad136.add ((x5_1).toNat * 6)).block, (ad136.add ((x5_1).toNat * 6)).off + 3, none⟩ = some (.int .u64 ((rd_T36 l0 x5_1).f3)) ∧ w'.cell? ⟨(ad136.add ((x5_1).toNat * 6)).block, (ad136.add ((x5_1).toNat * 6)).off + 4, none⟩ = some (.int .u64 ((rd_T36 l0 x5_1).f4)) ∧ w'.cell? ⟨(ad136.add ((x5_1).toNat * 6)).block, (ad136.add ((x5_1).toNat * 6)).off + 5, none⟩ = some (.float .f64 ((rd_T36 l0 x5_1).f5)) ∧ w'.cell? (ad136.add ((x5_1).toNat * 6)) = some (.int .i64 ((rd_T36 l0 x5_1).f0)) ∧ w'.cell? ⟨(ad136.add ((x5_1).toNat * 6)).block, (ad136.add ((x5_1).toNat * 6)).off + 1, none⟩ = some (.int .u64 ((rd_T36 l0 x5_1).f1)) ∧ w'.cell? ⟨(ad136.add ((x5_1).toNat * 6)).block, (ad136.add ((x5_1).toNat * 6)).off + 2, none⟩ = some (.int .u64 ((rd_T36 l0 x5_1).f2)) ∧ w'.cell? ⟨(ad136.add ((x5_1).toNat * 6)).block, (ad136.add ((x5_1).toNat * 6)).off + 3, none⟩ = some (.int .u64 ((rd_T36 l0 x5_1).f3)) ∧ w'.cell? ⟨(ad136.add ((x5_1).toNat * 6)).block, (ad136.add ((x5_1).toNat * 6)).off + 4, none⟩ = some (.int .u64 ((rd_T36 l0 x5_1).f4)) ∧ w'.cell? ⟨(ad136.add ((x5_1).toNat * 6)).block, (ad136.add ((x5_1).toNat * 6)).off + 5, none⟩ = some (.float .f64 ((rd_T36 l0 x5_1).f5))) _ := ⟨(blk_cell (Aside0.mk HI121.out.1).out 0).trans rfl, (blk_cell (Aside0.mk HI121.out.1).out 1).trans rfl, (blk_cell (Aside0.mk HI121.out.1).out 2).trans rfl, (blk_cell (Aside0.mk HI121.out.1).out 3).trans rfl, (blk_cell (Aside0.mk HI121.out.1).out 4).trans rfl, (blk_cell (Aside0.mk HI121.out.1).out 5).trans rfl, (blk_cell (Aside0.mk HI121.out.1).out 6).trans rfl, ((HB.out.cell (World.block_lt_of_cell? w _ hw136_0)).trans hw136_0), ((HB.out.cell (World.block_lt_of_cell? w _ hw136_1)).trans hw136_1), ((HB.out.cell (World.block_lt_of_cell? w _ hw136_2)).trans hw136_2), ((HB.out.cell (World.block_lt_of_cell? w _ hw136_3)).trans hw136_3), ((HB.out.cell (World.block_lt_of_cell? w _ hw136_4)).trans hw136_4), ((HB.out.cell (World.block_lt_of_cell? w _ hw136_5)).trans hw136_5), ((HB.out.cell (World.block_lt_of_cell? w _ hw148_0)).trans hw148_0), ((HB.out.cell (World.block_lt_of_cell? w _ hw148_1)).trans hw148_1), ((HB.out.cell (World.block_lt_of_cell? w _ hw148_2)).trans hw148_2), ((HB.out.cell (World.block_lt_of_cell? w _ hw148_3)).trans hw148_3), ((HB.out.cell (World.block_lt_of_cell? w _ hw148_4)).trans hw148_4), ((HB.out.cell (World.block_lt_of_cell? w _ hw148_5)).trans hw148_5)⟩
          clear hK K
          refine norm_ (a' := ?_) ?_ ?_
          rotate_left
          ·show Act.put _ (some 36) _ = _
           simp only [Act.put, List.setIfInBounds_toArray, List.set_cons_zero, List.set_cons_succ, i64_w, i32_w]
           rfl
          refine pure_ (i := 12) (N := some 37) (v := ?_) (a' := ?_) #[true, true, true, true, true, true, true, true, true, true, true, true, true, false, false, false, false, false, false, false, false, false, false, false, false, false, false, false, false, false, false, false, false, false, false, false] rfl rfl (any_of HT_.out (by kernel_rfl)) (fun _ _ _ h => h) (Or.inl ⟨by rfl, ?_⟩) ?_ ?_
          rotate_left
          ·intro w'
           go_simp
           with_reducible rfl
          rotate_left
          ·simp only [Act.put, List.setIfInBounds_toArray, List.set_cons_zero, List.set_cons_succ, i64_w, i32_w]
           rfl
          refine pure_ (i := 13) (N := some 38) (v := ?_) (a' := ?_) #[true, true, true, true, true, true, true, true, true, true, true, true, true, true, false, false, false, false, false, false, false, false, false, false, false, false, false, false, false, false, false, false, false, false, false, false] rfl rfl (any_of HT_.out (by kernel_rfl)) (fun _ _ _ h => h) (Or.inl ⟨by rfl, ?_⟩) ?_ ?_
          rotate_left
          ·intro w'
           go_simp
           with_reducible rfl
          rotate_left
          ·simp only [Act.put, List.setIfInBounds_toArray, List.set_cons_zero, List.set_cons_succ, i64_w, i32_w]
           rfl
          refine pure_ (i := 14) (N := some 39) (v := ?_) (a' := ?_) #[true, true, true, true, true, true, true, true, true, true, true, true, true, true, true, false, false, false, false, false, false, false, false, false, false, false, false, false, false, false, false, false, false, false, false, false] rfl rfl (any_of HT_.out (by kernel_rfl)) (fun _ _ _ h => h) (Or.inl ⟨by rfl, ?_⟩) ?_ ?_
          rotate_left
          ·intro w'
           go_simp
           with_reducible rfl
          rotate_left
          ·simp only [Act.put, List.setIfInBounds_toArray, List.set_cons_zero, List.set_cons_succ, i64_w, i32_w]
           rfl
          refine pure_ (i := 16) (N := some 41) (v := ?_) (a' := ?_) #[true, true, true, true, true, true, true, true, true, true, true, true, true, true, true, false, true, false, false, false, false, false, false, false, false, false, false, false, false, false, false, false, false, false, false, false] rfl rfl (any_of HT_.out (by kernel_rfl)) (fun _ _ _ h => h) (Or.inl ⟨by rfl, ?_⟩) ?_ ?_
          rotate_left
          ·intro w'
           go_simp
           with_reducible rfl
          rotate_left
          ·simp only [Act.put, List.setIfInBounds_toArray, List.set_cons_zero, List.set_cons_succ, i64_w, i32_w]
           rfl
          refine pure_ (i := 17) (N := some 42) (v := ?_) (a' := ?_) #[true, true, true, true, true, true, true, true, true, true, true, true, true, true, true, false, true, true, false, false, false, false, false, false, false, false, false, false, false, false, false, false, false, false, false, false] rfl rfl (any_of HT_.out (by kernel_rfl)) (fun _ _ _ h => h) (Or.inl ⟨by rfl, ?_⟩) ?_ ?_
          rotate_left
          ·intro w'
           go_simp
           with_reducible rfl
          rotate_left
          ·simp only [Act.put, List.setIfInBounds_toArray, List.set_cons_zero, List.set_cons_succ, i64_w, i32_w]
           rfl
          refine pure_ (i := 18) (N := some 43) (v := ?_) (a' := ?_) #[true, true, true, true, true, true, true, true, true, true, true, true, true, true, true, false, true, true, true, false, false, false, false, false, false, false, false, false, false, false, false, false, false, false, false, false] rfl rfl (any_of HT_.out (by kernel_rfl)) (fun _ _ _ h => h) (Or.inl ⟨by rfl, ?_⟩) ?_ ?_
          rotate_left
          ·intro w'
           go_simp
           with_reducible rfl
          rotate_left
          ·simp only [Act.put, List.setIfInBounds_toArray, List.set_cons_zero, List.set_cons_succ, i64_w, i32_w]
           rfl
          refine take_ (i := 19) (N := some 44) (v := ?_) (a' := ?_) #[true, true, true, true, true, true, true, true, true, true, true, true, true, true, true, false, true, true, true, true, false, false, false, false, false, false, false, false, false, false, false, false, false, false, false, false] rfl rfl (take_ofW HT_.out HW_.out (by kernel_rfl)) (fun _ _ _ h => h) (Or.inl ⟨by rfl, ?_⟩) hHeld ?_ ?_
          rotate_left
          ·rintro w' ⟨s0, s1, s2, s3, s4, s5, s6, s7, s8, s9, s10, s11, s12, s13, s14, s15, s16, s17, s18⟩
           go_simp
           with_reducible rfl
          rotate_left
          ·simp only [Act.put, List.setIfInBounds_toArray, List.set_cons_zero, List.set_cons_succ, i64_w, i32_w]
           rfl
          refine one_ (i := 15) (N := some 40) #[true, true, true, true, true, true, true, true, true, true, true, true, true, true, true, true, true, true, true, true, false, false, false, false, false, false, false, false, false, false, false, false, false, false, false, false] rfl rfl (one_of HT_.out (by kernel_rfl)) (by decide) (fun K hK => ?_)
          refine goes_ Tryd.func18 (by kernel_rfl) rfl #[.pointer (some ⟨g113, 0, none⟩)] (by rfl) rfl rfl (by (try simp only [List.map_toArray, List.map_cons, List.map_nil]); first | done | rfl | (simp only [List.length_drop, List.length_take]; rfl)) ?_
          with_reducible refine (deck_Deck_Mode.calls g113 t138 t139 t140 t141 t142 t143 t144 t145 t146 t147 t157 t158 t159 t160 t161 t162 t163 t164 t165 t166 t167 w _ ?side1 ?side2 A25.out).mono ?_
          (case side1 => repeat (first | (with_reducible first | exact HI113.out | apply IsS100.alloc | apply IsS100.drewN | apply IsS100.drew | refine IsS100.far ?_ NB113_135.out _) | exact HI113.out))
          (case side2 => repeat (first | (with_reducible first | exact HB.out | apply below_alloc | apply pw_below_drewN | apply below_drew1 | refine below_set ?_ (IsS100.ge HI113.out) | refine below_set ?_ (IsS43.ge HI121.out) | refine below_set ?_ GE135.out) | exact HB.out))
          rintro e w47 ⟨rfl, hi, hb, hk⟩
          refine ⟨_, rfl, ?_⟩
          have n0_ := Aside0.mk (keepRef (show IsS43 w _ g121 t150 t151 t152 t153 t154 t155 t156 from by repeat (first | (with_reducible first | exact HI121.out | apply IsS43.alloc | apply IsS43.drewN | apply IsS43.drew | refine IsS43.far ?_ NB121_135.out _) | exact HI121.out)) hk (NB121_113.out))
          have n1_ := Aside0.mk (KeepBut.blk hk (g' := gb135) (o := .cells #[.int .u64 t123, .int .u64 t124] 30 (0, 0)) (by (with_reducible repeat (first | refine blk_drewN ?_ _ | refine blk_drew ?_ | refine blk_alloc ?_ _)); exact BK135.out) NB135_113.out (by simp))
          have n2_ := Aside0.mk (hb)
          have n3_ := Aside0.mk (hi)
          clear HI121
          clear BK135
          clear HB
          clear HI113
          have HI121 := n0_
          have BK135 := n1_
          have HB := n2_
          have HI113 := n3_
          clear n0_ n1_ n2_ n3_
          (try clear hb)
          (try clear hb2)
          (try clear hk)
          (try clear hi)
          refine hK.out _ _ ⟨(blk_cell (Aside0.mk HI121.out.1).out 0).trans rfl, (blk_cell (Aside0.mk HI121.out.1).out 1).trans rfl, (blk_cell (Aside0.mk HI121.out.1).out 2).trans rfl, (blk_cell (Aside0.mk HI121.out.1).out 3).trans rfl, (blk_cell (Aside0.mk HI121.out.1).out 4).trans rfl, (blk_cell (Aside0.mk HI121.out.1).out 5).trans rfl, (blk_cell (Aside0.mk HI121.out.1).out 6).trans rfl, ((HB.out.cell (World.block_lt_of_cell? w _ hw136_0)).trans hw136_0), ((HB.out.cell (World.block_lt_of_cell? w _ hw136_1)).trans hw136_1), ((HB.out.cell (World.block_lt_of_cell? w _ hw136_2)).trans hw136_2), ((HB.out.cell (World.block_lt_of_cell? w _ hw136_3)).trans hw136_3), ((HB.out.cell (World.block_lt_of_cell? w _ hw136_4)).trans hw136_4), ((HB.out.cell (World.block_lt_of_cell? w _ hw136_5)).trans hw136_5), ((HB.out.cell (World.block_lt_of_cell? w _ hw148_0)).trans hw148_0), ((HB.out.cell (World.block_lt_of_cell? w _ hw148_1)).trans hw148_1), ((HB.out.cell (World.block_lt_of_cell? w _ hw148_2)).trans hw148_2), ((HB.out.cell (World.block_lt_of_cell? w _ hw148_3)).trans hw148_3), ((HB.out.cell (World.block_lt_of_cell? w _ hw148_4)).trans hw148_4), ((HB.out.cell (World.block_lt_of_cell? w _ hw148_5)).trans hw148_5)⟩ (fun hHeld => ?_)
          clear hK K
          refine norm_ (a' := ?_) ?_ ?_
          rotate_left
          ·show Act.put _ (some 40) _ = _
           simp only [Act.put, List.setIfInBounds_toArray, List.set_cons_zero, List.set_cons_succ, i64_w, i32_w]
           rfl
          refine pure_ (i := 20) (N := some 45) (v := ?_) (a' := ?_) #[true, true, true, true, true, true, true, true, true, true, true, true, true, true, true, true, true, true, true, true, true, false, false, false, false, false, false, false, false, false, false, false, false, false, false, false] rfl rfl (any_of HT_.out (by kernel_rfl)) (fun _ _ _ h => h) (Or.inl ⟨by rfl, ?_⟩) ?_ ?_
          rotate_left
          ·intro w'
           go_simp
           with_reducible rfl
          rotate_left
          ·simp only [Act.put, List.setIfInBounds_toArray, List.set_cons_zero, List.set_cons_succ, i64_w, i32_w]
           rfl
          refine pure_ (i := 21) (N := some 46) (v := ?_) (a' := ?_) #[true, true, true, true, true, true, true, true, true, true, true, true, true, true, true, true, true, true, true, true, true, true, false, false, false, false, false, false, false, false, false, false, false, false, false, false] rfl rfl (any_of HT_.out (by kernel_rfl)) (fun _ _ _ h => h) (Or.inl ⟨by rfl, ?_⟩) ?_ ?_
          rotate_left
          ·intro w'
           go_simp
           with_reducible rfl
          rotate_left
          ·simp only [Act.put, List.setIfInBounds_toArray, List.set_cons_zero, List.set_cons_succ, i64_w, i32_w]
           rfl
          refine pure_ (i := 22) (N := some 47) (v := ?_) (a' := ?_) #[true, true, true, true, true, true, true, true, true, true, true, true, true, true, true, true, true, true, true, true, true, true, true, false, false, false, false, false, false, false, false, false, false, false, false, false] rfl rfl (any_of HT_.out (by kernel_rfl)) (fun _ _ _ h => h) (Or.inl ⟨by rfl, ?_⟩) ?_ ?_
          rotate_left
          ·intro w'
           go_simp
           with_reducible rfl
          rotate_left
          ·simp only [Act.put, List.setIfInBounds_toArray, List.set_cons_zero, List.set_cons_succ, i64_w, i32_w]
           rfl
          refine pure_ (i := 23) (N := some 48) (v := undef) (a' := ?_) #[true, true, true, true, true, true, true, true, true, true, true, true, true, true, true, true, true, true, true, true, true, true, true, true, false, false, false, false, false, false, false, false, false, false, false, false] rfl rfl (any_of HT_.out (by kernel_rfl)) (fun _ _ _ h => h) (Or.inr ⟨by rfl, rfl⟩) ?_ ?_
          rotate_left
          ·simp only [Act.put, List.setIfInBounds_toArray, List.set_cons_zero, List.set_cons_succ, i64_w, i32_w]
           rfl
          refine pure_ (i := 24) (N := some 49) (v := undef) (a' := ?_) #[true, true, true, true, true, true, true, true, true, true, true, true, true, true, true, true, true, true, true, true, true, true, true, true, true, false, false, false, false, false, false, false, false, false, false, false] rfl rfl (any_of HT_.out (by kernel_rfl)) (fun _ _ _ h => h) (Or.inr ⟨by rfl, rfl⟩) ?_ ?_
          rotate_left
          ·simp only [Act.put, List.setIfInBounds_toArray, List.set_cons_zero, List.set_cons_succ, i64_w, i32_w]
           rfl
          refine pure_ (i := 25) (N := some 50) (v := undef) (a' := ?_) #[true, true, true, true, true, true, true, true, true, true, true, true, true, true, true, true, true, true, true, true, true, true, true, true, true, true, false, false, false, false, false, false, false, false, false, false] rfl rfl (any_of HT_.out (by kernel_rfl)) (fun _ _ _ h => h) (Or.inr ⟨by rfl, rfl⟩) ?_ ?_
          rotate_left
          ·simp only [Act.put, List.setIfInBounds_toArray, List.set_cons_zero, List.set_cons_succ, i64_w, i32_w]
           rfl
          refine pure_ (i := 26) (N := some 51) (v := undef) (a' := ?_) #[true, true, true, true, true, true, true, true, true, true, true, true, true, true, true, true, true, true, true, true, true, true, true, true, true, true, true, false, false, false, false, false, false, false, false, false] rfl rfl (any_of HT_.out (by kernel_rfl)) (fun _ _ _ h => h) (Or.inr ⟨by rfl, rfl⟩) ?_ ?_
          rotate_left
          ·simp only [Act.put, List.setIfInBounds_toArray, List.set_cons_zero, List.set_cons_succ, i64_w, i32_w]
           rfl
          refine pure_ (i := 27) (N := some 52) (v := undef) (a' := ?_) #[true, true, true, true, true, true, true, true, true, true, true, true, true, true, true, true, true, true, true, true, true, true, true, true, true, true, true, true, false, false, false, false, false, false, false, false] rfl rfl (any_of HT_.out (by kernel_rfl)) (fun _ _ _ h => h) (Or.inr ⟨by rfl, rfl⟩) ?_ ?_
          rotate_left
          ·simp only [Act.put, List.setIfInBounds_toArray, List.set_cons_zero, List.set_cons_succ, i64_w, i32_w]
           rfl
          refine pure_ (i := 28) (N := some 53) (v := undef) (a' := ?_) #[true, true, true, true, true, true, true, true, true, true, true, true, true, true, true, true, true, true, true, true, true, true, true, true, true, true, true, true, true, false, false, false, false, false, false, false] rfl rfl (any_of HT_.out (by kernel_rfl)) (fun _ _ _ h => h) (Or.inr ⟨by rfl, rfl⟩) ?_ ?_
          rotate_left
          ·simp only [Act.put, List.setIfInBounds_toArray, List.set_cons_zero, List.set_cons_succ, i64_w, i32_w]
           rfl
          refine pure_ (i := 29) (N := some 54) (v := undef) (a' := ?_) #[true, true, true, true, true, true, true, true, true, true, true, true, true, true, true, true, true, true, true, true, true, true, true, true, true, true, true, true, true, true, false, false, false, false, false, false] rfl rfl (any_of HT_.out (by kernel_rfl)) (fun _ _ _ h => h) (Or.inr ⟨by rfl, rfl⟩) ?_ ?_
          rotate_left
          ·simp only [Act.put, List.setIfInBounds_toArray, List.set_cons_zero, List.set_cons_succ, i64_w, i32_w]
           rfl
          refine pure_ (i := 30) (N := some 55) (v := undef) (a' := ?_) #[true, true, true, true, true, true, true, true, true, true, true, true, true, true, true, true, true, true, true, true, true, true, true, true, true, true, true, true, true, true, true, false, false, false, false, false] rfl rfl (any_of HT_.out (by kernel_rfl)) (fun _ _ _ h => h) (Or.inr ⟨by rfl, rfl⟩) ?_ ?_
          rotate_left
          ·simp only [Act.put, List.setIfInBounds_toArray, List.set_cons_zero, List.set_cons_succ, i64_w, i32_w]
           rfl
          refine pure_ (i := 31) (N := some 56) (v := undef) (a' := ?_) #[true, true, true, true, true, true, true, true, true, true, true, true, true, true, true, true, true, true, true, true, true, true, true, true, true, true, true, true, true, true, true, true, false, false, false, false] rfl rfl (any_of HT_.out (by kernel_rfl)) (fun _ _ _ h => h) (Or.inr ⟨by rfl, rfl⟩) ?_ ?_
          rotate_left
          ·simp only [Act.put, List.setIfInBounds_toArray, List.set_cons_zero, List.set_cons_succ, i64_w, i32_w]
           rfl
          refine pure_ (i := 32) (N := some 57) (v := undef) (a' := ?_) #[true, true, true, true, true, true, true, true, true, true, true, true, true, true, true, true, true, true, true, true, true, true, true, true, true, true, true, true, true, true, true, true, true, false, false, false] rfl rfl (any_of HT_.out (by kernel_rfl)) (fun _ _ _ h => h) (Or.inr ⟨by rfl, rfl⟩) ?_ ?_
          rotate_left
          ·simp only [Act.put, List.setIfInBounds_toArray, List.set_cons_zero, List.set_cons_succ, i64_w, i32_w]
           rfl
          refine pure_ (i := 33) (N := some 58) (v := undef) (a' := ?_) #[true, true, true, true, true, true, true, true, true, true, true, true, true, true, true, true, true, true, true, true, true, true, true, true, true, true, true, true, true, true, true, true, true, true, false, false] rfl rfl (any_of HT_.out (by kernel_rfl)) (fun _ _ _ h => h) (Or.inr ⟨by rfl, rfl⟩) ?_ ?_
          rotate_left
          ·simp only [Act.put, List.setIfInBounds_toArray, List.set_cons_zero, List.set_cons_succ, i64_w, i32_w]
           rfl
          refine pure_ (i := 34) (N := some 59) (v := undef) (a' := ?_) #[true, true, true, true, true, true, true, true, true, true, true, true, true, true, true, true, true, true, true, true, true, true, true, true, true, true, true, true, true, true, true, true, true, true, true, false] rfl rfl (any_of HT_.out (by kernel_rfl)) (fun _ _ _ h => h) (Or.inr ⟨by rfl, rfl⟩) ?_ ?_
          rotate_left
          ·simp only [Act.put, List.setIfInBounds_toArray, List.set_cons_zero, List.set_cons_succ, i64_w, i32_w]
           rfl
          refine pure_ (i := 35) (N := some 60) (v := ?_) (a' := ?_) #[true, true, true, true, true, true, true, true, true, true, true, true, true, true, true, true, true, true, true, true, true, true, true, true, true, true, true, true, true, true, true, true, true, true, true, true] rfl rfl (any_of HT_.out (by kernel_rfl)) (fun _ _ _ h => h) (Or.inl ⟨by rfl, ?_⟩) ?_ ?_
          rotate_left
          ·intro w'
           go_simp
           with_reducible rfl
          rotate_left
          ·simp only [Act.put, List.setIfInBounds_toArray, List.set_cons_zero, List.set_cons_succ, i64_w, i32_w]
           rfl
          refine done_ (done_of HT_.out (by kernel_rfl)) ?_
          try go_wp2
          go_meet
          case rel => exact ⟨_, (true), (t158), (t159), (t160), (t161), (t162), (t163), (t164), (t165), (t166), (t167), (t150), (t151), (t152), (t153), (t154), (t155), (t156), (by first | rfl | (simp; done) | (simp [*]; done)), H', ⟨by have := HK1.out; first | omega | exact Nat.le_refl _⟩, ⟨by (with_reducible repeat (first | refine blk_drewN ?_ _ | refine blk_drew ?_ | refine blk_alloc ?_ _)); exact BK135.out⟩, ⟨by repeat (first | (with_reducible first | exact HI113.out | apply IsS100.alloc | apply IsS100.drewN | apply IsS100.drew | refine IsS100.far ?_ NB113_135.out _) | exact HI113.out)⟩, ⟨by repeat (first | (with_reducible first | exact HI121.out | apply IsS43.alloc | apply IsS43.drewN | apply IsS43.drew | refine IsS43.far ?_ NB121_135.out _) | exact HI121.out)⟩, ⟨by repeat (first | (with_reducible first | exact HB.out | apply below_alloc | apply pw_below_drewN | apply below_drew1 | refine below_set ?_ (IsS100.ge HI113.out) | refine below_set ?_ (IsS43.ge HI121.out) | refine below_set ?_ GE135.out) | exact HB.out)⟩⟩
        ·rw [if_neg c24] at H
         have c24b0 : (t137 == t149) = false := beq_eq_false_iff_ne.mpr c24
         have c24b1 : (t137 != t149) = true := bne_iff_ne.mpr c24
         have H' := Aside0.mk H
         clear H
         try go_wp2
         have n0_ : Aside0 (((w17.setCell ⟨gb135, 0, none⟩ (.int .u64 t123)).setCell ⟨gb135, 1, none⟩ (.int .u64 t124)).heap[gb135]? = some (.cells #[.int .u64 t123, .int .u64 t124] 30 (0, 0))) := ⟨by (with_reducible repeat (first | refine blk_drewN ?_ _ | refine blk_drew ?_ | refine blk_alloc ?_ _)); refine blk_put (cs := #[.int .u64 t123, .int .u64 0]) ?_ 1 _ rfl; (with_reducible repeat (first | refine blk_drewN ?_ _ | refine blk_drew ?_ | refine blk_alloc ?_ _)); refine blk_put (cs := #[.int .u64 0, .int .u64 0]) ?_ 0 _ rfl; (with_reducible repeat (first | refine blk_drewN ?_ _ | refine blk_drew ?_ | refine blk_alloc ?_ _)); exact BK135.out⟩
         have n1_ : Aside0 (IsS100 w ((w17.setCell ⟨gb135, 0, none⟩ (.int .u64 t123)).setCell ⟨gb135, 1, none⟩ (.int .u64 t124)) g113 t125 t126 t127 t128 t129 t130 t131 t132 t133 t134) := ⟨by repeat (first | (with_reducible first | exact HI113.out | apply IsS100.alloc | apply IsS100.drewN | apply IsS100.drew | refine IsS100.far ?_ NB113_135.out _) | exact HI113.out)⟩
         have n2_ : Aside0 (IsS43 w ((w17.setCell ⟨gb135, 0, none⟩ (.int .u64 t123)).setCell ⟨gb135, 1, none⟩ (.int .u64 t124)) g121 x122000_1 x122001_1 x122002_1 x122003_1 x122004_1 x122005_1 x122006_1) := ⟨by repeat (first | (with_reducible first | exact HI121.out | apply IsS43.alloc | apply IsS43.drewN | apply IsS43.drew | refine IsS43.far ?_ NB121_135.out _) | exact HI121.out)⟩
         have n3_ : Aside0 (Below w.heap.size w ((w17.setCell ⟨gb135, 0, none⟩ (.int .u64 t123)).setCell ⟨gb135, 1, none⟩ (.int .u64 t124))) := ⟨by repeat (first | (with_reducible first | exact HB.out | apply below_alloc | apply pw_below_drewN | apply below_drew1 | refine below_set ?_ (IsS100.ge HI113.out) | refine below_set ?_ (IsS43.ge HI121.out) | refine below_set ?_ GE135.out) | exact HB.out)⟩
         (try clear BK135)
         (try clear HI113)
         (try clear HI121)
         (try clear HB)
         generalize ((w17.setCell ⟨gb135, 0, none⟩ (.int .u64 t123)).setCell ⟨gb135, 1, none⟩ (.int .u64 t124)) = w48 at n0_ n1_ n2_ n3_ ⊢
         have BK135 := n0_
         have HI113 := n1_
         have HI121 := n2_
         have HB := n3_
         clear n0_ n1_ n2_ n3_
         have n0_ := Aside0.mk (blk_drew BK135.out)
         have n1_ := Aside0.mk (IsS100.drew HI113.out)
         have n2_ := Aside0.mk (IsS43.drew HI121.out)
         have n3_ := Aside0.mk (below_drew1 HB.out)
         clear BK135
         clear HI113
         clear HI121
         clear HB
         have BK135 := n0_
         have HI113 := n1_
         have HI121 := n2_
         have HB := n3_
         clear n0_ n1_ n2_ n3_
         have p136 : 0 ≤ (x5_1 : Int) := of_decide_eq_true (by first | (with_reducible assumption) | assumption)
         have q136 : x5_1 < (l0.length : Int) := of_decide_eq_true (by first | (with_reducible assumption) | assumption)
         obtain ⟨ad136, e136, hx136_0, hx136_1, hx136_2, hx136_3, hx136_4, hx136_5⟩ := at_T36 HR0.out x5_1 p136 q136
         have hw136_5 := hx136_5
         have hw136_4 := hx136_4
         have hw136_3 := hx136_3
         have hw136_2 := hx136_2
         have hw136_1 := hx136_1
         have hw136_0 := hx136_0
         cases e136
         replace hx136_0 := (HB.out.cell (World.block_lt_of_cell? w _ hx136_0)).trans hx136_0
         replace hx136_1 := (HB.out.cell (World.block_lt_of_cell? w _ hx136_1)).trans hx136_1
         replace hx136_2 := (HB.out.cell (World.block_lt_of_cell? w _ hx136_2)).trans hx136_2
         replace hx136_3 := (HB.out.cell (World.block_lt_of_cell? w _ hx136_3)).trans hx136_3
         replace hx136_4 := (HB.out.cell (World.block_lt_of_cell? w _ hx136_4)).trans hx136_4
         replace hx136_5 := (HB.out.cell (World.block_lt_of_cell? w _ hx136_5)).trans hx136_5
         replace p136 := eq_true p136
         replace q136 := eq_true q136
         have p148 : 0 ≤ (x5_1 : Int) := of_decide_eq_true (by first | (with_reducible assumption) | assumption)
         have q148 : x5_1 < (l0.length : Int) := of_decide_eq_true (by first | (with_reducible assumption) | assumption)
         obtain ⟨ad148, e148, hx148_0, hx148_1, hx148_2, hx148_3, hx148_4, hx148_5⟩ := at_T36 HR0.out x5_1 p148 q148
         have hw148_5 := hx148_5
         have hw148_4 := hx148_4
         have hw148_3 := hx148_3
         have hw148_2 := hx148_2
         have hw148_1 := hx148_1
         have hw148_0 := hx148_0
         obtain rfl : ad136 = ad148 := (by injection e148)
         replace hx148_0 := (HB.out.cell (World.block_lt_of_cell? w _ hx148_0)).trans hx148_0
         replace hx148_1 := (HB.out.cell (World.block_lt_of_cell? w _ hx148_1)).trans hx148_1
         replace hx148_2 := (HB.out.cell (World.block_lt_of_cell? w _ hx148_2)).trans hx148_2
         replace hx148_3 := (HB.out.cell (World.block_lt_of_cell? w _ hx148_3)).trans hx148_3
         replace hx148_4 := (HB.out.cell (World.block_lt_of_cell? w _ hx148_4)).trans hx148_4
         replace hx148_5 := (HB.out.cell (World.block_lt_of_cell? w _ hx148_5)).trans hx148_5
         replace p148 := eq_true p148
         replace q148 := eq_true q148
         refine start_ (n := 36) (S := fun w' => w'.cell? (ad136.add ((x5_1).toNat * 6)) = some (.int .i64 ((rd_T36 l0 x5_1).f0)) ∧ w'.cell? ⟨(ad136.add ((x5_1).toNat * 6)).block, (ad136.add ((x5_1).toNat * 6)).off + 1, none⟩ = some (.int .u64 ((rd_T36 l0 x5_1).f1)) ∧ w'.cell? ⟨(ad136.add ((x5_1).toNat * 6)).block, (ad136.add ((x5_1).toNat * 6)).off + 2, none⟩ = some (.int .u64 ((rd_T36 l0 x5_1).f2)) ∧ w'.cell? ⟨(ad136.add ((x5_1).toNat * 6)).block, (ad136.add ((x5_1).toNat * 6)).off + 3, none⟩ = some (.int .u64 ((rd_T36 l0 x5_1).f3)) ∧ w'.cell? ⟨(ad136.add ((x5_1).toNat * 6)).block, (ad136.add ((x5_1).toNat * 6)).off + 4, none⟩ = some (.int .u64 ((rd_T36 l0 x5_1).f4)) ∧ w'.cell? ⟨(ad136.add ((x5_1).toNat * 6)).block, (ad136.add ((x5_1).toNat * 6)).off + 5, none⟩ = some (.float .f64 ((rd_T36 l0 x5_1).f5)) ∧ w'.cell? (ad136.add ((x5_1).toNat * 6)) = some (.int .i64 ((rd_T36 l0 x5_1).f0)) ∧ w'.cell? ⟨(ad136.add ((x5_1).toNat * 6)).block, (ad136.add ((x5_1).toNat * 6)).off + 1, none⟩ = some (.int .u64 ((rd_T36 l0 x5_1).f1)) ∧ w'.cell? ⟨(ad136.add ((x5_1).toNat * 6)).block, (ad136.add ((x5_1).toNat * 6)).off + 2, none⟩ = some (.int .u64 ((rd_T36 l0 x5_1).f2)) ∧ w'.cell? ⟨(ad136.add ((x5_1).toNat * 6)).block, (ad136.add ((x5_1).toNat * 6)).off + 3, none⟩ = some (.int .u64 ((rd_T36 l0 x5_1).f3)) ∧ w'.cell? ⟨(ad136.add ((x5_1).toNat * 6)).block, (ad136.add ((x5_1).toNat * 6)).off + 4, none⟩ = some (.int .u64 ((rd_T36 l0 x5_1).f4)) ∧ w'.cell? ⟨(ad136.add ((x5_1).toNat * 6)).block, (ad136.add ((x5_1).toNat * 6)).off + 5, none⟩ = some (.float .f64 ((rd_T36 l0 x5_1).f5))) (ds := []) #[false, false, false, false, false, false, false, false, false, false, false, false, false, false, false, false, false, false, false, false, false, false, false, false, false, false, false, false, false, false, false, false, false, false, false, false] (by kernel_rfl) rfl rfl ⟨((HB.out.cell (World.block_lt_of_cell? w _ hw136_0)).trans hw136_0), ((HB.out.cell (World.block_lt_of_cell? w _ hw136_1)).trans hw136_1), ((HB.out.cell (World.block_lt_of_cell? w _ hw136_2)).trans hw136_2), ((HB.out.cell (World.block_lt_of_cell? w _ hw136_3)).trans hw136_3), ((HB.out.cell (World.block_lt_of_cell? w _ hw136_4)).trans hw136_4), ((HB.out.cell (World.block_lt_of_cell? w _ hw136_5)).trans hw136_5), ((HB.out.cell (World.block_lt_of_cell? w _ hw148_0)).trans hw148_0), ((HB.out.cell (World.block_lt_of_cell? w _ hw148_1)).trans hw148_1), ((HB.out.cell (World.block_lt_of_cell? w _ hw148_2)).trans hw148_2), ((HB.out.cell (World.block_lt_of_cell? w _ hw148_3)).trans hw148_3), ((HB.out.cell (World.block_lt_of_cell? w _ hw148_4)).trans hw148_4), ((HB.out.cell (World.block_lt_of_cell? w _ hw148_5)).trans hw148_5)⟩ (fun hHeld => ?_); refine with_tabW tiklaw23_DeckPlays.tab12 tiklaw23_DeckPlays.bits12 (fun HT_ HW_ => ?_)
         generalize w48.drew = w49 at BK135 HI113 HI121 HB hx136_0 hx136_1 hx136_2 hx136_3 hx136_4 hx136_5 hx148_0 hx148_1 hx148_2 hx148_3 hx148_4 hx148_5 hHeld ⊢
         refine pure_ (i := 0) (N := some 25) (v := ?_) (a' := ?_) #[true, false, false, false, false, false, false, false, false, false, false, false, false, false, false, false, false, false, false, false, false, false, false, false, false, false, false, false, false, false, false, false, false, false, false, false] rfl rfl (any_of HT_.out (by kernel_rfl)) (fun _ _ _ h => h) (Or.inl ⟨by rfl, ?_⟩) ?_ ?_
         rotate_left
         ·intro w'
          go_simp
          with_reducible rfl
         rotate_left
         ·simp only [Act.put, List.setIfInBounds_toArray, List.set_cons_zero, List.set_cons_succ, i64_w, i32_w]
          rfl
         refine pure_ (i := 1) (N := some 26) (v := ?_) (a' := ?_) #[true, true, false, false, false, false, false, false, false, false, false, false, false, false, false, false, false, false, false, false, false, false, false, false, false, false, false, false, false, false, false, false, false, false, false, false] rfl rfl (any_of HT_.out (by kernel_rfl)) (fun _ _ _ h => h) (Or.inl ⟨by rfl, ?_⟩) ?_ ?_
         rotate_left
         ·intro w'
          go_simp
          with_reducible rfl
         rotate_left
         ·simp only [Act.put, List.setIfInBounds_toArray, List.set_cons_zero, List.set_cons_succ, i64_w, i32_w]
          rfl
         refine pure_ (i := 2) (N := some 27) (v := ?_) (a' := ?_) #[true, true, true, false, false, false, false, false, false, false, false, false, false, false, false, false, false, false, false, false, false, false, false, false, false, false, false, false, false, false, false, false, false, false, false, false] rfl rfl (any_of HT_.out (by kernel_rfl)) (fun _ _ _ h => h) (Or.inl ⟨by rfl, ?_⟩) ?_ ?_
         rotate_left
         ·intro w'
          go_simp
          with_reducible rfl
         rotate_left
         ·simp only [Act.put, List.setIfInBounds_toArray, List.set_cons_zero, List.set_cons_succ, i64_w, i32_w]
          rfl
         refine pure_ (i := 3) (N := some 28) (v := ?_) (a' := ?_) #[true, true, true, true, false, false, false, false, false, false, false, false, false, false, false, false, false, false, false, false, false, false, false, false, false, false, false, false, false, false, false, false, false, false, false, false] rfl rfl (any_of HT_.out (by kernel_rfl)) (fun _ _ _ h => h) (Or.inl ⟨by rfl, ?_⟩) ?_ ?_
         rotate_left
         ·intro w'
          go_simp
          with_reducible rfl
         rotate_left
         ·simp only [Act.put, List.setIfInBounds_toArray, List.set_cons_zero, List.set_cons_succ, i64_w, i32_w]
          rfl
         refine pure_ (i := 6) (N := some 31) (v := ?_) (a' := ?_) #[true, true, true, true, false, false, true, false, false, false, false, false, false, false, false, false, false, false, false, false, false, false, false, false, false, false, false, false, false, false, false, false, false, false, false, false] rfl rfl (any_of HT_.out (by kernel_rfl)) (fun _ _ _ h => h) (Or.inl ⟨by rfl, ?_⟩) ?_ ?_
         rotate_left
         ·intro w'
          go_simp
          with_reducible rfl
         rotate_left
         ·simp only [Act.put, List.setIfInBounds_toArray, List.set_cons_zero, List.set_cons_succ, i64_w, i32_w]
          rfl
         refine pure_ (i := 7) (N := some 32) (v := ?_) (a' := ?_) #[true, true, true, true, false, false, true, true, false, false, false, false, false, false, false, false, false, false, false, false, false, false, false, false, false, false, false, false, false, false, false, false, false, false, false, false] rfl rfl (any_of HT_.out (by kernel_rfl)) (fun _ _ _ h => h) (Or.inl ⟨by rfl, ?_⟩) ?_ ?_
         rotate_left
         ·intro w'
          go_simp
          with_reducible rfl
         rotate_left
         ·simp only [Act.put, List.setIfInBounds_toArray, List.set_cons_zero, List.set_cons_succ, i64_w, i32_w]
          rfl
         refine pure_ (i := 8) (N := some 33) (v := ?_) (a' := ?_) #[true, true, true, true, false, false, true, true, true, false, false, false, false, false, false, false, false, false, false, false, false, false, false, false, false, false, false, false, false, false, false, false, false, false, false, false] rfl rfl (any_of HT_.out (by kernel_rfl)) (fun _ _ _ h => h) (Or.inl ⟨by rfl, ?_⟩) ?_ ?_
         rotate_left
         ·intro w'
          go_simp
          with_reducible rfl
         rotate_left
         ·simp only [Act.put, List.setIfInBounds_toArray, List.set_cons_zero, List.set_cons_succ, i64_w, i32_w]
          rfl
         refine pure_ (i := 9) (N := some 34) (v := ?_) (a' := ?_) #[true, true, true, true, false, false, true, true, true, true, false, false, false, false, false, false, false, false, false, false, false, false, false, false, false, false, false, false, false, false, false, false, false, false, false, false] rfl rfl (any_of HT_.out (by kernel_rfl)) (fun _ _ _ h => h) (Or.inl ⟨by rfl, ?_⟩) ?_ ?_
         rotate_left
         ·intro w'
          go_simp
          with_reducible rfl
         rotate_left
         ·simp only [Act.put, List.setIfInBounds_toArray, List.set_cons_zero, List.set_cons_succ, i64_w, i32_w]
          rfl
         refine take_ (i := 4) (N := some 29) (v := ?_) (a' := ?_) #[true, true, true, true, true, false, true, true, true, true, false, false, false, false, false, false, false, false, false, false, false, false, false, false, false, false, false, false, false, false, false, false, false, false, false, false] rfl rfl (take_ofW HT_.out HW_.out (by kernel_rfl)) (fun _ _ _ h => h) (Or.inl ⟨by rfl, ?_⟩) hHeld ?_ ?_
         rotate_left
         ·rintro w' ⟨s0, s1, s2, s3, s4, s5, s6, s7, s8, s9, s10, s11⟩
          go_simp
          with_reducible rfl
         rotate_left
         ·simp only [Act.put, List.setIfInBounds_toArray, List.set_cons_zero, List.set_cons_succ, i64_w, i32_w]
          rfl
         refine take_ (i := 10) (N := some 35) (v := ?_) (a' := ?_) #[true, true, true, true, true, false, true, true, true, true, true, false, false, false, false, false, false, false, false, false, false, false, false, false, false, false, false, false, false, false, false, false, false, false, false, false] rfl rfl (take_ofW HT_.out HW_.out (by kernel_rfl)) (fun _ _ _ h => h) (Or.inl ⟨by rfl, ?_⟩) hHeld ?_ ?_
         rotate_left
         ·rintro w' ⟨s0, s1, s2, s3, s4, s5, s6, s7, s8, s9, s10, s11⟩
          go_simp
          with_reducible rfl
         rotate_left
         ·simp only [Act.put, List.setIfInBounds_toArray, List.set_cons_zero, List.set_cons_succ, i64_w, i32_w]
          rfl
         refine one_ (i := 5) (N := some 30) #[true, true, true, true, true, true, true, true, true, true, true, false, false, false, false, false, false, false, false, false, false, false, false, false, false, false, false, false, false, false, false, false, false, false, false, false] rfl rfl (one_of HT_.out (by kernel_rfl)) (by decide) (fun K hK => ?_)
         refine goes_ Tryd.func16 (by kernel_rfl) rfl #[.pointer (some ⟨g113, 0, none⟩), .agg #[.int .i64 ((rd_T36 l0 x5_1).f0), .int .u64 ((rd_T36 l0 x5_1).f1), .int .u64 ((rd_T36 l0 x5_1).f2), .int .u64 ((rd_T36 l0 x5_1).f3), .int .u64 ((rd_T36 l0 x5_1).f4), .float .f64 ((rd_T36 l0 x5_1).f5)]] (by rfl) rfl rfl (by (try simp only [List.map_toArray, List.map_cons, List.map_nil]); first | done | rfl | (simp only [List.length_drop, List.length_take]; rfl)) ?_
         with_reducible refine (tiklaw23_Does.calls k1 g113 t125 t126 t127 t128 t129 t130 t131 t132 t133 t134 ((rd_T36 l0 x5_1).f0) ((rd_T36 l0 x5_1).f1) ((rd_T36 l0 x5_1).f2) ((rd_T36 l0 x5_1).f3) ((rd_T36 l0 x5_1).f4) ((rd_T36 l0 x5_1).f5) t137 t138 t139 t140 t141 t142 t143 t144 t145 t146 t147 w _ ?side1 ?side2 ?side3 A22.out).mono ?_
         (case side1 => repeat (first | (with_reducible first | exact HI113.out | apply IsS100.alloc | apply IsS100.drewN | apply IsS100.drew | refine IsS100.far ?_ NB113_135.out _) | exact HI113.out))
         (case side2 => repeat (first | (with_reducible first | exact HB.out | apply below_alloc | apply pw_below_drewN | apply below_drew1 | refine below_set ?_ (IsS100.ge HI113.out) | refine below_set ?_ (IsS43.ge HI121.out) | refine below_set ?_ GE135.out) | exact HB.out))
         (case side3 => first | (with_reducible exact HT.out) | exact tabAt HT.out (by repeat (first | (with_reducible first | exact HB.out | apply below_alloc | apply pw_below_drewN | apply below_drew1 | refine below_set ?_ (IsS100.ge HI113.out) | refine below_set ?_ (IsS43.ge HI121.out) | refine below_set ?_ GE135.out) | exact HB.out)))
         rintro e w50 ⟨rfl, hi, hb, hk⟩
         refine ⟨_, rfl, ?_⟩
         have n0_ := Aside0.mk (keepRef (show IsS43 w _ g121 x122000_1 x122001_1 x122002_1 x122003_1 x122004_1 x122005_1 x122006_1 from by repeat (first | (with_reducible first | exact HI121.out | apply IsS43.alloc | apply IsS43.drewN | apply IsS43.drew | refine IsS43.far ?_ NB121_135.out _) | exact HI121.out)) hk (NB121_113.out))
         have n1_ := Aside0.mk (KeepBut.blk hk (g' := gb135) (o := .cells #[.int .u64 t123, .int .u64 t124] 30 (0, 0)) (by (with_reducible repeat (first | refine blk_drewN ?_ _ | refine blk_drew ?_ | refine blk_alloc ?_ _)); exact BK135.out) NB135_113.out (by simp))
         have n2_ := Aside0.mk (hb)
         have n3_ := Aside0.mk (hi)
         clear HI121
         clear BK135
         clear HB
         clear HI113
         have HI121 := n0_
         have BK135 := n1_
         have HB := n2_
         have HI113 := n3_
         clear n0_ n1_ n2_ n3_
         (try clear hb)
         (try clear hb2)
         (try clear hk)
         (try clear hi)
         refine hK.out _ _ ⟨((HB.out.cell (World.block_lt_of_cell? w _ hw136_0)).trans hw136_0), ((HB.out.cell (World.block_lt_of_cell? w _ hw136_1)).trans hw136_1), ((HB.out.cell (World.block_lt_of_cell? w _ hw136_2)).trans hw136_2), ((HB.out.cell (World.block_lt_of_cell? w _ hw136_3)).trans hw136_3), ((HB.out.cell (World.block_lt_of_cell? w _ hw136_4)).trans hw136_4), ((HB.out.cell (World.block_lt_of_cell? w _ hw136_5)).trans hw136_5), ((HB.out.cell (World.block_lt_of_cell? w _ hw148_0)).trans hw148_0), ((HB.out.cell (World.block_lt_of_cell? w _ hw148_1)).trans hw148_1), ((HB.out.cell (World.block_lt_of_cell? w _ hw148_2)).trans hw148_2), ((HB.out.cell (World.block_lt_of_cell? w _ hw148_3)).trans hw148_3), ((HB.out.cell (World.block_lt_of_cell? w _ hw148_4)).trans hw148_4), ((HB.out.cell (World.block_lt_of_cell? w _ hw148_5)).trans hw148_5)⟩ (fun hHeld => ?_)
         clear hK K
         refine norm_ (a' := ?_) ?_ ?_
         rotate_left
         ·show Act.put _ (some 30) _ = _
          simp only [Act.put, List.setIfInBounds_toArray, List.set_cons_zero, List.set_cons_succ, i64_w, i32_w]
          rfl
         refine one_ (i := 11) (N := some 36) #[true, true, true, true, true, true, true, true, true, true, true, true, false, false, false, false, false, false, false, false, false, false, false, false, false, false, false, false, false, false, false, false, false, false, false, false] rfl rfl (one_of HT_.out (by kernel_rfl)) (by decide) (fun K hK => ?_)
         refine goes_ Tryd.func17 (by kernel_rfl) rfl #[.pointer (some ⟨g121, 0, none⟩), .agg #[.int .i64 ((rd_T36 l0 x5_1).f0), .int .u64 ((rd_T36 l0 x5_1).f1), .int .u64 ((rd_T36 l0 x5_1).f2), .int .u64 ((rd_T36 l0 x5_1).f3), .int .u64 ((rd_T36 l0 x5_1).f4), .float .f64 ((rd_T36 l0 x5_1).f5)]] (by rfl) rfl rfl (by (try simp only [List.map_toArray, List.map_cons, List.map_nil]); first | done | rfl | (simp only [List.length_drop, List.length_take]; rfl)) ?_
         with_reducible refine (refPlain.calls k1 g121 x122000_1 x122001_1 x122002_1 x122003_1 x122004_1 x122005_1 x122006_1 ((rd_T36 l0 x5_1).f0) ((rd_T36 l0 x5_1).f1) ((rd_T36 l0 x5_1).f2) ((rd_T36 l0 x5_1).f3) ((rd_T36 l0 x5_1).f4) ((rd_T36 l0 x5_1).f5) t149 t150 t151 t152 t153 t154 t155 t156 w _ ?side1 ?side2 A23.out).mono ?_
         (case side1 => repeat (first | (with_reducible first | exact HI121.out | apply IsS43.alloc | apply IsS43.drewN | apply IsS43.drew | refine IsS43.far ?_ NB121_135.out _) | exact HI121.out))
         (case side2 => repeat (first | (with_reducible first | exact HB.out | apply below_alloc | apply pw_below_drewN | apply below_drew1 | refine below_set ?_ (IsS100.ge HI113.out) | refine below_set ?_ (IsS43.ge HI121.out) | refine below_set ?_ GE135.out) | exact HB.out))
         rintro e w51 ⟨rfl, hi, hb, hk⟩
         refine ⟨_, rfl, ?_⟩
         have n0_ := Aside0.mk (keepDeck (show IsS100 w _ g113 t138 t139 t140 t141 t142 t143 t144 t145 t146 t147 from by repeat (first | (with_reducible first | exact HI113.out | apply IsS100.alloc | apply IsS100.drewN | apply IsS100.drew | refine IsS100.far ?_ NB113_135.out _) | exact HI113.out)) hk (NB113_121.out))
         have n1_ := Aside0.mk (KeepR.blk hk (g' := gb135) (o := .cells #[.int .u64 t123, .int .u64 t124] 30 (0, 0)) (by (with_reducible repeat (first | refine blk_drewN ?_ _ | refine blk_drew ?_ | refine blk_alloc ?_ _)); exact BK135.out) NB135_121.out (by simp))
         have n2_ := Aside0.mk (hb)
         have n3_ := Aside0.mk (hi)
         clear HI113
         clear BK135
         clear HB
         clear HI121
         have HI113 := n0_
         have BK135 := n1_
         have HB := n2_
         have HI121 := n3_
         clear n0_ n1_ n2_ n3_
         (try clear hb)
         (try clear hb2)
         (try clear hk)
         (try clear hi)
         refine hK.out _ _ ⟨((HB.out.cell (World.block_lt_of_cell? w _ hw136_0)).trans hw136_0), ((HB.out.cell (World.block_lt_of_cell? w _ hw136_1)).trans hw136_1), ((HB.out.cell (World.block_lt_of_cell? w _ hw136_2)).trans hw136_2), ((HB.out.cell (World.block_lt_of_cell? w _ hw136_3)).trans hw136_3), ((HB.out.cell (World.block_lt_of_cell? w _ hw136_4)).trans hw136_4), ((HB.out.cell (World.block_lt_of_cell? w _ hw136_5)).trans hw136_5), ((HB.out.cell (World.block_lt_of_cell? w _ hw148_0)).trans hw148_0), ((HB.out.cell (World.block_lt_of_cell? w _ hw148_1)).trans hw148_1), ((HB.out.cell (World.block_lt_of_cell? w _ hw148_2)).trans hw148_2), ((HB.out.cell (World.block_lt_of_cell? w _ hw148_3)).trans hw148_3), ((HB.out.cell (World.block_lt_of_cell? w _ hw148_4)).trans hw148_4), ((HB.out.cell (World.block_lt_of_cell? w _ hw148_5)).trans hw148_5)⟩ (fun hHeld => ?_)
         clear hK K
         refine norm_ (a' := ?_) ?_ ?_
         rotate_left
         ·show Act.put _ (some 36) _ = _
          simp only [Act.put, List.setIfInBounds_toArray, List.set_cons_zero, List.set_cons_succ, i64_w, i32_w]
          rfl
         refine pure_ (i := 12) (N := some 37) (v := ?_) (a' := ?_) #[true, true, true, true, true, true, true, true, true, true, true, true, true, false, false, false, false, false, false, false, false, false, false, false, false, false, false, false, false, false, false, false, false, false, false, false] rfl rfl (any_of HT_.out (by kernel_rfl)) (fun _ _ _ h => h) (Or.inl ⟨by rfl, ?_⟩) ?_ ?_
         rotate_left
         ·intro w'
          go_simp
          with_reducible rfl
         rotate_left
         ·simp only [Act.put, List.setIfInBounds_toArray, List.set_cons_zero, List.set_cons_succ, i64_w, i32_w]
          rfl
         refine pure_ (i := 13) (N := some 38) (v := ?_) (a' := ?_) #[true, true, true, true, true, true, true, true, true, true, true, true, true, true, false, false, false, false, false, false, false, false, false, false, false, false, false, false, false, false, false, false, false, false, false, false] rfl rfl (any_of HT_.out (by kernel_rfl)) (fun _ _ _ h => h) (Or.inl ⟨by rfl, ?_⟩) ?_ ?_
         rotate_left
         ·intro w'
          go_simp
          with_reducible rfl
         rotate_left
         ·simp only [Act.put, List.setIfInBounds_toArray, List.set_cons_zero, List.set_cons_succ, i64_w, i32_w]
          rfl
         refine pure_ (i := 14) (N := some 39) (v := undef) (a' := ?_) #[true, true, true, true, true, true, true, true, true, true, true, true, true, true, true, false, false, false, false, false, false, false, false, false, false, false, false, false, false, false, false, false, false, false, false, false] rfl rfl (any_of HT_.out (by kernel_rfl)) (fun _ _ _ h => h) (Or.inr ⟨by rfl, rfl⟩) ?_ ?_
         rotate_left
         ·simp only [Act.put, List.setIfInBounds_toArray, List.set_cons_zero, List.set_cons_succ, i64_w, i32_w]
          rfl
         refine pure_ (i := 15) (N := some 40) (v := undef) (a' := ?_) #[true, true, true, true, true, true, true, true, true, true, true, true, true, true, true, true, false, false, false, false, false, false, false, false, false, false, false, false, false, false, false, false, false, false, false, false] rfl rfl (any_of HT_.out (by kernel_rfl)) (fun _ _ _ h => h) (Or.inr ⟨by rfl, rfl⟩) ?_ ?_
         rotate_left
         ·simp only [Act.put, List.setIfInBounds_toArray, List.set_cons_zero, List.set_cons_succ, i64_w, i32_w]
          rfl
         refine pure_ (i := 16) (N := some 41) (v := undef) (a' := ?_) #[true, true, true, true, true, true, true, true, true, true, true, true, true, true, true, true, true, false, false, false, false, false, false, false, false, false, false, false, false, false, false, false, false, false, false, false] rfl rfl (any_of HT_.out (by kernel_rfl)) (fun _ _ _ h => h) (Or.inr ⟨by rfl, rfl⟩) ?_ ?_
         rotate_left
         ·simp only [Act.put, List.setIfInBounds_toArray, List.set_cons_zero, List.set_cons_succ, i64_w, i32_w]
          rfl
         refine pure_ (i := 17) (N := some 42) (v := undef) (a' := ?_) #[true, true, true, true, true, true, true, true, true, true, true, true, true, true, true, true, true, true, false, false, false, false, false, false, false, false, false, false, false, false, false, false, false, false, false, false] rfl rfl (any_of HT_.out (by kernel_rfl)) (fun _ _ _ h => h) (Or.inr ⟨by rfl, rfl⟩) ?_ ?_
         rotate_left
         ·simp only [Act.put, List.setIfInBounds_toArray, List.set_cons_zero, List.set_cons_succ, i64_w, i32_w]
          rfl
         refine pure_ (i := 18) (N := some 43) (v := undef) (a' := ?_) #[true, true, true, true, true, true, true, true, true, true, true, true, true, true, true, true, true, true, true, false, false, false, false, false, false, false, false, false, false, false, false, false, false, false, false, false] rfl rfl (any_of HT_.out (by kernel_rfl)) (fun _ _ _ h => h) (Or.inr ⟨by rfl, rfl⟩) ?_ ?_
         rotate_left
         ·simp only [Act.put, List.setIfInBounds_toArray, List.set_cons_zero, List.set_cons_succ, i64_w, i32_w]
          rfl
         refine pure_ (i := 19) (N := some 44) (v := undef) (a' := ?_) #[true, true, true, true, true, true, true, true, true, true, true, true, true, true, true, true, true, true, true, true, false, false, false, false, false, false, false, false, false, false, false, false, false, false, false, false] rfl rfl (any_of HT_.out (by kernel_rfl)) (fun _ _ _ h => h) (Or.inr ⟨by rfl, rfl⟩) ?_ ?_
         rotate_left
         ·simp only [Act.put, List.setIfInBounds_toArray, List.set_cons_zero, List.set_cons_succ, i64_w, i32_w]
          rfl
         refine pure_ (i := 20) (N := some 45) (v := undef) (a' := ?_) #[true, true, true, true, true, true, true, true, true, true, true, true, true, true, true, true, true, true, true, true, true, false, false, false, false, false, false, false, false, false, false, false, false, false, false, false] rfl rfl (any_of HT_.out (by kernel_rfl)) (fun _ _ _ h => h) (Or.inr ⟨by rfl, rfl⟩) ?_ ?_
         rotate_left
         ·simp only [Act.put, List.setIfInBounds_toArray, List.set_cons_zero, List.set_cons_succ, i64_w, i32_w]
          rfl
         refine pure_ (i := 21) (N := some 46) (v := ?_) (a' := ?_) #[true, true, true, true, true, true, true, true, true, true, true, true, true, true, true, true, true, true, true, true, true, true, false, false, false, false, false, false, false, false, false, false, false, false, false, false] rfl rfl (any_of HT_.out (by kernel_rfl)) (fun _ _ _ h => h) (Or.inl ⟨by rfl, ?_⟩) ?_ ?_
         rotate_left
         ·intro w'
          go_simp
          with_reducible rfl
         rotate_left
         ·simp only [Act.put, List.setIfInBounds_toArray, List.set_cons_zero, List.set_cons_succ, i64_w, i32_w]
          rfl
         refine pure_ (i := 22) (N := some 47) (v := ?_) (a' := ?_) #[true, true, true, true, true, true, true, true, true, true, true, true, true, true, true, true, true, true, true, true, true, true, true, false, false, false, false, false, false, false, false, false, false, false, false, false] rfl rfl (any_of HT_.out (by kernel_rfl)) (fun _ _ _ h => h) (Or.inl ⟨by rfl, ?_⟩) ?_ ?_
         rotate_left
         ·intro w'
          go_simp
          with_reducible rfl
         rotate_left
         ·simp only [Act.put, List.setIfInBounds_toArray, List.set_cons_zero, List.set_cons_succ, i64_w, i32_w]
          rfl
         refine pure_ (i := 23) (N := some 48) (v := undef) (a' := ?_) #[true, true, true, true, true, true, true, true, true, true, true, true, true, true, true, true, true, true, true, true, true, true, true, true, false, false, false, false, false, false, false, false, false, false, false, false] rfl rfl (any_of HT_.out (by kernel_rfl)) (fun _ _ _ h => h) (Or.inr ⟨by rfl, rfl⟩) ?_ ?_
         rotate_left
         ·simp only [Act.put, List.setIfInBounds_toArray, List.set_cons_zero, List.set_cons_succ, i64_w, i32_w]
          rfl
         refine pure_ (i := 24) (N := some 49) (v := undef) (a' := ?_) #[true, true, true, true, true, true, true, true, true, true, true, true, true, true, true, true, true, true, true, true, true, true, true, true, true, false, false, false, false, false, false, false, false, false, false, false] rfl rfl (any_of HT_.out (by kernel_rfl)) (fun _ _ _ h => h) (Or.inr ⟨by rfl, rfl⟩) ?_ ?_
         rotate_left
         ·simp only [Act.put, List.setIfInBounds_toArray, List.set_cons_zero, List.set_cons_succ, i64_w, i32_w]
          rfl
         refine pure_ (i := 25) (N := some 50) (v := undef) (a' := ?_) #[true, true, true, true, true, true, true, true, true, true, true, true, true, true, true, true, true, true, true, true, true, true, true, true, true, true, false, false, false, false, false, false, false, false, false, false] rfl rfl (any_of HT_.out (by kernel_rfl)) (fun _ _ _ h => h) (Or.inr ⟨by rfl, rfl⟩) ?_ ?_
         rotate_left
         ·simp only [Act.put, List.setIfInBounds_toArray, List.set_cons_zero, List.set_cons_succ, i64_w, i32_w]
          rfl
         refine pure_ (i := 26) (N := some 51) (v := undef) (a' := ?_) #[true, true, true, true, true, true, true, true, true, true, true, true, true, true, true, true, true, true, true, true, true, true, true, true, true, true, true, false, false, false, false, false, false, false, false, false] rfl rfl (any_of HT_.out (by kernel_rfl)) (fun _ _ _ h => h) (Or.inr ⟨by rfl, rfl⟩) ?_ ?_
         rotate_left
         ·simp only [Act.put, List.setIfInBounds_toArray, List.set_cons_zero, List.set_cons_succ, i64_w, i32_w]
          rfl
         refine pure_ (i := 27) (N := some 52) (v := undef) (a' := ?_) #[true, true, true, true, true, true, true, true, true, true, true, true, true, true, true, true, true, true, true, true, true, true, true, true, true, true, true, true, false, false, false, false, false, false, false, false] rfl rfl (any_of HT_.out (by kernel_rfl)) (fun _ _ _ h => h) (Or.inr ⟨by rfl, rfl⟩) ?_ ?_
         rotate_left
         ·simp only [Act.put, List.setIfInBounds_toArray, List.set_cons_zero, List.set_cons_succ, i64_w, i32_w]
          rfl
         refine pure_ (i := 28) (N := some 53) (v := undef) (a' := ?_) #[true, true, true, true, true, true, true, true, true, true, true, true, true, true, true, true, true, true, true, true, true, true, true, true, true, true, true, true, true, false, false, false, false, false, false, false] rfl rfl (any_of HT_.out (by kernel_rfl)) (fun _ _ _ h => h) (Or.inr ⟨by rfl, rfl⟩) ?_ ?_
         rotate_left
         ·simp only [Act.put, List.setIfInBounds_toArray, List.set_cons_zero, List.set_cons_succ, i64_w, i32_w]
          rfl
         refine pure_ (i := 29) (N := some 54) (v := undef) (a' := ?_) #[true, true, true, true, true, true, true, true, true, true, true, true, true, true, true, true, true, true, true, true, true, true, true, true, true, true, true, true, true, true, false, false, false, false, false, false] rfl rfl (any_of HT_.out (by kernel_rfl)) (fun _ _ _ h => h) (Or.inr ⟨by rfl, rfl⟩) ?_ ?_
         rotate_left
         ·simp only [Act.put, List.setIfInBounds_toArray, List.set_cons_zero, List.set_cons_succ, i64_w, i32_w]
          rfl
         refine pure_ (i := 30) (N := some 55) (v := undef) (a' := ?_) #[true, true, true, true, true, true, true, true, true, true, true, true, true, true, true, true, true, true, true, true, true, true, true, true, true, true, true, true, true, true, true, false, false, false, false, false] rfl rfl (any_of HT_.out (by kernel_rfl)) (fun _ _ _ h => h) (Or.inr ⟨by rfl, rfl⟩) ?_ ?_
         rotate_left
         ·simp only [Act.put, List.setIfInBounds_toArray, List.set_cons_zero, List.set_cons_succ, i64_w, i32_w]
          rfl
         refine pure_ (i := 31) (N := some 56) (v := undef) (a' := ?_) #[true, true, true, true, true, true, true, true, true, true, true, true, true, true, true, true, true, true, true, true, true, true, true, true, true, true, true, true, true, true, true, true, false, false, false, false] rfl rfl (any_of HT_.out (by kernel_rfl)) (fun _ _ _ h => h) (Or.inr ⟨by rfl, rfl⟩) ?_ ?_
         rotate_left
         ·simp only [Act.put, List.setIfInBounds_toArray, List.set_cons_zero, List.set_cons_succ, i64_w, i32_w]
          rfl
         refine pure_ (i := 32) (N := some 57) (v := undef) (a' := ?_) #[true, true, true, true, true, true, true, true, true, true, true, true, true, true, true, true, true, true, true, true, true, true, true, true, true, true, true, true, true, true, true, true, true, false, false, false] rfl rfl (any_of HT_.out (by kernel_rfl)) (fun _ _ _ h => h) (Or.inr ⟨by rfl, rfl⟩) ?_ ?_
         rotate_left
         ·simp only [Act.put, List.setIfInBounds_toArray, List.set_cons_zero, List.set_cons_succ, i64_w, i32_w]
          rfl
         refine pure_ (i := 33) (N := some 58) (v := undef) (a' := ?_) #[true, true, true, true, true, true, true, true, true, true, true, true, true, true, true, true, true, true, true, true, true, true, true, true, true, true, true, true, true, true, true, true, true, true, false, false] rfl rfl (any_of HT_.out (by kernel_rfl)) (fun _ _ _ h => h) (Or.inr ⟨by rfl, rfl⟩) ?_ ?_
         rotate_left
         ·simp only [Act.put, List.setIfInBounds_toArray, List.set_cons_zero, List.set_cons_succ, i64_w, i32_w]
          rfl
         refine pure_ (i := 34) (N := some 59) (v := undef) (a' := ?_) #[true, true, true, true, true, true, true, true, true, true, true, true, true, true, true, true, true, true, true, true, true, true, true, true, true, true, true, true, true, true, true, true, true, true, true, false] rfl rfl (any_of HT_.out (by kernel_rfl)) (fun _ _ _ h => h) (Or.inr ⟨by rfl, rfl⟩) ?_ ?_
         rotate_left
         ·simp only [Act.put, List.setIfInBounds_toArray, List.set_cons_zero, List.set_cons_succ, i64_w, i32_w]
          rfl
         refine pure_ (i := 35) (N := some 60) (v := ?_) (a' := ?_) #[true, true, true, true, true, true, true, true, true, true, true, true, true, true, true, true, true, true, true, true, true, true, true, true, true, true, true, true, true, true, true, true, true, true, true, true] rfl rfl (any_of HT_.out (by kernel_rfl)) (fun _ _ _ h => h) (Or.inl ⟨by rfl, ?_⟩) ?_ ?_
         rotate_left
         ·intro w'
          go_simp
          with_reducible rfl
         rotate_left
         ·simp only [Act.put, List.setIfInBounds_toArray, List.set_cons_zero, List.set_cons_succ, i64_w, i32_w]
          rfl
         refine done_ (done_of HT_.out (by kernel_rfl)) ?_
         try go_wp2
         go_meet
         case rel => exact ⟨_, (true), (t138), (t139), (t140), (t141), (t142), (t143), (t144), (t145), (t146), (t147), (t150), (t151), (t152), (t153), (t154), (t155), (t156), (by first | rfl | (simp; done) | (simp [*]; done)), H', ⟨by have := HK1.out; first | omega | exact Nat.le_refl _⟩, ⟨by (with_reducible repeat (first | refine blk_drewN ?_ _ | refine blk_drew ?_ | refine blk_alloc ?_ _)); exact BK135.out⟩, ⟨by repeat (first | (with_reducible first | exact HI113.out | apply IsS100.alloc | apply IsS100.drewN | apply IsS100.drew | refine IsS100.far ?_ NB113_135.out _) | exact HI113.out)⟩, ⟨by repeat (first | (with_reducible first | exact HI121.out | apply IsS43.alloc | apply IsS43.drewN | apply IsS43.drew | refine IsS43.far ?_ NB121_135.out _) | exact HI121.out)⟩, ⟨by repeat (first | (with_reducible first | exact HB.out | apply below_alloc | apply pw_below_drewN | apply below_drew1 | refine below_set ?_ (IsS100.ge HI113.out) | refine below_set ?_ (IsS43.ge HI121.out) | refine below_set ?_ GE135.out) | exact HB.out)⟩⟩
       ·rw [if_neg c21] at H
        exact absurd H (by simp)
      case rest =>
       clear HC15
       try clear c1
       try clear p1
       try clear q1
       try clear hx1
       try clear c2
       try clear p2
       try clear p13
       try clear q13
       try clear hx13
       try clear p14
       try clear q14
       try clear hx14
       try clear c16
       try clear c17
       try clear c18
       try clear c21
       try clear c24
       try clear c24b0
       try clear c24b1
       try clear hx136_0
       try clear hx136_1
       try clear hx136_2
       try clear hx136_3
       try clear hx136_4
       try clear hx136_5
       try clear hx148_0
       try clear hx148_1
       try clear hx148_2
       try clear hx148_3
       try clear hx148_4
       try clear hx148_5
       try clear p136
       try clear p148
       try clear q136
       try clear q148
       obtain ⟨kq, x60_14, x114000_14, x114001_14, x114002_14, x114003_14, x114004_14, x114005_14, x114006_14, x114007_14, x114008_14, x114009_14, x122000_14, x122001_14, x122002_14, x122003_14, x122004_14, x122005_14, x122006_14, rfl, HA, HJ14, BK135, HI113, HI121, HB⟩ := hcut
       cases kq with
       | zero => exact absurd HA.out (by simp [tiklaw23_DeckPlays.j1])
       | succ kj14 =>
        have H := HA.out
        clear HA
        simp only [tiklaw23_DeckPlays.j1] at H
        by_cases c52 : x60_14 = true
        ·subst c52
         have H1 : (some false) = some r := by rw [if_pos rfl] at H; exact H
         clear H
         have H := H1
         clear H1
         exact absurd ((Option.some.inj H).trans hr_.out) (by simp)
        ·replace c52 := Bool.eq_false_iff.mpr c52
         subst c52
         have H1 : ((deck_Deck_Rate.f x114000_14 x114001_14 x114002_14 x114003_14 x114004_14 x114005_14 x114006_14 x114007_14 x114008_14 x114009_14).bind fun bt190 => ((refRate.f x122000_14 x122001_14 x122002_14 x122003_14 x122004_14 x122005_14 x122006_14).bind fun bt202 => (if (!(bt190.1 == bt202.1) || (!(bt190.2.1 == bt202.2.1))) = true then (some false) else (tiklaw23_DeckPlays.l0 kj14 l0 (wrap64 (x5_1 + 1)) bt190.2.2.1 bt190.2.2.2.1 bt190.2.2.2.2.1 bt190.2.2.2.2.2.1 bt190.2.2.2.2.2.2.1 bt190.2.2.2.2.2.2.2.1 bt190.2.2.2.2.2.2.2.2.1 bt190.2.2.2.2.2.2.2.2.2.1 bt190.2.2.2.2.2.2.2.2.2.2.1 bt190.2.2.2.2.2.2.2.2.2.2.2 bt202.2.2.1 bt202.2.2.2.1 bt202.2.2.2.2.1 bt202.2.2.2.2.2.1 bt202.2.2.2.2.2.2.1 bt202.2.2.2.2.2.2.2.1 bt202.2.2.2.2.2.2.2.2)))) = some r := by rw [if_neg (show ¬ (false = true) by decide)] at H; exact H
         clear H
         have H := H1
         clear H1
         replace H := Option.bind_eq_some_iff.mp H
         obtain ⟨⟨t190, t191, t192, t193, t194, t195, t196, t197, t198, t199, t200, t201⟩, A530, H⟩ := H
         replace H : ((refRate.f x122000_14 x122001_14 x122002_14 x122003_14 x122004_14 x122005_14 x122006_14).bind fun bt202 => (if (!(t190 == bt202.1) || (!(t191 == bt202.2.1))) = true then (some false) else (tiklaw23_DeckPlays.l0 kj14 l0 (wrap64 (x5_1 + 1)) t192 t193 t194 t195 t196 t197 t198 t199 t200 t201 bt202.2.2.1 bt202.2.2.2.1 bt202.2.2.2.2.1 bt202.2.2.2.2.2.1 bt202.2.2.2.2.2.2.1 bt202.2.2.2.2.2.2.2.1 bt202.2.2.2.2.2.2.2.2))) = some r := H
         have A53 := Aside0.mk A530
         clear A530
         replace H := Option.bind_eq_some_iff.mp H
         obtain ⟨⟨t202, t203, t204, t205, t206, t207, t208, t209, t210⟩, A540, H⟩ := H
         replace H : (if (!(t190 == t202) || (!(t191 == t203))) = true then (some false) else (tiklaw23_DeckPlays.l0 kj14 l0 (wrap64 (x5_1 + 1)) t192 t193 t194 t195 t196 t197 t198 t199 t200 t201 t204 t205 t206 t207 t208 t209 t210)) = some r := H
         have A54 := Aside0.mk A540
         clear A540
         by_cases c55 : (!(t190 == t202) || (!(t191 == t203))) = true
         ·rw [if_pos c55] at H
          have c55b0 : (!(t190 == t202) || (!(t191 == t203))) = true := c55
          clear c55
          exact absurd ((Option.some.inj H).trans hr_.out) (by simp)
         ·rw [if_neg c55] at H
          have c55b0 : (!(t190 == t202) || (!(t191 == t203))) = false := by simpa using c55
          clear c55
          have H' := Aside0.mk H
          clear H
          try go_wp2_with (first | ((with_reducible refine gate_callee (f := 15) rfl ?_); refine goesL_ (some 62) rfl rfl Tryd.func15 (by kernel_rfl) rfl #[.pointer (some ⟨g113, 0, none⟩)] rfl (by (try simp only [List.map_toArray, List.map_cons, List.map_nil]); first | done | rfl | (simp only [List.length_drop, List.length_take]; rfl)) ?_; (with_reducible refine (deck_Deck_Rate.calls g113 x114000_14 x114001_14 x114002_14 x114003_14 x114004_14 x114005_14 x114006_14 x114007_14 x114008_14 x114009_14 t190 t191 t192 t193 t194 t195 t196 t197 t198 t199 t200 t201 w _ ?side1 ?side2 A53.out).mono ?_); (case side1 => repeat (first | (with_reducible first | exact HI113.out | apply IsS100.alloc | apply IsS100.drewN | apply IsS100.drew | refine IsS100.far ?_ NB113_135.out _) | exact HI113.out)); (case side2 => repeat (first | (with_reducible first | exact HB.out | apply below_alloc | apply pw_below_drewN | apply below_drew1 | refine below_set ?_ (IsS100.ge HI113.out) | refine below_set ?_ (IsS43.ge HI121.out) | refine below_set ?_ GE135.out) | exact HB.out)); rintro e w56 ⟨rfl, hi, hb, hk⟩; refine ⟨_, rfl, ?_⟩; have n0_ := Aside0.mk (KeepBut.blk hk (g' := gb135) (o := .cells #[.int .u64 t123, .int .u64 t124] 30 (0, 0)) (by (with_reducible repeat (first | refine blk_drewN ?_ _ | refine blk_drew ?_ | refine blk_alloc ?_ _)); exact BK135.out) NB135_113.out (by simp)); have n1_ := Aside0.mk (keepRef (show IsS43 w _ g121 x122000_14 x122001_14 x122002_14 x122003_14 x122004_14 x122005_14 x122006_14 from by repeat (first | (with_reducible first | exact HI121.out | apply IsS43.alloc | apply IsS43.drewN | apply IsS43.drew | refine IsS43.far ?_ NB121_135.out _) | exact HI121.out)) hk (NB121_113.out)); have n2_ := Aside0.mk (hb); have n3_ := Aside0.mk (hi); clear BK135; clear HI121; clear HB; clear HI113; have BK135 := n0_; have HI121 := n1_; have HB := n2_; have HI113 := n3_; clear n0_ n1_ n2_ n3_; (try clear hb); (try clear hb2); (try clear hk); (try clear hi); have hnb57 := NB135_113.out; have hnc57 := NB113_135.out; have hnb58 := NB135_121.out; have hnc58 := NB121_135.out; have hcz59_0 : w56.cell? ⟨gb135, 0, none⟩ = some (.int .u64 t123) := (blk_cell BK135.out 0).trans rfl; have hcz59_1 : w56.cell? ⟨gb135, 1, none⟩ = some (.int .u64 t124) := (blk_cell BK135.out 1).trans rfl; have hfz59_0 := blk_frozen BK135.out 0; have hfz59_1 := blk_frozen BK135.out 1))
          have n0_ : Aside0 (((w56.setCell ⟨gb135, 0, none⟩ (.int .u64 t190)).setCell ⟨gb135, 1, none⟩ (.int .u64 t191)).heap[gb135]? = some (.cells #[.int .u64 t190, .int .u64 t191] 30 (0, 0))) := ⟨by (with_reducible repeat (first | refine blk_drewN ?_ _ | refine blk_drew ?_ | refine blk_alloc ?_ _)); refine blk_put (cs := #[.int .u64 t190, .int .u64 t124]) ?_ 1 _ rfl; (with_reducible repeat (first | refine blk_drewN ?_ _ | refine blk_drew ?_ | refine blk_alloc ?_ _)); refine blk_put (cs := #[.int .u64 t123, .int .u64 t124]) ?_ 0 _ rfl; (with_reducible repeat (first | refine blk_drewN ?_ _ | refine blk_drew ?_ | refine blk_alloc ?_ _)); exact BK135.out⟩
          have n1_ : Aside0 (IsS100 w ((w56.setCell ⟨gb135, 0, none⟩ (.int .u64 t190)).setCell ⟨gb135, 1, none⟩ (.int .u64 t191)) g113 t192 t193 t194 t195 t196 t197 t198 t199 t200 t201) := ⟨by repeat (first | (with_reducible first | exact HI113.out | apply IsS100.alloc | apply IsS100.drewN | apply IsS100.drew | refine IsS100.far ?_ NB113_135.out _) | exact HI113.out)⟩
          have n2_ : Aside0 (IsS43 w ((w56.setCell ⟨gb135, 0, none⟩ (.int .u64 t190)).setCell ⟨gb135, 1, none⟩ (.int .u64 t191)) g121 x122000_14 x122001_14 x122002_14 x122003_14 x122004_14 x122005_14 x122006_14) := ⟨by repeat (first | (with_reducible first | exact HI121.out | apply IsS43.alloc | apply IsS43.drewN | apply IsS43.drew | refine IsS43.far ?_ NB121_135.out _) | exact HI121.out)⟩
          have n3_ : Aside0 (Below w.heap.size w ((w56.setCell ⟨gb135, 0, none⟩ (.int .u64 t190)).setCell ⟨gb135, 1, none⟩ (.int .u64 t191))) := ⟨by repeat (first | (with_reducible first | exact HB.out | apply below_alloc | apply pw_below_drewN | apply below_drew1 | refine below_set ?_ (IsS100.ge HI113.out) | refine below_set ?_ (IsS43.ge HI121.out) | refine below_set ?_ GE135.out) | exact HB.out)⟩
          (try clear BK135)
          (try clear HI113)
          (try clear HI121)
          (try clear HB)
          generalize ((w56.setCell ⟨gb135, 0, none⟩ (.int .u64 t190)).setCell ⟨gb135, 1, none⟩ (.int .u64 t191)) = w60 at n0_ n1_ n2_ n3_ ⊢
          have BK135 := n0_
          have HI113 := n1_
          have HI121 := n2_
          have HB := n3_
          clear n0_ n1_ n2_ n3_
          have n0_ := Aside0.mk (blk_drew BK135.out)
          have n1_ := Aside0.mk (IsS100.drew HI113.out)
          have n2_ := Aside0.mk (IsS43.drew HI121.out)
          have n3_ := Aside0.mk (below_drew1 HB.out)
          clear BK135
          clear HI113
          clear HI121
          clear HB
          have BK135 := n0_
          have HI113 := n1_
          have HI121 := n2_
          have HB := n3_
          clear n0_ n1_ n2_ n3_
          refine start_ (n := 8) (S := fun w' => w'.cell? ⟨gb135, 0, none⟩ = some (.int .u64 t190) ∧ w'.cell? ⟨gb135, 1, none⟩ = some (.int .u64 t191)) (ds := []) #[false, false, false, false, false, false, false, false] (by kernel_rfl) rfl rfl ⟨(blk_cell BK135.out 0).trans rfl, (blk_cell BK135.out 1).trans rfl⟩ (fun hHeld => ?_); refine with_tabW tiklaw23_DeckPlays.tab15 tiklaw23_DeckPlays.bits15 (fun HT_ HW_ => ?_)
          generalize w60.drew = w61 at BK135 HI113 HI121 HB hHeld ⊢
          refine pure_ (i := 0) (N := some 63) (v := ?_) (a' := ?_) #[true, false, false, false, false, false, false, false] rfl rfl (any_of HT_.out (by kernel_rfl)) (fun _ _ _ h => h) (Or.inl ⟨by rfl, ?_⟩) ?_ ?_
          rotate_left
          ·intro w'
           go_simp
           with_reducible rfl
          rotate_left
          ·simp only [Act.put, List.setIfInBounds_toArray, List.set_cons_zero, List.set_cons_succ, i64_w, i32_w]
           rfl
          refine pure_ (i := 2) (N := some 65) (v := ?_) (a' := ?_) #[true, false, true, false, false, false, false, false] rfl rfl (any_of HT_.out (by kernel_rfl)) (fun _ _ _ h => h) (Or.inl ⟨by rfl, ?_⟩) ?_ ?_
          rotate_left
          ·intro w'
           go_simp
           with_reducible rfl
          rotate_left
          ·simp only [Act.put, List.setIfInBounds_toArray, List.set_cons_zero, List.set_cons_succ, i64_w, i32_w]
           rfl
          refine pure_ (i := 5) (N := some 68) (v := ?_) (a' := ?_) #[true, false, true, false, false, true, false, false] rfl rfl (any_of HT_.out (by kernel_rfl)) (fun _ _ _ h => h) (Or.inl ⟨by rfl, ?_⟩) ?_ ?_
          rotate_left
          ·intro w'
           go_simp
           with_reducible rfl
          rotate_left
          ·simp only [Act.put, List.setIfInBounds_toArray, List.set_cons_zero, List.set_cons_succ, i64_w, i32_w]
           rfl
          refine take_ (i := 1) (N := some 64) (v := ?_) (a' := ?_) #[true, true, true, false, false, true, false, false] rfl rfl (take_ofW HT_.out HW_.out (by kernel_rfl)) (fun _ _ _ h => h) (Or.inl ⟨by rfl, ?_⟩) hHeld ?_ ?_
          rotate_left
          ·rintro w' ⟨s0, s1⟩
           go_simp
           with_reducible rfl
          rotate_left
          ·simp only [Act.put, List.setIfInBounds_toArray, List.set_cons_zero, List.set_cons_succ, i64_w, i32_w]
           rfl
          refine take_ (i := 3) (N := some 66) (v := ?_) (a' := ?_) #[true, true, true, true, false, true, false, false] rfl rfl (take_ofW HT_.out HW_.out (by kernel_rfl)) (fun _ _ _ h => h) (Or.inl ⟨by rfl, ?_⟩) hHeld ?_ ?_
          rotate_left
          ·rintro w' ⟨s0, s1⟩
           go_simp
           with_reducible rfl
          rotate_left
          ·simp only [Act.put, List.setIfInBounds_toArray, List.set_cons_zero, List.set_cons_succ, i64_w, i32_w]
           rfl
          refine pure_ (i := 4) (N := some 67) (v := ?_) (a' := ?_) #[true, true, true, true, true, true, false, false] rfl rfl (any_of HT_.out (by kernel_rfl)) (fun _ _ _ h => h) (Or.inl ⟨by rfl, ?_⟩) ?_ ?_
          rotate_left
          ·intro w'
           go_simp
           with_reducible rfl
          rotate_left
          ·simp only [Act.put, List.setIfInBounds_toArray, List.set_cons_zero, List.set_cons_succ, i64_w, i32_w]
           rfl
          refine one_ (i := 6) (N := some 69) #[true, true, true, true, true, true, true, false] rfl rfl (one_of HT_.out (by kernel_rfl)) (by decide) (fun K hK => ?_)
          refine goes_ Tryd.func20 (by kernel_rfl) rfl #[.pointer (some ⟨g121, 0, none⟩)] (by rfl) rfl rfl (by (try simp only [List.map_toArray, List.map_cons, List.map_nil]); first | done | rfl | (simp only [List.length_drop, List.length_take]; rfl)) ?_
          with_reducible refine (refRate.calls g121 x122000_14 x122001_14 x122002_14 x122003_14 x122004_14 x122005_14 x122006_14 t202 t203 t204 t205 t206 t207 t208 t209 t210 w _ ?side1 ?side2 A54.out).mono ?_
          (case side1 => repeat (first | (with_reducible first | exact HI121.out | apply IsS43.alloc | apply IsS43.drewN | apply IsS43.drew | refine IsS43.far ?_ NB121_135.out _) | exact HI121.out))
          (case side2 => repeat (first | (with_reducible first | exact HB.out | apply below_alloc | apply pw_below_drewN | apply below_drew1 | refine below_set ?_ (IsS100.ge HI113.out) | refine below_set ?_ (IsS43.ge HI121.out) | refine below_set ?_ GE135.out) | exact HB.out))
          rintro e w62 ⟨rfl, hi, hb, hk⟩
          refine ⟨_, rfl, ?_⟩
          have n0_ := Aside0.mk (KeepR.blk hk (g' := gb135) (o := .cells #[.int .u64 t190, .int .u64 t191] 30 (0, 0)) (by (with_reducible repeat (first | refine blk_drewN ?_ _ | refine blk_drew ?_ | refine blk_alloc ?_ _)); exact BK135.out) NB135_121.out (by simp))
          have n1_ := Aside0.mk (keepDeck (show IsS100 w _ g113 t192 t193 t194 t195 t196 t197 t198 t199 t200 t201 from by repeat (first | (with_reducible first | exact HI113.out | apply IsS100.alloc | apply IsS100.drewN | apply IsS100.drew | refine IsS100.far ?_ NB113_135.out _) | exact HI113.out)) hk (NB113_121.out))
          have n2_ := Aside0.mk (hb)
          have n3_ := Aside0.mk (hi)
          clear BK135
          clear HI113
          clear HB
          clear HI121
          have BK135 := n0_
          have HI113 := n1_
          have HB := n2_
          have HI121 := n3_
          clear n0_ n1_ n2_ n3_
          (try clear hb)
          (try clear hb2)
          (try clear hk)
          (try clear hi)
          refine hK.out _ _ ⟨(blk_cell BK135.out 0).trans rfl, (blk_cell BK135.out 1).trans rfl⟩ (fun hHeld => ?_)
          clear hK K
          refine norm_ (a' := ?_) ?_ ?_
          rotate_left
          ·show Act.put _ (some 69) _ = _
           simp only [Act.put, List.setIfInBounds_toArray, List.set_cons_zero, List.set_cons_succ, i64_w, i32_w]
           rfl
          refine pure_ (i := 7) (N := some 70) (v := ?_) (a' := ?_) #[true, true, true, true, true, true, true, true] rfl rfl (any_of HT_.out (by kernel_rfl)) (fun _ _ _ h => h) (Or.inl ⟨by rfl, ?_⟩) ?_ ?_
          rotate_left
          ·intro w'
           go_simp
           with_reducible rfl
          rotate_left
          ·simp only [Act.put, List.setIfInBounds_toArray, List.set_cons_zero, List.set_cons_succ, i64_w, i32_w]
           rfl
          refine done_ (done_of HT_.out (by kernel_rfl)) ?_
          try go_wp2
          go_roundg kj14
          case measure => have := HK1.out; have := HJ14.out; omega
          case rel => exact ⟨(wrap64 (x5_1 + 1)), (t192), (t193), (t194), (t195), (t196), (t197), (t198), (t199), (t200), (t201), (t204), (t205), (t206), (t207), (t208), (t209), (t210), (by first | rfl | (simp; done) | (simp [*]; done)), H', ⟨by have := HK1.out; have := HJ14.out; omega⟩, ⟨by repeat (first | (with_reducible first | exact HI113.out | apply IsS100.alloc | apply IsS100.drewN | apply IsS100.drew | refine IsS100.far ?_ NB113_135.out _) | exact HI113.out)⟩, ⟨by repeat (first | (with_reducible first | exact HI121.out | apply IsS43.alloc | apply IsS43.drewN | apply IsS43.drew | refine IsS43.far ?_ NB121_135.out _) | exact HI121.out)⟩, ⟨by repeat (first | (with_reducible first | exact HB.out | apply below_alloc | apply pw_below_drewN | apply below_drew1 | refine below_set ?_ (IsS100.ge HI113.out) | refine below_set ?_ (IsS43.ge HI121.out) | refine below_set ?_ GE135.out) | exact HB.out)⟩⟩
     ·rw [if_neg c13] at H
      have c13b0 : decide (x5_1 < (l0.length : Int)) = false := decide_eq_false c13
      clear c13
      replace H := Option.bind_eq_some_iff.mp H
      obtain ⟨t122, A630, H⟩ := H
      replace H : (some t122) = some r := H
      have A63 := Aside0.mk A630
      clear A630
      obtain rfl := Option.some.inj H
      go_wp2_with (first | ((with_reducible refine gate_callee (f := 12) rfl ?_); refine goesL_ (some 71) rfl rfl Tryd.func12 (by kernel_rfl) rfl #[] rfl (by (try simp only [List.map_toArray, List.map_cons, List.map_nil]); first | done | rfl | (simp only [List.length_drop, List.length_take]; rfl)) ?_; (with_reducible refine (tiklaw23_first.calls k1  t122 _ ?side1 A63.out).mono ?_); (case side1 => first | (with_reducible exact HT.out) | exact tabAt HT.out (by repeat (first | (with_reducible first | exact HB.out | apply below_alloc | apply pw_below_drewN | apply below_drew1 | refine below_set ?_ (IsS100.ge HI113.out) | refine below_set ?_ (IsS43.ge HI121.out)) | exact HB.out))); rintro e w64 ⟨rfl, hb⟩; refine ⟨_, rfl, ?_⟩; have n0_ := Aside0.mk (IsS100.below (by repeat (first | (with_reducible first | exact HI113.out | apply IsS100.alloc | apply IsS100.drewN | apply IsS100.drew) | exact HI113.out)) hb); have n1_ := Aside0.mk (IsS43.below (by repeat (first | (with_reducible first | exact HI121.out | apply IsS43.alloc | apply IsS43.drewN | apply IsS43.drew) | exact HI121.out)) hb); have n2_ := Aside0.mk (below_step (by repeat (first | (with_reducible first | exact HB.out | apply below_alloc | apply pw_below_drewN | apply below_drew1 | refine below_set ?_ (IsS100.ge HI113.out) | refine below_set ?_ (IsS43.ge HI121.out)) | exact HB.out)) hb); clear HI113; clear HI121; clear HB; have HI113 := n0_; have HI121 := n1_; have HB := n2_; clear n0_ n1_ n2_; (try clear hb); (try clear hb2); (try clear hk); (try clear hi)))
      go_ret
      exact ⟨by first | rfl | (simp [errW_none, errW_some] <;> rfl) | (simp [*, errW_none, errW_some] <;> rfl), by repeat (first | (with_reducible first | exact HB.out | apply below_alloc | apply pw_below_drewN | apply below_drew1 | refine below_set ?_ (IsS100.ge HI113.out) | refine below_set ?_ (IsS43.ge HI121.out)) | exact HB.out)⟩
 ·replace c3 := Bool.eq_false_iff.mpr c3
  subst c3
  have H1 : (some false) = some r := by rw [if_neg (show ¬ (false = true) by decide)] at H; exact H
  clear H
  have H := H1
  clear H1
  exact absurd ((Option.some.inj H).trans hr_.out) (by simp)
end Go.Proofs.YtlgfmmkabnbllaaDoor.PV
