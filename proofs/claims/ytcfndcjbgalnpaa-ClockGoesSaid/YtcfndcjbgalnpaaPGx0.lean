-- written for this claim by mp.py (this repo), with the kit's print; checked by the kernel alone
import Derived.Test.YtcfndcjbgalnpaaProg
import Derived.Below
import Derived.Deep.Draws
import Derived.Deep.AppendLies
import Derived.Maps.AppendAt
import Derived.OwnWalk
import Derived.Laws.BytesArg
import Derived.Laws.MakeOwn
import Derived.Laws.OwnMore
import Derived.Deep.OwnRows
import Derived.Tactics
import Derived.Lib.ConvBytes
import Derived.Laws.Slices
import Derived.WalkKit
import Derived.KernelRfl
import Derived.RowKit3
import Derived.Deep.LoopGhost
import Derived.Deep.QuietTactic
import Derived.BigQuiet
import Derived.WideLaws
import Derived.Deep.DeepCutAuto
import Derived.Deep.CutBlock
import Derived.Deep.RegionHeld3
import Derived.Laws.Rows
import Derived.Lib.AppendStr
import Derived.ArgAppend
import Derived.Laws.IdiomCopy
import Derived.OrdersHeld
import Derived.Laws.BitsLemmas
import Derived.RowKit
import Derived.Test.YtcfndcjbgalnpaaPFx1
import Derived.Test.YtcfndcjbgalnpaaClock6
import Derived.Test.YtcfndcjbgalnpaaWWords
import Derived.Test.YtcfndcjbgalnpaaWLast
import Derived.Test.YtcfndcjbgalnpaaWTab
import Derived.Test.YtcfndcjbgalnpaaWFour
import Derived.Test.YtcfndcjbgalnpaaWQPut
import Derived.Test.YtcfndcjbgalnpaaWApart
import Derived.Test.YtcfndcjbgalnpaaWArr
import Derived.Test.YtcfndcjbgalnpaaWZeros
import Derived.Test.YtcfndcjbgalnpaaWFoot
import Derived.Test.YtcfndcjbgalnpaaWKept
import Derived.Test.YtcfndcjbgalnpaaWShare
import Derived.Test.YtcfndcjbgalnpaaWN
import Derived.Test.YtcfndcjbgalnpaaWFootNe
import Derived.Test.YtcfndcjbgalnpaaWAt
import Derived.Test.YtcfndcjbgalnpaaWEqStruct
import Derived.Test.YtcfndcjbgalnpaaWRepsOne
import Derived.Test.YtcfndcjbgalnpaaWInv
import Derived.Test.YtcfndcjbgalnpaaWInvWords
import Derived.Test.YtcfndcjbgalnpaaWGuard
import Derived.Test.YtcfndcjbgalnpaaWNEv
import Derived.Test.YtcfndcjbgalnpaaWMore
namespace Go.Proofs.Ytcfndcjbgalnpaa.PG
open Go.RowKit Go.Proofs.YtcfndcjbgalnpaaW.PrintWords Go.Proofs.YtcfndcjbgalnpaaW.PrintLast Go.Proofs.YtcfndcjbgalnpaaW.PrintMore
attribute [local go_sem] max2_int min2_int max_two min_two max_three min_three max_four min_four   -- for this text's walks alone
open Go.Proofs.Ytcfndcjbgalnpaa.Hand
open Go.Proofs.Ytcfndcjbgalnpaa.PA
open Go.Proofs.Ytcfndcjbgalnpaa.PB
open Go.Proofs.Ytcfndcjbgalnpaa.PC
open Go.Proofs.Ytcfndcjbgalnpaa.PD
open Go.Proofs.Ytcfndcjbgalnpaa.PF
set_option linter.unusedVariables false
set_option linter.unusedSimpArgs false



def errW : Option Int → Value
  | none => .nilIface
  | some c => .iface 0 (.int .i64 c)
theorem errW_none : errW none = .nilIface := rfl
theorem errW_some (c : Int) : errW (some c) = .iface 0 (.int .i64 c) := rfl

-- the values' own types
/-! #### struct type 24 -/
structure S24 where
  f0 : Int
  f1 : Int
def z24 : S24 := ⟨(0 : Int), (0 : Int)⟩
def k24 : Kd S24 := Kd.iso (Kd.pair (Kd.int .u64) (Kd.int .u64)) (fun x : S24 => (x.f0, x.f1))
theorem k24_open {w : World} {x : S24} {cs : List Value} (h : k24.K w x cs) : cs = [.int .u64 x.f0, .int .u64 x.f1] := by
  obtain ⟨_, _, rfl, rfl, rfl⟩ := h
  exact rfl
theorem k24_openM {w : World} {base : Nat} {ok : Nat → Prop} {x : S24} {cs : List Value} (h : k24.M w base ok x cs) : cs = [.int .u64 x.f0, .int .u64 x.f1] := by
  obtain ⟨_, _, rfl, rfl, rfl⟩ := h
  exact rfl
theorem k24_mk (w : World) (x : S24)  : k24.K w x [.int .u64 x.f0, .int .u64 x.f1] := ⟨[.int .u64 x.f0], [.int .u64 x.f1], rfl, rfl, rfl⟩
theorem k24_mkM (w : World) (base : Nat) (ok : Nat → Prop) (x : S24)  : k24.M w base ok x [.int .u64 x.f0, .int .u64 x.f1] := ⟨[.int .u64 x.f0], [.int .u64 x.f1], rfl, rfl, rfl⟩
def rd_T24 (xs : List S24) (i : Int) : S24 := xs.getD i.toNat z24
theorem at_T24 {w : World} {A : Option Addr} {n : Nat} {xs : List S24} (h : Kd.C k24 w A n xs) (i : Int) (h0 : 0 ≤ i) (h1 : i < n) : ∃ ad , A = some ad ∧ w.cell? (ad.add (i.toNat * 2)) = some (.int .u64 (rd_T24 xs i).f0) ∧ w.cell? ⟨(ad.add (i.toNat * 2)).block, (ad.add (i.toNat * 2)).off + 1, none⟩ = some (.int .u64 (rd_T24 xs i).f1) := by
  obtain ⟨ad, c, e, _, hK, hc0⟩ := Kd.C_get h z24 i h0 h1
  have hc : ∀ j u, c[j]? = some u → w.cell? (ad.add (i.toNat * 2 + j)) = some u := hc0
  obtain rfl := k24_open hK
  exact ⟨ad, e, hc 0 _ rfl, by rw [← add_field _ _ 1 (by omega)]; exact hc 1 _ rfl⟩

/-! #### struct type 48 -/
structure S48 where
  f0 : Int
  f1 : Int
  f2 : Int
  f3 : S24
def z48 : S48 := ⟨(0 : Int), (0 : Int), (0 : Int), z24⟩
def k48 : Kd S48 := Kd.iso (Kd.pair (Kd.int .i64) (Kd.pair (Kd.int .u64) (Kd.pair (Kd.int .u64) k24))) (fun x : S48 => (x.f0, x.f1, x.f2, x.f3))
theorem k48_open {w : World} {x : S48} {cs : List Value} (h : k48.K w x cs) : cs = [.int .i64 x.f0, .int .u64 x.f1, .int .u64 x.f2, .int .u64 x.f3.f0, .int .u64 x.f3.f1] := by
  obtain ⟨_, _, rfl, rfl, ⟨_, _, rfl, rfl, ⟨_, _, rfl, rfl, s3⟩⟩⟩ := h
  obtain rfl := k24_open s3
  exact rfl
theorem k48_openM {w : World} {base : Nat} {ok : Nat → Prop} {x : S48} {cs : List Value} (h : k48.M w base ok x cs) : cs = [.int .i64 x.f0, .int .u64 x.f1, .int .u64 x.f2, .int .u64 x.f3.f0, .int .u64 x.f3.f1] := by
  obtain ⟨_, _, rfl, rfl, ⟨_, _, rfl, rfl, ⟨_, _, rfl, rfl, s3⟩⟩⟩ := h
  obtain rfl := k24_openM s3
  exact rfl
theorem k48_mk (w : World) (x : S48)  : k48.K w x [.int .i64 x.f0, .int .u64 x.f1, .int .u64 x.f2, .int .u64 x.f3.f0, .int .u64 x.f3.f1] := ⟨[.int .i64 x.f0], [.int .u64 x.f1, .int .u64 x.f2, .int .u64 x.f3.f0, .int .u64 x.f3.f1], rfl, rfl, ⟨[.int .u64 x.f1], [.int .u64 x.f2, .int .u64 x.f3.f0, .int .u64 x.f3.f1], rfl, rfl, ⟨[.int .u64 x.f2], [.int .u64 x.f3.f0, .int .u64 x.f3.f1], rfl, rfl, (k24_mk w x.f3 )⟩⟩⟩
theorem k48_mkM (w : World) (base : Nat) (ok : Nat → Prop) (x : S48)  : k48.M w base ok x [.int .i64 x.f0, .int .u64 x.f1, .int .u64 x.f2, .int .u64 x.f3.f0, .int .u64 x.f3.f1] := ⟨[.int .i64 x.f0], [.int .u64 x.f1, .int .u64 x.f2, .int .u64 x.f3.f0, .int .u64 x.f3.f1], rfl, rfl, ⟨[.int .u64 x.f1], [.int .u64 x.f2, .int .u64 x.f3.f0, .int .u64 x.f3.f1], rfl, rfl, ⟨[.int .u64 x.f2], [.int .u64 x.f3.f0, .int .u64 x.f3.f1], rfl, rfl, (k24_mkM w base ok x.f3 )⟩⟩⟩
def rd_T48 (xs : List S48) (i : Int) : S48 := xs.getD i.toNat z48
theorem at_T48 {w : World} {A : Option Addr} {n : Nat} {xs : List S48} (h : Kd.C k48 w A n xs) (i : Int) (h0 : 0 ≤ i) (h1 : i < n) : ∃ ad , A = some ad ∧ w.cell? (ad.add (i.toNat * 5)) = some (.int .i64 (rd_T48 xs i).f0) ∧ w.cell? ⟨(ad.add (i.toNat * 5)).block, (ad.add (i.toNat * 5)).off + 1, none⟩ = some (.int .u64 (rd_T48 xs i).f1) ∧ w.cell? ⟨(ad.add (i.toNat * 5)).block, (ad.add (i.toNat * 5)).off + 2, none⟩ = some (.int .u64 (rd_T48 xs i).f2) ∧ w.cell? ⟨(ad.add (i.toNat * 5)).block, (ad.add (i.toNat * 5)).off + 3, none⟩ = some (.int .u64 (rd_T48 xs i).f3.f0) ∧ w.cell? ⟨(ad.add (i.toNat * 5)).block, (ad.add (i.toNat * 5)).off + 4, none⟩ = some (.int .u64 (rd_T48 xs i).f3.f1) := by
  obtain ⟨ad, c, e, _, hK, hc0⟩ := Kd.C_get h z48 i h0 h1
  have hc : ∀ j u, c[j]? = some u → w.cell? (ad.add (i.toNat * 5 + j)) = some u := hc0
  obtain rfl := k48_open hK
  exact ⟨ad, e, hc 0 _ rfl, by rw [← add_field _ _ 1 (by omega)]; exact hc 1 _ rfl, by rw [← add_field _ _ 2 (by omega)]; exact hc 2 _ rfl, by rw [← add_field _ _ 3 (by omega)]; exact hc 3 _ rfl, by rw [← add_field _ _ 4 (by omega)]; exact hc 4 _ rfl⟩

end Go.Proofs.Ytcfndcjbgalnpaa.PG
