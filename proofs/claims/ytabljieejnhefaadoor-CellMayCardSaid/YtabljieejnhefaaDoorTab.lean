/- What the condition on the two listed tables gives: their cells. -/
import Derived.Test.YtabljieejnhefaaDoorRows
import Derived.Test.YtabljieejnhefaaDoorHand
import Derived.WalkKit
import Derived.ProofKit
import Derived.OpenShut
import Derived.LaidMore
import Derived.Stop.Joined
namespace Go.Proofs.YtabljieejnhefaaDoor
open Go.ChangeShapes Go.WideShapes Go.ChangeAt Go.RowKit
open Go.Proofs.YtabljieejnhefaaDoorW.PrintWords Go.Proofs.YtabljieejnhefaaDoor.Hand
theorem gWide : Tryd.prog.globalNamed "tickertape/cell.wide" = some 1 := by kernel_rfl
theorem gNone : Tryd.prog.globalNamed "tickertape/cell.none" = some 0 := by kernel_rfl
theorem tWide : (Tryd.prog.globals[1]?).map (·.type) = some 39 := by kernel_rfl
theorem tNone : (Tryd.prog.globals[0]?).map (·.type) = some 38 := by kernel_rfl
theorem spanOf {W : World} {base : Nat} {spare : Nat → Bool} {held : Bool} {n : Nat} {H : Type} {enc : TypeId × Value → H} {cs : List Value} {a b : Int} {p : List MemPlace}
    (h : DataW.trod enc Tryd.prog W base spare held n 37 cs = some (.agg [.lit (.int .i32 a), .lit (.int .i32 b)], p)) : cs = [.int .i32 a, .int .i32 b] := by
  obtain ⟨y0, y1, m, hx, hl, h0, h1⟩ := trod_struct2 Tryd.underlying37 h
  have c37 : Tryd.prog.cellsOf 37 = 2 := by kernel_rfl
  have c21 : Tryd.prog.cellsOf 21 = 1 := by kernel_rfl
  rw [c37] at hl
  obtain ⟨n0, e0, f0, _⟩ := DataW.trod_int Tryd.underlying21 h0
  obtain ⟨n1, e1, f1, _⟩ := DataW.trod_int Tryd.underlying21 h1
  simp only [Prod.mk.injEq, DataW.agg.injEq, List.cons.injEq, and_true] at hx
  rw [f0, f1] at hx
  simp only [DataW.lit.injEq, Lit.int.injEq, true_and] at hx
  obtain ⟨⟨rfl, rfl⟩, _⟩ := hx
  match cs, hl with
  | [x, y], _ =>
    simp [c21] at e0 e1
    rw [e0, e1]
theorem tabOf {W : World} {H : Type} {enc : TypeId × Value → H} {g t n fuel : Nat} {nm : String} {held : Bool} {cs : Array Value} {p : List MemPlace} {l : List PA.S37}
    (hg : Tryd.prog.globalNamed nm = some g) (hv : W.var? Tryd.prog nm = some cs) (ht : Tryd.prog.underlying t = some (.array n 37)) (hl : l.length = n) (hn : n ≤ 100)
    (hd : DataW.trod enc Tryd.prog W 0 (fun _ => true) held fuel t cs.toList = some (.agg (l.map fun s => .agg [.lit (.int .i32 s.f0), .lit (.int .i32 s.f1)]), p)) :
    Kd.C PA.k37 W (some ⟨g, 0, none⟩) n l := by
  obtain ⟨xs, m, _, hx, hcl, hxl, hel⟩ := DataW.trod_array ht hd
  have c37 : Tryd.prog.cellsOf 37 = 2 := by kernel_rfl
  refine ⟨hl, by omega, fun _ => ⟨_, rfl, fun j s hj => ?_⟩⟩
  have hjn : j < n := by
    rcases Nat.lt_or_ge j l.length with g | g
    · omega
    · rw [List.getElem?_eq_none g] at hj; cases hj
  have h1 := hel j hjn
  rw [c37] at h1
  simp only [Prod.mk.injEq, DataW.agg.injEq] at hx
  have h2 : (xs.map (·.1))[j]? = some (.agg [.lit (.int .i32 s.f0), .lit (.int .i32 s.f1)]) := by rw [← hx.1, List.getElem?_map, hj]; rfl
  rw [List.getElem?_map] at h2
  cases h3 : xs[j]? with
  | none => rw [h3] at h2; cases h2
  | some y =>
    obtain ⟨y1, y2⟩ := y
    rw [h3] at h2 h1
    simp at h2
    subst h2
    have h4 := spanOf h1
    refine ⟨_, by rfl, PA.k37_mk W s, fun i u hu => ?_⟩
    have h5 : ((⟨g, 0, none⟩ : Addr).add (j * 2 + i)) = ⟨g, j * 2 + i, none⟩ := by
      unfold Addr.add
      split
      · next h => rw [h]
      · simp
    show W.cell? ((⟨g, 0, none⟩ : Addr).add (j * 2 + i)) = some u
    rw [h5, World.var?_cell hg hv, ← Array.getElem?_toList]
    rw [← h4, List.getElem?_take] at hu
    split at hu
    · rw [List.getElem?_drop] at hu; exact hu
    · cases hu
theorem tabW_of {W : World} (h : laidMetH Tryd.prog [("tickertape/cell.wide", Rows.laid_tickertape_cell_wide), ("tickertape/cell.none", Rows.laid_tickertape_cell_none)] W) : TabW W := by
  rw [MakeChecks.laidMetH_plain _ _ _ (by kernel_rfl)] at h
  obtain ⟨ps, ⟨g0, t0, cs0, f0, p0, q0, hg0, ht0, hv0, hd0, ⟨g1, t1, cs1, f1, p1, q1, hg1, ht1, hv1, hd1, _, _⟩, _⟩, _, _⟩ := h
  obtain rfl := Option.some.inj (gWide.symm.trans hg0)
  obtain rfl := Option.some.inj (gNone.symm.trans hg1)
  obtain rfl := Option.some.inj (tWide.symm.trans ht0)
  obtain rfl := Option.some.inj (tNone.symm.trans ht1)
  have k0 := tabOf (l := wideL) hg0 hv0 Tryd.underlying39 rfl (by omega) hd0
  have k1 := tabOf (l := noneL) hg1 hv1 Tryd.underlying38 rfl (by omega) hd1
  refine ⟨?_, k1, k0⟩
  obtain ⟨_, _, hc⟩ := k0
  obtain ⟨ad, e, hc⟩ := hc (by omega)
  obtain ⟨c, hcl, hk, hcell⟩ := hc 0 ⟨4352, 4447⟩ rfl
  have hk' := PA.k37_open hk
  subst hk'
  have := hcell 0 _ rfl
  have e1 := Option.some.inj e
  subst e1
  have hlt := World.block_lt_of_cell? _ _ this
  exact hlt
end Go.Proofs.YtabljieejnhefaaDoor
