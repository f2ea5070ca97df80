/- What the condition on the listed table gives: its cells. -/
import Derived.Test.YtpebcphkockkkaaDoorRows
import Derived.Test.YtpebcphkockkkaaDoorRWalk2
import Derived.WalkKit
import Derived.ProofKit
import Derived.OpenShut
import Derived.LaidMore
import Derived.Stop.Joined
namespace Go.Proofs.YtpebcphkockkkaaDoor
open Go.ChangeShapes Go.WideShapes Go.ChangeAt Go.RowKit
open Go.Proofs.YtpebcphkockkkaaDoorW.PrintWords Go.Proofs.YtpebcphkockkkaaDoor.Hand
set_option linter.unusedSimpArgs false
set_option linter.unusedVariables false
set_option exponentiation.threshold 3000
theorem gTab : Tryd.prog.globalNamed "math/bits.deBruijn64tab" = some 1 := by kernel_rfl
theorem tTab : (Tryd.prog.globals[1]?).map (·.type) = some 64 := by kernel_rfl
theorem byteOf {W : World} {base : Nat} {spare : Nat → Bool} {held : Bool} {n : Nat} {H : Type} {enc : TypeId × Value → H} {cs : List Value} {a : Int} {p : List MemPlace}
    (h : DataW.trod enc Tryd.prog W base spare held n 5 cs = some (.lit (.int .u8 a), p)) : cs = [.int .u8 a] := by
  obtain ⟨n0, e0, f0, _⟩ := DataW.trod_int Tryd.underlying5 h
  simp only [Prod.mk.injEq, DataW.lit.injEq, Lit.int.injEq, true_and] at f0
  rw [e0]
  first | rw [f0] | rw [f0.1] | rw [← f0] | rw [← f0.1]
theorem tabOf {W : World} {H : Type} {enc : TypeId × Value → H} {g t n fuel : Nat} {nm : String} {held : Bool} {cs : Array Value} {p : List MemPlace} {l : List Nat}
    (hg : Tryd.prog.globalNamed nm = some g) (hv : W.var? Tryd.prog nm = some cs) (ht : Tryd.prog.underlying t = some (.array n 5)) (hl : l.length = n)
    (hd : DataW.trod enc Tryd.prog W 0 (fun _ => true) held fuel t cs.toList = some (.agg (l.map fun s : Nat => .lit (.int .u8 ((s : Nat) : Int))), p)) :
    TabAt g l W := by
  obtain ⟨xs, m, _, hx, hcl, hxl, hel⟩ := DataW.trod_array ht hd
  have c5 : Tryd.prog.cellsOf 5 = 1 := by kernel_rfl
  intro j hj
  have h1 := hel j (by omega)
  rw [c5] at h1
  simp only [Prod.mk.injEq, DataW.agg.injEq] at hx
  have hjl : l[j]? = some (l.getD j 0) := by rw [List.getD_eq_getElem?_getD, List.getElem?_eq_getElem hj]; rfl
  have h2 : (xs.map (·.1))[j]? = some (.lit (.int .u8 ((l.getD j 0 : Nat) : Int))) := by rw [← hx.1, List.getElem?_map, hjl]; rfl
  rw [List.getElem?_map] at h2
  cases h3 : xs[j]? with
  | none => rw [h3] at h2; cases h2
  | some y =>
    obtain ⟨y1, y2⟩ := y
    rw [h3] at h2 h1
    have h2' : y1 = .lit (.int .u8 ((l.getD j 0 : Nat) : Int)) := Option.some.inj h2
    subst h2'
    have h4 := byteOf h1
    rw [World.var?_cell hg hv, ← Array.getElem?_toList]
    have h5 := congrArg (fun l => l[0]?) h4
    simpa using h5
theorem tabW_of {W : World} (h : laidMetH Tryd.prog [("math/bits.deBruijn64tab", Rows.laid_math_bits_deBruijn64tab)] W) : TabW W := by
  rw [MakeChecks.laidMetH_plain _ _ _ (by kernel_rfl)] at h
  obtain ⟨ps, ⟨g0, t0, cs0, f0, p0, q0, hg0, ht0, hv0, hd0, _, _⟩, _, _⟩ := h
  obtain rfl := Option.some.inj (gTab.symm.trans hg0)
  obtain rfl := Option.some.inj (tTab.symm.trans ht0)
  have k0 := tabOf (l := Lib.deBruijn64tab) hg0 hv0 Tryd.underlying64 rfl hd0
  exact ⟨World.block_lt_of_cell? _ _ (k0 0 (by decide)), k0⟩
end Go.Proofs.YtpebcphkockkkaaDoor
