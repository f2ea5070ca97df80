/- Texts of this claim, put together. -/
import Derived.Test.YtlgfmmkabnbllaaDoorMSNc
import Derived.IntWalk
import Derived.KernelRfl
import Derived.Test.YtlgfmmkabnbllaaDoorRows
import Derived.Test.YtlgfmmkabnbllaaDoorMSNa
import Derived.Test.YtlgfmmkabnbllaaDoorTie
import Derived.Test.YtlgfmmkabnbllaaDoorCards
import Derived.WalkKit
import Derived.ProofKit
import Derived.OpenShut
import Derived.ShutString
import Derived.ChangeOld
import Derived.Below
import Derived.SizedLaws
import Derived.LaidMore
import Derived.Stop.Joined
import Derived.SevenTiedAt
set_option linter.unusedVariables false
set_option linter.unusedSimpArgs false
namespace Go.Proofs.YtlgfmmkabnbllaaDoor.PS
open Go.RowKit Go.Proofs.YtlgfmmkabnbllaaDoorW.PrintWords Go.Proofs.YtlgfmmkabnbllaaDoorW.PrintLast Go.Proofs.YtlgfmmkabnbllaaDoorW.PrintMore
attribute [local go_sem] max2_int min2_int max_two min_two max_three min_three max_four min_four
open Go.Proofs.YtlgfmmkabnbllaaDoor.Hand
open Go.Proofs.YtlgfmmkabnbllaaDoor.PA
set_option linter.unusedVariables false
set_option linter.unusedSimpArgs false
def tiklaw16_SegNames.j0 : Nat → Int → Int → ByteArray → ByteArray → ByteArray → Bool → Option (Bool)
 | 0, _, _, _, _, _, _ => none
 | k + 1, x0, x1, x2, x7, x8, x50 => if x50 = true then (some false) else ((seg_Number.f k x2).bind fun bt190 => ((tiklaw16_first.f k).bind fun t192 => (if t192 = true then (if x7.toList = ([] : List UInt8) then (if bt190.2 = true then ((seg_Name.f bt190.1).bind fun t193 => (if t193.toList = x2.toList then (some true) else (some false))) else (some (bt190.1 == 0))) else (if x8.toList = ([] : List UInt8) then (if bt190.2 = true then ((seg_Name.f bt190.1).bind fun t194 => (if t194.toList = x2.toList then (some true) else (some false))) else (some (bt190.1 == 0))) else (if ((Op.bytesLess x7.toList x8.toList) == (decide (x0 < x1))) = true then (if bt190.2 = true then ((seg_Name.f bt190.1).bind fun t195 => (if t195.toList = x2.toList then (some true) else (some false))) else (some (bt190.1 == 0))) else (some false)))) else (some false))))
def tiklaw16_SegNames.f (k : Nat) (a0 : Int) (a1 : Int) (a2 : ByteArray) : Option (Bool) := (tiklaw16_first.f k).bind fun t184 => (if t184 = true then (if (a2.size : Int) > 100 then ((tiklaw16_first.f k).bind fun t185 => (some t185)) else ((seg_Name.f a0).bind fun t186 => ((seg_Name.f a1).bind fun t187 => ((seg_Number.f k t186).bind fun bt188 => (if a0 ≥ 1 then (if ((t186.toList != ([] : List UInt8)) != (decide (a0 ≤ 999999))) = true then (tiklaw16_SegNames.j0 k a0 a1 a2 t186 t187 true) else (if (bt188.2 != (t186.toList != ([] : List UInt8))) = true then (tiklaw16_SegNames.j0 k a0 a1 a2 t186 t187 true) else (if bt188.2 = true then (tiklaw16_SegNames.j0 k a0 a1 a2 t186 t187 (bt188.1 != a0)) else (tiklaw16_SegNames.j0 k a0 a1 a2 t186 t187 false)))) else (if ((t186.toList != ([] : List UInt8)) != false) = true then (tiklaw16_SegNames.j0 k a0 a1 a2 t186 t187 true) else (if (bt188.2 != (t186.toList != ([] : List UInt8))) = true then (tiklaw16_SegNames.j0 k a0 a1 a2 t186 t187 true) else (if bt188.2 = true then (tiklaw16_SegNames.j0 k a0 a1 a2 t186 t187 (bt188.1 != a0)) else (tiklaw16_SegNames.j0 k a0 a1 a2 t186 t187 false))))))))) else (some false))
theorem names_j0t {k : Nat} {a0 a1 : Int} {a2 t186 t187 : ByteArray} {r : Bool} (hr : r = true) (H : tiklaw16_SegNames.j0 k a0 a1 a2 t186 t187 true = some r) : False := by
  subst hr
  cases k with
  | zero => exact absurd H (by simp [tiklaw16_SegNames.j0])
  | succ k => exact absurd H (by simp [tiklaw16_SegNames.j0])
theorem names_H {k : Nat} {a0 a1 t188 : Int} {a2 t186 t187 : ByteArray} {t189 r : Bool} (hr : r = true)
 (H : (if a0 ≥ 1 then (if ((t186.toList != ([] : List UInt8)) != (decide (a0 ≤ 999999))) = true then (tiklaw16_SegNames.j0 k a0 a1 a2 t186 t187 true) else (if (t189 != (t186.toList != ([] : List UInt8))) = true then (tiklaw16_SegNames.j0 k a0 a1 a2 t186 t187 true) else (if t189 = true then (tiklaw16_SegNames.j0 k a0 a1 a2 t186 t187 (t188 != a0)) else (tiklaw16_SegNames.j0 k a0 a1 a2 t186 t187 false)))) else (if ((t186.toList != ([] : List UInt8)) != false) = true then (tiklaw16_SegNames.j0 k a0 a1 a2 t186 t187 true) else (if (t189 != (t186.toList != ([] : List UInt8))) = true then (tiklaw16_SegNames.j0 k a0 a1 a2 t186 t187 true) else (if t189 = true then (tiklaw16_SegNames.j0 k a0 a1 a2 t186 t187 (t188 != a0)) else (tiklaw16_SegNames.j0 k a0 a1 a2 t186 t187 false))))) = some r) :
  (1 ≤ a0 ∧ a0 ≤ 999999 ∧ t186.toList ≠ [] ∧ t189 = true ∧ tiklaw16_SegNames.j0 k a0 a1 a2 t186 t187 (t188 != a0) = some r) ∨ (1 ≤ a0 ∧ ¬ a0 ≤ 999999 ∧ t186.toList = [] ∧ t189 = false ∧ tiklaw16_SegNames.j0 k a0 a1 a2 t186 t187 false = some r) ∨ (¬ 1 ≤ a0 ∧ t186.toList = [] ∧ t189 = false ∧ tiklaw16_SegNames.j0 k a0 a1 a2 t186 t187 false = some r) := by
  by_cases h1 : 1 ≤ a0 <;> by_cases h2 : a0 ≤ 999999 <;> by_cases h3 : t186.toList = [] <;> cases t189 <;> simp [h1, h2, h3] at H ⊢ <;> first | exact H | exact (names_j0t hr H).elim | omega
set_option maxHeartbeats 8000000 in
set_option maxRecDepth 100000 in
theorem tiklaw16_SegNames.calls (k : Nat) (a0 : Int) (a1 : Int) (a2 : ByteArray) (r : Bool) (w : World) (hT : TabI w) (hr_ : Aside0 (r = true)) (h : tiklaw16_SegNames.f k a0 a1 a2 = some r) :
  Calls Tryd.prog 9 #[.int .i64 a0, .int .i64 a1, .string a2] w fun e w' => e = .returned (.bool r) ∧ Below w.heap.size w w' := by
 have HT := Aside0.mk hT
 clear hT
 have HB := Aside0.mk (Below.refl w.heap.size w)
 have H : ((tiklaw16_first.f k).bind fun t184 => (if t184 = true then (if (a2.size : Int) > 100 then ((tiklaw16_first.f k).bind fun t185 => (some t185)) else ((seg_Name.f a0).bind fun t186 => ((seg_Name.f a1).bind fun t187 => ((seg_Number.f k t186).bind fun bt188 => (if a0 ≥ 1 then (if ((t186.toList != ([] : List UInt8)) != (decide (a0 ≤ 999999))) = true then (tiklaw16_SegNames.j0 k a0 a1 a2 t186 t187 true) else (if (bt188.2 != (t186.toList != ([] : List UInt8))) = true then (tiklaw16_SegNames.j0 k a0 a1 a2 t186 t187 true) else (if bt188.2 = true then (tiklaw16_SegNames.j0 k a0 a1 a2 t186 t187 (bt188.1 != a0)) else (tiklaw16_SegNames.j0 k a0 a1 a2 t186 t187 false)))) else (if ((t186.toList != ([] : List UInt8)) != false) = true then (tiklaw16_SegNames.j0 k a0 a1 a2 t186 t187 true) else (if (bt188.2 != (t186.toList != ([] : List UInt8))) = true then (tiklaw16_SegNames.j0 k a0 a1 a2 t186 t187 true) else (if bt188.2 = true then (tiklaw16_SegNames.j0 k a0 a1 a2 t186 t187 (bt188.1 != a0)) else (tiklaw16_SegNames.j0 k a0 a1 a2 t186 t187 false))))))))) else (some false))) = some r := h
 clear h
 replace H := Option.bind_eq_some_iff.mp H
 obtain ⟨t184, A40, H⟩ := H
 replace H : (if t184 = true then (if (a2.size : Int) > 100 then ((tiklaw16_first.f k).bind fun t185 => (some t185)) else ((seg_Name.f a0).bind fun t186 => ((seg_Name.f a1).bind fun t187 => ((seg_Number.f k t186).bind fun bt188 => (if a0 ≥ 1 then (if ((t186.toList != ([] : List UInt8)) != (decide (a0 ≤ 999999))) = true then (tiklaw16_SegNames.j0 k a0 a1 a2 t186 t187 true) else (if (bt188.2 != (t186.toList != ([] : List UInt8))) = true then (tiklaw16_SegNames.j0 k a0 a1 a2 t186 t187 true) else (if bt188.2 = true then (tiklaw16_SegNames.j0 k a0 a1 a2 t186 t187 (bt188.1 != a0)) else (tiklaw16_SegNames.j0 k a0 a1 a2 t186 t187 false)))) else (if ((t186.toList != ([] : List UInt8)) != false) = true then (tiklaw16_SegNames.j0 k a0 a1 a2 t186 t187 true) else (if (bt188.2 != (t186.toList != ([] : List UInt8))) = true then (tiklaw16_SegNames.j0 k a0 a1 a2 t186 t187 true) else (if bt188.2 = true then (tiklaw16_SegNames.j0 k a0 a1 a2 t186 t187 (bt188.1 != a0)) else (tiklaw16_SegNames.j0 k a0 a1 a2 t186 t187 false))))))))) else (some false)) = some r := H
 have A4 := Aside0.mk A40
 clear A40
 by_cases c5 : t184 = true
 ·subst c5
  have H1 : (if (a2.size : Int) > 100 then ((tiklaw16_first.f k).bind fun t185 => (some t185)) else ((seg_Name.f a0).bind fun t186 => ((seg_Name.f a1).bind fun t187 => ((seg_Number.f k t186).bind fun bt188 => (if a0 ≥ 1 then (if ((t186.toList != ([] : List UInt8)) != (decide (a0 ≤ 999999))) = true then (tiklaw16_SegNames.j0 k a0 a1 a2 t186 t187 true) else (if (bt188.2 != (t186.toList != ([] : List UInt8))) = true then (tiklaw16_SegNames.j0 k a0 a1 a2 t186 t187 true) else (if bt188.2 = true then (tiklaw16_SegNames.j0 k a0 a1 a2 t186 t187 (bt188.1 != a0)) else (tiklaw16_SegNames.j0 k a0 a1 a2 t186 t187 false)))) else (if ((t186.toList != ([] : List UInt8)) != false) = true then (tiklaw16_SegNames.j0 k a0 a1 a2 t186 t187 true) else (if (bt188.2 != (t186.toList != ([] : List UInt8))) = true then (tiklaw16_SegNames.j0 k a0 a1 a2 t186 t187 true) else (if bt188.2 = true then (tiklaw16_SegNames.j0 k a0 a1 a2 t186 t187 (bt188.1 != a0)) else (tiklaw16_SegNames.j0 k a0 a1 a2 t186 t187 false))))))))) = some r := by rw [if_pos rfl] at H; exact H
  clear H
  have H := H1
  clear H1
  by_cases c6 : (a2.size : Int) > 100
  ·rw [if_pos c6] at H
   have c6b0 : decide (100 < (a2.size : Int)) = true := decide_eq_true c6
   have c6b1 : decide (100 < a2.size) = true := decide_eq_true (by omega)
   clear c6
   replace H := Option.bind_eq_some_iff.mp H
   obtain ⟨t185, A70, H⟩ := H
   replace H : (some t185) = some r := H
   have A7 := Aside0.mk A70
   clear A70
   obtain rfl := Option.some.inj H
   go_enter Tryd.func9, Tryd.ntmps9
   go_wp2_with (first | ((with_reducible refine gate_callee (f := 29) rfl ?_); refine goesL_ (some 13) rfl rfl Tryd.func29 (by kernel_rfl) rfl #[] rfl (by (try simp only [List.map_toArray, List.map_cons, List.map_nil]); first | done | rfl | (simp only [List.length_drop, List.length_take]; rfl)) ?_; (with_reducible refine (tiklaw16_first.calls k  true _ ?side1 A4.out).mono ?_); (case side1 => first | (with_reducible exact HT.out) | exact tabAt HT.out (by repeat (first | (with_reducible first | exact HB.out | apply below_alloc | apply pw_below_drewN | apply below_drew1) | exact HB.out))); rintro e w8 ⟨rfl, hb⟩; refine ⟨_, rfl, ?_⟩; have n0_ := Aside0.mk (below_step (by repeat (first | (with_reducible first | exact HB.out | apply below_alloc | apply pw_below_drewN | apply below_drew1) | exact HB.out)) hb); clear HB; have HB := n0_; clear n0_; (try clear hb); (try clear hb2); (try clear hk); (try clear hi)) | ((with_reducible refine gate_callee (f := 29) rfl ?_); refine goesL_ (some 18) rfl rfl Tryd.func29 (by kernel_rfl) rfl #[] rfl (by (try simp only [List.map_toArray, List.map_cons, List.map_nil]); first | done | rfl | (simp only [List.length_drop, List.length_take]; rfl)) ?_; (with_reducible refine (tiklaw16_first.calls k  t185 _ ?side1 A7.out).mono ?_); (case side1 => first | (with_reducible exact HT.out) | exact tabAt HT.out (by repeat (first | (with_reducible first | exact HB.out | apply below_alloc | apply pw_below_drewN | apply below_drew1) | exact HB.out))); rintro e w9 ⟨rfl, hb⟩; refine ⟨_, rfl, ?_⟩; have n0_ := Aside0.mk (below_step (by repeat (first | (with_reducible first | exact HB.out | apply below_alloc | apply pw_below_drewN | apply below_drew1) | exact HB.out)) hb); clear HB; have HB := n0_; clear n0_; (try clear hb); (try clear hb2); (try clear hk); (try clear hi)))
   go_ret
   exact ⟨by first | rfl | (simp [errW_none, errW_some] <;> rfl) | (simp [*, errW_none, errW_some] <;> rfl), by repeat (first | (with_reducible first | exact HB.out | apply below_alloc | apply pw_below_drewN | apply below_drew1) | exact HB.out)⟩
  ·rw [if_neg c6] at H
   have c6b0 : decide (100 < (a2.size : Int)) = false := decide_eq_false c6
   have c6b1 : decide (100 < a2.size) = false := decide_eq_false (by omega)
   clear c6
   replace H := Option.bind_eq_some_iff.mp H
   obtain ⟨t186, A100, H⟩ := H
   replace H : ((seg_Name.f a1).bind fun t187 => ((seg_Number.f k t186).bind fun bt188 => (if a0 ≥ 1 then (if ((t186.toList != ([] : List UInt8)) != (decide (a0 ≤ 999999))) = true then (tiklaw16_SegNames.j0 k a0 a1 a2 t186 t187 true) else (if (bt188.2 != (t186.toList != ([] : List UInt8))) = true then (tiklaw16_SegNames.j0 k a0 a1 a2 t186 t187 true) else (if bt188.2 = true then (tiklaw16_SegNames.j0 k a0 a1 a2 t186 t187 (bt188.1 != a0)) else (tiklaw16_SegNames.j0 k a0 a1 a2 t186 t187 false)))) else (if ((t186.toList != ([] : List UInt8)) != false) = true then (tiklaw16_SegNames.j0 k a0 a1 a2 t186 t187 true) else (if (bt188.2 != (t186.toList != ([] : List UInt8))) = true then (tiklaw16_SegNames.j0 k a0 a1 a2 t186 t187 true) else (if bt188.2 = true then (tiklaw16_SegNames.j0 k a0 a1 a2 t186 t187 (bt188.1 != a0)) else (tiklaw16_SegNames.j0 k a0 a1 a2 t186 t187 false))))))) = some r := H
   have A10 := Aside0.mk A100
   clear A100
   replace H := Option.bind_eq_some_iff.mp H
   obtain ⟨t187, A110, H⟩ := H
   replace H : ((seg_Number.f k t186).bind fun bt188 => (if a0 ≥ 1 then (if ((t186.toList != ([] : List UInt8)) != (decide (a0 ≤ 999999))) = true then (tiklaw16_SegNames.j0 k a0 a1 a2 t186 t187 true) else (if (bt188.2 != (t186.toList != ([] : List UInt8))) = true then (tiklaw16_SegNames.j0 k a0 a1 a2 t186 t187 true) else (if bt188.2 = true then (tiklaw16_SegNames.j0 k a0 a1 a2 t186 t187 (bt188.1 != a0)) else (tiklaw16_SegNames.j0 k a0 a1 a2 t186 t187 false)))) else (if ((t186.toList != ([] : List UInt8)) != false) = true then (tiklaw16_SegNames.j0 k a0 a1 a2 t186 t187 true) else (if (bt188.2 != (t186.toList != ([] : List UInt8))) = true then (tiklaw16_SegNames.j0 k a0 a1 a2 t186 t187 true) else (if bt188.2 = true then (tiklaw16_SegNames.j0 k a0 a1 a2 t186 t187 (bt188.1 != a0)) else (tiklaw16_SegNames.j0 k a0 a1 a2 t186 t187 false)))))) = some r := H
   have A11 := Aside0.mk A110
   clear A110
   replace H := Option.bind_eq_some_iff.mp H
   obtain ⟨⟨t188, t189⟩, A120, H⟩ := H
   replace H : (if a0 ≥ 1 then (if ((t186.toList != ([] : List UInt8)) != (decide (a0 ≤ 999999))) = true then (tiklaw16_SegNames.j0 k a0 a1 a2 t186 t187 true) else (if (t189 != (t186.toList != ([] : List UInt8))) = true then (tiklaw16_SegNames.j0 k a0 a1 a2 t186 t187 true) else (if t189 = true then (tiklaw16_SegNames.j0 k a0 a1 a2 t186 t187 (t188 != a0)) else (tiklaw16_SegNames.j0 k a0 a1 a2 t186 t187 false)))) else (if ((t186.toList != ([] : List UInt8)) != false) = true then (tiklaw16_SegNames.j0 k a0 a1 a2 t186 t187 true) else (if (t189 != (t186.toList != ([] : List UInt8))) = true then (tiklaw16_SegNames.j0 k a0 a1 a2 t186 t187 true) else (if t189 = true then (tiklaw16_SegNames.j0 k a0 a1 a2 t186 t187 (t188 != a0)) else (tiklaw16_SegNames.j0 k a0 a1 a2 t186 t187 false))))) = some r := H
   have A12 := Aside0.mk A120
   clear A120
   have HC13 := Aside0.mk H
   clear H
   go_enter Tryd.func9, Tryd.ntmps9
   go_upto_region 7 with (first | ((with_reducible refine gate_callee (f := 29) rfl ?_); refine goesL_ (some 13) rfl rfl Tryd.func29 (by kernel_rfl) rfl #[] rfl (by (try simp only [List.map_toArray, List.map_cons, List.map_nil]); first | done | rfl | (simp only [List.length_drop, List.length_take]; rfl)) ?_; (with_reducible refine (tiklaw16_first.calls k  true _ ?side1 A4.out).mono ?_); (case side1 => first | (with_reducible exact HT.out) | exact tabAt HT.out (by repeat (first | (with_reducible first | exact HB.out | apply below_alloc | apply pw_below_drewN | apply below_drew1) | exact HB.out))); rintro e w14 ⟨rfl, hb⟩; refine ⟨_, rfl, ?_⟩; have n0_ := Aside0.mk (below_step (by repeat (first | (with_reducible first | exact HB.out | apply below_alloc | apply pw_below_drewN | apply below_drew1) | exact HB.out)) hb); clear HB; have HB := n0_; clear n0_; (try clear hb); (try clear hb2); (try clear hk); (try clear hi)) | ((with_reducible refine gate_callee (f := 36) rfl ?_); refine goesL_ (some 20) rfl rfl Tryd.func36 (by kernel_rfl) rfl #[.int .i64 a0] rfl (by (try simp only [List.map_toArray, List.map_cons, List.map_nil]); first | done | rfl | (simp only [List.length_drop, List.length_take]; rfl)) ?_; (with_reducible refine (seg_Name.calls a0 t186 _ ?side1 A10.out).mono ?_); (case side1 => first | (with_reducible exact HT.out) | exact tabAt HT.out (by repeat (first | (with_reducible first | exact HB.out | apply below_alloc | apply pw_below_drewN | apply below_drew1) | exact HB.out))); rintro e w15 ⟨rfl, hb⟩; refine ⟨_, rfl, ?_⟩; have n0_ := Aside0.mk (below_step (by repeat (first | (with_reducible first | exact HB.out | apply below_alloc | apply pw_below_drewN | apply below_drew1) | exact HB.out)) hb); clear HB; have HB := n0_; clear n0_; (try clear hb); (try clear hb2); (try clear hk); (try clear hi)) | ((with_reducible refine gate_callee (f := 36) rfl ?_); refine goesL_ (some 22) rfl rfl Tryd.func36 (by kernel_rfl) rfl #[.int .i64 a1] rfl (by (try simp only [List.map_toArray, List.map_cons, List.map_nil]); first | done | rfl | (simp only [List.length_drop, List.length_take]; rfl)) ?_; (with_reducible refine (seg_Name.calls a1 t187 _ ?side1 A11.out).mono ?_); (case side1 => first | (with_reducible exact HT.out) | exact tabAt HT.out (by repeat (first | (with_reducible first | exact HB.out | apply below_alloc | apply pw_below_drewN | apply below_drew1) | exact HB.out))); rintro e w16 ⟨rfl, hb⟩; refine ⟨_, rfl, ?_⟩; have n0_ := Aside0.mk (below_step (by repeat (first | (with_reducible first | exact HB.out | apply below_alloc | apply pw_below_drewN | apply below_drew1) | exact HB.out)) hb); clear HB; have HB := n0_; clear n0_; (try clear hb); (try clear hb2); (try clear hk); (try clear hi)) | ((with_reducible refine gate_callee (f := 30) rfl ?_); refine goesL_ (some 25) rfl rfl Tryd.func30 (by kernel_rfl) rfl #[.string t186] rfl (by (try simp only [List.map_toArray, List.map_cons, List.map_nil]); first | done | rfl | (simp only [List.length_drop, List.length_take]; rfl)) ?_; (with_reducible refine (seg_Number.calls k t186 t188 t189 _ ?side1 A12.out).mono ?_); (case side1 => first | (with_reducible exact HT.out) | exact tabAt HT.out (by repeat (first | (with_reducible first | exact HB.out | apply below_alloc | apply pw_below_drewN | apply below_drew1) | exact HB.out))); rintro e w17 ⟨rfl, hb⟩; refine ⟨_, rfl, ?_⟩; have n0_ := Aside0.mk (below_step (by repeat (first | (with_reducible first | exact HB.out | apply below_alloc | apply pw_below_drewN | apply below_drew1) | exact HB.out)) hb); clear HB; have HB := n0_; clear n0_; (try clear hb); (try clear hb2); (try clear hk); (try clear hi)))
   (try simp only [Act.put, List.setIfInBounds_toArray, List.set_cons_zero, List.set_cons_succ])
   go_cut [50] (fun v50 wc => ∃ (kq : Nat) (x50_12 : Bool), v50 = .bool x50_12 ∧ Aside0 (tiklaw16_SegNames.j0 kq a0 a1 a2 t186 t187 x50_12 = some r) ∧ Aside0 (kq ≤ k) ∧ Aside0 (Below w.heap.size w wc))
   case first =>
    have H := HC13.out
    clear HC13
    rcases names_H hr_.out H with hc | hc | hc
    · obtain ⟨c18, c19, cE, rfl, H1⟩ := hc
      have c18b0 : decide (1 ≤ a0) = true := decide_eq_true c18
      have c19b0 : decide (a0 ≤ 999999) = true := decide_eq_true c19
      (first | rw [c18b0] | (simp only [i64_w, i32_w]; rw [c18b0]) | skip)
      clear c18 c19
      have cE1 : t186.toList.isEmpty = false := by simp [cE]
      have cE2 : (t186.toList == ([] : List UInt8)) = false := by simp [cE]
      have cE3 : (t186.toList != ([] : List UInt8)) = true := by simp [cE]
      have H' := Aside0.mk H1
      clear H H1
      go_wp2
      go_meet
      case rel => exact ⟨_, ((t188 != a0)), (by first | rfl | (simp; done) | (simp [*]; done)), H', ⟨by first | omega | exact Nat.le_refl _⟩, ⟨by repeat (first | (with_reducible first | exact HB.out | apply below_alloc | apply pw_below_drewN | apply below_drew1) | exact HB.out)⟩⟩
    · obtain ⟨c18, c19, cE, rfl, H1⟩ := hc
      have c18b0 : decide (1 ≤ a0) = true := decide_eq_true c18
      have c19b0 : decide (a0 ≤ 999999) = false := decide_eq_false c19
      (first | rw [c18b0] | (simp only [i64_w, i32_w]; rw [c18b0]) | skip)
      clear c18 c19
      have cE1 : t186.toList.isEmpty = true := by simp [cE]
      have cE2 : (t186.toList == ([] : List UInt8)) = true := by simp [cE]
      have cE3 : (t186.toList != ([] : List UInt8)) = false := by simp [cE]
      have H' := Aside0.mk H1
      clear H H1
      go_wp2
      go_meet
      case rel => exact ⟨_, (false), (by first | rfl | (simp; done) | (simp [*]; done)), H', ⟨by first | omega | exact Nat.le_refl _⟩, ⟨by repeat (first | (with_reducible first | exact HB.out | apply below_alloc | apply pw_below_drewN | apply below_drew1) | exact HB.out)⟩⟩
    · obtain ⟨c18, cE, rfl, H1⟩ := hc
      have c18b0 : decide (1 ≤ a0) = false := decide_eq_false c18
      (first | rw [c18b0] | (simp only [i64_w, i32_w]; rw [c18b0]) | skip)
      clear c18
      have cE1 : t186.toList.isEmpty = true := by simp [cE]
      have cE2 : (t186.toList == ([] : List UInt8)) = true := by simp [cE]
      have cE3 : (t186.toList != ([] : List UInt8)) = false := by simp [cE]
      have H' := Aside0.mk H1
      clear H H1
      go_wp2
      go_meet
      case rel => exact ⟨_, (false), (by first | rfl | (simp; done) | (simp [*]; done)), H', ⟨by first | omega | exact Nat.le_refl _⟩, ⟨by repeat (first | (with_reducible first | exact HB.out | apply below_alloc | apply pw_below_drewN | apply below_drew1) | exact HB.out)⟩⟩
   case rest =>
    clear HC13
    try clear c1
    try clear c2
    try clear p2
    try clear c3
    try clear c5
    try clear c6
    try clear c6b0
    try clear c6b1
    try clear c9
    try clear c18
    try clear c18b0
    try clear c19
    try clear c19b0
    try clear c19b1
    try clear c19b2
    try clear c20
    try clear c20b0
    try clear c20b1
    try clear c20b2
    try clear c21
    try clear c22
    try clear c22b0
    try clear c22b1
    try clear c22b2
    try clear c23
    try clear c23b0
    try clear c23b1
    try clear c23b2
    try clear c24
    obtain ⟨kq, x50_12, rfl, HA, HJ12, HB⟩ := hcut
    cases kq with
    | zero => exact absurd HA.out (by simp [tiklaw16_SegNames.j0])
    | succ kj12 =>
     have H := HA.out
     clear HA
     simp only [tiklaw16_SegNames.j0] at H
     by_cases c25 : x50_12 = true
     ·subst c25
      have H1 : (some false) = some r := by rw [if_pos rfl] at H; exact H
      clear H
      have H := H1
      clear H1
      exact absurd ((Option.some.inj H).trans hr_.out) (by simp)
     ·replace c25 := Bool.eq_false_iff.mpr c25
      subst c25
      have H1 : ((seg_Number.f kj12 a2).bind fun bt190 => ((tiklaw16_first.f kj12).bind fun t192 => (if t192 = true then (if t186.toList = ([] : List UInt8) then (if bt190.2 = true then ((seg_Name.f bt190.1).bind fun t193 => (if t193.toList = a2.toList then (some true) else (some false))) else (some (bt190.1 == 0))) else (if t187.toList = ([] : List UInt8) then (if bt190.2 = true then ((seg_Name.f bt190.1).bind fun t194 => (if t194.toList = a2.toList then (some true) else (some false))) else (some (bt190.1 == 0))) else (if ((Op.bytesLess t186.toList t187.toList) == (decide (a0 < a1))) = true then (if bt190.2 = true then ((seg_Name.f bt190.1).bind fun t195 => (if t195.toList = a2.toList then (some true) else (some false))) else (some (bt190.1 == 0))) else (some false)))) else (some false)))) = some r := by rw [if_neg (show ¬ (false = true) by decide)] at H; exact H
      clear H
      have H := H1
      clear H1
      replace H := Option.bind_eq_some_iff.mp H
      obtain ⟨⟨t190, t191⟩, A260, H⟩ := H
      replace H : ((tiklaw16_first.f kj12).bind fun t192 => (if t192 = true then (if t186.toList = ([] : List UInt8) then (if t191 = true then ((seg_Name.f t190).bind fun t193 => (if t193.toList = a2.toList then (some true) else (some false))) else (some (t190 == 0))) else (if t187.toList = ([] : List UInt8) then (if t191 = true then ((seg_Name.f t190).bind fun t194 => (if t194.toList = a2.toList then (some true) else (some false))) else (some (t190 == 0))) else (if ((Op.bytesLess t186.toList t187.toList) == (decide (a0 < a1))) = true then (if t191 = true then ((seg_Name.f t190).bind fun t195 => (if t195.toList = a2.toList then (some true) else (some false))) else (some (t190 == 0))) else (some false)))) else (some false))) = some r := H
      have A26 := Aside0.mk A260
      clear A260
      replace H := Option.bind_eq_some_iff.mp H
      obtain ⟨t192, A270, H⟩ := H
      replace H : (if t192 = true then (if t186.toList = ([] : List UInt8) then (if t191 = true then ((seg_Name.f t190).bind fun t193 => (if t193.toList = a2.toList then (some true) else (some false))) else (some (t190 == 0))) else (if t187.toList = ([] : List UInt8) then (if t191 = true then ((seg_Name.f t190).bind fun t194 => (if t194.toList = a2.toList then (some true) else (some false))) else (some (t190 == 0))) else (if ((Op.bytesLess t186.toList t187.toList) == (decide (a0 < a1))) = true then (if t191 = true then ((seg_Name.f t190).bind fun t195 => (if t195.toList = a2.toList then (some true) else (some false))) else (some (t190 == 0))) else (some false)))) else (some false)) = some r := H
      have A27 := Aside0.mk A270
      clear A270
      by_cases c28 : t192 = true
      ·subst c28
       have H1 : (if t186.toList = ([] : List UInt8) then (if t191 = true then ((seg_Name.f t190).bind fun t193 => (if t193.toList = a2.toList then (some true) else (some false))) else (some (t190 == 0))) else (if t187.toList = ([] : List UInt8) then (if t191 = true then ((seg_Name.f t190).bind fun t194 => (if t194.toList = a2.toList then (some true) else (some false))) else (some (t190 == 0))) else (if ((Op.bytesLess t186.toList t187.toList) == (decide (a0 < a1))) = true then (if t191 = true then ((seg_Name.f t190).bind fun t195 => (if t195.toList = a2.toList then (some true) else (some false))) else (some (t190 == 0))) else (some false)))) = some r := by rw [if_pos rfl] at H; exact H
       clear H
       have H := H1
       clear H1
       by_cases c29 : t186.toList = ([] : List UInt8)
       ·rw [if_pos c29] at H
        have c29b0 : (t186.toList == ([] : List UInt8)) = true := beq_iff_eq.mpr c29
        have c29b1 : (t186.toList != ([] : List UInt8)) = false := bne_eq_false_iff_eq.mpr c29
        clear c29
        by_cases c30 : t191 = true
        ·subst c30
         have H1 : ((seg_Name.f t190).bind fun t193 => (if t193.toList = a2.toList then (some true) else (some false))) = some r := by rw [if_pos rfl] at H; exact H
         clear H
         have H := H1
         clear H1
         replace H := Option.bind_eq_some_iff.mp H
         obtain ⟨t193, A310, H⟩ := H
         replace H : (if t193.toList = a2.toList then (some true) else (some false)) = some r := H
         have A31 := Aside0.mk A310
         clear A310
         by_cases c32 : t193.toList = a2.toList
         ·rw [if_pos c32] at H
          have c32b0 : (t193.toList == a2.toList) = true := beq_iff_eq.mpr c32
          have c32b1 : (t193.toList != a2.toList) = false := bne_eq_false_iff_eq.mpr c32
          clear c32
          obtain rfl := Option.some.inj H
          go_wp2_with (first | ((with_reducible refine gate_callee (f := 30) rfl ?_); refine goesL_ (some 53) rfl rfl Tryd.func30 (by kernel_rfl) rfl #[.string a2] rfl (by (try simp only [List.map_toArray, List.map_cons, List.map_nil]); first | done | rfl | (simp only [List.length_drop, List.length_take]; rfl)) ?_; (with_reducible refine (seg_Number.calls kj12 a2 t190 true _ ?side1 A26.out).mono ?_); (case side1 => first | (with_reducible exact HT.out) | exact tabAt HT.out (by repeat (first | (with_reducible first | exact HB.out | apply below_alloc | apply pw_below_drewN | apply below_drew1) | exact HB.out))); rintro e w33 ⟨rfl, hb⟩; refine ⟨_, rfl, ?_⟩; have n0_ := Aside0.mk (below_step (by repeat (first | (with_reducible first | exact HB.out | apply below_alloc | apply pw_below_drewN | apply below_drew1) | exact HB.out)) hb); clear HB; have HB := n0_; clear n0_; (try clear hb); (try clear hb2); (try clear hk); (try clear hi)) | ((with_reducible refine gate_callee (f := 29) rfl ?_); refine goesL_ (some 56) rfl rfl Tryd.func29 (by kernel_rfl) rfl #[] rfl (by (try simp only [List.map_toArray, List.map_cons, List.map_nil]); first | done | rfl | (simp only [List.length_drop, List.length_take]; rfl)) ?_; (with_reducible refine (tiklaw16_first.calls kj12  true _ ?side1 A27.out).mono ?_); (case side1 => first | (with_reducible exact HT.out) | exact tabAt HT.out (by repeat (first | (with_reducible first | exact HB.out | apply below_alloc | apply pw_below_drewN | apply below_drew1) | exact HB.out))); rintro e w34 ⟨rfl, hb⟩; refine ⟨_, rfl, ?_⟩; have n0_ := Aside0.mk (below_step (by repeat (first | (with_reducible first | exact HB.out | apply below_alloc | apply pw_below_drewN | apply below_drew1) | exact HB.out)) hb); clear HB; have HB := n0_; clear n0_; (try clear hb); (try clear hb2); (try clear hk); (try clear hi)) | (go_at_call 36; (with_reducible refine (seg_Name.calls t190 t193 _ ?side1 A31.out).mono ?_); (case side1 => first | (with_reducible exact HT.out) | exact tabAt HT.out (by repeat (first | (with_reducible first | exact HB.out | apply below_alloc | apply pw_below_drewN | apply below_drew1) | exact HB.out))); rintro e w35 ⟨rfl, hb⟩; have n0_ := Aside0.mk (below_step (by repeat (first | (with_reducible first | exact HB.out | apply below_alloc | apply pw_below_drewN | apply below_drew1) | exact HB.out)) hb); clear HB; have HB := n0_; clear n0_; (try clear hb); (try clear hb2); (try clear hk); (try clear hi)))
          go_ret
          exact ⟨by first | rfl | (simp [errW_none, errW_some] <;> rfl) | (simp [*, errW_none, errW_some] <;> rfl), by repeat (first | (with_reducible first | exact HB.out | apply below_alloc | apply pw_below_drewN | apply below_drew1) | exact HB.out)⟩
         ·rw [if_neg c32] at H
          have c32b0 : (t193.toList == a2.toList) = false := beq_eq_false_iff_ne.mpr c32
          have c32b1 : (t193.toList != a2.toList) = true := bne_iff_ne.mpr c32
          exact absurd ((Option.some.inj H).trans hr_.out) (by simp)
        ·replace c30 := Bool.eq_false_iff.mpr c30
         subst c30
         have H1 : (some (t190 == 0)) = some r := by rw [if_neg (show ¬ (false = true) by decide)] at H; exact H
         clear H
         have H := H1
         clear H1
         obtain rfl := Option.some.inj H
         go_wp2_with (first | ((with_reducible refine gate_callee (f := 30) rfl ?_); refine goesL_ (some 53) rfl rfl Tryd.func30 (by kernel_rfl) rfl #[.string a2] rfl (by (try simp only [List.map_toArray, List.map_cons, List.map_nil]); first | done | rfl | (simp only [List.length_drop, List.length_take]; rfl)) ?_; (with_reducible refine (seg_Number.calls kj12 a2 t190 false _ ?side1 A26.out).mono ?_); (case side1 => first | (with_reducible exact HT.out) | exact tabAt HT.out (by repeat (first | (with_reducible first | exact HB.out | apply below_alloc | apply pw_below_drewN | apply below_drew1) | exact HB.out))); rintro e w36 ⟨rfl, hb⟩; refine ⟨_, rfl, ?_⟩; have n0_ := Aside0.mk (below_step (by repeat (first | (with_reducible first | exact HB.out | apply below_alloc | apply pw_below_drewN | apply below_drew1) | exact HB.out)) hb); clear HB; have HB := n0_; clear n0_; (try clear hb); (try clear hb2); (try clear hk); (try clear hi)) | ((with_reducible refine gate_callee (f := 29) rfl ?_); refine goesL_ (some 56) rfl rfl Tryd.func29 (by kernel_rfl) rfl #[] rfl (by (try simp only [List.map_toArray, List.map_cons, List.map_nil]); first | done | rfl | (simp only [List.length_drop, List.length_take]; rfl)) ?_; (with_reducible refine (tiklaw16_first.calls kj12  true _ ?side1 A27.out).mono ?_); (case side1 => first | (with_reducible exact HT.out) | exact tabAt HT.out (by repeat (first | (with_reducible first | exact HB.out | apply below_alloc | apply pw_below_drewN | apply below_drew1) | exact HB.out))); rintro e w37 ⟨rfl, hb⟩; refine ⟨_, rfl, ?_⟩; have n0_ := Aside0.mk (below_step (by repeat (first | (with_reducible first | exact HB.out | apply below_alloc | apply pw_below_drewN | apply below_drew1) | exact HB.out)) hb); clear HB; have HB := n0_; clear n0_; (try clear hb); (try clear hb2); (try clear hk); (try clear hi)))
         go_ret
         exact ⟨by first | rfl | (simp [errW_none, errW_some] <;> rfl) | (simp [*, errW_none, errW_some] <;> rfl), by repeat (first | (with_reducible first | exact HB.out | apply below_alloc | apply pw_below_drewN | apply below_drew1) | exact HB.out)⟩
       ·rw [if_neg c29] at H
        have c29b0 : (t186.toList == ([] : List UInt8)) = false := beq_eq_false_iff_ne.mpr c29
        have c29b1 : (t186.toList != ([] : List UInt8)) = true := bne_iff_ne.mpr c29
        by_cases c38 : t187.toList = ([] : List UInt8)
        ·rw [if_pos c38] at H
         have c38b0 : (t187.toList == ([] : List UInt8)) = true := beq_iff_eq.mpr c38
         have c38b1 : (t187.toList != ([] : List UInt8)) = false := bne_eq_false_iff_eq.mpr c38
         clear c38
         by_cases c39 : t191 = true
         ·subst c39
          have H1 : ((seg_Name.f t190).bind fun t194 => (if t194.toList = a2.toList then (some true) else (some false))) = some r := by rw [if_pos rfl] at H; exact H
          clear H
          have H := H1
          clear H1
          replace H := Option.bind_eq_some_iff.mp H
          obtain ⟨t194, A400, H⟩ := H
          replace H : (if t194.toList = a2.toList then (some true) else (some false)) = some r := H
          have A40 := Aside0.mk A400
          clear A400
          by_cases c41 : t194.toList = a2.toList
          ·rw [if_pos c41] at H
           have c41b0 : (t194.toList == a2.toList) = true := beq_iff_eq.mpr c41
           have c41b1 : (t194.toList != a2.toList) = false := bne_eq_false_iff_eq.mpr c41
           clear c41
           obtain rfl := Option.some.inj H
           go_wp2_with (first | ((with_reducible refine gate_callee (f := 30) rfl ?_); refine goesL_ (some 53) rfl rfl Tryd.func30 (by kernel_rfl) rfl #[.string a2] rfl (by (try simp only [List.map_toArray, List.map_cons, List.map_nil]); first | done | rfl | (simp only [List.length_drop, List.length_take]; rfl)) ?_; (with_reducible refine (seg_Number.calls kj12 a2 t190 true _ ?side1 A26.out).mono ?_); (case side1 => first | (with_reducible exact HT.out) | exact tabAt HT.out (by repeat (first | (with_reducible first | exact HB.out | apply below_alloc | apply pw_below_drewN | apply below_drew1) | exact HB.out))); rintro e w42 ⟨rfl, hb⟩; refine ⟨_, rfl, ?_⟩; have n0_ := Aside0.mk (below_step (by repeat (first | (with_reducible first | exact HB.out | apply below_alloc | apply pw_below_drewN | apply below_drew1) | exact HB.out)) hb); clear HB; have HB := n0_; clear n0_; (try clear hb); (try clear hb2); (try clear hk); (try clear hi)) | ((with_reducible refine gate_callee (f := 29) rfl ?_); refine goesL_ (some 56) rfl rfl Tryd.func29 (by kernel_rfl) rfl #[] rfl (by (try simp only [List.map_toArray, List.map_cons, List.map_nil]); first | done | rfl | (simp only [List.length_drop, List.length_take]; rfl)) ?_; (with_reducible refine (tiklaw16_first.calls kj12  true _ ?side1 A27.out).mono ?_); (case side1 => first | (with_reducible exact HT.out) | exact tabAt HT.out (by repeat (first | (with_reducible first | exact HB.out | apply below_alloc | apply pw_below_drewN | apply below_drew1) | exact HB.out))); rintro e w43 ⟨rfl, hb⟩; refine ⟨_, rfl, ?_⟩; have n0_ := Aside0.mk (below_step (by repeat (first | (with_reducible first | exact HB.out | apply below_alloc | apply pw_below_drewN | apply below_drew1) | exact HB.out)) hb); clear HB; have HB := n0_; clear n0_; (try clear hb); (try clear hb2); (try clear hk); (try clear hi)) | (go_at_call 36; (with_reducible refine (seg_Name.calls t190 t194 _ ?side1 A40.out).mono ?_); (case side1 => first | (with_reducible exact HT.out) | exact tabAt HT.out (by repeat (first | (with_reducible first | exact HB.out | apply below_alloc | apply pw_below_drewN | apply below_drew1) | exact HB.out))); rintro e w44 ⟨rfl, hb⟩; have n0_ := Aside0.mk (below_step (by repeat (first | (with_reducible first | exact HB.out | apply below_alloc | apply pw_below_drewN | apply below_drew1) | exact HB.out)) hb); clear HB; have HB := n0_; clear n0_; (try clear hb); (try clear hb2); (try clear hk); (try clear hi)))
           go_ret
           exact ⟨by first | rfl | (simp [errW_none, errW_some] <;> rfl) | (simp [*, errW_none, errW_some] <;> rfl), by repeat (first | (with_reducible first | exact HB.out | apply below_alloc | apply pw_below_drewN | apply below_drew1) | exact HB.out)⟩
          ·rw [if_neg c41] at H
           have c41b0 : (t194.toList == a2.toList) = false := beq_eq_false_iff_ne.mpr c41
           have c41b1 : (t194.toList != a2.toList) = true := bne_iff_ne.mpr c41
           exact absurd ((Option.some.inj H).trans hr_.out) (by simp)
         ·replace c39 := Bool.eq_false_iff.mpr c39
          subst c39
          have H1 : (some (t190 == 0)) = some r := by rw [if_neg (show ¬ (false = true) by decide)] at H; exact H
          clear H
          have H := H1
          clear H1
          obtain rfl := Option.some.inj H
          go_wp2_with (first | ((with_reducible refine gate_callee (f := 30) rfl ?_); refine goesL_ (some 53) rfl rfl Tryd.func30 (by kernel_rfl) rfl #[.string a2] rfl (by (try simp only [List.map_toArray, List.map_cons, List.map_nil]); first | done | rfl | (simp only [List.length_drop, List.length_take]; rfl)) ?_; (with_reducible refine (seg_Number.calls kj12 a2 t190 false _ ?side1 A26.out).mono ?_); (case side1 => first | (with_reducible exact HT.out) | exact tabAt HT.out (by repeat (first | (with_reducible first | exact HB.out | apply below_alloc | apply pw_below_drewN | apply below_drew1) | exact HB.out))); rintro e w45 ⟨rfl, hb⟩; refine ⟨_, rfl, ?_⟩; have n0_ := Aside0.mk (below_step (by repeat (first | (with_reducible first | exact HB.out | apply below_alloc | apply pw_below_drewN | apply below_drew1) | exact HB.out)) hb); clear HB; have HB := n0_; clear n0_; (try clear hb); (try clear hb2); (try clear hk); (try clear hi)) | ((with_reducible refine gate_callee (f := 29) rfl ?_); refine goesL_ (some 56) rfl rfl Tryd.func29 (by kernel_rfl) rfl #[] rfl (by (try simp only [List.map_toArray, List.map_cons, List.map_nil]); first | done | rfl | (simp only [List.length_drop, List.length_take]; rfl)) ?_; (with_reducible refine (tiklaw16_first.calls kj12  true _ ?side1 A27.out).mono ?_); (case side1 => first | (with_reducible exact HT.out) | exact tabAt HT.out (by repeat (first | (with_reducible first | exact HB.out | apply below_alloc | apply pw_below_drewN | apply below_drew1) | exact HB.out))); rintro e w46 ⟨rfl, hb⟩; refine ⟨_, rfl, ?_⟩; have n0_ := Aside0.mk (below_step (by repeat (first | (with_reducible first | exact HB.out | apply below_alloc | apply pw_below_drewN | apply below_drew1) | exact HB.out)) hb); clear HB; have HB := n0_; clear n0_; (try clear hb); (try clear hb2); (try clear hk); (try clear hi)))
          go_ret
          exact ⟨by first | rfl | (simp [errW_none, errW_some] <;> rfl) | (simp [*, errW_none, errW_some] <;> rfl), by repeat (first | (with_reducible first | exact HB.out | apply below_alloc | apply pw_below_drewN | apply below_drew1) | exact HB.out)⟩
        ·rw [if_neg c38] at H
         have c38b0 : (t187.toList == ([] : List UInt8)) = false := beq_eq_false_iff_ne.mpr c38
         have c38b1 : (t187.toList != ([] : List UInt8)) = true := bne_iff_ne.mpr c38
         by_cases c47 : ((Op.bytesLess t186.toList t187.toList) == (decide (a0 < a1))) = true
         ·rw [if_pos c47] at H
          have c47b0 : ((Op.bytesLess t186.toList t187.toList) == (decide (a0 < a1))) = true := c47
          (try (have c47b1 : decide ((Op.bytesLess t186.toList t187.toList) = (decide (a0 < a1))) = true := by simpa using c47))
          (try (have c47b2 : ((Op.bytesLess t186.toList t187.toList) == (decide (a0 < a1))) = true := by simpa using c47))
          clear c47
          by_cases c48 : t191 = true
          ·subst c48
           have H1 : ((seg_Name.f t190).bind fun t195 => (if t195.toList = a2.toList then (some true) else (some false))) = some r := by rw [if_pos rfl] at H; exact H
           clear H
           have H := H1
           clear H1
           replace H := Option.bind_eq_some_iff.mp H
           obtain ⟨t195, A490, H⟩ := H
           replace H : (if t195.toList = a2.toList then (some true) else (some false)) = some r := H
           have A49 := Aside0.mk A490
           clear A490
           by_cases c50 : t195.toList = a2.toList
           ·rw [if_pos c50] at H
            have c50b0 : (t195.toList == a2.toList) = true := beq_iff_eq.mpr c50
            have c50b1 : (t195.toList != a2.toList) = false := bne_eq_false_iff_eq.mpr c50
            clear c50
            obtain rfl := Option.some.inj H
            go_wp2_with (first | ((with_reducible refine gate_callee (f := 30) rfl ?_); refine goesL_ (some 53) rfl rfl Tryd.func30 (by kernel_rfl) rfl #[.string a2] rfl (by (try simp only [List.map_toArray, List.map_cons, List.map_nil]); first | done | rfl | (simp only [List.length_drop, List.length_take]; rfl)) ?_; (with_reducible refine (seg_Number.calls kj12 a2 t190 true _ ?side1 A26.out).mono ?_); (case side1 => first | (with_reducible exact HT.out) | exact tabAt HT.out (by repeat (first | (with_reducible first | exact HB.out | apply below_alloc | apply pw_below_drewN | apply below_drew1) | exact HB.out))); rintro e w51 ⟨rfl, hb⟩; refine ⟨_, rfl, ?_⟩; have n0_ := Aside0.mk (below_step (by repeat (first | (with_reducible first | exact HB.out | apply below_alloc | apply pw_below_drewN | apply below_drew1) | exact HB.out)) hb); clear HB; have HB := n0_; clear n0_; (try clear hb); (try clear hb2); (try clear hk); (try clear hi)) | ((with_reducible refine gate_callee (f := 29) rfl ?_); refine goesL_ (some 56) rfl rfl Tryd.func29 (by kernel_rfl) rfl #[] rfl (by (try simp only [List.map_toArray, List.map_cons, List.map_nil]); first | done | rfl | (simp only [List.length_drop, List.length_take]; rfl)) ?_; (with_reducible refine (tiklaw16_first.calls kj12  true _ ?side1 A27.out).mono ?_); (case side1 => first | (with_reducible exact HT.out) | exact tabAt HT.out (by repeat (first | (with_reducible first | exact HB.out | apply below_alloc | apply pw_below_drewN | apply below_drew1) | exact HB.out))); rintro e w52 ⟨rfl, hb⟩; refine ⟨_, rfl, ?_⟩; have n0_ := Aside0.mk (below_step (by repeat (first | (with_reducible first | exact HB.out | apply below_alloc | apply pw_below_drewN | apply below_drew1) | exact HB.out)) hb); clear HB; have HB := n0_; clear n0_; (try clear hb); (try clear hb2); (try clear hk); (try clear hi)) | (go_at_call 36; (with_reducible refine (seg_Name.calls t190 t195 _ ?side1 A49.out).mono ?_); (case side1 => first | (with_reducible exact HT.out) | exact tabAt HT.out (by repeat (first | (with_reducible first | exact HB.out | apply below_alloc | apply pw_below_drewN | apply below_drew1) | exact HB.out))); rintro e w53 ⟨rfl, hb⟩; have n0_ := Aside0.mk (below_step (by repeat (first | (with_reducible first | exact HB.out | apply below_alloc | apply pw_below_drewN | apply below_drew1) | exact HB.out)) hb); clear HB; have HB := n0_; clear n0_; (try clear hb); (try clear hb2); (try clear hk); (try clear hi)))
            go_ret
            exact ⟨by first | rfl | (simp [errW_none, errW_some] <;> rfl) | (simp [*, errW_none, errW_some] <;> rfl), by repeat (first | (with_reducible first | exact HB.out | apply below_alloc | apply pw_below_drewN | apply below_drew1) | exact HB.out)⟩
           ·rw [if_neg c50] at H
            have c50b0 : (t195.toList == a2.toList) = false := beq_eq_false_iff_ne.mpr c50
            have c50b1 : (t195.toList != a2.toList) = true := bne_iff_ne.mpr c50
            exact absurd ((Option.some.inj H).trans hr_.out) (by simp)
          ·replace c48 := Bool.eq_false_iff.mpr c48
           subst c48
           have H1 : (some (t190 == 0)) = some r := by rw [if_neg (show ¬ (false = true) by decide)] at H; exact H
           clear H
           have H := H1
           clear H1
           obtain rfl := Option.some.inj H
           go_wp2_with (first | ((with_reducible refine gate_callee (f := 30) rfl ?_); refine goesL_ (some 53) rfl rfl Tryd.func30 (by kernel_rfl) rfl #[.string a2] rfl (by (try simp only [List.map_toArray, List.map_cons, List.map_nil]); first | done | rfl | (simp only [List.length_drop, List.length_take]; rfl)) ?_; (with_reducible refine (seg_Number.calls kj12 a2 t190 false _ ?side1 A26.out).mono ?_); (case side1 => first | (with_reducible exact HT.out) | exact tabAt HT.out (by repeat (first | (with_reducible first | exact HB.out | apply below_alloc | apply pw_below_drewN | apply below_drew1) | exact HB.out))); rintro e w54 ⟨rfl, hb⟩; refine ⟨_, rfl, ?_⟩; have n0_ := Aside0.mk (below_step (by repeat (first | (with_reducible first | exact HB.out | apply below_alloc | apply pw_below_drewN | apply below_drew1) | exact HB.out)) hb); clear HB; have HB := n0_; clear n0_; (try clear hb); (try clear hb2); (try clear hk); (try clear hi)) | ((with_reducible refine gate_callee (f := 29) rfl ?_); refine goesL_ (some 56) rfl rfl Tryd.func29 (by kernel_rfl) rfl #[] rfl (by (try simp only [List.map_toArray, List.map_cons, List.map_nil]); first | done | rfl | (simp only [List.length_drop, List.length_take]; rfl)) ?_; (with_reducible refine (tiklaw16_first.calls kj12  true _ ?side1 A27.out).mono ?_); (case side1 => first | (with_reducible exact HT.out) | exact tabAt HT.out (by repeat (first | (with_reducible first | exact HB.out | apply below_alloc | apply pw_below_drewN | apply below_drew1) | exact HB.out))); rintro e w55 ⟨rfl, hb⟩; refine ⟨_, rfl, ?_⟩; have n0_ := Aside0.mk (below_step (by repeat (first | (with_reducible first | exact HB.out | apply below_alloc | apply pw_below_drewN | apply below_drew1) | exact HB.out)) hb); clear HB; have HB := n0_; clear n0_; (try clear hb); (try clear hb2); (try clear hk); (try clear hi)))
           go_ret
           exact ⟨by first | rfl | (simp [errW_none, errW_some] <;> rfl) | (simp [*, errW_none, errW_some] <;> rfl), by repeat (first | (with_reducible first | exact HB.out | apply below_alloc | apply pw_below_drewN | apply below_drew1) | exact HB.out)⟩
         ·rw [if_neg c47] at H
          have c47b0 : ((Op.bytesLess t186.toList t187.toList) == (decide (a0 < a1))) = false := by simpa using c47
          (try (have c47b1 : decide ((Op.bytesLess t186.toList t187.toList) = (decide (a0 < a1))) = false := by simpa using c47))
          (try (have c47b2 : ((Op.bytesLess t186.toList t187.toList) == (decide (a0 < a1))) = false := by simpa using c47))
          (try (have c47b3 : ¬ ((Op.bytesLess t186.toList t187.toList) = (decide (a0 < a1))) := by simpa using c47))
          clear c47
          exact absurd ((Option.some.inj H).trans hr_.out) (by simp)
      ·replace c28 := Bool.eq_false_iff.mpr c28
       subst c28
       have H1 : (some false) = some r := by rw [if_neg (show ¬ (false = true) by decide)] at H; exact H
       clear H
       have H := H1
       clear H1
       exact absurd ((Option.some.inj H).trans hr_.out) (by simp)
 ·replace c5 := Bool.eq_false_iff.mpr c5
  subst c5
  have H1 : (some false) = some r := by rw [if_neg (show ¬ (false = true) by decide)] at H; exact H
  clear H
  have H := H1
  clear H1
  exact absurd ((Option.some.inj H).trans hr_.out) (by simp)
end Go.Proofs.YtlgfmmkabnbllaaDoor.PS
namespace Go.Proofs.YtlgfmmkabnbllaaDoor.Hand
open Go.RowKit Go.Proofs.YtlgfmmkabnbllaaDoorW.PrintWords Go.Proofs.YtlgfmmkabnbllaaDoorW.PrintLast Go.Proofs.YtlgfmmkabnbllaaDoorW.PrintMore Go.Proofs.YtlgfmmkabnbllaaDoor.PA Go.Proofs.YtlgfmmkabnbllaaDoor.PS
def dU (n j : Nat) : UInt8 := UInt8.ofNat (48 + n / 10 ^ j % 10)
def digL : Nat → Nat → List UInt8
  | 0, _ => []
  | j + 1, n => dU n j :: digL j n
theorem dU_nat (n j : Nat) : (dU n j).toNat = 48 + n / 10 ^ j % 10 := by
  unfold dU
  rw [UInt8.toNat_ofNat', Nat.mod_eq_of_lt (by have := Nat.mod_lt (n / 10 ^ j) (show 0 < 10 by decide); omega)]
theorem dec_big {u : Nat} (h : 10 ≤ u) : Lib.decDigits u = Lib.decDigits (u / 10) ++ [UInt8.ofNat (48 + u % 10)] := by
  rw [Lib.decDigits, dif_neg (by omega)]
theorem dec7 (n : Nat) (h : n < 1000000) : Lib.decDigits (1000000 + n) = 49 :: digL 6 n := by
  have h1 : (1000000 + n) / 10 / 10 / 10 / 10 / 10 / 10 = 1 := by omega
  rw [dec_big (by omega), dec_big (by omega), dec_big (by omega), dec_big (by omega), dec_big (by omega), dec_big (by omega), h1]
  have e0 : Lib.decDigits 1 = [49] := by rw [Lib.decDigits, dif_pos (by omega)]; rfl
  rw [e0]
  simp only [digL, dU, List.cons_append, List.nil_append]
  have a0 : (1000000 + n) / 10 / 10 / 10 / 10 / 10 % 10 = n / 10 ^ 5 % 10 := by omega
  have a1 : (1000000 + n) / 10 / 10 / 10 / 10 % 10 = n / 10 ^ 4 % 10 := by omega
  have a2 : (1000000 + n) / 10 / 10 / 10 % 10 = n / 10 ^ 3 % 10 := by omega
  have a3 : (1000000 + n) / 10 / 10 % 10 = n / 10 ^ 2 % 10 := by omega
  have a4 : (1000000 + n) / 10 % 10 = n / 10 ^ 1 % 10 := by omega
  have a5 : (1000000 + n) % 10 = n / 10 ^ 0 % 10 := by omega
  rw [a0, a1, a2, a3, a4, a5]
def nameB (n : Nat) : ByteArray := ⟨(115 :: digL 6 n).toArray⟩
def nameV (a : Int) : ByteArray := if a < 1 ∨ a > 999999 then ⟨#[]⟩ else nameB a.toNat
theorem cut7 (a b c d e f : UInt8) : (⟨#[115]⟩ : ByteArray) ++ (⟨#[49, a, b, c, d, e, f]⟩ : ByteArray).extract 1 7 = ⟨#[115, a, b, c, d, e, f]⟩ := rfl
theorem name_f (a : Int) : seg_Name.f a = some (nameV a) := by
  unfold seg_Name.f nameV
  by_cases h1 : a < 1
  · rw [if_pos h1, if_pos (.inl h1)]
  by_cases h2 : a > 999999
  · rw [if_neg h1, if_pos h2, if_pos (.inr h2)]
  rw [if_neg h1, if_neg h2, if_neg (by omega)]
  have hw : wrap64 (1000000 + a) = ((1000000 + a.toNat : Nat) : Int) := by rw [IntWalk.wrap64_in _ ⟨by omega, by omega⟩]; omega
  have hI : strconv_Itoa.f ((1000000 + a.toNat : Nat) : Int) = some ⟨(49 :: digL 6 a.toNat).toArray⟩ := by
    unfold strconv_Itoa.f
    rw [if_pos ⟨by omega, by omega⟩, Lib.itoa_nonneg, dec7 _ (by omega)]
  rw [hw, hI]
  simp only [Option.bind_some]
  have hs : (⟨(49 :: digL 6 a.toNat).toArray⟩ : ByteArray).size = 7 := rfl
  rw [hs, if_pos (by decide), if_pos (by rw [ByteArray.size_extract, hs]; decide)]
  exact congrArg some (cut7 _ _ _ _ _ _)
theorem bt_name (n : Nat) (j : Nat) (h : j < 6) : bt (nameB n) ((j : Int) + 1) = 48 + ((n / 10 ^ (5 - j) % 10 : Nat) : Int) := by
  have h6 : j = 0 ∨ j = 1 ∨ j = 2 ∨ j = 3 ∨ j = 4 ∨ j = 5 := by omega
  rcases h6 with rfl | rfl | rfl | rfl | rfl | rfl
  · show ((dU n 5).toNat : Int) = _
    rw [dU_nat]; omega
  · show ((dU n 4).toNat : Int) = _
    rw [dU_nat]; omega
  · show ((dU n 3).toNat : Int) = _
    rw [dU_nat]; omega
  · show ((dU n 2).toNat : Int) = _
    rw [dU_nat]; omega
  · show ((dU n 1).toNat : Int) = _
    rw [dU_nat]; omega
  · show ((dU n 0).toNat : Int) = _
    rw [dU_nat]; omega
theorem num_step (k : Nat) (s : ByteArray) (n d : Int) (j : Int) (h1 : 1 ≤ j) (h6 : j ≤ 6) (hj : j < s.size) (hb : bt s j = 48 + d) (hd : 0 ≤ d ∧ d ≤ 9) (hn : 0 ≤ n ∧ n ≤ 100000) :
    seg_Number.l0 (k + 1) s n j = seg_Number.l0 k s (n * 10 + d) (j + 1) := by
  rw [seg_Number.l0, if_pos hj, if_pos h6, if_pos (by omega), hb]
  rw [IntWalk.wrap64_in (n * 10) ⟨by omega, by omega⟩, IntWalk.wrap64_in (48 + d) ⟨by omega, by omega⟩, IntWalk.wrap64_in (n * 10 + (48 + d)) ⟨by omega, by omega⟩, IntWalk.wrap64_in (n * 10 + (48 + d) - 48) ⟨by omega, by omega⟩, IntWalk.wrap64_in (j + 1) ⟨by omega, by omega⟩]
  congr 1
  omega
theorem num_name (k : Nat) (a : Int) (h0 : 1 ≤ a) (h1 : a ≤ 999999) : seg_Number.f (k + 7) (nameV a) = some (a, true) := by
  obtain ⟨n, rfl⟩ : ∃ n : Nat, a = n := ⟨a.toNat, by omega⟩
  have hv : nameV (n : Int) = nameB n := by unfold nameV; rw [if_neg (by omega)]; rfl
  have hs : ((nameB n).size : Int) = 7 := rfl
  unfold seg_Number.f
  rw [hv]
  rw [num_step (k + 6) _ 0 ((n / 10 ^ 5 % 10 : Nat) : Int) 1 (by omega) (by omega) (by omega) (bt_name n 0 (by omega)) (by omega) (by omega)]
  rw [num_step (k + 5) _ _ ((n / 10 ^ 4 % 10 : Nat) : Int) (1 + 1) (by omega) (by omega) (by omega) (bt_name n 1 (by omega)) (by omega) (by omega)]
  rw [num_step (k + 4) _ _ ((n / 10 ^ 3 % 10 : Nat) : Int) (1 + 1 + 1) (by omega) (by omega) (by omega) (bt_name n 2 (by omega)) (by omega) (by omega)]
  rw [num_step (k + 3) _ _ ((n / 10 ^ 2 % 10 : Nat) : Int) (1 + 1 + 1 + 1) (by omega) (by omega) (by omega) (bt_name n 3 (by omega)) (by omega) (by omega)]
  rw [num_step (k + 2) _ _ ((n / 10 ^ 1 % 10 : Nat) : Int) (1 + 1 + 1 + 1 + 1) (by omega) (by omega) (by omega) (bt_name n 4 (by omega)) (by omega) (by omega)]
  rw [num_step (k + 1) _ _ ((n / 10 ^ 0 % 10 : Nat) : Int) (1 + 1 + 1 + 1 + 1 + 1) (by omega) (by omega) (by omega) (bt_name n 5 (by omega)) (by omega) (by omega)]
  have hn : (((((0 * 10 + ((n / 10 ^ 5 % 10 : Nat) : Int)) * 10 + ((n / 10 ^ 4 % 10 : Nat) : Int)) * 10 + ((n / 10 ^ 3 % 10 : Nat) : Int)) * 10 + ((n / 10 ^ 2 % 10 : Nat) : Int)) * 10 + ((n / 10 ^ 1 % 10 : Nat) : Int)) * 10 + ((n / 10 ^ 0 % 10 : Nat) : Int) = (n : Int) := by omega
  rw [hn, seg_Number.l0, if_neg (by omega), if_neg (by omega), name_f, hv]
  simp
theorem num_l0 (s : ByteArray) : ∀ (m k : Nat) (n j : Int), 0 ≤ j → 7 - j ≤ m → m ≤ 7 → ∃ x b, seg_Number.l0 (k + m + 1) s n j = some (x, b) ∧ (b = true → 1 ≤ x ∧ (nameV x).toList = s.toList) ∧ (b = false → x = 0)
  | m, k, n, j, h0, hm, h7 => by
    have done : ∃ x b, (if n < 1 then (some (0, false)) else ((seg_Name.f n).bind fun t102 => (if t102.toList = s.toList then (some (n, true)) else (some (0, false))))) = some (x, b) ∧ (b = true → 1 ≤ x ∧ (nameV x).toList = s.toList) ∧ (b = false → x = 0) := by
      by_cases hn : n < 1
      · exact ⟨0, false, by rw [if_pos hn], by simp, by simp⟩
      rw [if_neg hn, name_f, Option.bind_some]
      by_cases he : (nameV n).toList = s.toList
      · exact ⟨n, true, by rw [if_pos he], fun _ => ⟨by omega, he⟩, by simp⟩
      · exact ⟨0, false, by rw [if_neg he], by simp, by simp⟩
    rw [seg_Number.l0]
    by_cases h1 : j < (s.size : Int)
    · rw [if_pos h1]
      by_cases h2 : j ≤ 6
      · rw [if_pos h2, if_pos h0, IntWalk.wrap64_in (j + 1) ⟨by omega, by omega⟩]
        match m, hm, h7 with
        | 0, hm, _ => omega
        | m + 1, hm, h7 => exact num_l0 s m k _ (j + 1) (by omega) (by omega) (by omega)
      · rw [if_neg h2]; exact done
    · rw [if_neg h1]; exact done
theorem num_any (k : Nat) (s : ByteArray) : ∃ x b, seg_Number.f (k + 8) s = some (x, b) ∧ (b = true → 1 ≤ x ∧ (nameV x).toList = s.toList) ∧ (b = false → x = 0) :=
  num_l0 s 7 k 0 1 (by omega) (by omega) (by omega)
theorem less_cons (x y : UInt8) (X Y : List UInt8) : Op.bytesLess (x :: X) (y :: Y) = (decide (x < y) || (x == y && Op.bytesLess X Y)) := by simp [Op.bytesLess]
theorem less_dig : ∀ (j a b : Nat), Op.bytesLess (digL j a) (digL j b) = decide (a % 10 ^ j < b % 10 ^ j)
  | 0, a, b => by simp [digL, Op.bytesLess, Nat.mod_one]
  | j + 1, a, b => by
    have hp : 0 < 10 ^ j := Nat.pow_pos (by decide)
    have ea : a % 10 ^ (j + 1) = a % 10 ^ j + 10 ^ j * (a / 10 ^ j % 10) := by rw [Nat.pow_succ, Nat.mod_mul]
    have eb : b % 10 ^ (j + 1) = b % 10 ^ j + 10 ^ j * (b / 10 ^ j % 10) := by rw [Nat.pow_succ, Nat.mod_mul]
    have ra := Nat.mod_lt a hp
    have rb := Nat.mod_lt b hp
    rw [digL, digL, less_cons, less_dig j a b, ea, eb]
    have hx : (dU a j < dU b j) ↔ (a / 10 ^ j % 10 < b / 10 ^ j % 10) := by rw [UInt8.lt_iff_toNat_lt, dU_nat, dU_nat]; omega
    have hy : (dU a j = dU b j) ↔ (a / 10 ^ j % 10 = b / 10 ^ j % 10) := by rw [← UInt8.toNat_inj, dU_nat, dU_nat]; omega
    generalize a / 10 ^ j % 10 = da at *
    generalize b / 10 ^ j % 10 = db at *
    generalize a % 10 ^ j = xa at *
    generalize b % 10 ^ j = xb at *
    generalize 10 ^ j = P at *
    rcases Nat.lt_trichotomy da db with h | h | h
    · have h3 : P * (da + 1) ≤ P * db := Nat.mul_le_mul_left _ h
      rw [Nat.mul_add, Nat.mul_one] at h3
      rw [decide_eq_true (hx.2 h), Bool.true_or, decide_eq_true (by omega)]
    · subst h
      rw [decide_eq_false (fun h => by have := hx.1 h; omega), Bool.false_or, beq_iff_eq.2 (hy.2 rfl), Bool.true_and]
      congr 1
      apply propext
      constructor <;> intro h <;> omega
    · have h3 : P * (db + 1) ≤ P * da := Nat.mul_le_mul_left _ h
      rw [Nat.mul_add, Nat.mul_one] at h3
      have hne : (dU a j == dU b j) = false := by
        rw [beq_eq_false_iff_ne]
        intro h4
        have := hy.1 h4
        omega
      rw [decide_eq_false (fun h => by have := hx.1 h; omega), hne, Bool.false_and, Bool.or_false, decide_eq_false (by omega)]
theorem less_name (a b : Nat) (ha : a ≤ 999999) (hb : b ≤ 999999) : Op.bytesLess (nameB a).toList (nameB b).toList = decide (a < b) := by
  have e : ∀ n, (nameB n).toList = 115 :: digL 6 n := fun n => by rw [show nameB n = ⟨(115 :: digL 6 n).toArray⟩ from rfl, ByteArray.toList_eq]
  rw [e, e, less_cons, less_dig, Nat.mod_eq_of_lt (by omega), Nat.mod_eq_of_lt (by omega)]
  simp
end Go.Proofs.YtlgfmmkabnbllaaDoor.Hand
namespace Go.Proofs.YtlgfmmkabnbllaaDoor.Hand
open Go.RowKit Go.Proofs.YtlgfmmkabnbllaaDoorW.PrintWords Go.Proofs.YtlgfmmkabnbllaaDoorW.PrintLast Go.Proofs.YtlgfmmkabnbllaaDoorW.PrintMore Go.Proofs.YtlgfmmkabnbllaaDoor.PA Go.Proofs.YtlgfmmkabnbllaaDoor.PS
def hdr7 : List Int := [84, 84, 83, 49, 0, 0, 0, 7, 0, 0, 0, 0, 0, 0, 0, 3, 136, 219, 168, 120]
theorem name7 : nameV 7 = (⟨#[115, 48, 48, 48, 48, 48, 55]⟩ : ByteArray) := rfl
theorem hdrA : seg_Header.f 400 7 3 = some (hdr7, 0) := by decide +kernel
theorem hdrB : seg_Header.f 399 7 3 = some (hdr7, 0) := by decide +kernel
theorem readA : seg_Read.f 400 hdr7 = some (7, 3, ([] : List S93), 20, 0) := by kernel_rfl
theorem readB : seg_Read.f 399 hdr7 = some (7, 3, ([] : List S93), 20, 0) := by kernel_rfl
theorem first_of {k : Nat} (h1 : seg_Header.f (k + 7) 7 3 = some (hdr7, 0)) (h2 : seg_Read.f (k + 7) hdr7 = some (7, 3, ([] : List S93), 20, 0)) : tiklaw16_first.f (k + 7) = some true := by
  unfold tiklaw16_first.f
  rw [h1, Option.bind_some, h2, Option.bind_some, ← name7, num_name k 7 (by omega) (by omega), Option.bind_some, name_f, Option.bind_some, name7, ByteArray.toList_eq]
  rfl
theorem firstA : tiklaw16_first.f 400 = some true := first_of (k := 393) hdrA readA
theorem firstB : tiklaw16_first.f 399 = some true := first_of (k := 392) hdrB readB
theorem names_in {a : Int} (h : ¬ (a < 1 ∨ a > 999999)) : nameV a = nameB a.toNat ∧ (nameV a).toList ≠ [] := by
  have h1 : nameV a = nameB a.toNat := by unfold nameV; rw [if_neg h]
  refine ⟨h1, ?_⟩
  rw [h1, ByteArray.toList_eq]
  exact List.cons_ne_nil _ _
theorem names_out {a : Int} (h : a < 1 ∨ a > 999999) : nameV a = ⟨#[]⟩ ∧ (nameV a).toList = [] := by
  have h1 : nameV a = ⟨#[]⟩ := by unfold nameV; rw [if_pos h]
  refine ⟨h1, ?_⟩
  rw [h1, ByteArray.toList_eq]
theorem names_j0 (k : Nat) (hf : tiklaw16_first.f (k + 8) = some true) (a b : Int) (s : ByteArray) : tiklaw16_SegNames.j0 (k + 8 + 1) a b s (nameV a) (nameV b) false = some true := by
  obtain ⟨x, is, hn, h1, h2⟩ := num_any k s
  have inner : (if is = true then ((seg_Name.f x).bind fun t193 => (if t193.toList = s.toList then (some true) else (some false))) else (some (x == 0))) = some true := by
    cases is
    · rw [if_neg (by decide), h2 rfl]; rfl
    · rw [if_pos rfl, name_f, Option.bind_some, if_pos (h1 rfl).2]
  rw [tiklaw16_SegNames.j0, if_neg (by decide), hn, Option.bind_some, hf, Option.bind_some, if_pos rfl]
  by_cases ha : a < 1 ∨ a > 999999
  · rw [if_pos (names_out ha).2]; exact inner
  rw [if_neg (names_in ha).2]
  by_cases hb : b < 1 ∨ b > 999999
  · rw [if_pos (names_out hb).2]; exact inner
  rw [if_neg (names_in hb).2, (names_in ha).1, (names_in hb).1, less_name _ _ (by omega) (by omega)]
  have hd : decide (a.toNat < b.toNat) = decide (a < b) := by
    congr 1
    apply propext
    omega
  rw [hd, if_pos (by simp)]
  exact inner
theorem segNames_any (a b : Int) (s : ByteArray) : tiklaw16_SegNames.f 400 a b s = some true := by
  have hj := names_j0 391 firstB a b s
  unfold tiklaw16_SegNames.f
  rw [firstA, Option.bind_some, if_pos rfl]
  by_cases hs : (s.size : Int) > 100
  · rw [if_pos hs, Option.bind_some]
  rw [if_neg hs, name_f, Option.bind_some, name_f, Option.bind_some]
  by_cases ha : a < 1 ∨ a > 999999
  · have hn : seg_Number.f 400 (nameV a) = some (0, false) := by rw [(names_out ha).1]; rfl
    rw [hn, Option.bind_some, (names_out ha).2]
    by_cases h1 : a ≥ 1
    · have h9 : decide (a ≤ 999999) = false := decide_eq_false (by omega)
      rw [if_pos h1, h9, if_neg (by simp), if_neg (by simp), if_neg (by simp)]
      exact hj
    · rw [if_neg h1, if_neg (by simp), if_neg (by simp), if_neg (by simp)]
      exact hj
  · have h3 : ((nameV a).toList != ([] : List UInt8)) = true := by simpa using (names_in ha).2
    have h9 : decide (a ≤ 999999) = true := decide_eq_true (by omega)
    rw [num_name 393 a (by omega) (by omega), Option.bind_some, h3, h9, if_pos (by omega), if_neg (by simp), if_neg (by simp), if_pos rfl]
    simp only [bne_self_eq_false]
    exact hj
end Go.Proofs.YtlgfmmkabnbllaaDoor.Hand
namespace Go.Proofs.YtlgfmmkabnbllaaDoor.RowSegNames
open Go.ChangeShapes Go.WideShapes Go.ChangeAt Go.RowKit
open Go.ChangeMaps (open_string shut_string)
open Go.Proofs.YtlgfmmkabnbllaaDoorW.PrintWords Go.Proofs.YtlgfmmkabnbllaaDoor.Opens
open Go.Proofs.YtlgfmmkabnbllaaDoor.Hand
open Go.Proofs.YtlgfmmkabnbllaaDoor.PS
open Go.Proofs.YtlgfmmkabnbllaaDoor
set_option linter.unusedVariables false
set_option linter.unusedSimpArgs false
theorem ownK : ownKnob Tryd.prog.godebug = none := by kernel_rfl
abbrev laid2 : List (String × DataW Unit) := [("math/bits.deBruijn32tab", Rows.laid_math_bits_deBruijn32tab), ("math/bits.deBruijn64tab", Rows.laid_math_bits_deBruijn64tab), ("internal/strconv.uint64pow10", Rows.laid_internal_strconv_uint64pow10)]
set_option maxRecDepth 100000 in
theorem door_met (os : Os) (args : Array Value) : laidMetH Tryd.prog laid2 ((World.doorLaid Tryd.prog 400 os).forCall (fun _ _ => 0) ⟨#[], args, []⟩).memory :=
  laidMetH_of_parts3 (fuel := 8) (laidMet_of_run' 8 (by kernel_rfl) (by kernel_rfl)) (by kernel_rfl) (by kernel_rfl)
set_option maxRecDepth 100000 in
theorem lifted (os : Os) (started : os.Started) (H : Type) (enc : TypeId × Value → H) :
    ReturnsInHanded {} Tryd.checked os 9 .any (fun w args => (Rows.segNamesSpec.pre enc Tryd.prog Tryd.f9 [] false w args ∧ laidMetH Tryd.prog laid2 w) ∧ sizedMet enc Tryd.prog Tryd.f9 (OpenSpec.ofChange Rows.segNamesSpec) false w args)
      (Rows.segNamesSpec.post enc Tryd.prog Tryd.f9 false true false false) := by
  refine returnsInHanded_of_change_and (C := Tryd.checked) (X := fun w _ => laidMetH Tryd.prog laid2 w) (fun _ _ _ hh h => h.of_heap hh) ownK started (by kernel_rfl) Tryd.func9
    (ChangeSpec.witness_shaped (enc := enc) (C := Tryd.checked) (os := os) (X := fun w _ => laidMetH Tryd.prog laid2 w) false (World.doorLaid Tryd.prog 400 os) #[.int .i64 0, .int .i64 0, .string ByteArray.empty] 8 rfl (World.shaped_of_RefB (by kernel_rfl) (by kernel_rfl)) (by kernel_rfl) (by kernel_rfl) (by kernel_rfl) (door_met os _)) ?_
  intro W base args ds gs before hval0 hW _ hsz0 hT _
  have hsz : (DataW.weightsEach Tryd.prog (Tryd.f9.params.toList ++ Rows.segNamesSpec.plain.varTypes Tryd.prog) (ds ++ gs)).all (· ≤ reachBytes) = true := hsz0
  have hval : ∀ (j : Nat) t v, Tryd.f9.params[j]? = some t → args[j]? = some v → Value.okWide Tryd.prog W .any base t v := hval0
  have hW' := hW
  obtain ⟨p, q, hA0, hV, rfl, hfz, hnd⟩ := hW
  have hA : DataW.TrodAll enc Tryd.prog W 0 (fun _ => true) true Tryd.f9.params.toList args.toList ds p := hA0
  rw [Tryd.params9] at hA hval hsz
  obtain ⟨v0, vs0, d0, ds0, p0, q0, hargs, rfl, rfl, h0, r0⟩ := trodAll_cons hA
  obtain ⟨v1, vs1, d1, ds1, p1, q1, rfl, rfl, rfl, h1, r1⟩ := trodAll_cons r0
  obtain ⟨v2, vs2, d2, ds2, p2, q2, rfl, rfl, rfl, h2, r2⟩ := trodAll_cons r1
  obtain ⟨rfl, rfl, rfl⟩ := trodAll_nil r2
  obtain rfl : args = #[v0, v1, v2] := by cases args; simp_all
  obtain ⟨rfl, rfl⟩ := trodVars_none hV
  obtain ⟨a0, rfl, rfl, rfl, w0⟩ := open_int Tryd.underlying3 (hval 0 3 v0 rfl rfl) h0
  obtain ⟨a1, rfl, rfl, rfl, w1⟩ := open_int Tryd.underlying3 (hval 1 3 v1 rfl rfl) h1
  obtain ⟨a2, rfl, rfl, rfl, y2⟩ := open_string Tryd.underlying9 (hval 2 9 v2 rfl rfl) h2
  have w2 : a2.size ≤ 140737488351232 := by
    have z := sized_string hsz (j := 2) (t := 9) rfl rfl
    rw [Array.length_toList] at z
    exact z
  clear hA0 hval0
  refine (tiklaw16_SegNames.calls 400 a0 a1 a2 true W (tabI_of hT) ⟨rfl⟩ (segNames_any a0 a1 a2)).mono fun e W' ⟨he, bel⟩ => ?_
  subst he
  exact ⟨_, rfl, _, _, _, [], _, [], hW', trodAll_mk1 (shut_bool Tryd.underlying4 _), (trodAll_cons_mk (shut_int Tryd.underlying3 w0) (trodAll_cons_mk (shut_int Tryd.underlying3 w1) (trodAll_cons_mk (shut_string Tryd.underlying9 y2) trodAll_mk0))), rfl, bel.frame _, fun h => by cases h⟩
theorem over : Rows.segNamesRow.holds Tryd.pinned (OpenSpec.ofChange Rows.segNamesSpec) :=
  OpenClaim.holds_of_wide 9 Tryd.f9 rfl rfl rfl rfl rfl rfl rfl ⟨rfl, rfl, rfl, rfl, rfl⟩ rfl rfl rfl rfl rfl (by kernel_rfl) Tryd.func9 (by kernel_rfl)
    (of_decide_eq_true (by kernel_rfl)) (by unfold Func.isWrapper; first | (rw [if_pos (by decide +kernel)]; kernel_rfl) | (rw [if_neg (by decide +kernel)]; exact ⟨rfl, rfl⟩))
    (fun os started H enc _ => lifted os started H enc)
theorem card : Rows.SegNamesCardSaid :=
  Claim7.holds_tied_plain_at .later [] [.data, .data, .data] true (true, "f4cce56c052b8147ed0d96dfe40f3886e39b5e64f551fd0da9ae368612f96104") true
    over (fun _ h => by cases h) (by kernel_rfl) (fun _ h => by cases h) segNames_row_tie rfl ⟨rfl, rfl⟩ (by kernel_rfl) rfl
    (fun f fn hf hfn => by
      obtain rfl : f = 9 := Option.some.inj ((show Tryd.prog.funcNamed "tickertape/tiklaw16.SegNames" = some 9 by kernel_rfl).symm.trans hf) |>.symm
      obtain rfl : fn = Tryd.f9 := (Option.some.inj (Tryd.func9.symm.trans hfn)).symm
      exact ⟨by kernel_rfl, fun j t ht => by
        rw [Tryd.params9] at ht
        have hm : t ∈ [3, 3, 9] := by simpa using Array.mem_of_getElem? ht
        have hall : ([3, 3, 9].all fun u => !Tryd.prog.wantsStandIn u) = true := by kernel_rfl
        exact (show Tryd.prog.wantsStandIn t = false by simpa using List.all_eq_true.1 hall t hm)⟩)
    (by kernel_rfl)
#print axioms card
end Go.Proofs.YtlgfmmkabnbllaaDoor.RowSegNames
namespace Go.Proofs.YtlgfmmkabnbllaaDoor
theorem segNames_holds : Rows.SegNamesCardSaid := RowSegNames.card
end Go.Proofs.YtlgfmmkabnbllaaDoor
