/- DeckAir: on air nothing of the film counts: a pause stands at its end, a seek where it was asked, held; a play, and what is no speed, is refused: the call returns true and leaves its arguments as they were. No condition; the table of the library is tied to the program's text. -/
import Derived.Test.YtlgfmmkabnbllaaDoorMDAb
import Derived.Test.YtlgfmmkabnbllaaDoorRows
import Derived.Test.YtlgfmmkabnbllaaDoorMDAa
import Derived.Test.YtlgfmmkabnbllaaDoorTie
import Derived.Test.YtlgfmmkabnbllaaDoorCards
import Derived.WalkKit
import Derived.ProofKit
import Derived.OpenShut
import Derived.ShutString
import Derived.ChangeOld
import Derived.Below
import Derived.SizedLaws
import Derived.LaidMore
import Derived.Stop.Joined
import Derived.SevenTiedAt
set_option linter.unusedVariables false
set_option linter.unusedSimpArgs false
namespace Go.Proofs.YtlgfmmkabnbllaaDoor.PT
open Go.RowKit Go.Proofs.YtlgfmmkabnbllaaDoorW.PrintWords Go.Proofs.YtlgfmmkabnbllaaDoorW.PrintLast Go.Proofs.YtlgfmmkabnbllaaDoorW.PrintMore
attribute [local go_sem] max2_int min2_int max_two min_two max_three min_three max_four min_four   -- for this text's walks alone
open Go.Proofs.YtlgfmmkabnbllaaDoor.Hand
open Go.Proofs.YtlgfmmkabnbllaaDoor.PA
open Go.Proofs.YtlgfmmkabnbllaaDoor.PB
open Go.Proofs.YtlgfmmkabnbllaaDoor.PC
open Go.Proofs.YtlgfmmkabnbllaaDoor.PM
set_option linter.unusedVariables false
set_option linter.unusedSimpArgs false

attribute [local go_sem high] eqA30
/-! ### tiklaw23_first: function 12 -/
def tiklaw23_first.j0 : Nat → Bool → Int → Int → Int → Int → Bool → Int → Int → Int → Int → Int → Option (Bool)
  | 0, _, _, _, _, _, _, _, _, _, _, _ => none
  | k + 1, x19, x112000, x112001, x112002, x112003, x112004, x112005, x112006, x112007, x112008, x112009 => if x19 = true then (some false) else ((deck_Deck_Mode.f x112000 x112001 x112002 x112003 x112004 x112005 x112006 x112007 x112008 x112009).bind fun bt145 => (if bt145.1 = 1 then ((deck_Deck_Pos.f bt145.2.1 bt145.2.2.1 bt145.2.2.2.1 bt145.2.2.2.2.1 bt145.2.2.2.2.2.1 bt145.2.2.2.2.2.2.1 bt145.2.2.2.2.2.2.2.1 bt145.2.2.2.2.2.2.2.2.1 bt145.2.2.2.2.2.2.2.2.2.1 bt145.2.2.2.2.2.2.2.2.2.2).bind fun bt156 => (if bt156.1 = 9 then ((deck_Deck_Seek.f bt156.2.1 bt156.2.2.1 bt156.2.2.2.1 bt156.2.2.2.2.1 bt156.2.2.2.2.2.1 bt156.2.2.2.2.2.2.1 bt156.2.2.2.2.2.2.2.1 bt156.2.2.2.2.2.2.2.2.1 bt156.2.2.2.2.2.2.2.2.2.1 bt156.2.2.2.2.2.2.2.2.2.2 5 2 9 1).bind fun bt167 => (if bt167.1 = 12 then ((rate_From.f 9221120237041090560).bind fun t178 => ((deck_Deck_Speed.f k bt167.2.1 bt167.2.2.1 bt167.2.2.2.1 bt167.2.2.2.2.1 bt167.2.2.2.2.2.1 bt167.2.2.2.2.2.2.1 bt167.2.2.2.2.2.2.2.1 bt167.2.2.2.2.2.2.2.2.1 bt167.2.2.2.2.2.2.2.2.2.1 bt167.2.2.2.2.2.2.2.2.2.2 5 t178).bind fun bt179 => (if bt179.1 = 10 then ((deck_Deck_Rate.f bt179.2.1 bt179.2.2.1 bt179.2.2.2.1 bt179.2.2.2.2.1 bt179.2.2.2.2.2.1 bt179.2.2.2.2.2.2.1 bt179.2.2.2.2.2.2.2.1 bt179.2.2.2.2.2.2.2.2.1 bt179.2.2.2.2.2.2.2.2.2.1 bt179.2.2.2.2.2.2.2.2.2.2).bind fun bt190 => (some (bt190.1 == 1 && (bt190.2.1 == 1)))) else (some false)))) else (some false))) else (some false))) else (some false)))
def tiklaw23_first.f (k : Nat)  : Option (Bool) := (deck_New.f).bind fun bt101 => (if false = true then (tiklaw23_first.j0 k true bt101.1 bt101.2.1 bt101.2.2.1 bt101.2.2.2.1 bt101.2.2.2.2.1 bt101.2.2.2.2.2.1 bt101.2.2.2.2.2.2.1 bt101.2.2.2.2.2.2.2.1 bt101.2.2.2.2.2.2.2.2.1 bt101.2.2.2.2.2.2.2.2.2) else ((deck_Deck_Mode.f bt101.1 bt101.2.1 bt101.2.2.1 bt101.2.2.2.1 bt101.2.2.2.2.1 bt101.2.2.2.2.2.1 bt101.2.2.2.2.2.2.1 bt101.2.2.2.2.2.2.2.1 bt101.2.2.2.2.2.2.2.2.1 bt101.2.2.2.2.2.2.2.2.2).bind fun bt112 => (if bt112.1 = 0 then ((deck_Deck_Play.f bt112.2.1 bt112.2.2.1 bt112.2.2.2.1 bt112.2.2.2.2.1 bt112.2.2.2.2.2.1 bt112.2.2.2.2.2.2.1 bt112.2.2.2.2.2.2.2.1 bt112.2.2.2.2.2.2.2.2.1 bt112.2.2.2.2.2.2.2.2.2.1 bt112.2.2.2.2.2.2.2.2.2.2 5 0 9).bind fun bt123 => (if bt123.1 = 13 then ((deck_Deck_Pause.f bt123.2.1 bt123.2.2.1 bt123.2.2.2.1 bt123.2.2.2.2.1 bt123.2.2.2.2.2.1 bt123.2.2.2.2.2.2.1 bt123.2.2.2.2.2.2.2.1 bt123.2.2.2.2.2.2.2.2.1 bt123.2.2.2.2.2.2.2.2.2.1 bt123.2.2.2.2.2.2.2.2.2.2 5 0 9).bind fun bt134 => (tiklaw23_first.j0 k (bt134.1 != 0) bt134.2.1 bt134.2.2.1 bt134.2.2.2.1 bt134.2.2.2.2.1 bt134.2.2.2.2.2.1 bt134.2.2.2.2.2.2.1 bt134.2.2.2.2.2.2.2.1 bt134.2.2.2.2.2.2.2.2.1 bt134.2.2.2.2.2.2.2.2.2.1 bt134.2.2.2.2.2.2.2.2.2.2)) else (tiklaw23_first.j0 k true bt123.2.1 bt123.2.2.1 bt123.2.2.2.1 bt123.2.2.2.2.1 bt123.2.2.2.2.2.1 bt123.2.2.2.2.2.2.1 bt123.2.2.2.2.2.2.2.1 bt123.2.2.2.2.2.2.2.2.1 bt123.2.2.2.2.2.2.2.2.2.1 bt123.2.2.2.2.2.2.2.2.2.2))) else (tiklaw23_first.j0 k true bt112.2.1 bt112.2.2.1 bt112.2.2.2.1 bt112.2.2.2.2.1 bt112.2.2.2.2.2.1 bt112.2.2.2.2.2.2.1 bt112.2.2.2.2.2.2.2.1 bt112.2.2.2.2.2.2.2.2.1 bt112.2.2.2.2.2.2.2.2.2.1 bt112.2.2.2.2.2.2.2.2.2.2))))
theorem tiklaw23_first.mono_l : ∀ k, (∀ y0 y1 y2 y3 y4 y5 y6 y7 y8 y9 y10, LeO (tiklaw23_first.j0 k y0 y1 y2 y3 y4 y5 y6 y7 y8 y9 y10) (tiklaw23_first.j0 (k + 1) y0 y1 y2 y3 y4 y5 y6 y7 y8 y9 y10))
  | 0 => fun _ _ _ _ _ _ _ _ _ _ _ r h => by simp [tiklaw23_first.j0] at h
  | k + 1 => by
    have ih0 := tiklaw23_first.mono_l k
    · intro y0 y1 y2 y3 y4 y5 y6 y7 y8 y9 y10
      unfold tiklaw23_first.j0
      repeat' first
      | (with_reducible exact ih0 _ _ _ _ _ _ _ _ _ _ _)
      | (with_reducible exact deck_Deck_Speed.mono _ _ _ _ _ _ _ _ _ _ _ _ _)
      | (with_reducible exact LeO.refl _)
      | (with_reducible exact LeO.none _)
      | (with_reducible refine LeO.ite ?_ ?_)
      | (with_reducible refine LeO.bind ?_ (fun _ => ?_))
      | exact ih0 _ _ _ _ _ _ _ _ _ _ _
      | exact deck_Deck_Speed.mono _ _ _ _ _ _ _ _ _ _ _ _ _
      | exact LeO.none _
      | refine LeO.ite ?_ ?_
      | refine LeO.bind ?_ (fun _ => ?_)
theorem tiklaw23_first.mono : ∀ k, LeO (tiklaw23_first.f k ) (tiklaw23_first.f (k + 1) ) := by
  intro  k
  have ih0 := tiklaw23_first.mono_l k
  unfold tiklaw23_first.f
  repeat' first
      | (with_reducible exact ih0 _ _ _ _ _ _ _ _ _ _ _)
      | (with_reducible exact deck_Deck_Speed.mono _ _ _ _ _ _ _ _ _ _ _ _ _)
      | (with_reducible exact LeO.refl _)
      | (with_reducible exact LeO.none _)
      | (with_reducible refine LeO.ite ?_ ?_)
      | (with_reducible refine LeO.bind ?_ (fun _ => ?_))
      | exact ih0 _ _ _ _ _ _ _ _ _ _ _
      | exact deck_Deck_Speed.mono _ _ _ _ _ _ _ _ _ _ _ _ _
      | exact LeO.none _
      | refine LeO.ite ?_ ?_
      | refine LeO.bind ?_ (fun _ => ?_)
set_option maxHeartbeats 8000000 in
set_option maxRecDepth 100000 in
theorem tiklaw23_first.calls (k : Nat)  (r : Bool) (w : World) (hT : TabW w) (h : tiklaw23_first.f k  = some r) :
    Calls Tryd.prog 12 #[] w fun e w' => e = .returned (.bool r) ∧ Below w.heap.size w w' := by
  have HT := Aside0.mk hT
  clear hT
  have hu30 := Tryd.underlying30
  have HB := Aside0.mk (Below.refl w.heap.size w)
  have H : ((deck_New.f).bind fun bt101 => (if false = true then (tiklaw23_first.j0 k true bt101.1 bt101.2.1 bt101.2.2.1 bt101.2.2.2.1 bt101.2.2.2.2.1 bt101.2.2.2.2.2.1 bt101.2.2.2.2.2.2.1 bt101.2.2.2.2.2.2.2.1 bt101.2.2.2.2.2.2.2.2.1 bt101.2.2.2.2.2.2.2.2.2) else ((deck_Deck_Mode.f bt101.1 bt101.2.1 bt101.2.2.1 bt101.2.2.2.1 bt101.2.2.2.2.1 bt101.2.2.2.2.2.1 bt101.2.2.2.2.2.2.1 bt101.2.2.2.2.2.2.2.1 bt101.2.2.2.2.2.2.2.2.1 bt101.2.2.2.2.2.2.2.2.2).bind fun bt112 => (if bt112.1 = 0 then ((deck_Deck_Play.f bt112.2.1 bt112.2.2.1 bt112.2.2.2.1 bt112.2.2.2.2.1 bt112.2.2.2.2.2.1 bt112.2.2.2.2.2.2.1 bt112.2.2.2.2.2.2.2.1 bt112.2.2.2.2.2.2.2.2.1 bt112.2.2.2.2.2.2.2.2.2.1 bt112.2.2.2.2.2.2.2.2.2.2 5 0 9).bind fun bt123 => (if bt123.1 = 13 then ((deck_Deck_Pause.f bt123.2.1 bt123.2.2.1 bt123.2.2.2.1 bt123.2.2.2.2.1 bt123.2.2.2.2.2.1 bt123.2.2.2.2.2.2.1 bt123.2.2.2.2.2.2.2.1 bt123.2.2.2.2.2.2.2.2.1 bt123.2.2.2.2.2.2.2.2.2.1 bt123.2.2.2.2.2.2.2.2.2.2 5 0 9).bind fun bt134 => (tiklaw23_first.j0 k (bt134.1 != 0) bt134.2.1 bt134.2.2.1 bt134.2.2.2.1 bt134.2.2.2.2.1 bt134.2.2.2.2.2.1 bt134.2.2.2.2.2.2.1 bt134.2.2.2.2.2.2.2.1 bt134.2.2.2.2.2.2.2.2.1 bt134.2.2.2.2.2.2.2.2.2.1 bt134.2.2.2.2.2.2.2.2.2.2)) else (tiklaw23_first.j0 k true bt123.2.1 bt123.2.2.1 bt123.2.2.2.1 bt123.2.2.2.2.1 bt123.2.2.2.2.2.1 bt123.2.2.2.2.2.2.1 bt123.2.2.2.2.2.2.2.1 bt123.2.2.2.2.2.2.2.2.1 bt123.2.2.2.2.2.2.2.2.2.1 bt123.2.2.2.2.2.2.2.2.2.2))) else (tiklaw23_first.j0 k true bt112.2.1 bt112.2.2.1 bt112.2.2.2.1 bt112.2.2.2.2.1 bt112.2.2.2.2.2.1 bt112.2.2.2.2.2.2.1 bt112.2.2.2.2.2.2.2.1 bt112.2.2.2.2.2.2.2.2.1 bt112.2.2.2.2.2.2.2.2.2.1 bt112.2.2.2.2.2.2.2.2.2.2))))) = some r := h
  clear h
  replace H := Option.bind_eq_some_iff.mp H
  obtain ⟨⟨t101, t102, t103, t104, t105, t106, t107, t108, t109, t110⟩, A10, H⟩ := H
  replace H : (if false = true then (tiklaw23_first.j0 k true t101 t102 t103 t104 t105 t106 t107 t108 t109 t110) else ((deck_Deck_Mode.f t101 t102 t103 t104 t105 t106 t107 t108 t109 t110).bind fun bt112 => (if bt112.1 = 0 then ((deck_Deck_Play.f bt112.2.1 bt112.2.2.1 bt112.2.2.2.1 bt112.2.2.2.2.1 bt112.2.2.2.2.2.1 bt112.2.2.2.2.2.2.1 bt112.2.2.2.2.2.2.2.1 bt112.2.2.2.2.2.2.2.2.1 bt112.2.2.2.2.2.2.2.2.2.1 bt112.2.2.2.2.2.2.2.2.2.2 5 0 9).bind fun bt123 => (if bt123.1 = 13 then ((deck_Deck_Pause.f bt123.2.1 bt123.2.2.1 bt123.2.2.2.1 bt123.2.2.2.2.1 bt123.2.2.2.2.2.1 bt123.2.2.2.2.2.2.1 bt123.2.2.2.2.2.2.2.1 bt123.2.2.2.2.2.2.2.2.1 bt123.2.2.2.2.2.2.2.2.2.1 bt123.2.2.2.2.2.2.2.2.2.2 5 0 9).bind fun bt134 => (tiklaw23_first.j0 k (bt134.1 != 0) bt134.2.1 bt134.2.2.1 bt134.2.2.2.1 bt134.2.2.2.2.1 bt134.2.2.2.2.2.1 bt134.2.2.2.2.2.2.1 bt134.2.2.2.2.2.2.2.1 bt134.2.2.2.2.2.2.2.2.1 bt134.2.2.2.2.2.2.2.2.2.1 bt134.2.2.2.2.2.2.2.2.2.2)) else (tiklaw23_first.j0 k true bt123.2.1 bt123.2.2.1 bt123.2.2.2.1 bt123.2.2.2.2.1 bt123.2.2.2.2.2.1 bt123.2.2.2.2.2.2.1 bt123.2.2.2.2.2.2.2.1 bt123.2.2.2.2.2.2.2.2.1 bt123.2.2.2.2.2.2.2.2.2.1 bt123.2.2.2.2.2.2.2.2.2.2))) else (tiklaw23_first.j0 k true bt112.2.1 bt112.2.2.1 bt112.2.2.2.1 bt112.2.2.2.2.1 bt112.2.2.2.2.2.1 bt112.2.2.2.2.2.2.1 bt112.2.2.2.2.2.2.2.1 bt112.2.2.2.2.2.2.2.2.1 bt112.2.2.2.2.2.2.2.2.2.1 bt112.2.2.2.2.2.2.2.2.2.2)))) = some r := H
  have A1 := Aside0.mk A10
  clear A10
  have HC2 := Aside0.mk H
  clear H
  go_enter Tryd.func12, Tryd.ntmps12
  go_upto_region 2 with (first | ((with_reducible refine gate_callee (f := 13) rfl ?_); refine goesL_ (some 2) rfl rfl Tryd.func13 (by kernel_rfl) rfl #[] rfl (by (try simp only [List.map_toArray, List.map_cons, List.map_nil]); first | done | rfl | (simp only [List.length_drop, List.length_take]; rfl)) ?_; (with_reducible refine (deck_New.calls  t101 t102 t103 t104 t105 t106 t107 t108 t109 t110 w _ ?side1 A1.out).mono ?_); (case side1 => repeat (first | (with_reducible first | exact HB.out | apply below_alloc | apply pw_below_drewN | apply below_drew1) | exact HB.out)); rintro e w3 ⟨g111, rfl, hi, hb, hb2, hnew⟩; refine ⟨_, rfl, ?_⟩; have n0_ := Aside0.mk (hb); have n1_ := Aside0.mk (hi); clear HB; have HB := n0_; have HI111 := n1_; clear n0_ n1_; (try clear hb); (try clear hb2); (try clear hk); (try clear hi)))
  (try simp only [Act.put, List.setIfInBounds_toArray, List.set_cons_zero, List.set_cons_succ])
  go_cut [19] (fun v19 wc => ∃ (kq : Nat) (x19_1 : Bool) (x112000_1 : Int) (x112001_1 : Int) (x112002_1 : Int) (x112003_1 : Int) (x112004_1 : Bool) (x112005_1 : Int) (x112006_1 : Int) (x112007_1 : Int) (x112008_1 : Int) (x112009_1 : Int), v19 = .bool x19_1 ∧ Aside0 (tiklaw23_first.j0 kq x19_1 x112000_1 x112001_1 x112002_1 x112003_1 x112004_1 x112005_1 x112006_1 x112007_1 x112008_1 x112009_1 = some r) ∧ Aside0 (kq ≤ k) ∧ Aside0 (IsS100 w wc g111 x112000_1 x112001_1 x112002_1 x112003_1 x112004_1 x112005_1 x112006_1 x112007_1 x112008_1 x112009_1) ∧ Aside0 (Below w.heap.size w wc))
  case first =>
    have H := HC2.out
    clear HC2
    have H1 : ((deck_Deck_Mode.f t101 t102 t103 t104 t105 t106 t107 t108 t109 t110).bind fun bt112 => (if bt112.1 = 0 then ((deck_Deck_Play.f bt112.2.1 bt112.2.2.1 bt112.2.2.2.1 bt112.2.2.2.2.1 bt112.2.2.2.2.2.1 bt112.2.2.2.2.2.2.1 bt112.2.2.2.2.2.2.2.1 bt112.2.2.2.2.2.2.2.2.1 bt112.2.2.2.2.2.2.2.2.2.1 bt112.2.2.2.2.2.2.2.2.2.2 5 0 9).bind fun bt123 => (if bt123.1 = 13 then ((deck_Deck_Pause.f bt123.2.1 bt123.2.2.1 bt123.2.2.2.1 bt123.2.2.2.2.1 bt123.2.2.2.2.2.1 bt123.2.2.2.2.2.2.1 bt123.2.2.2.2.2.2.2.1 bt123.2.2.2.2.2.2.2.2.1 bt123.2.2.2.2.2.2.2.2.2.1 bt123.2.2.2.2.2.2.2.2.2.2 5 0 9).bind fun bt134 => (tiklaw23_first.j0 k (bt134.1 != 0) bt134.2.1 bt134.2.2.1 bt134.2.2.2.1 bt134.2.2.2.2.1 bt134.2.2.2.2.2.1 bt134.2.2.2.2.2.2.1 bt134.2.2.2.2.2.2.2.1 bt134.2.2.2.2.2.2.2.2.1 bt134.2.2.2.2.2.2.2.2.2.1 bt134.2.2.2.2.2.2.2.2.2.2)) else (tiklaw23_first.j0 k true bt123.2.1 bt123.2.2.1 bt123.2.2.2.1 bt123.2.2.2.2.1 bt123.2.2.2.2.2.1 bt123.2.2.2.2.2.2.1 bt123.2.2.2.2.2.2.2.1 bt123.2.2.2.2.2.2.2.2.1 bt123.2.2.2.2.2.2.2.2.2.1 bt123.2.2.2.2.2.2.2.2.2.2))) else (tiklaw23_first.j0 k true bt112.2.1 bt112.2.2.1 bt112.2.2.2.1 bt112.2.2.2.2.1 bt112.2.2.2.2.2.1 bt112.2.2.2.2.2.2.1 bt112.2.2.2.2.2.2.2.1 bt112.2.2.2.2.2.2.2.2.1 bt112.2.2.2.2.2.2.2.2.2.1 bt112.2.2.2.2.2.2.2.2.2.2))) = some r := by first | (rw [if_neg (show ¬ (false = true) by decide)] at H; exact H) | exact (if_neg not_false).symm.trans H
    clear H
    have H := H1
    clear H1
    replace H := Option.bind_eq_some_iff.mp H
    obtain ⟨⟨t112, t113, t114, t115, t116, t117, t118, t119, t120, t121, t122⟩, A40, H⟩ := H
    replace H : (if t112 = 0 then ((deck_Deck_Play.f t113 t114 t115 t116 t117 t118 t119 t120 t121 t122 5 0 9).bind fun bt123 => (if bt123.1 = 13 then ((deck_Deck_Pause.f bt123.2.1 bt123.2.2.1 bt123.2.2.2.1 bt123.2.2.2.2.1 bt123.2.2.2.2.2.1 bt123.2.2.2.2.2.2.1 bt123.2.2.2.2.2.2.2.1 bt123.2.2.2.2.2.2.2.2.1 bt123.2.2.2.2.2.2.2.2.2.1 bt123.2.2.2.2.2.2.2.2.2.2 5 0 9).bind fun bt134 => (tiklaw23_first.j0 k (bt134.1 != 0) bt134.2.1 bt134.2.2.1 bt134.2.2.2.1 bt134.2.2.2.2.1 bt134.2.2.2.2.2.1 bt134.2.2.2.2.2.2.1 bt134.2.2.2.2.2.2.2.1 bt134.2.2.2.2.2.2.2.2.1 bt134.2.2.2.2.2.2.2.2.2.1 bt134.2.2.2.2.2.2.2.2.2.2)) else (tiklaw23_first.j0 k true bt123.2.1 bt123.2.2.1 bt123.2.2.2.1 bt123.2.2.2.2.1 bt123.2.2.2.2.2.1 bt123.2.2.2.2.2.2.1 bt123.2.2.2.2.2.2.2.1 bt123.2.2.2.2.2.2.2.2.1 bt123.2.2.2.2.2.2.2.2.2.1 bt123.2.2.2.2.2.2.2.2.2.2))) else (tiklaw23_first.j0 k true t113 t114 t115 t116 t117 t118 t119 t120 t121 t122)) = some r := H
    have A4 := Aside0.mk A40
    clear A40
    by_cases c5 : t112 = 0
    · rw [if_pos c5] at H
      have c5b0 : (t112 == 0) = true := beq_iff_eq.mpr c5
      have c5b1 : (t112 != 0) = false := bne_eq_false_iff_eq.mpr c5
      clear c5
      (first | rw [c5b0] | (simp only [i64_w, i32_w]; rw [c5b0]) | skip)
      replace H := Option.bind_eq_some_iff.mp H
      obtain ⟨⟨t123, t124, t125, t126, t127, t128, t129, t130, t131, t132, t133⟩, A60, H⟩ := H
      replace H : (if t123 = 13 then ((deck_Deck_Pause.f t124 t125 t126 t127 t128 t129 t130 t131 t132 t133 5 0 9).bind fun bt134 => (tiklaw23_first.j0 k (bt134.1 != 0) bt134.2.1 bt134.2.2.1 bt134.2.2.2.1 bt134.2.2.2.2.1 bt134.2.2.2.2.2.1 bt134.2.2.2.2.2.2.1 bt134.2.2.2.2.2.2.2.1 bt134.2.2.2.2.2.2.2.2.1 bt134.2.2.2.2.2.2.2.2.2.1 bt134.2.2.2.2.2.2.2.2.2.2)) else (tiklaw23_first.j0 k true t124 t125 t126 t127 t128 t129 t130 t131 t132 t133)) = some r := H
      have A6 := Aside0.mk A60
      clear A60
      by_cases c7 : t123 = 13
      · rw [if_pos c7] at H
        have c7b0 : (t123 == 13) = true := beq_iff_eq.mpr c7
        have c7b1 : (t123 != 13) = false := bne_eq_false_iff_eq.mpr c7
        clear c7
        replace H := Option.bind_eq_some_iff.mp H
        obtain ⟨⟨t134, t135, t136, t137, t138, t139, t140, t141, t142, t143, t144⟩, A80, H⟩ := H
        replace H : (tiklaw23_first.j0 k (t134 != 0) t135 t136 t137 t138 t139 t140 t141 t142 t143 t144) = some r := H
        have A8 := Aside0.mk A80
        clear A80
        have H' := Aside0.mk H
        clear H
        go_wp2_with (first | (go_at_call 18; (with_reducible refine (deck_Deck_Mode.calls g111 t101 t102 t103 t104 t105 t106 t107 t108 t109 t110 t112 t113 t114 t115 t116 t117 t118 t119 t120 t121 t122 w _ ?side1 ?side2 A4.out).mono ?_); (case side1 => repeat (first | (with_reducible first | exact HI111.out | apply IsS100.alloc | apply IsS100.drewN | apply IsS100.drew | apply IsS100.set_0 | apply IsS100.set_1 | apply IsS100.set_2 | apply IsS100.set_3 | apply IsS100.set_4 | apply IsS100.set_5 | apply IsS100.set_6 | apply IsS100.set_7 | apply IsS100.set_8 | apply IsS100.set_9) | exact HI111.out)); (case side2 => repeat (first | (with_reducible first | exact HB.out | apply below_alloc | apply pw_below_drewN | apply below_drew1 | refine below_set ?_ (IsS100.ge HI111.out)) | exact HB.out)); rintro e w9 ⟨rfl, hi, hb, hk⟩; have n0_ := Aside0.mk (hb); have n1_ := Aside0.mk (hi); clear HB; clear HI111; have HB := n0_; have HI111 := n1_; clear n0_ n1_; (try clear hb); (try clear hb2); (try clear hk); (try clear hi)) | (go_at_call 24; (with_reducible refine (deck_Deck_Play.calls g111 t113 t114 t115 t116 t117 t118 t119 t120 t121 t122 5 0 9 t123 t124 t125 t126 t127 t128 t129 t130 t131 t132 t133 w _ ?side1 ?side2 A6.out).mono ?_); (case side1 => repeat (first | (with_reducible first | exact HI111.out | apply IsS100.alloc | apply IsS100.drewN | apply IsS100.drew | apply IsS100.set_0 | apply IsS100.set_1 | apply IsS100.set_2 | apply IsS100.set_3 | apply IsS100.set_4 | apply IsS100.set_5 | apply IsS100.set_6 | apply IsS100.set_7 | apply IsS100.set_8 | apply IsS100.set_9) | exact HI111.out)); (case side2 => repeat (first | (with_reducible first | exact HB.out | apply below_alloc | apply pw_below_drewN | apply below_drew1 | refine below_set ?_ (IsS100.ge HI111.out)) | exact HB.out)); rintro e w10 ⟨rfl, hi, hb, hk⟩; have n0_ := Aside0.mk (hb); have n1_ := Aside0.mk (hi); clear HB; clear HI111; have HB := n0_; have HI111 := n1_; clear n0_ n1_; (try clear hb); (try clear hb2); (try clear hk); (try clear hi)) | (go_at_call 27; (with_reducible refine (deck_Deck_Pause.calls g111 t124 t125 t126 t127 t128 t129 t130 t131 t132 t133 5 0 9 t134 t135 t136 t137 t138 t139 t140 t141 t142 t143 t144 w _ ?side1 ?side2 A8.out).mono ?_); (case side1 => repeat (first | (with_reducible first | exact HI111.out | apply IsS100.alloc | apply IsS100.drewN | apply IsS100.drew | apply IsS100.set_0 | apply IsS100.set_1 | apply IsS100.set_2 | apply IsS100.set_3 | apply IsS100.set_4 | apply IsS100.set_5 | apply IsS100.set_6 | apply IsS100.set_7 | apply IsS100.set_8 | apply IsS100.set_9) | exact HI111.out)); (case side2 => repeat (first | (with_reducible first | exact HB.out | apply below_alloc | apply pw_below_drewN | apply below_drew1 | refine below_set ?_ (IsS100.ge HI111.out)) | exact HB.out)); rintro e w11 ⟨rfl, hi, hb, hk⟩; have n0_ := Aside0.mk (hb); have n1_ := Aside0.mk (hi); clear HB; clear HI111; have HB := n0_; have HI111 := n1_; clear n0_ n1_; (try clear hb); (try clear hb2); (try clear hk); (try clear hi)))
        go_meet
        case rel => exact ⟨_, ((t134 != 0)), (t135), (t136), (t137), (t138), (t139), (t140), (t141), (t142), (t143), (t144), (by first | rfl | (simp; done) | (simp [*]; done)), H', ⟨by first | omega | exact Nat.le_refl _⟩, ⟨by repeat (first | (with_reducible first | exact HI111.out | apply IsS100.alloc | apply IsS100.drewN | apply IsS100.drew | apply IsS100.set_0 | apply IsS100.set_1 | apply IsS100.set_2 | apply IsS100.set_3 | apply IsS100.set_4 | apply IsS100.set_5 | apply IsS100.set_6 | apply IsS100.set_7 | apply IsS100.set_8 | apply IsS100.set_9) | exact HI111.out)⟩, ⟨by repeat (first | (with_reducible first | exact HB.out | apply below_alloc | apply pw_below_drewN | apply below_drew1 | refine below_set ?_ (IsS100.ge HI111.out)) | exact HB.out)⟩⟩
      · rw [if_neg c7] at H
        have c7b0 : (t123 == 13) = false := beq_eq_false_iff_ne.mpr c7
        have c7b1 : (t123 != 13) = true := bne_iff_ne.mpr c7
        have H' := Aside0.mk H
        clear H
        go_wp2_with (first | (go_at_call 18; (with_reducible refine (deck_Deck_Mode.calls g111 t101 t102 t103 t104 t105 t106 t107 t108 t109 t110 t112 t113 t114 t115 t116 t117 t118 t119 t120 t121 t122 w _ ?side1 ?side2 A4.out).mono ?_); (case side1 => repeat (first | (with_reducible first | exact HI111.out | apply IsS100.alloc | apply IsS100.drewN | apply IsS100.drew | apply IsS100.set_0 | apply IsS100.set_1 | apply IsS100.set_2 | apply IsS100.set_3 | apply IsS100.set_4 | apply IsS100.set_5 | apply IsS100.set_6 | apply IsS100.set_7 | apply IsS100.set_8 | apply IsS100.set_9) | exact HI111.out)); (case side2 => repeat (first | (with_reducible first | exact HB.out | apply below_alloc | apply pw_below_drewN | apply below_drew1 | refine below_set ?_ (IsS100.ge HI111.out)) | exact HB.out)); rintro e w12 ⟨rfl, hi, hb, hk⟩; have n0_ := Aside0.mk (hb); have n1_ := Aside0.mk (hi); clear HB; clear HI111; have HB := n0_; have HI111 := n1_; clear n0_ n1_; (try clear hb); (try clear hb2); (try clear hk); (try clear hi)) | (go_at_call 24; (with_reducible refine (deck_Deck_Play.calls g111 t113 t114 t115 t116 t117 t118 t119 t120 t121 t122 5 0 9 t123 t124 t125 t126 t127 t128 t129 t130 t131 t132 t133 w _ ?side1 ?side2 A6.out).mono ?_); (case side1 => repeat (first | (with_reducible first | exact HI111.out | apply IsS100.alloc | apply IsS100.drewN | apply IsS100.drew | apply IsS100.set_0 | apply IsS100.set_1 | apply IsS100.set_2 | apply IsS100.set_3 | apply IsS100.set_4 | apply IsS100.set_5 | apply IsS100.set_6 | apply IsS100.set_7 | apply IsS100.set_8 | apply IsS100.set_9) | exact HI111.out)); (case side2 => repeat (first | (with_reducible first | exact HB.out | apply below_alloc | apply pw_below_drewN | apply below_drew1 | refine below_set ?_ (IsS100.ge HI111.out)) | exact HB.out)); rintro e w13 ⟨rfl, hi, hb, hk⟩; have n0_ := Aside0.mk (hb); have n1_ := Aside0.mk (hi); clear HB; clear HI111; have HB := n0_; have HI111 := n1_; clear n0_ n1_; (try clear hb); (try clear hb2); (try clear hk); (try clear hi)))
        go_meet
        case rel => exact ⟨_, (true), (t124), (t125), (t126), (t127), (t128), (t129), (t130), (t131), (t132), (t133), (by first | rfl | (simp; done) | (simp [*]; done)), H', ⟨by first | omega | exact Nat.le_refl _⟩, ⟨by repeat (first | (with_reducible first | exact HI111.out | apply IsS100.alloc | apply IsS100.drewN | apply IsS100.drew | apply IsS100.set_0 | apply IsS100.set_1 | apply IsS100.set_2 | apply IsS100.set_3 | apply IsS100.set_4 | apply IsS100.set_5 | apply IsS100.set_6 | apply IsS100.set_7 | apply IsS100.set_8 | apply IsS100.set_9) | exact HI111.out)⟩, ⟨by repeat (first | (with_reducible first | exact HB.out | apply below_alloc | apply pw_below_drewN | apply below_drew1 | refine below_set ?_ (IsS100.ge HI111.out)) | exact HB.out)⟩⟩
    · rw [if_neg c5] at H
      have c5b0 : (t112 == 0) = false := beq_eq_false_iff_ne.mpr c5
      have c5b1 : (t112 != 0) = true := bne_iff_ne.mpr c5
      (first | rw [c5b0] | (simp only [i64_w, i32_w]; rw [c5b0]) | skip)
      have H' := Aside0.mk H
      clear H
      go_wp2_with (first | (go_at_call 18; (with_reducible refine (deck_Deck_Mode.calls g111 t101 t102 t103 t104 t105 t106 t107 t108 t109 t110 t112 t113 t114 t115 t116 t117 t118 t119 t120 t121 t122 w _ ?side1 ?side2 A4.out).mono ?_); (case side1 => repeat (first | (with_reducible first | exact HI111.out | apply IsS100.alloc | apply IsS100.drewN | apply IsS100.drew | apply IsS100.set_0 | apply IsS100.set_1 | apply IsS100.set_2 | apply IsS100.set_3 | apply IsS100.set_4 | apply IsS100.set_5 | apply IsS100.set_6 | apply IsS100.set_7 | apply IsS100.set_8 | apply IsS100.set_9) | exact HI111.out)); (case side2 => repeat (first | (with_reducible first | exact HB.out | apply below_alloc | apply pw_below_drewN | apply below_drew1 | refine below_set ?_ (IsS100.ge HI111.out)) | exact HB.out)); rintro e w14 ⟨rfl, hi, hb, hk⟩; have n0_ := Aside0.mk (hb); have n1_ := Aside0.mk (hi); clear HB; clear HI111; have HB := n0_; have HI111 := n1_; clear n0_ n1_; (try clear hb); (try clear hb2); (try clear hk); (try clear hi)))
      go_meet
      case rel => exact ⟨_, (true), (t113), (t114), (t115), (t116), (t117), (t118), (t119), (t120), (t121), (t122), (by first | rfl | (simp; done) | (simp [*]; done)), H', ⟨by first | omega | exact Nat.le_refl _⟩, ⟨by repeat (first | (with_reducible first | exact HI111.out | apply IsS100.alloc | apply IsS100.drewN | apply IsS100.drew | apply IsS100.set_0 | apply IsS100.set_1 | apply IsS100.set_2 | apply IsS100.set_3 | apply IsS100.set_4 | apply IsS100.set_5 | apply IsS100.set_6 | apply IsS100.set_7 | apply IsS100.set_8 | apply IsS100.set_9) | exact HI111.out)⟩, ⟨by repeat (first | (with_reducible first | exact HB.out | apply below_alloc | apply pw_below_drewN | apply below_drew1 | refine below_set ?_ (IsS100.ge HI111.out)) | exact HB.out)⟩⟩
  case rest =>
    clear HC2
    try clear c1
    try clear p2
    try clear c5
    try clear c5b0
    try clear c5b1
    try clear c7
    try clear c7b0
    try clear c7b1
    try clear c12
    try clear c13
    obtain ⟨kq, x19_1, x112000_1, x112001_1, x112002_1, x112003_1, x112004_1, x112005_1, x112006_1, x112007_1, x112008_1, x112009_1, rfl, HA, HJ1, HI111, HB⟩ := hcut
    cases kq with
    | zero => exact absurd HA.out (by simp [tiklaw23_first.j0])
    | succ kj1 =>
      have H := HA.out
      clear HA
      simp only [tiklaw23_first.j0] at H
      by_cases c15 : x19_1 = true
      · subst c15
        have H1 : (some false) = some r := by rw [if_pos rfl] at H; exact H
        clear H
        have H := H1
        clear H1
        obtain rfl := Option.some.inj H
        go_wp2
        go_ret
        exact ⟨by first | rfl | (simp [errW_none, errW_some] <;> rfl) | (simp [*, errW_none, errW_some] <;> rfl), by repeat (first | (with_reducible first | exact HB.out | apply below_alloc | apply pw_below_drewN | apply below_drew1 | refine below_set ?_ (IsS100.ge HI111.out)) | exact HB.out)⟩
      · replace c15 := Bool.eq_false_iff.mpr c15
        subst c15
        have H1 : ((deck_Deck_Mode.f x112000_1 x112001_1 x112002_1 x112003_1 x112004_1 x112005_1 x112006_1 x112007_1 x112008_1 x112009_1).bind fun bt145 => (if bt145.1 = 1 then ((deck_Deck_Pos.f bt145.2.1 bt145.2.2.1 bt145.2.2.2.1 bt145.2.2.2.2.1 bt145.2.2.2.2.2.1 bt145.2.2.2.2.2.2.1 bt145.2.2.2.2.2.2.2.1 bt145.2.2.2.2.2.2.2.2.1 bt145.2.2.2.2.2.2.2.2.2.1 bt145.2.2.2.2.2.2.2.2.2.2).bind fun bt156 => (if bt156.1 = 9 then ((deck_Deck_Seek.f bt156.2.1 bt156.2.2.1 bt156.2.2.2.1 bt156.2.2.2.2.1 bt156.2.2.2.2.2.1 bt156.2.2.2.2.2.2.1 bt156.2.2.2.2.2.2.2.1 bt156.2.2.2.2.2.2.2.2.1 bt156.2.2.2.2.2.2.2.2.2.1 bt156.2.2.2.2.2.2.2.2.2.2 5 2 9 1).bind fun bt167 => (if bt167.1 = 12 then ((rate_From.f 9221120237041090560).bind fun t178 => ((deck_Deck_Speed.f kj1 bt167.2.1 bt167.2.2.1 bt167.2.2.2.1 bt167.2.2.2.2.1 bt167.2.2.2.2.2.1 bt167.2.2.2.2.2.2.1 bt167.2.2.2.2.2.2.2.1 bt167.2.2.2.2.2.2.2.2.1 bt167.2.2.2.2.2.2.2.2.2.1 bt167.2.2.2.2.2.2.2.2.2.2 5 t178).bind fun bt179 => (if bt179.1 = 10 then ((deck_Deck_Rate.f bt179.2.1 bt179.2.2.1 bt179.2.2.2.1 bt179.2.2.2.2.1 bt179.2.2.2.2.2.1 bt179.2.2.2.2.2.2.1 bt179.2.2.2.2.2.2.2.1 bt179.2.2.2.2.2.2.2.2.1 bt179.2.2.2.2.2.2.2.2.2.1 bt179.2.2.2.2.2.2.2.2.2.2).bind fun bt190 => (some (bt190.1 == 1 && (bt190.2.1 == 1)))) else (some false)))) else (some false))) else (some false))) else (some false))) = some r := by rw [if_neg (show ¬ (false = true) by decide)] at H; exact H
        clear H
        have H := H1
        clear H1
        replace H := Option.bind_eq_some_iff.mp H
        obtain ⟨⟨t145, t146, t147, t148, t149, t150, t151, t152, t153, t154, t155⟩, A160, H⟩ := H
        replace H : (if t145 = 1 then ((deck_Deck_Pos.f t146 t147 t148 t149 t150 t151 t152 t153 t154 t155).bind fun bt156 => (if bt156.1 = 9 then ((deck_Deck_Seek.f bt156.2.1 bt156.2.2.1 bt156.2.2.2.1 bt156.2.2.2.2.1 bt156.2.2.2.2.2.1 bt156.2.2.2.2.2.2.1 bt156.2.2.2.2.2.2.2.1 bt156.2.2.2.2.2.2.2.2.1 bt156.2.2.2.2.2.2.2.2.2.1 bt156.2.2.2.2.2.2.2.2.2.2 5 2 9 1).bind fun bt167 => (if bt167.1 = 12 then ((rate_From.f 9221120237041090560).bind fun t178 => ((deck_Deck_Speed.f kj1 bt167.2.1 bt167.2.2.1 bt167.2.2.2.1 bt167.2.2.2.2.1 bt167.2.2.2.2.2.1 bt167.2.2.2.2.2.2.1 bt167.2.2.2.2.2.2.2.1 bt167.2.2.2.2.2.2.2.2.1 bt167.2.2.2.2.2.2.2.2.2.1 bt167.2.2.2.2.2.2.2.2.2.2 5 t178).bind fun bt179 => (if bt179.1 = 10 then ((deck_Deck_Rate.f bt179.2.1 bt179.2.2.1 bt179.2.2.2.1 bt179.2.2.2.2.1 bt179.2.2.2.2.2.1 bt179.2.2.2.2.2.2.1 bt179.2.2.2.2.2.2.2.1 bt179.2.2.2.2.2.2.2.2.1 bt179.2.2.2.2.2.2.2.2.2.1 bt179.2.2.2.2.2.2.2.2.2.2).bind fun bt190 => (some (bt190.1 == 1 && (bt190.2.1 == 1)))) else (some false)))) else (some false))) else (some false))) else (some false)) = some r := H
        have A16 := Aside0.mk A160
        clear A160
        by_cases c17 : t145 = 1
        · rw [if_pos c17] at H
          have c17b0 : (t145 == 1) = true := beq_iff_eq.mpr c17
          have c17b1 : (t145 != 1) = false := bne_eq_false_iff_eq.mpr c17
          clear c17
          replace H := Option.bind_eq_some_iff.mp H
          obtain ⟨⟨t156, t157, t158, t159, t160, t161, t162, t163, t164, t165, t166⟩, A180, H⟩ := H
          replace H : (if t156 = 9 then ((deck_Deck_Seek.f t157 t158 t159 t160 t161 t162 t163 t164 t165 t166 5 2 9 1).bind fun bt167 => (if bt167.1 = 12 then ((rate_From.f 9221120237041090560).bind fun t178 => ((deck_Deck_Speed.f kj1 bt167.2.1 bt167.2.2.1 bt167.2.2.2.1 bt167.2.2.2.2.1 bt167.2.2.2.2.2.1 bt167.2.2.2.2.2.2.1 bt167.2.2.2.2.2.2.2.1 bt167.2.2.2.2.2.2.2.2.1 bt167.2.2.2.2.2.2.2.2.2.1 bt167.2.2.2.2.2.2.2.2.2.2 5 t178).bind fun bt179 => (if bt179.1 = 10 then ((deck_Deck_Rate.f bt179.2.1 bt179.2.2.1 bt179.2.2.2.1 bt179.2.2.2.2.1 bt179.2.2.2.2.2.1 bt179.2.2.2.2.2.2.1 bt179.2.2.2.2.2.2.2.1 bt179.2.2.2.2.2.2.2.2.1 bt179.2.2.2.2.2.2.2.2.2.1 bt179.2.2.2.2.2.2.2.2.2.2).bind fun bt190 => (some (bt190.1 == 1 && (bt190.2.1 == 1)))) else (some false)))) else (some false))) else (some false)) = some r := H
          have A18 := Aside0.mk A180
          clear A180
          by_cases c19 : t156 = 9
          · rw [if_pos c19] at H
            have c19b0 : (t156 == 9) = true := beq_iff_eq.mpr c19
            have c19b1 : (t156 != 9) = false := bne_eq_false_iff_eq.mpr c19
            clear c19
            replace H := Option.bind_eq_some_iff.mp H
            obtain ⟨⟨t167, t168, t169, t170, t171, t172, t173, t174, t175, t176, t177⟩, A200, H⟩ := H
            replace H : (if t167 = 12 then ((rate_From.f 9221120237041090560).bind fun t178 => ((deck_Deck_Speed.f kj1 t168 t169 t170 t171 t172 t173 t174 t175 t176 t177 5 t178).bind fun bt179 => (if bt179.1 = 10 then ((deck_Deck_Rate.f bt179.2.1 bt179.2.2.1 bt179.2.2.2.1 bt179.2.2.2.2.1 bt179.2.2.2.2.2.1 bt179.2.2.2.2.2.2.1 bt179.2.2.2.2.2.2.2.1 bt179.2.2.2.2.2.2.2.2.1 bt179.2.2.2.2.2.2.2.2.2.1 bt179.2.2.2.2.2.2.2.2.2.2).bind fun bt190 => (some (bt190.1 == 1 && (bt190.2.1 == 1)))) else (some false)))) else (some false)) = some r := H
            have A20 := Aside0.mk A200
            clear A200
            by_cases c21 : t167 = 12
            · rw [if_pos c21] at H
              have c21b0 : (t167 == 12) = true := beq_iff_eq.mpr c21
              have c21b1 : (t167 != 12) = false := bne_eq_false_iff_eq.mpr c21
              clear c21
              replace H := Option.bind_eq_some_iff.mp H
              obtain ⟨t178, A220, H⟩ := H
              replace H : ((deck_Deck_Speed.f kj1 t168 t169 t170 t171 t172 t173 t174 t175 t176 t177 5 t178).bind fun bt179 => (if bt179.1 = 10 then ((deck_Deck_Rate.f bt179.2.1 bt179.2.2.1 bt179.2.2.2.1 bt179.2.2.2.2.1 bt179.2.2.2.2.2.1 bt179.2.2.2.2.2.2.1 bt179.2.2.2.2.2.2.2.1 bt179.2.2.2.2.2.2.2.2.1 bt179.2.2.2.2.2.2.2.2.2.1 bt179.2.2.2.2.2.2.2.2.2.2).bind fun bt190 => (some (bt190.1 == 1 && (bt190.2.1 == 1)))) else (some false))) = some r := H
              have A22 := Aside0.mk A220
              clear A220
              replace H := Option.bind_eq_some_iff.mp H
              obtain ⟨⟨t179, t180, t181, t182, t183, t184, t185, t186, t187, t188, t189⟩, A230, H⟩ := H
              replace H : (if t179 = 10 then ((deck_Deck_Rate.f t180 t181 t182 t183 t184 t185 t186 t187 t188 t189).bind fun bt190 => (some (bt190.1 == 1 && (bt190.2.1 == 1)))) else (some false)) = some r := H
              have A23 := Aside0.mk A230
              clear A230
              by_cases c24 : t179 = 10
              · rw [if_pos c24] at H
                have c24b0 : (t179 == 10) = true := beq_iff_eq.mpr c24
                have c24b1 : (t179 != 10) = false := bne_eq_false_iff_eq.mpr c24
                clear c24
                replace H := Option.bind_eq_some_iff.mp H
                obtain ⟨⟨t190, t191, t192, t193, t194, t195, t196, t197, t198, t199, t200, t201⟩, A250, H⟩ := H
                replace H : (some (t190 == 1 && (t191 == 1))) = some r := H
                have A25 := Aside0.mk A250
                clear A250
                obtain rfl := Option.some.inj H
                go_wp2_with (first | ((with_reducible refine gate_callee (f := 18) rfl ?_); refine goesL_ (some 21) rfl rfl Tryd.func18 (by kernel_rfl) rfl #[.pointer (some ⟨g111, 0, none⟩)] rfl (by (try simp only [List.map_toArray, List.map_cons, List.map_nil]); first | done | rfl | (simp only [List.length_drop, List.length_take]; rfl)) ?_; (with_reducible refine (deck_Deck_Mode.calls g111 x112000_1 x112001_1 x112002_1 x112003_1 x112004_1 x112005_1 x112006_1 x112007_1 x112008_1 x112009_1 t145 t146 t147 t148 t149 t150 t151 t152 t153 t154 t155 w _ ?side1 ?side2 A16.out).mono ?_); (case side1 => repeat (first | (with_reducible first | exact HI111.out | apply IsS100.alloc | apply IsS100.drewN | apply IsS100.drew | apply IsS100.set_0 | apply IsS100.set_1 | apply IsS100.set_2 | apply IsS100.set_3 | apply IsS100.set_4 | apply IsS100.set_5 | apply IsS100.set_6 | apply IsS100.set_7 | apply IsS100.set_8 | apply IsS100.set_9) | exact HI111.out)); (case side2 => repeat (first | (with_reducible first | exact HB.out | apply below_alloc | apply pw_below_drewN | apply below_drew1 | refine below_set ?_ (IsS100.ge HI111.out)) | exact HB.out)); rintro e w26 ⟨rfl, hi, hb, hk⟩; refine ⟨_, rfl, ?_⟩; have n0_ := Aside0.mk (hb); have n1_ := Aside0.mk (hi); clear HB; clear HI111; have HB := n0_; have HI111 := n1_; clear n0_ n1_; (try clear hb); (try clear hb2); (try clear hk); (try clear hi)) | (go_at_call 19; (with_reducible refine (deck_Deck_Pos.calls g111 t146 t147 t148 t149 t150 t151 t152 t153 t154 t155 t156 t157 t158 t159 t160 t161 t162 t163 t164 t165 t166 w _ ?side1 ?side2 A18.out).mono ?_); (case side1 => repeat (first | (with_reducible first | exact HI111.out | apply IsS100.alloc | apply IsS100.drewN | apply IsS100.drew | apply IsS100.set_0 | apply IsS100.set_1 | apply IsS100.set_2 | apply IsS100.set_3 | apply IsS100.set_4 | apply IsS100.set_5 | apply IsS100.set_6 | apply IsS100.set_7 | apply IsS100.set_8 | apply IsS100.set_9) | exact HI111.out)); (case side2 => repeat (first | (with_reducible first | exact HB.out | apply below_alloc | apply pw_below_drewN | apply below_drew1 | refine below_set ?_ (IsS100.ge HI111.out)) | exact HB.out)); rintro e w27 ⟨rfl, hi, hb, hk⟩; have n0_ := Aside0.mk (hb); have n1_ := Aside0.mk (hi); clear HB; clear HI111; have HB := n0_; have HI111 := n1_; clear n0_ n1_; (try clear hb); (try clear hb2); (try clear hk); (try clear hi)) | (go_at_call 23; (with_reducible refine (deck_Deck_Seek.calls g111 t157 t158 t159 t160 t161 t162 t163 t164 t165 t166 5 2 9 1 t167 t168 t169 t170 t171 t172 t173 t174 t175 t176 t177 w _ ?side1 ?side2 A20.out).mono ?_); (case side1 => repeat (first | (with_reducible first | exact HI111.out | apply IsS100.alloc | apply IsS100.drewN | apply IsS100.drew | apply IsS100.set_0 | apply IsS100.set_1 | apply IsS100.set_2 | apply IsS100.set_3 | apply IsS100.set_4 | apply IsS100.set_5 | apply IsS100.set_6 | apply IsS100.set_7 | apply IsS100.set_8 | apply IsS100.set_9) | exact HI111.out)); (case side2 => repeat (first | (with_reducible first | exact HB.out | apply below_alloc | apply pw_below_drewN | apply below_drew1 | refine below_set ?_ (IsS100.ge HI111.out)) | exact HB.out)); rintro e w28 ⟨rfl, hi, hb, hk⟩; have n0_ := Aside0.mk (hb); have n1_ := Aside0.mk (hi); clear HB; clear HI111; have HB := n0_; have HI111 := n1_; clear n0_ n1_; (try clear hb); (try clear hb2); (try clear hk); (try clear hi)) | (go_at_call 44; (with_reducible refine (rate_From.calls 9221120237041090560 t178 _ A22.out).mono ?_); rintro e w29 ⟨rfl, hb⟩; have n0_ := Aside0.mk (IsS100.below (by repeat (first | (with_reducible first | exact HI111.out | apply IsS100.alloc | apply IsS100.drewN | apply IsS100.drew | apply IsS100.set_0 | apply IsS100.set_1 | apply IsS100.set_2 | apply IsS100.set_3 | apply IsS100.set_4 | apply IsS100.set_5 | apply IsS100.set_6 | apply IsS100.set_7 | apply IsS100.set_8 | apply IsS100.set_9) | exact HI111.out)) hb); have n1_ := Aside0.mk (below_step (by repeat (first | (with_reducible first | exact HB.out | apply below_alloc | apply pw_below_drewN | apply below_drew1 | refine below_set ?_ (IsS100.ge HI111.out)) | exact HB.out)) hb); clear HI111; clear HB; have HI111 := n0_; have HB := n1_; clear n0_ n1_; (try clear hb); (try clear hb2); (try clear hk); (try clear hi)) | (go_at_call 21; (with_reducible refine (deck_Deck_Speed.calls kj1 g111 t168 t169 t170 t171 t172 t173 t174 t175 t176 t177 5 t178 t179 t180 t181 t182 t183 t184 t185 t186 t187 t188 t189 w _ ?side1 ?side2 ?side3 A23.out).mono ?_); (case side1 => repeat (first | (with_reducible first | exact HI111.out | apply IsS100.alloc | apply IsS100.drewN | apply IsS100.drew | apply IsS100.set_0 | apply IsS100.set_1 | apply IsS100.set_2 | apply IsS100.set_3 | apply IsS100.set_4 | apply IsS100.set_5 | apply IsS100.set_6 | apply IsS100.set_7 | apply IsS100.set_8 | apply IsS100.set_9) | exact HI111.out)); (case side2 => repeat (first | (with_reducible first | exact HB.out | apply below_alloc | apply pw_below_drewN | apply below_drew1 | refine below_set ?_ (IsS100.ge HI111.out)) | exact HB.out)); (case side3 => first | (with_reducible exact HT.out) | exact tabAt HT.out (by repeat (first | (with_reducible first | exact HB.out | apply below_alloc | apply pw_below_drewN | apply below_drew1 | refine below_set ?_ (IsS100.ge HI111.out)) | exact HB.out))); rintro e w30 ⟨rfl, hi, hb, hk⟩; have n0_ := Aside0.mk (hb); have n1_ := Aside0.mk (hi); clear HB; clear HI111; have HB := n0_; have HI111 := n1_; clear n0_ n1_; (try clear hb); (try clear hb2); (try clear hk); (try clear hi)) | (go_at_call 15; (with_reducible refine (deck_Deck_Rate.calls g111 t180 t181 t182 t183 t184 t185 t186 t187 t188 t189 t190 t191 t192 t193 t194 t195 t196 t197 t198 t199 t200 t201 w _ ?side1 ?side2 A25.out).mono ?_); (case side1 => repeat (first | (with_reducible first | exact HI111.out | apply IsS100.alloc | apply IsS100.drewN | apply IsS100.drew | apply IsS100.set_0 | apply IsS100.set_1 | apply IsS100.set_2 | apply IsS100.set_3 | apply IsS100.set_4 | apply IsS100.set_5 | apply IsS100.set_6 | apply IsS100.set_7 | apply IsS100.set_8 | apply IsS100.set_9) | exact HI111.out)); (case side2 => repeat (first | (with_reducible first | exact HB.out | apply below_alloc | apply pw_below_drewN | apply below_drew1 | refine below_set ?_ (IsS100.ge HI111.out)) | exact HB.out)); rintro e w31 ⟨rfl, hi, hb, hk⟩; have n0_ := Aside0.mk (hb); have n1_ := Aside0.mk (hi); clear HB; clear HI111; have HB := n0_; have HI111 := n1_; clear n0_ n1_; (try clear hb); (try clear hb2); (try clear hk); (try clear hi)))
                go_ret
                exact ⟨by first | rfl | (simp [errW_none, errW_some] <;> rfl) | (simp [*, errW_none, errW_some] <;> rfl), by repeat (first | (with_reducible first | exact HB.out | apply below_alloc | apply pw_below_drewN | apply below_drew1 | refine below_set ?_ (IsS100.ge HI111.out)) | exact HB.out)⟩
              · rw [if_neg c24] at H
                have c24b0 : (t179 == 10) = false := beq_eq_false_iff_ne.mpr c24
                have c24b1 : (t179 != 10) = true := bne_iff_ne.mpr c24
                obtain rfl := Option.some.inj H
                go_wp2_with (first | ((with_reducible refine gate_callee (f := 18) rfl ?_); refine goesL_ (some 21) rfl rfl Tryd.func18 (by kernel_rfl) rfl #[.pointer (some ⟨g111, 0, none⟩)] rfl (by (try simp only [List.map_toArray, List.map_cons, List.map_nil]); first | done | rfl | (simp only [List.length_drop, List.length_take]; rfl)) ?_; (with_reducible refine (deck_Deck_Mode.calls g111 x112000_1 x112001_1 x112002_1 x112003_1 x112004_1 x112005_1 x112006_1 x112007_1 x112008_1 x112009_1 t145 t146 t147 t148 t149 t150 t151 t152 t153 t154 t155 w _ ?side1 ?side2 A16.out).mono ?_); (case side1 => repeat (first | (with_reducible first | exact HI111.out | apply IsS100.alloc | apply IsS100.drewN | apply IsS100.drew | apply IsS100.set_0 | apply IsS100.set_1 | apply IsS100.set_2 | apply IsS100.set_3 | apply IsS100.set_4 | apply IsS100.set_5 | apply IsS100.set_6 | apply IsS100.set_7 | apply IsS100.set_8 | apply IsS100.set_9) | exact HI111.out)); (case side2 => repeat (first | (with_reducible first | exact HB.out | apply below_alloc | apply pw_below_drewN | apply below_drew1 | refine below_set ?_ (IsS100.ge HI111.out)) | exact HB.out)); rintro e w32 ⟨rfl, hi, hb, hk⟩; refine ⟨_, rfl, ?_⟩; have n0_ := Aside0.mk (hb); have n1_ := Aside0.mk (hi); clear HB; clear HI111; have HB := n0_; have HI111 := n1_; clear n0_ n1_; (try clear hb); (try clear hb2); (try clear hk); (try clear hi)) | (go_at_call 19; (with_reducible refine (deck_Deck_Pos.calls g111 t146 t147 t148 t149 t150 t151 t152 t153 t154 t155 t156 t157 t158 t159 t160 t161 t162 t163 t164 t165 t166 w _ ?side1 ?side2 A18.out).mono ?_); (case side1 => repeat (first | (with_reducible first | exact HI111.out | apply IsS100.alloc | apply IsS100.drewN | apply IsS100.drew | apply IsS100.set_0 | apply IsS100.set_1 | apply IsS100.set_2 | apply IsS100.set_3 | apply IsS100.set_4 | apply IsS100.set_5 | apply IsS100.set_6 | apply IsS100.set_7 | apply IsS100.set_8 | apply IsS100.set_9) | exact HI111.out)); (case side2 => repeat (first | (with_reducible first | exact HB.out | apply below_alloc | apply pw_below_drewN | apply below_drew1 | refine below_set ?_ (IsS100.ge HI111.out)) | exact HB.out)); rintro e w33 ⟨rfl, hi, hb, hk⟩; have n0_ := Aside0.mk (hb); have n1_ := Aside0.mk (hi); clear HB; clear HI111; have HB := n0_; have HI111 := n1_; clear n0_ n1_; (try clear hb); (try clear hb2); (try clear hk); (try clear hi)) | (go_at_call 23; (with_reducible refine (deck_Deck_Seek.calls g111 t157 t158 t159 t160 t161 t162 t163 t164 t165 t166 5 2 9 1 t167 t168 t169 t170 t171 t172 t173 t174 t175 t176 t177 w _ ?side1 ?side2 A20.out).mono ?_); (case side1 => repeat (first | (with_reducible first | exact HI111.out | apply IsS100.alloc | apply IsS100.drewN | apply IsS100.drew | apply IsS100.set_0 | apply IsS100.set_1 | apply IsS100.set_2 | apply IsS100.set_3 | apply IsS100.set_4 | apply IsS100.set_5 | apply IsS100.set_6 | apply IsS100.set_7 | apply IsS100.set_8 | apply IsS100.set_9) | exact HI111.out)); (case side2 => repeat (first | (with_reducible first | exact HB.out | apply below_alloc | apply pw_below_drewN | apply below_drew1 | refine below_set ?_ (IsS100.ge HI111.out)) | exact HB.out)); rintro e w34 ⟨rfl, hi, hb, hk⟩; have n0_ := Aside0.mk (hb); have n1_ := Aside0.mk (hi); clear HB; clear HI111; have HB := n0_; have HI111 := n1_; clear n0_ n1_; (try clear hb); (try clear hb2); (try clear hk); (try clear hi)) | (go_at_call 44; (with_reducible refine (rate_From.calls 9221120237041090560 t178 _ A22.out).mono ?_); rintro e w35 ⟨rfl, hb⟩; have n0_ := Aside0.mk (IsS100.below (by repeat (first | (with_reducible first | exact HI111.out | apply IsS100.alloc | apply IsS100.drewN | apply IsS100.drew | apply IsS100.set_0 | apply IsS100.set_1 | apply IsS100.set_2 | apply IsS100.set_3 | apply IsS100.set_4 | apply IsS100.set_5 | apply IsS100.set_6 | apply IsS100.set_7 | apply IsS100.set_8 | apply IsS100.set_9) | exact HI111.out)) hb); have n1_ := Aside0.mk (below_step (by repeat (first | (with_reducible first | exact HB.out | apply below_alloc | apply pw_below_drewN | apply below_drew1 | refine below_set ?_ (IsS100.ge HI111.out)) | exact HB.out)) hb); clear HI111; clear HB; have HI111 := n0_; have HB := n1_; clear n0_ n1_; (try clear hb); (try clear hb2); (try clear hk); (try clear hi)) | (go_at_call 21; (with_reducible refine (deck_Deck_Speed.calls kj1 g111 t168 t169 t170 t171 t172 t173 t174 t175 t176 t177 5 t178 t179 t180 t181 t182 t183 t184 t185 t186 t187 t188 t189 w _ ?side1 ?side2 ?side3 A23.out).mono ?_); (case side1 => repeat (first | (with_reducible first | exact HI111.out | apply IsS100.alloc | apply IsS100.drewN | apply IsS100.drew | apply IsS100.set_0 | apply IsS100.set_1 | apply IsS100.set_2 | apply IsS100.set_3 | apply IsS100.set_4 | apply IsS100.set_5 | apply IsS100.set_6 | apply IsS100.set_7 | apply IsS100.set_8 | apply IsS100.set_9) | exact HI111.out)); (case side2 => repeat (first | (with_reducible first | exact HB.out | apply below_alloc | apply pw_below_drewN | apply below_drew1 | refine below_set ?_ (IsS100.ge HI111.out)) | exact HB.out)); (case side3 => first | (with_reducible exact HT.out) | exact tabAt HT.out (by repeat (first | (with_reducible first | exact HB.out | apply below_alloc | apply pw_below_drewN | apply below_drew1 | refine below_set ?_ (IsS100.ge HI111.out)) | exact HB.out))); rintro e w36 ⟨rfl, hi, hb, hk⟩; have n0_ := Aside0.mk (hb); have n1_ := Aside0.mk (hi); clear HB; clear HI111; have HB := n0_; have HI111 := n1_; clear n0_ n1_; (try clear hb); (try clear hb2); (try clear hk); (try clear hi)))
                go_ret
                exact ⟨by first | rfl | (simp [errW_none, errW_some] <;> rfl) | (simp [*, errW_none, errW_some] <;> rfl), by repeat (first | (with_reducible first | exact HB.out | apply below_alloc | apply pw_below_drewN | apply below_drew1 | refine below_set ?_ (IsS100.ge HI111.out)) | exact HB.out)⟩
            · rw [if_neg c21] at H
              have c21b0 : (t167 == 12) = false := beq_eq_false_iff_ne.mpr c21
              have c21b1 : (t167 != 12) = true := bne_iff_ne.mpr c21
              obtain rfl := Option.some.inj H
              go_wp2_with (first | ((with_reducible refine gate_callee (f := 18) rfl ?_); refine goesL_ (some 21) rfl rfl Tryd.func18 (by kernel_rfl) rfl #[.pointer (some ⟨g111, 0, none⟩)] rfl (by (try simp only [List.map_toArray, List.map_cons, List.map_nil]); first | done | rfl | (simp only [List.length_drop, List.length_take]; rfl)) ?_; (with_reducible refine (deck_Deck_Mode.calls g111 x112000_1 x112001_1 x112002_1 x112003_1 x112004_1 x112005_1 x112006_1 x112007_1 x112008_1 x112009_1 t145 t146 t147 t148 t149 t150 t151 t152 t153 t154 t155 w _ ?side1 ?side2 A16.out).mono ?_); (case side1 => repeat (first | (with_reducible first | exact HI111.out | apply IsS100.alloc | apply IsS100.drewN | apply IsS100.drew | apply IsS100.set_0 | apply IsS100.set_1 | apply IsS100.set_2 | apply IsS100.set_3 | apply IsS100.set_4 | apply IsS100.set_5 | apply IsS100.set_6 | apply IsS100.set_7 | apply IsS100.set_8 | apply IsS100.set_9) | exact HI111.out)); (case side2 => repeat (first | (with_reducible first | exact HB.out | apply below_alloc | apply pw_below_drewN | apply below_drew1 | refine below_set ?_ (IsS100.ge HI111.out)) | exact HB.out)); rintro e w37 ⟨rfl, hi, hb, hk⟩; refine ⟨_, rfl, ?_⟩; have n0_ := Aside0.mk (hb); have n1_ := Aside0.mk (hi); clear HB; clear HI111; have HB := n0_; have HI111 := n1_; clear n0_ n1_; (try clear hb); (try clear hb2); (try clear hk); (try clear hi)) | (go_at_call 19; (with_reducible refine (deck_Deck_Pos.calls g111 t146 t147 t148 t149 t150 t151 t152 t153 t154 t155 t156 t157 t158 t159 t160 t161 t162 t163 t164 t165 t166 w _ ?side1 ?side2 A18.out).mono ?_); (case side1 => repeat (first | (with_reducible first | exact HI111.out | apply IsS100.alloc | apply IsS100.drewN | apply IsS100.drew | apply IsS100.set_0 | apply IsS100.set_1 | apply IsS100.set_2 | apply IsS100.set_3 | apply IsS100.set_4 | apply IsS100.set_5 | apply IsS100.set_6 | apply IsS100.set_7 | apply IsS100.set_8 | apply IsS100.set_9) | exact HI111.out)); (case side2 => repeat (first | (with_reducible first | exact HB.out | apply below_alloc | apply pw_below_drewN | apply below_drew1 | refine below_set ?_ (IsS100.ge HI111.out)) | exact HB.out)); rintro e w38 ⟨rfl, hi, hb, hk⟩; have n0_ := Aside0.mk (hb); have n1_ := Aside0.mk (hi); clear HB; clear HI111; have HB := n0_; have HI111 := n1_; clear n0_ n1_; (try clear hb); (try clear hb2); (try clear hk); (try clear hi)) | (go_at_call 23; (with_reducible refine (deck_Deck_Seek.calls g111 t157 t158 t159 t160 t161 t162 t163 t164 t165 t166 5 2 9 1 t167 t168 t169 t170 t171 t172 t173 t174 t175 t176 t177 w _ ?side1 ?side2 A20.out).mono ?_); (case side1 => repeat (first | (with_reducible first | exact HI111.out | apply IsS100.alloc | apply IsS100.drewN | apply IsS100.drew | apply IsS100.set_0 | apply IsS100.set_1 | apply IsS100.set_2 | apply IsS100.set_3 | apply IsS100.set_4 | apply IsS100.set_5 | apply IsS100.set_6 | apply IsS100.set_7 | apply IsS100.set_8 | apply IsS100.set_9) | exact HI111.out)); (case side2 => repeat (first | (with_reducible first | exact HB.out | apply below_alloc | apply pw_below_drewN | apply below_drew1 | refine below_set ?_ (IsS100.ge HI111.out)) | exact HB.out)); rintro e w39 ⟨rfl, hi, hb, hk⟩; have n0_ := Aside0.mk (hb); have n1_ := Aside0.mk (hi); clear HB; clear HI111; have HB := n0_; have HI111 := n1_; clear n0_ n1_; (try clear hb); (try clear hb2); (try clear hk); (try clear hi)))
              go_ret
              exact ⟨by first | rfl | (simp [errW_none, errW_some] <;> rfl) | (simp [*, errW_none, errW_some] <;> rfl), by repeat (first | (with_reducible first | exact HB.out | apply below_alloc | apply pw_below_drewN | apply below_drew1 | refine below_set ?_ (IsS100.ge HI111.out)) | exact HB.out)⟩
          · rw [if_neg c19] at H
            have c19b0 : (t156 == 9) = false := beq_eq_false_iff_ne.mpr c19
            have c19b1 : (t156 != 9) = true := bne_iff_ne.mpr c19
            obtain rfl := Option.some.inj H
            go_wp2_with (first | ((with_reducible refine gate_callee (f := 18) rfl ?_); refine goesL_ (some 21) rfl rfl Tryd.func18 (by kernel_rfl) rfl #[.pointer (some ⟨g111, 0, none⟩)] rfl (by (try simp only [List.map_toArray, List.map_cons, List.map_nil]); first | done | rfl | (simp only [List.length_drop, List.length_take]; rfl)) ?_; (with_reducible refine (deck_Deck_Mode.calls g111 x112000_1 x112001_1 x112002_1 x112003_1 x112004_1 x112005_1 x112006_1 x112007_1 x112008_1 x112009_1 t145 t146 t147 t148 t149 t150 t151 t152 t153 t154 t155 w _ ?side1 ?side2 A16.out).mono ?_); (case side1 => repeat (first | (with_reducible first | exact HI111.out | apply IsS100.alloc | apply IsS100.drewN | apply IsS100.drew | apply IsS100.set_0 | apply IsS100.set_1 | apply IsS100.set_2 | apply IsS100.set_3 | apply IsS100.set_4 | apply IsS100.set_5 | apply IsS100.set_6 | apply IsS100.set_7 | apply IsS100.set_8 | apply IsS100.set_9) | exact HI111.out)); (case side2 => repeat (first | (with_reducible first | exact HB.out | apply below_alloc | apply pw_below_drewN | apply below_drew1 | refine below_set ?_ (IsS100.ge HI111.out)) | exact HB.out)); rintro e w40 ⟨rfl, hi, hb, hk⟩; refine ⟨_, rfl, ?_⟩; have n0_ := Aside0.mk (hb); have n1_ := Aside0.mk (hi); clear HB; clear HI111; have HB := n0_; have HI111 := n1_; clear n0_ n1_; (try clear hb); (try clear hb2); (try clear hk); (try clear hi)) | (go_at_call 19; (with_reducible refine (deck_Deck_Pos.calls g111 t146 t147 t148 t149 t150 t151 t152 t153 t154 t155 t156 t157 t158 t159 t160 t161 t162 t163 t164 t165 t166 w _ ?side1 ?side2 A18.out).mono ?_); (case side1 => repeat (first | (with_reducible first | exact HI111.out | apply IsS100.alloc | apply IsS100.drewN | apply IsS100.drew | apply IsS100.set_0 | apply IsS100.set_1 | apply IsS100.set_2 | apply IsS100.set_3 | apply IsS100.set_4 | apply IsS100.set_5 | apply IsS100.set_6 | apply IsS100.set_7 | apply IsS100.set_8 | apply IsS100.set_9) | exact HI111.out)); (case side2 => repeat (first | (with_reducible first | exact HB.out | apply below_alloc | apply pw_below_drewN | apply below_drew1 | refine below_set ?_ (IsS100.ge HI111.out)) | exact HB.out)); rintro e w41 ⟨rfl, hi, hb, hk⟩; have n0_ := Aside0.mk (hb); have n1_ := Aside0.mk (hi); clear HB; clear HI111; have HB := n0_; have HI111 := n1_; clear n0_ n1_; (try clear hb); (try clear hb2); (try clear hk); (try clear hi)))
            go_ret
            exact ⟨by first | rfl | (simp [errW_none, errW_some] <;> rfl) | (simp [*, errW_none, errW_some] <;> rfl), by repeat (first | (with_reducible first | exact HB.out | apply below_alloc | apply pw_below_drewN | apply below_drew1 | refine below_set ?_ (IsS100.ge HI111.out)) | exact HB.out)⟩
        · rw [if_neg c17] at H
          have c17b0 : (t145 == 1) = false := beq_eq_false_iff_ne.mpr c17
          have c17b1 : (t145 != 1) = true := bne_iff_ne.mpr c17
          obtain rfl := Option.some.inj H
          go_wp2_with (first | ((with_reducible refine gate_callee (f := 18) rfl ?_); refine goesL_ (some 21) rfl rfl Tryd.func18 (by kernel_rfl) rfl #[.pointer (some ⟨g111, 0, none⟩)] rfl (by (try simp only [List.map_toArray, List.map_cons, List.map_nil]); first | done | rfl | (simp only [List.length_drop, List.length_take]; rfl)) ?_; (with_reducible refine (deck_Deck_Mode.calls g111 x112000_1 x112001_1 x112002_1 x112003_1 x112004_1 x112005_1 x112006_1 x112007_1 x112008_1 x112009_1 t145 t146 t147 t148 t149 t150 t151 t152 t153 t154 t155 w _ ?side1 ?side2 A16.out).mono ?_); (case side1 => repeat (first | (with_reducible first | exact HI111.out | apply IsS100.alloc | apply IsS100.drewN | apply IsS100.drew | apply IsS100.set_0 | apply IsS100.set_1 | apply IsS100.set_2 | apply IsS100.set_3 | apply IsS100.set_4 | apply IsS100.set_5 | apply IsS100.set_6 | apply IsS100.set_7 | apply IsS100.set_8 | apply IsS100.set_9) | exact HI111.out)); (case side2 => repeat (first | (with_reducible first | exact HB.out | apply below_alloc | apply pw_below_drewN | apply below_drew1 | refine below_set ?_ (IsS100.ge HI111.out)) | exact HB.out)); rintro e w42 ⟨rfl, hi, hb, hk⟩; refine ⟨_, rfl, ?_⟩; have n0_ := Aside0.mk (hb); have n1_ := Aside0.mk (hi); clear HB; clear HI111; have HB := n0_; have HI111 := n1_; clear n0_ n1_; (try clear hb); (try clear hb2); (try clear hk); (try clear hi)))
          go_ret
          exact ⟨by first | rfl | (simp [errW_none, errW_some] <;> rfl) | (simp [*, errW_none, errW_some] <;> rfl), by repeat (first | (with_reducible first | exact HB.out | apply below_alloc | apply pw_below_drewN | apply below_drew1 | refine below_set ?_ (IsS100.ge HI111.out)) | exact HB.out)⟩

/-! ### tiklaw23_Does: function 16 -/
def tiklaw23_Does.f (k : Nat) (s0_0 : Int) (s0_1 : Int) (s0_2 : Int) (s0_3 : Int) (s0_4 : Bool) (s0_5 : Int) (s0_6 : Int) (s0_7 : Int) (s0_8 : Int) (s0_9 : Int) (a1_0 : Int) (a1_1 : Int) (a1_2 : Int) (a1_3 : Int) (a1_4 : Int) (a1_5 : Nat) : Option (Int × Int × Int × Int × Int × Bool × Int × Int × Int × Int × Int) := if a1_0 = 0 then ((deck_Deck_Live.f s0_0 s0_1 s0_2 s0_3 s0_4 s0_5 s0_6 s0_7 s0_8 s0_9 a1_1).bind fun bt203 => (some (0, bt203.1, bt203.2.1, bt203.2.2.1, bt203.2.2.2.1, bt203.2.2.2.2.1, bt203.2.2.2.2.2.1, bt203.2.2.2.2.2.2.1, bt203.2.2.2.2.2.2.2.1, bt203.2.2.2.2.2.2.2.2.1, bt203.2.2.2.2.2.2.2.2.2))) else (if a1_0 = 1 then ((deck_Deck_Pause.f s0_0 s0_1 s0_2 s0_3 s0_4 s0_5 s0_6 s0_7 s0_8 s0_9 a1_1 a1_2 a1_3).bind fun bt213 => (some (bt213.1, bt213.2.1, bt213.2.2.1, bt213.2.2.2.1, bt213.2.2.2.2.1, bt213.2.2.2.2.2.1, bt213.2.2.2.2.2.2.1, bt213.2.2.2.2.2.2.2.1, bt213.2.2.2.2.2.2.2.2.1, bt213.2.2.2.2.2.2.2.2.2.1, bt213.2.2.2.2.2.2.2.2.2.2))) else (if a1_0 = 2 then ((deck_Deck_Play.f s0_0 s0_1 s0_2 s0_3 s0_4 s0_5 s0_6 s0_7 s0_8 s0_9 a1_1 a1_2 a1_3).bind fun bt224 => (some (bt224.1, bt224.2.1, bt224.2.2.1, bt224.2.2.2.1, bt224.2.2.2.2.1, bt224.2.2.2.2.2.1, bt224.2.2.2.2.2.2.1, bt224.2.2.2.2.2.2.2.1, bt224.2.2.2.2.2.2.2.2.1, bt224.2.2.2.2.2.2.2.2.2.1, bt224.2.2.2.2.2.2.2.2.2.2))) else (if a1_0 = 3 then ((deck_Deck_Seek.f s0_0 s0_1 s0_2 s0_3 s0_4 s0_5 s0_6 s0_7 s0_8 s0_9 a1_1 a1_2 a1_3 a1_4).bind fun bt235 => (some (bt235.1, bt235.2.1, bt235.2.2.1, bt235.2.2.2.1, bt235.2.2.2.2.1, bt235.2.2.2.2.2.1, bt235.2.2.2.2.2.2.1, bt235.2.2.2.2.2.2.2.1, bt235.2.2.2.2.2.2.2.2.1, bt235.2.2.2.2.2.2.2.2.2.1, bt235.2.2.2.2.2.2.2.2.2.2))) else (if a1_0 = 4 then ((deck_Deck_Speed.f k s0_0 s0_1 s0_2 s0_3 s0_4 s0_5 s0_6 s0_7 s0_8 s0_9 a1_1 a1_5).bind fun bt246 => (some (bt246.1, bt246.2.1, bt246.2.2.1, bt246.2.2.2.1, bt246.2.2.2.2.1, bt246.2.2.2.2.2.1, bt246.2.2.2.2.2.2.1, bt246.2.2.2.2.2.2.2.1, bt246.2.2.2.2.2.2.2.2.1, bt246.2.2.2.2.2.2.2.2.2.1, bt246.2.2.2.2.2.2.2.2.2.2))) else ((deck_Deck_Tick.f s0_0 s0_1 s0_2 s0_3 s0_4 s0_5 s0_6 s0_7 s0_8 s0_9 a1_1 a1_2 a1_3).bind fun bt257 => (some (0, bt257.1, bt257.2.1, bt257.2.2.1, bt257.2.2.2.1, bt257.2.2.2.2.1, bt257.2.2.2.2.2.1, bt257.2.2.2.2.2.2.1, bt257.2.2.2.2.2.2.2.1, bt257.2.2.2.2.2.2.2.2.1, bt257.2.2.2.2.2.2.2.2.2)))))))
theorem tiklaw23_Does.mono : ∀ a0 a1 a2 a3 a4 a5 a6 a7 a8 a9 a10 a11 a12 a13 a14 a15 k, LeO (tiklaw23_Does.f k a0 a1 a2 a3 a4 a5 a6 a7 a8 a9 a10 a11 a12 a13 a14 a15) (tiklaw23_Does.f (k + 1) a0 a1 a2 a3 a4 a5 a6 a7 a8 a9 a10 a11 a12 a13 a14 a15) := by
  intro a0 a1 a2 a3 a4 a5 a6 a7 a8 a9 a10 a11 a12 a13 a14 a15 k
  unfold tiklaw23_Does.f
  repeat' first
      | (with_reducible exact deck_Deck_Speed.mono _ _ _ _ _ _ _ _ _ _ _ _ _)
      | (with_reducible exact LeO.refl _)
      | (with_reducible exact LeO.none _)
      | (with_reducible refine LeO.ite ?_ ?_)
      | (with_reducible refine LeO.bind ?_ (fun _ => ?_))
      | exact deck_Deck_Speed.mono _ _ _ _ _ _ _ _ _ _ _ _ _
      | exact LeO.none _
      | refine LeO.ite ?_ ?_
      | refine LeO.bind ?_ (fun _ => ?_)
set_option maxHeartbeats 8000000 in
set_option maxRecDepth 100000 in
theorem tiklaw23_Does.calls (k : Nat) (g : Nat) (s0_0 : Int) (s0_1 : Int) (s0_2 : Int) (s0_3 : Int) (s0_4 : Bool) (s0_5 : Int) (s0_6 : Int) (s0_7 : Int) (s0_8 : Int) (s0_9 : Int) (a1_0 : Int) (a1_1 : Int) (a1_2 : Int) (a1_3 : Int) (a1_4 : Int) (a1_5 : Nat) (r1 : Int) (r2 : Int) (r3 : Int) (r4 : Int) (r5 : Int) (r6 : Bool) (r7 : Int) (r8 : Int) (r9 : Int) (r10 : Int) (r11 : Int) (w0 w : World) (hI : IsS100 w0 w g s0_0 s0_1 s0_2 s0_3 s0_4 s0_5 s0_6 s0_7 s0_8 s0_9) (hB : Below w0.heap.size w0 w) (hT : TabW w0) (h : tiklaw23_Does.f k s0_0 s0_1 s0_2 s0_3 s0_4 s0_5 s0_6 s0_7 s0_8 s0_9 a1_0 a1_1 a1_2 a1_3 a1_4 a1_5 = some (r1, r2, r3, r4, r5, r6, r7, r8, r9, r10, r11)) :
    Calls Tryd.prog 16 #[.pointer (some ⟨g, 0, none⟩), .agg #[.int .i64 a1_0, .int .u64 a1_1, .int .u64 a1_2, .int .u64 a1_3, .int .u64 a1_4, .float .f64 a1_5]] w fun e w' => e = .returned (.int .i64 r1) ∧ IsS100 w0 w' g r2 r3 r4 r5 r6 r7 r8 r9 r10 r11 ∧ Below w0.heap.size w0 w' ∧ KeepBut w w' g none := by
  have HT := Aside0.mk hT
  clear hT
  have hu36 := Tryd.underlying36
  have HI0 := Aside0.mk hI
  have HK := Aside0.mk (KeepBut.refl w g none)
  have HL := Aside0.mk hB.size
  clear hI
  have HW0 := Aside0.mk hB.size
  have HB := Aside0.mk hB
  clear hB
  have H : (if a1_0 = 0 then ((deck_Deck_Live.f s0_0 s0_1 s0_2 s0_3 s0_4 s0_5 s0_6 s0_7 s0_8 s0_9 a1_1).bind fun bt203 => (some (0, bt203.1, bt203.2.1, bt203.2.2.1, bt203.2.2.2.1, bt203.2.2.2.2.1, bt203.2.2.2.2.2.1, bt203.2.2.2.2.2.2.1, bt203.2.2.2.2.2.2.2.1, bt203.2.2.2.2.2.2.2.2.1, bt203.2.2.2.2.2.2.2.2.2))) else (if a1_0 = 1 then ((deck_Deck_Pause.f s0_0 s0_1 s0_2 s0_3 s0_4 s0_5 s0_6 s0_7 s0_8 s0_9 a1_1 a1_2 a1_3).bind fun bt213 => (some (bt213.1, bt213.2.1, bt213.2.2.1, bt213.2.2.2.1, bt213.2.2.2.2.1, bt213.2.2.2.2.2.1, bt213.2.2.2.2.2.2.1, bt213.2.2.2.2.2.2.2.1, bt213.2.2.2.2.2.2.2.2.1, bt213.2.2.2.2.2.2.2.2.2.1, bt213.2.2.2.2.2.2.2.2.2.2))) else (if a1_0 = 2 then ((deck_Deck_Play.f s0_0 s0_1 s0_2 s0_3 s0_4 s0_5 s0_6 s0_7 s0_8 s0_9 a1_1 a1_2 a1_3).bind fun bt224 => (some (bt224.1, bt224.2.1, bt224.2.2.1, bt224.2.2.2.1, bt224.2.2.2.2.1, bt224.2.2.2.2.2.1, bt224.2.2.2.2.2.2.1, bt224.2.2.2.2.2.2.2.1, bt224.2.2.2.2.2.2.2.2.1, bt224.2.2.2.2.2.2.2.2.2.1, bt224.2.2.2.2.2.2.2.2.2.2))) else (if a1_0 = 3 then ((deck_Deck_Seek.f s0_0 s0_1 s0_2 s0_3 s0_4 s0_5 s0_6 s0_7 s0_8 s0_9 a1_1 a1_2 a1_3 a1_4).bind fun bt235 => (some (bt235.1, bt235.2.1, bt235.2.2.1, bt235.2.2.2.1, bt235.2.2.2.2.1, bt235.2.2.2.2.2.1, bt235.2.2.2.2.2.2.1, bt235.2.2.2.2.2.2.2.1, bt235.2.2.2.2.2.2.2.2.1, bt235.2.2.2.2.2.2.2.2.2.1, bt235.2.2.2.2.2.2.2.2.2.2))) else (if a1_0 = 4 then ((deck_Deck_Speed.f k s0_0 s0_1 s0_2 s0_3 s0_4 s0_5 s0_6 s0_7 s0_8 s0_9 a1_1 a1_5).bind fun bt246 => (some (bt246.1, bt246.2.1, bt246.2.2.1, bt246.2.2.2.1, bt246.2.2.2.2.1, bt246.2.2.2.2.2.1, bt246.2.2.2.2.2.2.1, bt246.2.2.2.2.2.2.2.1, bt246.2.2.2.2.2.2.2.2.1, bt246.2.2.2.2.2.2.2.2.2.1, bt246.2.2.2.2.2.2.2.2.2.2))) else ((deck_Deck_Tick.f s0_0 s0_1 s0_2 s0_3 s0_4 s0_5 s0_6 s0_7 s0_8 s0_9 a1_1 a1_2 a1_3).bind fun bt257 => (some (0, bt257.1, bt257.2.1, bt257.2.2.1, bt257.2.2.2.1, bt257.2.2.2.2.1, bt257.2.2.2.2.2.1, bt257.2.2.2.2.2.2.1, bt257.2.2.2.2.2.2.2.1, bt257.2.2.2.2.2.2.2.2.1, bt257.2.2.2.2.2.2.2.2.2)))))))) = some (r1, r2, r3, r4, r5, r6, r7, r8, r9, r10, r11) := h
  clear h
  by_cases c3 : a1_0 = 0
  · rw [if_pos c3] at H
    have c3b0 : (a1_0 == 0) = true := beq_iff_eq.mpr c3
    have c3b1 : (a1_0 != 0) = false := bne_eq_false_iff_eq.mpr c3
    clear c3
    replace H := Option.bind_eq_some_iff.mp H
    obtain ⟨⟨t203, t204, t205, t206, t207, t208, t209, t210, t211, t212⟩, A40, H⟩ := H
    replace H : (some (0, t203, t204, t205, t206, t207, t208, t209, t210, t211, t212)) = some (r1, r2, r3, r4, r5, r6, r7, r8, r9, r10, r11) := H
    have A4 := Aside0.mk A40
    clear A40
    simp only [Option.some.injEq, Prod.mk.injEq] at H
    obtain ⟨rfl, rfl, rfl, rfl, rfl, rfl, rfl, rfl, rfl, rfl, rfl⟩ := H
    go_enter Tryd.func16, Tryd.ntmps16
    go_wp2_with (first | ((with_reducible refine gate_dst (N := 3) rfl ?_); refine box_event ?hg (N := 3) ?hd (cs := #[.int .i64 a1_0, .int .u64 a1_1, .int .u64 a1_2, .int .u64 a1_3, .int .u64 a1_4, .float .f64 a1_5]) (t := 36) ?hr ?_; (case hd => rfl); (case hg => rfl); (case hr => first | (go_simp; done) | (go_simp; rfl)); intro gb202 hg w5 hbox hb; have n0_ := Aside0.mk (IsS100.below (by repeat (first | (with_reducible first | exact HI0.out | apply IsS100.alloc | apply IsS100.drewN | apply IsS100.drew | apply IsS100.set_0 | apply IsS100.set_1 | apply IsS100.set_2 | apply IsS100.set_3 | apply IsS100.set_4 | apply IsS100.set_5 | apply IsS100.set_6 | apply IsS100.set_7 | apply IsS100.set_8 | apply IsS100.set_9) | exact HI0.out)) hb); have n1_ := Aside0.mk (KeepBut.trans (by repeat (first | (with_reducible first | exact HK.out | apply KeepBut.set_ | apply keep_drewN | apply keep_drew | apply keep_alloc) | exact HK.out)) (KeepBut.of_below hb g none) (.inl rfl)); have n2_ := Aside0.mk (below_step (by repeat (first | (with_reducible first | exact HB.out | apply below_alloc | apply pw_below_drewN | apply below_drew1 | refine below_set ?_ (IsS100.ge HI0.out)) | exact HB.out)) hb); have n3_ := Aside0.mk (hbox); have n4_ := Aside0.mk ((by rw [hg]; exact (keep_size (w := w) (g := g) (row := none) (by repeat (first | (with_reducible first | exact HK.out | apply KeepBut.set_ | apply keep_drewN | apply keep_drew | apply keep_alloc) | exact HK.out))) : w.heap.size ≤ gb202)); have n5_ := Aside0.mk ((Nat.le_trans HW0.out (by rw [hg]; exact (keep_size (w := w) (g := g) (row := none) (by repeat (first | (with_reducible first | exact HK.out | apply KeepBut.set_ | apply keep_drewN | apply keep_drew | apply keep_alloc) | exact HK.out))) : w.heap.size ≤ gb202) : w0.heap.size ≤ gb202)); have n6_ := Aside0.mk ((by rw [hg]; exact Nat.ne_of_lt (IsS100.lt (show IsS100 w0 _ g s0_0 s0_1 s0_2 s0_3 s0_4 s0_5 s0_6 s0_7 s0_8 s0_9 from by repeat (first | (with_reducible first | exact HI0.out | apply IsS100.alloc | apply IsS100.drewN | apply IsS100.drew | apply IsS100.set_0 | apply IsS100.set_1 | apply IsS100.set_2 | apply IsS100.set_3 | apply IsS100.set_4 | apply IsS100.set_5 | apply IsS100.set_6 | apply IsS100.set_7 | apply IsS100.set_8 | apply IsS100.set_9) | exact HI0.out))) : g ≠ gb202)); have n7_ := Aside0.mk ((by rw [hg]; exact Nat.ne_of_gt (IsS100.lt (show IsS100 w0 _ g s0_0 s0_1 s0_2 s0_3 s0_4 s0_5 s0_6 s0_7 s0_8 s0_9 from by repeat (first | (with_reducible first | exact HI0.out | apply IsS100.alloc | apply IsS100.drewN | apply IsS100.drew | apply IsS100.set_0 | apply IsS100.set_1 | apply IsS100.set_2 | apply IsS100.set_3 | apply IsS100.set_4 | apply IsS100.set_5 | apply IsS100.set_6 | apply IsS100.set_7 | apply IsS100.set_8 | apply IsS100.set_9) | exact HI0.out))) : gb202 ≠ g)); clear HI0; clear HK; clear HB; have HI0 := n0_; have HK := n1_; have HB := n2_; have BK202 := n3_; have GW202 := n4_; have GE202 := n5_; have NB0_202 := n6_; have NB202_0 := n7_; clear n0_ n1_ n2_ n3_ n4_ n5_ n6_ n7_; clear hb hbox hg; have hnb6 := NB202_0.out; have hnc6 := NB0_202.out; have hcz7_0 : w5.cell? ⟨gb202, 0, none⟩ = some (.int .i64 a1_0) := (blk_cell BK202.out 0).trans rfl; have hcz7_1 : w5.cell? ⟨gb202, 1, none⟩ = some (.int .u64 a1_1) := (blk_cell BK202.out 1).trans rfl; have hcz7_2 : w5.cell? ⟨gb202, 2, none⟩ = some (.int .u64 a1_2) := (blk_cell BK202.out 2).trans rfl; have hcz7_3 : w5.cell? ⟨gb202, 3, none⟩ = some (.int .u64 a1_3) := (blk_cell BK202.out 3).trans rfl; have hcz7_4 : w5.cell? ⟨gb202, 4, none⟩ = some (.int .u64 a1_4) := (blk_cell BK202.out 4).trans rfl; have hcz7_5 : w5.cell? ⟨gb202, 5, none⟩ = some (.float .f64 a1_5) := (blk_cell BK202.out 5).trans rfl; have hfz7_0 := blk_frozen BK202.out 0; have hfz7_1 := blk_frozen BK202.out 1; have hfz7_2 := blk_frozen BK202.out 2; have hfz7_3 := blk_frozen BK202.out 3; have hfz7_4 := blk_frozen BK202.out 4; have hfz7_5 := blk_frozen BK202.out 5) | ((with_reducible refine gate_callee (f := 28) rfl ?_); refine goesL_ (some 20) rfl rfl Tryd.func28 (by kernel_rfl) rfl #[.pointer (some ⟨g, 0, none⟩), .int .u64 a1_1] rfl (by (try simp only [List.map_toArray, List.map_cons, List.map_nil]); first | done | rfl | (simp only [List.length_drop, List.length_take]; rfl)) ?_; (with_reducible refine (deck_Deck_Live.calls g s0_0 s0_1 s0_2 s0_3 s0_4 s0_5 s0_6 s0_7 s0_8 s0_9 a1_1 t203 t204 t205 t206 t207 t208 t209 t210 t211 t212 w0 _ ?side1 ?side2 A4.out).mono ?_); (case side1 => repeat (first | (with_reducible first | exact HI0.out | apply IsS100.alloc | apply IsS100.drewN | apply IsS100.drew | apply IsS100.set_0 | apply IsS100.set_1 | apply IsS100.set_2 | apply IsS100.set_3 | apply IsS100.set_4 | apply IsS100.set_5 | apply IsS100.set_6 | apply IsS100.set_7 | apply IsS100.set_8 | apply IsS100.set_9 | refine IsS100.far ?_ NB0_202.out _ ?_ | exact typ_of BK202 (by decide) (by decide) | refine typ_set ?_ _ _ _ | refine typ_alloc ?_ _ | refine typ_drewN ?_ _ | refine typ_drew ?_) | exact HI0.out)); (case side2 => repeat (first | (with_reducible first | exact HB.out | apply below_alloc | apply pw_below_drewN | apply below_drew1 | refine below_set ?_ (IsS100.ge HI0.out) | refine below_set ?_ GE202.out) | exact HB.out)); rintro e w8 ⟨rfl, hi, hb, hk⟩; refine ⟨_, rfl, ?_⟩; have n0_ := Aside0.mk (KeepBut.blk hk (g' := gb202) (o := .cells #[.int .i64 a1_0, .int .u64 a1_1, .int .u64 a1_2, .int .u64 a1_3, .int .u64 a1_4, .float .f64 a1_5] 36 (0, 0)) (by (with_reducible repeat (first | refine blk_drewN ?_ _ | refine blk_drew ?_ | refine blk_alloc ?_ _)); exact BK202.out) NB202_0.out (by simp)); have n1_ := Aside0.mk (KeepBut.trans (by repeat (first | (with_reducible first | exact HK.out | apply KeepBut.set_ | apply keep_drewN | apply keep_drew | apply keep_alloc | refine keep_far ?_ GW202.out _) | exact HK.out)) hk (.inl rfl)); have n2_ := Aside0.mk (hb); have n3_ := Aside0.mk (hi); clear BK202; clear HK; clear HB; clear HI0; have BK202 := n0_; have HK := n1_; have HB := n2_; have HI0 := n3_; clear n0_ n1_ n2_ n3_; (try clear hb); (try clear hb2); (try clear hk); (try clear hi)))
    go_ret
    exact ⟨by first | rfl | (simp [errW_none, errW_some] <;> rfl) | (simp [*, errW_none, errW_some] <;> rfl), by repeat (first | (with_reducible first | exact HI0.out | apply IsS100.alloc | apply IsS100.drewN | apply IsS100.drew | apply IsS100.set_0 | apply IsS100.set_1 | apply IsS100.set_2 | apply IsS100.set_3 | apply IsS100.set_4 | apply IsS100.set_5 | apply IsS100.set_6 | apply IsS100.set_7 | apply IsS100.set_8 | apply IsS100.set_9 | refine IsS100.far ?_ NB0_202.out _ ?_ | exact typ_of BK202 (by decide) (by decide) | refine typ_set ?_ _ _ _ | refine typ_alloc ?_ _ | refine typ_drewN ?_ _ | refine typ_drew ?_) | exact HI0.out), by repeat (first | (with_reducible first | exact HB.out | apply below_alloc | apply pw_below_drewN | apply below_drew1 | refine below_set ?_ (IsS100.ge HI0.out) | refine below_set ?_ GE202.out) | exact HB.out), by repeat (first | (with_reducible first | exact HK.out | apply KeepBut.set_ | apply keep_drewN | apply keep_drew | apply keep_alloc | refine keep_far ?_ GW202.out _) | exact HK.out)⟩
  · rw [if_neg c3] at H
    have c3b0 : (a1_0 == 0) = false := beq_eq_false_iff_ne.mpr c3
    have c3b1 : (a1_0 != 0) = true := bne_iff_ne.mpr c3
    by_cases c9 : a1_0 = 1
    · rw [if_pos c9] at H
      have c9b0 : (a1_0 == 1) = true := beq_iff_eq.mpr c9
      have c9b1 : (a1_0 != 1) = false := bne_eq_false_iff_eq.mpr c9
      clear c9
      replace H := Option.bind_eq_some_iff.mp H
      obtain ⟨⟨t213, t214, t215, t216, t217, t218, t219, t220, t221, t222, t223⟩, A100, H⟩ := H
      replace H : (some (t213, t214, t215, t216, t217, t218, t219, t220, t221, t222, t223)) = some (r1, r2, r3, r4, r5, r6, r7, r8, r9, r10, r11) := H
      have A10 := Aside0.mk A100
      clear A100
      simp only [Option.some.injEq, Prod.mk.injEq] at H
      obtain ⟨rfl, rfl, rfl, rfl, rfl, rfl, rfl, rfl, rfl, rfl, rfl⟩ := H
      go_enter Tryd.func16, Tryd.ntmps16
      go_wp2_with (first | ((with_reducible refine gate_dst (N := 3) rfl ?_); refine box_event ?hg (N := 3) ?hd (cs := #[.int .i64 a1_0, .int .u64 a1_1, .int .u64 a1_2, .int .u64 a1_3, .int .u64 a1_4, .float .f64 a1_5]) (t := 36) ?hr ?_; (case hd => rfl); (case hg => rfl); (case hr => first | (go_simp; done) | (go_simp; rfl)); intro gb202 hg w11 hbox hb; have n0_ := Aside0.mk (IsS100.below (by repeat (first | (with_reducible first | exact HI0.out | apply IsS100.alloc | apply IsS100.drewN | apply IsS100.drew | apply IsS100.set_0 | apply IsS100.set_1 | apply IsS100.set_2 | apply IsS100.set_3 | apply IsS100.set_4 | apply IsS100.set_5 | apply IsS100.set_6 | apply IsS100.set_7 | apply IsS100.set_8 | apply IsS100.set_9) | exact HI0.out)) hb); have n1_ := Aside0.mk (KeepBut.trans (by repeat (first | (with_reducible first | exact HK.out | apply KeepBut.set_ | apply keep_drewN | apply keep_drew | apply keep_alloc) | exact HK.out)) (KeepBut.of_below hb g none) (.inl rfl)); have n2_ := Aside0.mk (below_step (by repeat (first | (with_reducible first | exact HB.out | apply below_alloc | apply pw_below_drewN | apply below_drew1 | refine below_set ?_ (IsS100.ge HI0.out)) | exact HB.out)) hb); have n3_ := Aside0.mk (hbox); have n4_ := Aside0.mk ((by rw [hg]; exact (keep_size (w := w) (g := g) (row := none) (by repeat (first | (with_reducible first | exact HK.out | apply KeepBut.set_ | apply keep_drewN | apply keep_drew | apply keep_alloc) | exact HK.out))) : w.heap.size ≤ gb202)); have n5_ := Aside0.mk ((Nat.le_trans HW0.out (by rw [hg]; exact (keep_size (w := w) (g := g) (row := none) (by repeat (first | (with_reducible first | exact HK.out | apply KeepBut.set_ | apply keep_drewN | apply keep_drew | apply keep_alloc) | exact HK.out))) : w.heap.size ≤ gb202) : w0.heap.size ≤ gb202)); have n6_ := Aside0.mk ((by rw [hg]; exact Nat.ne_of_lt (IsS100.lt (show IsS100 w0 _ g s0_0 s0_1 s0_2 s0_3 s0_4 s0_5 s0_6 s0_7 s0_8 s0_9 from by repeat (first | (with_reducible first | exact HI0.out | apply IsS100.alloc | apply IsS100.drewN | apply IsS100.drew | apply IsS100.set_0 | apply IsS100.set_1 | apply IsS100.set_2 | apply IsS100.set_3 | apply IsS100.set_4 | apply IsS100.set_5 | apply IsS100.set_6 | apply IsS100.set_7 | apply IsS100.set_8 | apply IsS100.set_9) | exact HI0.out))) : g ≠ gb202)); have n7_ := Aside0.mk ((by rw [hg]; exact Nat.ne_of_gt (IsS100.lt (show IsS100 w0 _ g s0_0 s0_1 s0_2 s0_3 s0_4 s0_5 s0_6 s0_7 s0_8 s0_9 from by repeat (first | (with_reducible first | exact HI0.out | apply IsS100.alloc | apply IsS100.drewN | apply IsS100.drew | apply IsS100.set_0 | apply IsS100.set_1 | apply IsS100.set_2 | apply IsS100.set_3 | apply IsS100.set_4 | apply IsS100.set_5 | apply IsS100.set_6 | apply IsS100.set_7 | apply IsS100.set_8 | apply IsS100.set_9) | exact HI0.out))) : gb202 ≠ g)); clear HI0; clear HK; clear HB; have HI0 := n0_; have HK := n1_; have HB := n2_; have BK202 := n3_; have GW202 := n4_; have GE202 := n5_; have NB0_202 := n6_; have NB202_0 := n7_; clear n0_ n1_ n2_ n3_ n4_ n5_ n6_ n7_; clear hb hbox hg; have hnb12 := NB202_0.out; have hnc12 := NB0_202.out; have hcz13_0 : w11.cell? ⟨gb202, 0, none⟩ = some (.int .i64 a1_0) := (blk_cell BK202.out 0).trans rfl; have hcz13_1 : w11.cell? ⟨gb202, 1, none⟩ = some (.int .u64 a1_1) := (blk_cell BK202.out 1).trans rfl; have hcz13_2 : w11.cell? ⟨gb202, 2, none⟩ = some (.int .u64 a1_2) := (blk_cell BK202.out 2).trans rfl; have hcz13_3 : w11.cell? ⟨gb202, 3, none⟩ = some (.int .u64 a1_3) := (blk_cell BK202.out 3).trans rfl; have hcz13_4 : w11.cell? ⟨gb202, 4, none⟩ = some (.int .u64 a1_4) := (blk_cell BK202.out 4).trans rfl; have hcz13_5 : w11.cell? ⟨gb202, 5, none⟩ = some (.float .f64 a1_5) := (blk_cell BK202.out 5).trans rfl; have hfz13_0 := blk_frozen BK202.out 0; have hfz13_1 := blk_frozen BK202.out 1; have hfz13_2 := blk_frozen BK202.out 2; have hfz13_3 := blk_frozen BK202.out 3; have hfz13_4 := blk_frozen BK202.out 4; have hfz13_5 := blk_frozen BK202.out 5) | ((with_reducible refine gate_callee (f := 27) rfl ?_); refine goesL_ (some 30) rfl rfl Tryd.func27 (by kernel_rfl) rfl #[.pointer (some ⟨g, 0, none⟩), .int .u64 a1_1, .int .u64 a1_2, .int .u64 a1_3] rfl (by (try simp only [List.map_toArray, List.map_cons, List.map_nil]); first | done | rfl | (simp only [List.length_drop, List.length_take]; rfl)) ?_; (with_reducible refine (deck_Deck_Pause.calls g s0_0 s0_1 s0_2 s0_3 s0_4 s0_5 s0_6 s0_7 s0_8 s0_9 a1_1 a1_2 a1_3 t213 t214 t215 t216 t217 t218 t219 t220 t221 t222 t223 w0 _ ?side1 ?side2 A10.out).mono ?_); (case side1 => repeat (first | (with_reducible first | exact HI0.out | apply IsS100.alloc | apply IsS100.drewN | apply IsS100.drew | apply IsS100.set_0 | apply IsS100.set_1 | apply IsS100.set_2 | apply IsS100.set_3 | apply IsS100.set_4 | apply IsS100.set_5 | apply IsS100.set_6 | apply IsS100.set_7 | apply IsS100.set_8 | apply IsS100.set_9 | refine IsS100.far ?_ NB0_202.out _ ?_ | exact typ_of BK202 (by decide) (by decide) | refine typ_set ?_ _ _ _ | refine typ_alloc ?_ _ | refine typ_drewN ?_ _ | refine typ_drew ?_) | exact HI0.out)); (case side2 => repeat (first | (with_reducible first | exact HB.out | apply below_alloc | apply pw_below_drewN | apply below_drew1 | refine below_set ?_ (IsS100.ge HI0.out) | refine below_set ?_ GE202.out) | exact HB.out)); rintro e w14 ⟨rfl, hi, hb, hk⟩; refine ⟨_, rfl, ?_⟩; have n0_ := Aside0.mk (KeepBut.blk hk (g' := gb202) (o := .cells #[.int .i64 a1_0, .int .u64 a1_1, .int .u64 a1_2, .int .u64 a1_3, .int .u64 a1_4, .float .f64 a1_5] 36 (0, 0)) (by (with_reducible repeat (first | refine blk_drewN ?_ _ | refine blk_drew ?_ | refine blk_alloc ?_ _)); exact BK202.out) NB202_0.out (by simp)); have n1_ := Aside0.mk (KeepBut.trans (by repeat (first | (with_reducible first | exact HK.out | apply KeepBut.set_ | apply keep_drewN | apply keep_drew | apply keep_alloc | refine keep_far ?_ GW202.out _) | exact HK.out)) hk (.inl rfl)); have n2_ := Aside0.mk (hb); have n3_ := Aside0.mk (hi); clear BK202; clear HK; clear HB; clear HI0; have BK202 := n0_; have HK := n1_; have HB := n2_; have HI0 := n3_; clear n0_ n1_ n2_ n3_; (try clear hb); (try clear hb2); (try clear hk); (try clear hi)))
      go_ret
      exact ⟨by first | rfl | (simp [errW_none, errW_some] <;> rfl) | (simp [*, errW_none, errW_some] <;> rfl), by repeat (first | (with_reducible first | exact HI0.out | apply IsS100.alloc | apply IsS100.drewN | apply IsS100.drew | apply IsS100.set_0 | apply IsS100.set_1 | apply IsS100.set_2 | apply IsS100.set_3 | apply IsS100.set_4 | apply IsS100.set_5 | apply IsS100.set_6 | apply IsS100.set_7 | apply IsS100.set_8 | apply IsS100.set_9 | refine IsS100.far ?_ NB0_202.out _ ?_ | exact typ_of BK202 (by decide) (by decide) | refine typ_set ?_ _ _ _ | refine typ_alloc ?_ _ | refine typ_drewN ?_ _ | refine typ_drew ?_) | exact HI0.out), by repeat (first | (with_reducible first | exact HB.out | apply below_alloc | apply pw_below_drewN | apply below_drew1 | refine below_set ?_ (IsS100.ge HI0.out) | refine below_set ?_ GE202.out) | exact HB.out), by repeat (first | (with_reducible first | exact HK.out | apply KeepBut.set_ | apply keep_drewN | apply keep_drew | apply keep_alloc | refine keep_far ?_ GW202.out _) | exact HK.out)⟩
    · rw [if_neg c9] at H
      have c9b0 : (a1_0 == 1) = false := beq_eq_false_iff_ne.mpr c9
      have c9b1 : (a1_0 != 1) = true := bne_iff_ne.mpr c9
      by_cases c15 : a1_0 = 2
      · rw [if_pos c15] at H
        have c15b0 : (a1_0 == 2) = true := beq_iff_eq.mpr c15
        have c15b1 : (a1_0 != 2) = false := bne_eq_false_iff_eq.mpr c15
        clear c15
        replace H := Option.bind_eq_some_iff.mp H
        obtain ⟨⟨t224, t225, t226, t227, t228, t229, t230, t231, t232, t233, t234⟩, A160, H⟩ := H
        replace H : (some (t224, t225, t226, t227, t228, t229, t230, t231, t232, t233, t234)) = some (r1, r2, r3, r4, r5, r6, r7, r8, r9, r10, r11) := H
        have A16 := Aside0.mk A160
        clear A160
        simp only [Option.some.injEq, Prod.mk.injEq] at H
        obtain ⟨rfl, rfl, rfl, rfl, rfl, rfl, rfl, rfl, rfl, rfl, rfl⟩ := H
        go_enter Tryd.func16, Tryd.ntmps16
        go_wp2_with (first | ((with_reducible refine gate_dst (N := 3) rfl ?_); refine box_event ?hg (N := 3) ?hd (cs := #[.int .i64 a1_0, .int .u64 a1_1, .int .u64 a1_2, .int .u64 a1_3, .int .u64 a1_4, .float .f64 a1_5]) (t := 36) ?hr ?_; (case hd => rfl); (case hg => rfl); (case hr => first | (go_simp; done) | (go_simp; rfl)); intro gb202 hg w17 hbox hb; have n0_ := Aside0.mk (IsS100.below (by repeat (first | (with_reducible first | exact HI0.out | apply IsS100.alloc | apply IsS100.drewN | apply IsS100.drew | apply IsS100.set_0 | apply IsS100.set_1 | apply IsS100.set_2 | apply IsS100.set_3 | apply IsS100.set_4 | apply IsS100.set_5 | apply IsS100.set_6 | apply IsS100.set_7 | apply IsS100.set_8 | apply IsS100.set_9) | exact HI0.out)) hb); have n1_ := Aside0.mk (KeepBut.trans (by repeat (first | (with_reducible first | exact HK.out | apply KeepBut.set_ | apply keep_drewN | apply keep_drew | apply keep_alloc) | exact HK.out)) (KeepBut.of_below hb g none) (.inl rfl)); have n2_ := Aside0.mk (below_step (by repeat (first | (with_reducible first | exact HB.out | apply below_alloc | apply pw_below_drewN | apply below_drew1 | refine below_set ?_ (IsS100.ge HI0.out)) | exact HB.out)) hb); have n3_ := Aside0.mk (hbox); have n4_ := Aside0.mk ((by rw [hg]; exact (keep_size (w := w) (g := g) (row := none) (by repeat (first | (with_reducible first | exact HK.out | apply KeepBut.set_ | apply keep_drewN | apply keep_drew | apply keep_alloc) | exact HK.out))) : w.heap.size ≤ gb202)); have n5_ := Aside0.mk ((Nat.le_trans HW0.out (by rw [hg]; exact (keep_size (w := w) (g := g) (row := none) (by repeat (first | (with_reducible first | exact HK.out | apply KeepBut.set_ | apply keep_drewN | apply keep_drew | apply keep_alloc) | exact HK.out))) : w.heap.size ≤ gb202) : w0.heap.size ≤ gb202)); have n6_ := Aside0.mk ((by rw [hg]; exact Nat.ne_of_lt (IsS100.lt (show IsS100 w0 _ g s0_0 s0_1 s0_2 s0_3 s0_4 s0_5 s0_6 s0_7 s0_8 s0_9 from by repeat (first | (with_reducible first | exact HI0.out | apply IsS100.alloc | apply IsS100.drewN | apply IsS100.drew | apply IsS100.set_0 | apply IsS100.set_1 | apply IsS100.set_2 | apply IsS100.set_3 | apply IsS100.set_4 | apply IsS100.set_5 | apply IsS100.set_6 | apply IsS100.set_7 | apply IsS100.set_8 | apply IsS100.set_9) | exact HI0.out))) : g ≠ gb202)); have n7_ := Aside0.mk ((by rw [hg]; exact Nat.ne_of_gt (IsS100.lt (show IsS100 w0 _ g s0_0 s0_1 s0_2 s0_3 s0_4 s0_5 s0_6 s0_7 s0_8 s0_9 from by repeat (first | (with_reducible first | exact HI0.out | apply IsS100.alloc | apply IsS100.drewN | apply IsS100.drew | apply IsS100.set_0 | apply IsS100.set_1 | apply IsS100.set_2 | apply IsS100.set_3 | apply IsS100.set_4 | apply IsS100.set_5 | apply IsS100.set_6 | apply IsS100.set_7 | apply IsS100.set_8 | apply IsS100.set_9) | exact HI0.out))) : gb202 ≠ g)); clear HI0; clear HK; clear HB; have HI0 := n0_; have HK := n1_; have HB := n2_; have BK202 := n3_; have GW202 := n4_; have GE202 := n5_; have NB0_202 := n6_; have NB202_0 := n7_; clear n0_ n1_ n2_ n3_ n4_ n5_ n6_ n7_; clear hb hbox hg; have hnb18 := NB202_0.out; have hnc18 := NB0_202.out; have hcz19_0 : w17.cell? ⟨gb202, 0, none⟩ = some (.int .i64 a1_0) := (blk_cell BK202.out 0).trans rfl; have hcz19_1 : w17.cell? ⟨gb202, 1, none⟩ = some (.int .u64 a1_1) := (blk_cell BK202.out 1).trans rfl; have hcz19_2 : w17.cell? ⟨gb202, 2, none⟩ = some (.int .u64 a1_2) := (blk_cell BK202.out 2).trans rfl; have hcz19_3 : w17.cell? ⟨gb202, 3, none⟩ = some (.int .u64 a1_3) := (blk_cell BK202.out 3).trans rfl; have hcz19_4 : w17.cell? ⟨gb202, 4, none⟩ = some (.int .u64 a1_4) := (blk_cell BK202.out 4).trans rfl; have hcz19_5 : w17.cell? ⟨gb202, 5, none⟩ = some (.float .f64 a1_5) := (blk_cell BK202.out 5).trans rfl; have hfz19_0 := blk_frozen BK202.out 0; have hfz19_1 := blk_frozen BK202.out 1; have hfz19_2 := blk_frozen BK202.out 2; have hfz19_3 := blk_frozen BK202.out 3; have hfz19_4 := blk_frozen BK202.out 4; have hfz19_5 := blk_frozen BK202.out 5) | ((with_reducible refine gate_callee (f := 24) rfl ?_); refine goesL_ (some 40) rfl rfl Tryd.func24 (by kernel_rfl) rfl #[.pointer (some ⟨g, 0, none⟩), .int .u64 a1_1, .int .u64 a1_2, .int .u64 a1_3] rfl (by (try simp only [List.map_toArray, List.map_cons, List.map_nil]); first | done | rfl | (simp only [List.length_drop, List.length_take]; rfl)) ?_; (with_reducible refine (deck_Deck_Play.calls g s0_0 s0_1 s0_2 s0_3 s0_4 s0_5 s0_6 s0_7 s0_8 s0_9 a1_1 a1_2 a1_3 t224 t225 t226 t227 t228 t229 t230 t231 t232 t233 t234 w0 _ ?side1 ?side2 A16.out).mono ?_); (case side1 => repeat (first | (with_reducible first | exact HI0.out | apply IsS100.alloc | apply IsS100.drewN | apply IsS100.drew | apply IsS100.set_0 | apply IsS100.set_1 | apply IsS100.set_2 | apply IsS100.set_3 | apply IsS100.set_4 | apply IsS100.set_5 | apply IsS100.set_6 | apply IsS100.set_7 | apply IsS100.set_8 | apply IsS100.set_9 | refine IsS100.far ?_ NB0_202.out _ ?_ | exact typ_of BK202 (by decide) (by decide) | refine typ_set ?_ _ _ _ | refine typ_alloc ?_ _ | refine typ_drewN ?_ _ | refine typ_drew ?_) | exact HI0.out)); (case side2 => repeat (first | (with_reducible first | exact HB.out | apply below_alloc | apply pw_below_drewN | apply below_drew1 | refine below_set ?_ (IsS100.ge HI0.out) | refine below_set ?_ GE202.out) | exact HB.out)); rintro e w20 ⟨rfl, hi, hb, hk⟩; refine ⟨_, rfl, ?_⟩; have n0_ := Aside0.mk (KeepBut.blk hk (g' := gb202) (o := .cells #[.int .i64 a1_0, .int .u64 a1_1, .int .u64 a1_2, .int .u64 a1_3, .int .u64 a1_4, .float .f64 a1_5] 36 (0, 0)) (by (with_reducible repeat (first | refine blk_drewN ?_ _ | refine blk_drew ?_ | refine blk_alloc ?_ _)); exact BK202.out) NB202_0.out (by simp)); have n1_ := Aside0.mk (KeepBut.trans (by repeat (first | (with_reducible first | exact HK.out | apply KeepBut.set_ | apply keep_drewN | apply keep_drew | apply keep_alloc | refine keep_far ?_ GW202.out _) | exact HK.out)) hk (.inl rfl)); have n2_ := Aside0.mk (hb); have n3_ := Aside0.mk (hi); clear BK202; clear HK; clear HB; clear HI0; have BK202 := n0_; have HK := n1_; have HB := n2_; have HI0 := n3_; clear n0_ n1_ n2_ n3_; (try clear hb); (try clear hb2); (try clear hk); (try clear hi)))
        go_ret
        exact ⟨by first | rfl | (simp [errW_none, errW_some] <;> rfl) | (simp [*, errW_none, errW_some] <;> rfl), by repeat (first | (with_reducible first | exact HI0.out | apply IsS100.alloc | apply IsS100.drewN | apply IsS100.drew | apply IsS100.set_0 | apply IsS100.set_1 | apply IsS100.set_2 | apply IsS100.set_3 | apply IsS100.set_4 | apply IsS100.set_5 | apply IsS100.set_6 | apply IsS100.set_7 | apply IsS100.set_8 | apply IsS100.set_9 | refine IsS100.far ?_ NB0_202.out _ ?_ | exact typ_of BK202 (by decide) (by decide) | refine typ_set ?_ _ _ _ | refine typ_alloc ?_ _ | refine typ_drewN ?_ _ | refine typ_drew ?_) | exact HI0.out), by repeat (first | (with_reducible first | exact HB.out | apply below_alloc | apply pw_below_drewN | apply below_drew1 | refine below_set ?_ (IsS100.ge HI0.out) | refine below_set ?_ GE202.out) | exact HB.out), by repeat (first | (with_reducible first | exact HK.out | apply KeepBut.set_ | apply keep_drewN | apply keep_drew | apply keep_alloc | refine keep_far ?_ GW202.out _) | exact HK.out)⟩
      · rw [if_neg c15] at H
        have c15b0 : (a1_0 == 2) = false := beq_eq_false_iff_ne.mpr c15
        have c15b1 : (a1_0 != 2) = true := bne_iff_ne.mpr c15
        by_cases c21 : a1_0 = 3
        · rw [if_pos c21] at H
          have c21b0 : (a1_0 == 3) = true := beq_iff_eq.mpr c21
          have c21b1 : (a1_0 != 3) = false := bne_eq_false_iff_eq.mpr c21
          clear c21
          replace H := Option.bind_eq_some_iff.mp H
          obtain ⟨⟨t235, t236, t237, t238, t239, t240, t241, t242, t243, t244, t245⟩, A220, H⟩ := H
          replace H : (some (t235, t236, t237, t238, t239, t240, t241, t242, t243, t244, t245)) = some (r1, r2, r3, r4, r5, r6, r7, r8, r9, r10, r11) := H
          have A22 := Aside0.mk A220
          clear A220
          simp only [Option.some.injEq, Prod.mk.injEq] at H
          obtain ⟨rfl, rfl, rfl, rfl, rfl, rfl, rfl, rfl, rfl, rfl, rfl⟩ := H
          go_enter Tryd.func16, Tryd.ntmps16
          go_wp2_with (first | ((with_reducible refine gate_dst (N := 3) rfl ?_); refine box_event ?hg (N := 3) ?hd (cs := #[.int .i64 a1_0, .int .u64 a1_1, .int .u64 a1_2, .int .u64 a1_3, .int .u64 a1_4, .float .f64 a1_5]) (t := 36) ?hr ?_; (case hd => rfl); (case hg => rfl); (case hr => first | (go_simp; done) | (go_simp; rfl)); intro gb202 hg w23 hbox hb; have n0_ := Aside0.mk (IsS100.below (by repeat (first | (with_reducible first | exact HI0.out | apply IsS100.alloc | apply IsS100.drewN | apply IsS100.drew | apply IsS100.set_0 | apply IsS100.set_1 | apply IsS100.set_2 | apply IsS100.set_3 | apply IsS100.set_4 | apply IsS100.set_5 | apply IsS100.set_6 | apply IsS100.set_7 | apply IsS100.set_8 | apply IsS100.set_9) | exact HI0.out)) hb); have n1_ := Aside0.mk (KeepBut.trans (by repeat (first | (with_reducible first | exact HK.out | apply KeepBut.set_ | apply keep_drewN | apply keep_drew | apply keep_alloc) | exact HK.out)) (KeepBut.of_below hb g none) (.inl rfl)); have n2_ := Aside0.mk (below_step (by repeat (first | (with_reducible first | exact HB.out | apply below_alloc | apply pw_below_drewN | apply below_drew1 | refine below_set ?_ (IsS100.ge HI0.out)) | exact HB.out)) hb); have n3_ := Aside0.mk (hbox); have n4_ := Aside0.mk ((by rw [hg]; exact (keep_size (w := w) (g := g) (row := none) (by repeat (first | (with_reducible first | exact HK.out | apply KeepBut.set_ | apply keep_drewN | apply keep_drew | apply keep_alloc) | exact HK.out))) : w.heap.size ≤ gb202)); have n5_ := Aside0.mk ((Nat.le_trans HW0.out (by rw [hg]; exact (keep_size (w := w) (g := g) (row := none) (by repeat (first | (with_reducible first | exact HK.out | apply KeepBut.set_ | apply keep_drewN | apply keep_drew | apply keep_alloc) | exact HK.out))) : w.heap.size ≤ gb202) : w0.heap.size ≤ gb202)); have n6_ := Aside0.mk ((by rw [hg]; exact Nat.ne_of_lt (IsS100.lt (show IsS100 w0 _ g s0_0 s0_1 s0_2 s0_3 s0_4 s0_5 s0_6 s0_7 s0_8 s0_9 from by repeat (first | (with_reducible first | exact HI0.out | apply IsS100.alloc | apply IsS100.drewN | apply IsS100.drew | apply IsS100.set_0 | apply IsS100.set_1 | apply IsS100.set_2 | apply IsS100.set_3 | apply IsS100.set_4 | apply IsS100.set_5 | apply IsS100.set_6 | apply IsS100.set_7 | apply IsS100.set_8 | apply IsS100.set_9) | exact HI0.out))) : g ≠ gb202)); have n7_ := Aside0.mk ((by rw [hg]; exact Nat.ne_of_gt (IsS100.lt (show IsS100 w0 _ g s0_0 s0_1 s0_2 s0_3 s0_4 s0_5 s0_6 s0_7 s0_8 s0_9 from by repeat (first | (with_reducible first | exact HI0.out | apply IsS100.alloc | apply IsS100.drewN | apply IsS100.drew | apply IsS100.set_0 | apply IsS100.set_1 | apply IsS100.set_2 | apply IsS100.set_3 | apply IsS100.set_4 | apply IsS100.set_5 | apply IsS100.set_6 | apply IsS100.set_7 | apply IsS100.set_8 | apply IsS100.set_9) | exact HI0.out))) : gb202 ≠ g)); clear HI0; clear HK; clear HB; have HI0 := n0_; have HK := n1_; have HB := n2_; have BK202 := n3_; have GW202 := n4_; have GE202 := n5_; have NB0_202 := n6_; have NB202_0 := n7_; clear n0_ n1_ n2_ n3_ n4_ n5_ n6_ n7_; clear hb hbox hg; have hnb24 := NB202_0.out; have hnc24 := NB0_202.out; have hcz25_0 : w23.cell? ⟨gb202, 0, none⟩ = some (.int .i64 a1_0) := (blk_cell BK202.out 0).trans rfl; have hcz25_1 : w23.cell? ⟨gb202, 1, none⟩ = some (.int .u64 a1_1) := (blk_cell BK202.out 1).trans rfl; have hcz25_2 : w23.cell? ⟨gb202, 2, none⟩ = some (.int .u64 a1_2) := (blk_cell BK202.out 2).trans rfl; have hcz25_3 : w23.cell? ⟨gb202, 3, none⟩ = some (.int .u64 a1_3) := (blk_cell BK202.out 3).trans rfl; have hcz25_4 : w23.cell? ⟨gb202, 4, none⟩ = some (.int .u64 a1_4) := (blk_cell BK202.out 4).trans rfl; have hcz25_5 : w23.cell? ⟨gb202, 5, none⟩ = some (.float .f64 a1_5) := (blk_cell BK202.out 5).trans rfl; have hfz25_0 := blk_frozen BK202.out 0; have hfz25_1 := blk_frozen BK202.out 1; have hfz25_2 := blk_frozen BK202.out 2; have hfz25_3 := blk_frozen BK202.out 3; have hfz25_4 := blk_frozen BK202.out 4; have hfz25_5 := blk_frozen BK202.out 5) | ((with_reducible refine gate_callee (f := 23) rfl ?_); refine goesL_ (some 52) rfl rfl Tryd.func23 (by kernel_rfl) rfl #[.pointer (some ⟨g, 0, none⟩), .int .u64 a1_1, .int .u64 a1_2, .int .u64 a1_3, .int .u64 a1_4] rfl (by (try simp only [List.map_toArray, List.map_cons, List.map_nil]); first | done | rfl | (simp only [List.length_drop, List.length_take]; rfl)) ?_; (with_reducible refine (deck_Deck_Seek.calls g s0_0 s0_1 s0_2 s0_3 s0_4 s0_5 s0_6 s0_7 s0_8 s0_9 a1_1 a1_2 a1_3 a1_4 t235 t236 t237 t238 t239 t240 t241 t242 t243 t244 t245 w0 _ ?side1 ?side2 A22.out).mono ?_); (case side1 => repeat (first | (with_reducible first | exact HI0.out | apply IsS100.alloc | apply IsS100.drewN | apply IsS100.drew | apply IsS100.set_0 | apply IsS100.set_1 | apply IsS100.set_2 | apply IsS100.set_3 | apply IsS100.set_4 | apply IsS100.set_5 | apply IsS100.set_6 | apply IsS100.set_7 | apply IsS100.set_8 | apply IsS100.set_9 | refine IsS100.far ?_ NB0_202.out _ ?_ | exact typ_of BK202 (by decide) (by decide) | refine typ_set ?_ _ _ _ | refine typ_alloc ?_ _ | refine typ_drewN ?_ _ | refine typ_drew ?_) | exact HI0.out)); (case side2 => repeat (first | (with_reducible first | exact HB.out | apply below_alloc | apply pw_below_drewN | apply below_drew1 | refine below_set ?_ (IsS100.ge HI0.out) | refine below_set ?_ GE202.out) | exact HB.out)); rintro e w26 ⟨rfl, hi, hb, hk⟩; refine ⟨_, rfl, ?_⟩; have n0_ := Aside0.mk (KeepBut.blk hk (g' := gb202) (o := .cells #[.int .i64 a1_0, .int .u64 a1_1, .int .u64 a1_2, .int .u64 a1_3, .int .u64 a1_4, .float .f64 a1_5] 36 (0, 0)) (by (with_reducible repeat (first | refine blk_drewN ?_ _ | refine blk_drew ?_ | refine blk_alloc ?_ _)); exact BK202.out) NB202_0.out (by simp)); have n1_ := Aside0.mk (KeepBut.trans (by repeat (first | (with_reducible first | exact HK.out | apply KeepBut.set_ | apply keep_drewN | apply keep_drew | apply keep_alloc | refine keep_far ?_ GW202.out _) | exact HK.out)) hk (.inl rfl)); have n2_ := Aside0.mk (hb); have n3_ := Aside0.mk (hi); clear BK202; clear HK; clear HB; clear HI0; have BK202 := n0_; have HK := n1_; have HB := n2_; have HI0 := n3_; clear n0_ n1_ n2_ n3_; (try clear hb); (try clear hb2); (try clear hk); (try clear hi)))
          go_ret
          exact ⟨by first | rfl | (simp [errW_none, errW_some] <;> rfl) | (simp [*, errW_none, errW_some] <;> rfl), by repeat (first | (with_reducible first | exact HI0.out | apply IsS100.alloc | apply IsS100.drewN | apply IsS100.drew | apply IsS100.set_0 | apply IsS100.set_1 | apply IsS100.set_2 | apply IsS100.set_3 | apply IsS100.set_4 | apply IsS100.set_5 | apply IsS100.set_6 | apply IsS100.set_7 | apply IsS100.set_8 | apply IsS100.set_9 | refine IsS100.far ?_ NB0_202.out _ ?_ | exact typ_of BK202 (by decide) (by decide) | refine typ_set ?_ _ _ _ | refine typ_alloc ?_ _ | refine typ_drewN ?_ _ | refine typ_drew ?_) | exact HI0.out), by repeat (first | (with_reducible first | exact HB.out | apply below_alloc | apply pw_below_drewN | apply below_drew1 | refine below_set ?_ (IsS100.ge HI0.out) | refine below_set ?_ GE202.out) | exact HB.out), by repeat (first | (with_reducible first | exact HK.out | apply KeepBut.set_ | apply keep_drewN | apply keep_drew | apply keep_alloc | refine keep_far ?_ GW202.out _) | exact HK.out)⟩
        · rw [if_neg c21] at H
          have c21b0 : (a1_0 == 3) = false := beq_eq_false_iff_ne.mpr c21
          have c21b1 : (a1_0 != 3) = true := bne_iff_ne.mpr c21
          by_cases c27 : a1_0 = 4
          · rw [if_pos c27] at H
            have c27b0 : (a1_0 == 4) = true := beq_iff_eq.mpr c27
            have c27b1 : (a1_0 != 4) = false := bne_eq_false_iff_eq.mpr c27
            clear c27
            replace H := Option.bind_eq_some_iff.mp H
            obtain ⟨⟨t246, t247, t248, t249, t250, t251, t252, t253, t254, t255, t256⟩, A280, H⟩ := H
            replace H : (some (t246, t247, t248, t249, t250, t251, t252, t253, t254, t255, t256)) = some (r1, r2, r3, r4, r5, r6, r7, r8, r9, r10, r11) := H
            have A28 := Aside0.mk A280
            clear A280
            simp only [Option.some.injEq, Prod.mk.injEq] at H
            obtain ⟨rfl, rfl, rfl, rfl, rfl, rfl, rfl, rfl, rfl, rfl, rfl⟩ := H
            go_enter Tryd.func16, Tryd.ntmps16
            go_wp2_with (first | ((with_reducible refine gate_dst (N := 3) rfl ?_); refine box_event ?hg (N := 3) ?hd (cs := #[.int .i64 a1_0, .int .u64 a1_1, .int .u64 a1_2, .int .u64 a1_3, .int .u64 a1_4, .float .f64 a1_5]) (t := 36) ?hr ?_; (case hd => rfl); (case hg => rfl); (case hr => first | (go_simp; done) | (go_simp; rfl)); intro gb202 hg w29 hbox hb; have n0_ := Aside0.mk (IsS100.below (by repeat (first | (with_reducible first | exact HI0.out | apply IsS100.alloc | apply IsS100.drewN | apply IsS100.drew | apply IsS100.set_0 | apply IsS100.set_1 | apply IsS100.set_2 | apply IsS100.set_3 | apply IsS100.set_4 | apply IsS100.set_5 | apply IsS100.set_6 | apply IsS100.set_7 | apply IsS100.set_8 | apply IsS100.set_9) | exact HI0.out)) hb); have n1_ := Aside0.mk (KeepBut.trans (by repeat (first | (with_reducible first | exact HK.out | apply KeepBut.set_ | apply keep_drewN | apply keep_drew | apply keep_alloc) | exact HK.out)) (KeepBut.of_below hb g none) (.inl rfl)); have n2_ := Aside0.mk (below_step (by repeat (first | (with_reducible first | exact HB.out | apply below_alloc | apply pw_below_drewN | apply below_drew1 | refine below_set ?_ (IsS100.ge HI0.out)) | exact HB.out)) hb); have n3_ := Aside0.mk (hbox); have n4_ := Aside0.mk ((by rw [hg]; exact (keep_size (w := w) (g := g) (row := none) (by repeat (first | (with_reducible first | exact HK.out | apply KeepBut.set_ | apply keep_drewN | apply keep_drew | apply keep_alloc) | exact HK.out))) : w.heap.size ≤ gb202)); have n5_ := Aside0.mk ((Nat.le_trans HW0.out (by rw [hg]; exact (keep_size (w := w) (g := g) (row := none) (by repeat (first | (with_reducible first | exact HK.out | apply KeepBut.set_ | apply keep_drewN | apply keep_drew | apply keep_alloc) | exact HK.out))) : w.heap.size ≤ gb202) : w0.heap.size ≤ gb202)); have n6_ := Aside0.mk ((by rw [hg]; exact Nat.ne_of_lt (IsS100.lt (show IsS100 w0 _ g s0_0 s0_1 s0_2 s0_3 s0_4 s0_5 s0_6 s0_7 s0_8 s0_9 from by repeat (first | (with_reducible first | exact HI0.out | apply IsS100.alloc | apply IsS100.drewN | apply IsS100.drew | apply IsS100.set_0 | apply IsS100.set_1 | apply IsS100.set_2 | apply IsS100.set_3 | apply IsS100.set_4 | apply IsS100.set_5 | apply IsS100.set_6 | apply IsS100.set_7 | apply IsS100.set_8 | apply IsS100.set_9) | exact HI0.out))) : g ≠ gb202)); have n7_ := Aside0.mk ((by rw [hg]; exact Nat.ne_of_gt (IsS100.lt (show IsS100 w0 _ g s0_0 s0_1 s0_2 s0_3 s0_4 s0_5 s0_6 s0_7 s0_8 s0_9 from by repeat (first | (with_reducible first | exact HI0.out | apply IsS100.alloc | apply IsS100.drewN | apply IsS100.drew | apply IsS100.set_0 | apply IsS100.set_1 | apply IsS100.set_2 | apply IsS100.set_3 | apply IsS100.set_4 | apply IsS100.set_5 | apply IsS100.set_6 | apply IsS100.set_7 | apply IsS100.set_8 | apply IsS100.set_9) | exact HI0.out))) : gb202 ≠ g)); clear HI0; clear HK; clear HB; have HI0 := n0_; have HK := n1_; have HB := n2_; have BK202 := n3_; have GW202 := n4_; have GE202 := n5_; have NB0_202 := n6_; have NB202_0 := n7_; clear n0_ n1_ n2_ n3_ n4_ n5_ n6_ n7_; clear hb hbox hg; have hnb30 := NB202_0.out; have hnc30 := NB0_202.out; have hcz31_0 : w29.cell? ⟨gb202, 0, none⟩ = some (.int .i64 a1_0) := (blk_cell BK202.out 0).trans rfl; have hcz31_1 : w29.cell? ⟨gb202, 1, none⟩ = some (.int .u64 a1_1) := (blk_cell BK202.out 1).trans rfl; have hcz31_2 : w29.cell? ⟨gb202, 2, none⟩ = some (.int .u64 a1_2) := (blk_cell BK202.out 2).trans rfl; have hcz31_3 : w29.cell? ⟨gb202, 3, none⟩ = some (.int .u64 a1_3) := (blk_cell BK202.out 3).trans rfl; have hcz31_4 : w29.cell? ⟨gb202, 4, none⟩ = some (.int .u64 a1_4) := (blk_cell BK202.out 4).trans rfl; have hcz31_5 : w29.cell? ⟨gb202, 5, none⟩ = some (.float .f64 a1_5) := (blk_cell BK202.out 5).trans rfl; have hfz31_0 := blk_frozen BK202.out 0; have hfz31_1 := blk_frozen BK202.out 1; have hfz31_2 := blk_frozen BK202.out 2; have hfz31_3 := blk_frozen BK202.out 3; have hfz31_4 := blk_frozen BK202.out 4; have hfz31_5 := blk_frozen BK202.out 5) | ((with_reducible refine gate_callee (f := 21) rfl ?_); refine goesL_ (some 60) rfl rfl Tryd.func21 (by kernel_rfl) rfl #[.pointer (some ⟨g, 0, none⟩), .int .u64 a1_1, .float .f64 a1_5] rfl (by (try simp only [List.map_toArray, List.map_cons, List.map_nil]); first | done | rfl | (simp only [List.length_drop, List.length_take]; rfl)) ?_; (with_reducible refine (deck_Deck_Speed.calls k g s0_0 s0_1 s0_2 s0_3 s0_4 s0_5 s0_6 s0_7 s0_8 s0_9 a1_1 a1_5 t246 t247 t248 t249 t250 t251 t252 t253 t254 t255 t256 w0 _ ?side1 ?side2 ?side3 A28.out).mono ?_); (case side1 => repeat (first | (with_reducible first | exact HI0.out | apply IsS100.alloc | apply IsS100.drewN | apply IsS100.drew | apply IsS100.set_0 | apply IsS100.set_1 | apply IsS100.set_2 | apply IsS100.set_3 | apply IsS100.set_4 | apply IsS100.set_5 | apply IsS100.set_6 | apply IsS100.set_7 | apply IsS100.set_8 | apply IsS100.set_9 | refine IsS100.far ?_ NB0_202.out _ ?_ | exact typ_of BK202 (by decide) (by decide) | refine typ_set ?_ _ _ _ | refine typ_alloc ?_ _ | refine typ_drewN ?_ _ | refine typ_drew ?_) | exact HI0.out)); (case side2 => repeat (first | (with_reducible first | exact HB.out | apply below_alloc | apply pw_below_drewN | apply below_drew1 | refine below_set ?_ (IsS100.ge HI0.out) | refine below_set ?_ GE202.out) | exact HB.out)); (case side3 => first | (with_reducible exact HT.out) | exact tabAt HT.out (by repeat (first | (with_reducible first | exact HB.out | apply below_alloc | apply pw_below_drewN | apply below_drew1 | refine below_set ?_ (IsS100.ge HI0.out) | refine below_set ?_ GE202.out) | exact HB.out))); rintro e w32 ⟨rfl, hi, hb, hk⟩; refine ⟨_, rfl, ?_⟩; have n0_ := Aside0.mk (KeepBut.blk hk (g' := gb202) (o := .cells #[.int .i64 a1_0, .int .u64 a1_1, .int .u64 a1_2, .int .u64 a1_3, .int .u64 a1_4, .float .f64 a1_5] 36 (0, 0)) (by (with_reducible repeat (first | refine blk_drewN ?_ _ | refine blk_drew ?_ | refine blk_alloc ?_ _)); exact BK202.out) NB202_0.out (by simp)); have n1_ := Aside0.mk (KeepBut.trans (by repeat (first | (with_reducible first | exact HK.out | apply KeepBut.set_ | apply keep_drewN | apply keep_drew | apply keep_alloc | refine keep_far ?_ GW202.out _) | exact HK.out)) hk (.inl rfl)); have n2_ := Aside0.mk (hb); have n3_ := Aside0.mk (hi); clear BK202; clear HK; clear HB; clear HI0; have BK202 := n0_; have HK := n1_; have HB := n2_; have HI0 := n3_; clear n0_ n1_ n2_ n3_; (try clear hb); (try clear hb2); (try clear hk); (try clear hi)))
            go_ret
            exact ⟨by first | rfl | (simp [errW_none, errW_some] <;> rfl) | (simp [*, errW_none, errW_some] <;> rfl), by repeat (first | (with_reducible first | exact HI0.out | apply IsS100.alloc | apply IsS100.drewN | apply IsS100.drew | apply IsS100.set_0 | apply IsS100.set_1 | apply IsS100.set_2 | apply IsS100.set_3 | apply IsS100.set_4 | apply IsS100.set_5 | apply IsS100.set_6 | apply IsS100.set_7 | apply IsS100.set_8 | apply IsS100.set_9 | refine IsS100.far ?_ NB0_202.out _ ?_ | exact typ_of BK202 (by decide) (by decide) | refine typ_set ?_ _ _ _ | refine typ_alloc ?_ _ | refine typ_drewN ?_ _ | refine typ_drew ?_) | exact HI0.out), by repeat (first | (with_reducible first | exact HB.out | apply below_alloc | apply pw_below_drewN | apply below_drew1 | refine below_set ?_ (IsS100.ge HI0.out) | refine below_set ?_ GE202.out) | exact HB.out), by repeat (first | (with_reducible first | exact HK.out | apply KeepBut.set_ | apply keep_drewN | apply keep_drew | apply keep_alloc | refine keep_far ?_ GW202.out _) | exact HK.out)⟩
          · rw [if_neg c27] at H
            have c27b0 : (a1_0 == 4) = false := beq_eq_false_iff_ne.mpr c27
            have c27b1 : (a1_0 != 4) = true := bne_iff_ne.mpr c27
            replace H := Option.bind_eq_some_iff.mp H
            obtain ⟨⟨t257, t258, t259, t260, t261, t262, t263, t264, t265, t266⟩, A330, H⟩ := H
            replace H : (some (0, t257, t258, t259, t260, t261, t262, t263, t264, t265, t266)) = some (r1, r2, r3, r4, r5, r6, r7, r8, r9, r10, r11) := H
            have A33 := Aside0.mk A330
            clear A330
            simp only [Option.some.injEq, Prod.mk.injEq] at H
            obtain ⟨rfl, rfl, rfl, rfl, rfl, rfl, rfl, rfl, rfl, rfl, rfl⟩ := H
            go_enter Tryd.func16, Tryd.ntmps16
            go_wp2_with (first | ((with_reducible refine gate_dst (N := 3) rfl ?_); refine box_event ?hg (N := 3) ?hd (cs := #[.int .i64 a1_0, .int .u64 a1_1, .int .u64 a1_2, .int .u64 a1_3, .int .u64 a1_4, .float .f64 a1_5]) (t := 36) ?hr ?_; (case hd => rfl); (case hg => rfl); (case hr => first | (go_simp; done) | (go_simp; rfl)); intro gb202 hg w34 hbox hb; have n0_ := Aside0.mk (IsS100.below (by repeat (first | (with_reducible first | exact HI0.out | apply IsS100.alloc | apply IsS100.drewN | apply IsS100.drew | apply IsS100.set_0 | apply IsS100.set_1 | apply IsS100.set_2 | apply IsS100.set_3 | apply IsS100.set_4 | apply IsS100.set_5 | apply IsS100.set_6 | apply IsS100.set_7 | apply IsS100.set_8 | apply IsS100.set_9) | exact HI0.out)) hb); have n1_ := Aside0.mk (KeepBut.trans (by repeat (first | (with_reducible first | exact HK.out | apply KeepBut.set_ | apply keep_drewN | apply keep_drew | apply keep_alloc) | exact HK.out)) (KeepBut.of_below hb g none) (.inl rfl)); have n2_ := Aside0.mk (below_step (by repeat (first | (with_reducible first | exact HB.out | apply below_alloc | apply pw_below_drewN | apply below_drew1 | refine below_set ?_ (IsS100.ge HI0.out)) | exact HB.out)) hb); have n3_ := Aside0.mk (hbox); have n4_ := Aside0.mk ((by rw [hg]; exact (keep_size (w := w) (g := g) (row := none) (by repeat (first | (with_reducible first | exact HK.out | apply KeepBut.set_ | apply keep_drewN | apply keep_drew | apply keep_alloc) | exact HK.out))) : w.heap.size ≤ gb202)); have n5_ := Aside0.mk ((Nat.le_trans HW0.out (by rw [hg]; exact (keep_size (w := w) (g := g) (row := none) (by repeat (first | (with_reducible first | exact HK.out | apply KeepBut.set_ | apply keep_drewN | apply keep_drew | apply keep_alloc) | exact HK.out))) : w.heap.size ≤ gb202) : w0.heap.size ≤ gb202)); have n6_ := Aside0.mk ((by rw [hg]; exact Nat.ne_of_lt (IsS100.lt (show IsS100 w0 _ g s0_0 s0_1 s0_2 s0_3 s0_4 s0_5 s0_6 s0_7 s0_8 s0_9 from by repeat (first | (with_reducible first | exact HI0.out | apply IsS100.alloc | apply IsS100.drewN | apply IsS100.drew | apply IsS100.set_0 | apply IsS100.set_1 | apply IsS100.set_2 | apply IsS100.set_3 | apply IsS100.set_4 | apply IsS100.set_5 | apply IsS100.set_6 | apply IsS100.set_7 | apply IsS100.set_8 | apply IsS100.set_9) | exact HI0.out))) : g ≠ gb202)); have n7_ := Aside0.mk ((by rw [hg]; exact Nat.ne_of_gt (IsS100.lt (show IsS100 w0 _ g s0_0 s0_1 s0_2 s0_3 s0_4 s0_5 s0_6 s0_7 s0_8 s0_9 from by repeat (first | (with_reducible first | exact HI0.out | apply IsS100.alloc | apply IsS100.drewN | apply IsS100.drew | apply IsS100.set_0 | apply IsS100.set_1 | apply IsS100.set_2 | apply IsS100.set_3 | apply IsS100.set_4 | apply IsS100.set_5 | apply IsS100.set_6 | apply IsS100.set_7 | apply IsS100.set_8 | apply IsS100.set_9) | exact HI0.out))) : gb202 ≠ g)); clear HI0; clear HK; clear HB; have HI0 := n0_; have HK := n1_; have HB := n2_; have BK202 := n3_; have GW202 := n4_; have GE202 := n5_; have NB0_202 := n6_; have NB202_0 := n7_; clear n0_ n1_ n2_ n3_ n4_ n5_ n6_ n7_; clear hb hbox hg; have hnb35 := NB202_0.out; have hnc35 := NB0_202.out; have hcz36_0 : w34.cell? ⟨gb202, 0, none⟩ = some (.int .i64 a1_0) := (blk_cell BK202.out 0).trans rfl; have hcz36_1 : w34.cell? ⟨gb202, 1, none⟩ = some (.int .u64 a1_1) := (blk_cell BK202.out 1).trans rfl; have hcz36_2 : w34.cell? ⟨gb202, 2, none⟩ = some (.int .u64 a1_2) := (blk_cell BK202.out 2).trans rfl; have hcz36_3 : w34.cell? ⟨gb202, 3, none⟩ = some (.int .u64 a1_3) := (blk_cell BK202.out 3).trans rfl; have hcz36_4 : w34.cell? ⟨gb202, 4, none⟩ = some (.int .u64 a1_4) := (blk_cell BK202.out 4).trans rfl; have hcz36_5 : w34.cell? ⟨gb202, 5, none⟩ = some (.float .f64 a1_5) := (blk_cell BK202.out 5).trans rfl; have hfz36_0 := blk_frozen BK202.out 0; have hfz36_1 := blk_frozen BK202.out 1; have hfz36_2 := blk_frozen BK202.out 2; have hfz36_3 := blk_frozen BK202.out 3; have hfz36_4 := blk_frozen BK202.out 4; have hfz36_5 := blk_frozen BK202.out 5) | ((with_reducible refine gate_callee (f := 25) rfl ?_); refine goesL_ (some 14) rfl rfl Tryd.func25 (by kernel_rfl) rfl #[.pointer (some ⟨g, 0, none⟩), .int .u64 a1_1, .int .u64 a1_2, .int .u64 a1_3] rfl (by (try simp only [List.map_toArray, List.map_cons, List.map_nil]); first | done | rfl | (simp only [List.length_drop, List.length_take]; rfl)) ?_; (with_reducible refine (deck_Deck_Tick.calls g s0_0 s0_1 s0_2 s0_3 s0_4 s0_5 s0_6 s0_7 s0_8 s0_9 a1_1 a1_2 a1_3 t257 t258 t259 t260 t261 t262 t263 t264 t265 t266 w0 _ ?side1 ?side2 A33.out).mono ?_); (case side1 => repeat (first | (with_reducible first | exact HI0.out | apply IsS100.alloc | apply IsS100.drewN | apply IsS100.drew | apply IsS100.set_0 | apply IsS100.set_1 | apply IsS100.set_2 | apply IsS100.set_3 | apply IsS100.set_4 | apply IsS100.set_5 | apply IsS100.set_6 | apply IsS100.set_7 | apply IsS100.set_8 | apply IsS100.set_9 | refine IsS100.far ?_ NB0_202.out _ ?_ | exact typ_of BK202 (by decide) (by decide) | refine typ_set ?_ _ _ _ | refine typ_alloc ?_ _ | refine typ_drewN ?_ _ | refine typ_drew ?_) | exact HI0.out)); (case side2 => repeat (first | (with_reducible first | exact HB.out | apply below_alloc | apply pw_below_drewN | apply below_drew1 | refine below_set ?_ (IsS100.ge HI0.out) | refine below_set ?_ GE202.out) | exact HB.out)); rintro e w37 ⟨rfl, hi, hb, hk⟩; refine ⟨_, rfl, ?_⟩; have n0_ := Aside0.mk (KeepBut.blk hk (g' := gb202) (o := .cells #[.int .i64 a1_0, .int .u64 a1_1, .int .u64 a1_2, .int .u64 a1_3, .int .u64 a1_4, .float .f64 a1_5] 36 (0, 0)) (by (with_reducible repeat (first | refine blk_drewN ?_ _ | refine blk_drew ?_ | refine blk_alloc ?_ _)); exact BK202.out) NB202_0.out (by simp)); have n1_ := Aside0.mk (KeepBut.trans (by repeat (first | (with_reducible first | exact HK.out | apply KeepBut.set_ | apply keep_drewN | apply keep_drew | apply keep_alloc | refine keep_far ?_ GW202.out _) | exact HK.out)) hk (.inl rfl)); have n2_ := Aside0.mk (hb); have n3_ := Aside0.mk (hi); clear BK202; clear HK; clear HB; clear HI0; have BK202 := n0_; have HK := n1_; have HB := n2_; have HI0 := n3_; clear n0_ n1_ n2_ n3_; (try clear hb); (try clear hb2); (try clear hk); (try clear hi)))
            go_ret
            exact ⟨by first | rfl | (simp [errW_none, errW_some] <;> rfl) | (simp [*, errW_none, errW_some] <;> rfl), by repeat (first | (with_reducible first | exact HI0.out | apply IsS100.alloc | apply IsS100.drewN | apply IsS100.drew | apply IsS100.set_0 | apply IsS100.set_1 | apply IsS100.set_2 | apply IsS100.set_3 | apply IsS100.set_4 | apply IsS100.set_5 | apply IsS100.set_6 | apply IsS100.set_7 | apply IsS100.set_8 | apply IsS100.set_9 | refine IsS100.far ?_ NB0_202.out _ ?_ | exact typ_of BK202 (by decide) (by decide) | refine typ_set ?_ _ _ _ | refine typ_alloc ?_ _ | refine typ_drewN ?_ _ | refine typ_drew ?_) | exact HI0.out), by repeat (first | (with_reducible first | exact HB.out | apply below_alloc | apply pw_below_drewN | apply below_drew1 | refine below_set ?_ (IsS100.ge HI0.out) | refine below_set ?_ GE202.out) | exact HB.out), by repeat (first | (with_reducible first | exact HK.out | apply KeepBut.set_ | apply keep_drewN | apply keep_drew | apply keep_alloc | refine keep_far ?_ GW202.out _) | exact HK.out)⟩

end Go.Proofs.YtlgfmmkabnbllaaDoor.PT
/-
  DeckStands: the plain law. No program.
-/
namespace Go.Proofs.YtlgfmmkabnbllaaDoor.Hand
open Go.RowKit Go.Proofs.YtlgfmmkabnbllaaDoorW.PrintWords Go.Proofs.YtlgfmmkabnbllaaDoorW.PrintLast Go.Proofs.YtlgfmmkabnbllaaDoorW.PrintMore Go.Proofs.YtlgfmmkabnbllaaDoor.PA Go.Proofs.YtlgfmmkabnbllaaDoor.PB Go.Proofs.YtlgfmmkabnbllaaDoor.PC Go.Proofs.YtlgfmmkabnbllaaDoor.PT
set_option linter.unusedSimpArgs false
set_option linter.unusedVariables false
set_option exponentiation.threshold 3000

theorem mode_f (s0 s1 s2 s3 : Int) (s4 : Bool) (s5 s6 s7 s8 s9 : Int) : deck_Deck_Mode.f s0 s1 s2 s3 s4 s5 s6 s7 s8 s9 = some (s0, s0, s1, s2, s3, s4, s5, s6, s7, s8, s9) := rfl
theorem pos_f (s0 s1 s2 s3 : Int) (s4 : Bool) (s5 s6 s7 s8 s9 : Int) : deck_Deck_Pos.f s0 s1 s2 s3 s4 s5 s6 s7 s8 s9 = some (s1, s0, s1, s2, s3, s4, s5, s6, s7, s8, s9) := rfl
theorem drate_f (s0 s1 s2 s3 : Int) (s4 : Bool) (s5 s6 s7 s8 s9 : Int) : deck_Deck_Rate.f s0 s1 s2 s3 s4 s5 s6 s7 s8 s9 = some (s2, s3, s0, s1, s2, s3, s4, s5, s6, s7, s8, s9) := rfl
theorem live_f (s0 s1 s2 s3 : Int) (s4 : Bool) (s5 s6 s7 s8 s9 a : Int) : deck_Deck_Live.f s0 s1 s2 s3 s4 s5 s6 s7 s8 s9 a = some (0, s1, s2, s3, false, 0, 0, 0, 0, 0) := rfl
theorem new_f : deck_New.f = some (0, 0, 1, 1, false, 0, 0, 0, 0, 0) := rfl
theorem dfirst_true (K : Nat) : tiklaw23_first.f (K + 1) = some true := by
  have h1 : ∀ s0 s1 s2 s3 s4 s5 s6 s7 s8 s9, deck_Deck_Speed.f K s0 s1 s2 s3 s4 s5 s6 s7 s8 s9 5 9221120237041090560 = some (10, s0, s1, s2, s3, s4, s5, s6, s7, s8, s9) := by
    intro s0 s1 s2 s3 s4 s5 s6 s7 s8 s9
    have : rate_Of.f 9221120237041090560 = some (0, 0, 10) := by decide +kernel
    unfold deck_Deck_Speed.f
    rw [this]
    rfl
  have h2 : rate_From.f 9221120237041090560 = some 9221120237041090560 := by decide +kernel
  unfold tiklaw23_first.f
  rw [new_f, Option.bind_some, if_neg (by decide), mode_f, Option.bind_some, if_pos rfl]
  have e1 : deck_Deck_Play.f 0 0 1 1 false 0 0 0 0 0 5 0 9 = some (13, 0, 0, 1, 1, false, 0, 0, 0, 0, 0) := rfl
  have e2 : deck_Deck_Pause.f 0 0 1 1 false 0 0 0 0 0 5 0 9 = some (0, 1, 9, 1, 1, false, 0, 0, 0, 0, 0) := rfl
  have e3 : deck_Deck_Seek.f 1 9 1 1 false 0 0 0 0 0 5 2 9 1 = some (12, 1, 9, 1, 1, false, 0, 0, 0, 0, 0) := rfl
  rw [e1, Option.bind_some, if_pos rfl, e2, Option.bind_some]
  show tiklaw23_first.j0 (K + 1) false 1 9 1 1 false 0 0 0 0 0 = some true
  rw [tiklaw23_first.j0]
  rw [if_neg (by decide), mode_f, Option.bind_some, if_pos rfl, pos_f, Option.bind_some, if_pos rfl, e3, Option.bind_some, if_pos rfl, h2, Option.bind_some, h1, Option.bind_some, if_pos rfl, drate_f, Option.bind_some]
  rfl
theorem may11 : rate_May.f 1 1 = some true := by decide +kernel
/-- Who is paused: an error changes nothing. -/
theorem does_stands (k : Nat) {p k0 now lo hi t : Int} {x : Nat} (hx : x < 18446744073709551616) : ∃ r s, tiklaw23_Does.f k 1 p 1 1 false 0 0 0 0 0 k0 now lo hi t x = some (r, s) ∧ (r ≠ 0 → s = (1, p, 1, 1, false, 0, 0, 0, 0, 0)) := by
  unfold tiklaw23_Does.f
  by_cases h0 : k0 = 0
  · rw [if_pos h0, live_f, Option.bind_some]
    exact ⟨_, _, rfl, fun h => absurd rfl h⟩
  rw [if_neg h0]
  by_cases h1 : k0 = 1
  · rw [if_pos h1]
    by_cases hm : mayV now lo hi = true
    · have e : deck_Deck_Pause.f 1 p 1 1 false 0 0 0 0 0 now lo hi = some (0, 1, p, 1, 1, false, 0, 0, 0, 0, 0) := by
        unfold deck_Deck_Pause.f
        rw [if_pos hm]; rfl
      rw [e, Option.bind_some]
      exact ⟨_, _, rfl, fun h => absurd rfl h⟩
    · have e : deck_Deck_Pause.f 1 p 1 1 false 0 0 0 0 0 now lo hi = some (1, 1, p, 1, 1, false, 0, 0, 0, 0, 0) := by
        unfold deck_Deck_Pause.f
        rw [if_neg hm]
      rw [e, Option.bind_some]
      exact ⟨_, _, rfl, fun h => rfl⟩
  rw [if_neg h1]
  by_cases h2 : k0 = 2
  · rw [if_pos h2]
    by_cases hm : mayV now lo hi = true
    · rw [play_goes hm may11 rfl, Option.bind_some]
      exact ⟨_, _, rfl, fun h => absurd rfl h⟩
    · have e : deck_Deck_Play.f 1 p 1 1 false 0 0 0 0 0 now lo hi = some (1, 1, p, 1, 1, false, 0, 0, 0, 0, 0) := by
        unfold deck_Deck_Play.f
        rw [if_neg hm]
      rw [e, Option.bind_some]
      exact ⟨_, _, rfl, fun h => rfl⟩
  rw [if_neg h2]
  by_cases h3 : k0 = 3
  · rw [if_pos h3]
    by_cases hm : mayV now lo hi = true
    · by_cases hl : t < lo
      · have e : deck_Deck_Seek.f 1 p 1 1 false 0 0 0 0 0 now lo hi t = some (12, 1, p, 1, 1, false, 0, 0, 0, 0, 0) := by
          unfold deck_Deck_Seek.f
          rw [if_pos hm, if_pos hl]
        rw [e, Option.bind_some]
        exact ⟨_, _, rfl, fun h => rfl⟩
      · rw [seek_stands hm hl (by decide), Option.bind_some]
        exact ⟨_, _, rfl, fun h => absurd rfl h⟩
    · have e : deck_Deck_Seek.f 1 p 1 1 false 0 0 0 0 0 now lo hi t = some (1, 1, p, 1, 1, false, 0, 0, 0, 0, 0) := by
        unfold deck_Deck_Seek.f
        rw [if_neg hm]
      rw [e, Option.bind_some]
      exact ⟨_, _, rfl, fun h => rfl⟩
  rw [if_neg h3]
  by_cases h4 : k0 = 4
  · rw [if_pos h4]
    have e : rate_Of.f x = some (ofV x) := if_pos hx
    obtain ⟨n, d, er⟩ : ∃ a b c, ofV x = (a, b, c) := ⟨_, _, _, rfl⟩
    obtain ⟨c, er⟩ := er
    unfold deck_Deck_Speed.f
    rw [e, Option.bind_some, er]
    dsimp only
    by_cases q : c = 0
    · rw [if_pos q]
      by_cases q2 : now > 4611686018427387904
      · rw [if_pos q2, Option.bind_some]
        exact ⟨_, _, rfl, fun h => rfl⟩
      · rw [if_neg q2, if_neg (by decide), Option.bind_some]
        exact ⟨_, _, rfl, fun h => absurd rfl h⟩
    · rw [if_neg q, Option.bind_some]
      exact ⟨_, _, rfl, fun h => rfl⟩
  rw [if_neg h4]
  by_cases hm : mayV now lo hi = true
  · rw [tick_stands hm, Option.bind_some]
    exact ⟨_, _, rfl, fun h => absurd rfl h⟩
  · have e : deck_Deck_Tick.f 1 p 1 1 false 0 0 0 0 0 now lo hi = some (1, p, 1, 1, false, 0, 0, 0, 0, 0) := by
      unfold deck_Deck_Tick.f
      rw [if_neg hm]
    rw [e, Option.bind_some]
    exact ⟨_, _, rfl, fun h => absurd rfl h⟩
end Go.Proofs.YtlgfmmkabnbllaaDoor.Hand
/-
  A new deck has no clock.
-/
namespace Go.Proofs.YtlgfmmkabnbllaaDoor.PT
open Go.RowKit Go.Proofs.YtlgfmmkabnbllaaDoorW.PrintWords Go.Proofs.YtlgfmmkabnbllaaDoorW.PrintLast Go.Proofs.YtlgfmmkabnbllaaDoorW.PrintMore Go.Proofs.YtlgfmmkabnbllaaDoor.Hand
set_option linter.unusedSimpArgs false
set_option linter.unusedVariables false

theorem new_has {r1 r2 r3 r4 : Int} {r5 : Bool} {r6 r7 r8 r9 r10 : Int} (h : deck_New.f = some (r1, r2, r3, r4, r5, r6, r7, r8, r9, r10)) : r5 = false := by
  unfold deck_New.f at h
  have e := Option.some.inj h
  simp only [Prod.mk.injEq] at e
  exact e.2.2.2.2.1.symm
end Go.Proofs.YtlgfmmkabnbllaaDoor.PT
namespace Go.Proofs.YtlgfmmkabnbllaaDoor.PT
open Go.RowKit Go.Proofs.YtlgfmmkabnbllaaDoorW.PrintWords Go.Proofs.YtlgfmmkabnbllaaDoorW.PrintLast Go.Proofs.YtlgfmmkabnbllaaDoorW.PrintMore
attribute [local go_sem] max2_int min2_int max_two min_two max_three min_three max_four min_four   -- for this text's walks alone
open Go.Proofs.YtlgfmmkabnbllaaDoor.Hand
open Go.Proofs.YtlgfmmkabnbllaaDoor.PA
open Go.Proofs.YtlgfmmkabnbllaaDoor.PB
open Go.Proofs.YtlgfmmkabnbllaaDoor.PC
open Go.Proofs.YtlgfmmkabnbllaaDoor.PM
set_option linter.unusedVariables false
set_option linter.unusedSimpArgs false

/-! ### tiklaw23_DeckAir: function 7 -/
mutual
def tiklaw23_DeckAir.j0 : Nat → Int → Int → Int → Int → Nat → Bool → Option (Bool)
  | 0, _, _, _, _, _, _ => none
  | k + 1, x0, x1, x2, x3, x4, x29 => if x29 = true then ((tiklaw23_first.f k).bind fun t389 => (some t389)) else ((deck_New.f).bind fun bt390 => ((deck_New.f).bind fun bt401 => (if false = true then (tiklaw23_DeckAir.j1 k x0 x1 x2 x3 x4 true bt401.1 bt401.2.1 bt401.2.2.1 bt401.2.2.2.1 bt401.2.2.2.2.1 bt401.2.2.2.2.2.1 bt401.2.2.2.2.2.2.1 bt401.2.2.2.2.2.2.2.1 bt401.2.2.2.2.2.2.2.2.1 bt401.2.2.2.2.2.2.2.2.2) else ((deck_Deck_Play.f bt390.1 bt390.2.1 bt390.2.2.1 bt390.2.2.2.1 bt390.2.2.2.2.1 bt390.2.2.2.2.2.1 bt390.2.2.2.2.2.2.1 bt390.2.2.2.2.2.2.2.1 bt390.2.2.2.2.2.2.2.2.1 bt390.2.2.2.2.2.2.2.2.2 x0 x1 x2).bind fun bt412 => (if bt412.1 = 13 then ((deck_Deck_Mode.f bt412.2.1 bt412.2.2.1 bt412.2.2.2.1 bt412.2.2.2.2.1 bt412.2.2.2.2.2.1 bt412.2.2.2.2.2.2.1 bt412.2.2.2.2.2.2.2.1 bt412.2.2.2.2.2.2.2.2.1 bt412.2.2.2.2.2.2.2.2.2.1 bt412.2.2.2.2.2.2.2.2.2.2).bind fun bt423 => (if bt423.1 = 0 then ((deck_Deck_Pause.f bt423.2.1 bt423.2.2.1 bt423.2.2.2.1 bt423.2.2.2.2.1 bt423.2.2.2.2.2.1 bt423.2.2.2.2.2.2.1 bt423.2.2.2.2.2.2.2.1 bt423.2.2.2.2.2.2.2.2.1 bt423.2.2.2.2.2.2.2.2.2.1 bt423.2.2.2.2.2.2.2.2.2.2 x0 x1 x2).bind fun bt434 => (if bt434.1 = 0 then ((deck_Deck_Pos.f bt434.2.1 bt434.2.2.1 bt434.2.2.2.1 bt434.2.2.2.2.1 bt434.2.2.2.2.2.1 bt434.2.2.2.2.2.2.1 bt434.2.2.2.2.2.2.2.1 bt434.2.2.2.2.2.2.2.2.1 bt434.2.2.2.2.2.2.2.2.2.1 bt434.2.2.2.2.2.2.2.2.2.2).bind fun bt445 => (if bt445.1 = x2 then ((deck_Deck_Mode.f bt445.2.1 bt445.2.2.1 bt445.2.2.2.1 bt445.2.2.2.2.1 bt445.2.2.2.2.2.1 bt445.2.2.2.2.2.2.1 bt445.2.2.2.2.2.2.2.1 bt445.2.2.2.2.2.2.2.2.1 bt445.2.2.2.2.2.2.2.2.2.1 bt445.2.2.2.2.2.2.2.2.2.2).bind fun bt456 => (tiklaw23_DeckAir.j1 k x0 x1 x2 x3 x4 (bt456.1 != 1) bt401.1 bt401.2.1 bt401.2.2.1 bt401.2.2.2.1 bt401.2.2.2.2.1 bt401.2.2.2.2.2.1 bt401.2.2.2.2.2.2.1 bt401.2.2.2.2.2.2.2.1 bt401.2.2.2.2.2.2.2.2.1 bt401.2.2.2.2.2.2.2.2.2)) else (tiklaw23_DeckAir.j1 k x0 x1 x2 x3 x4 true bt401.1 bt401.2.1 bt401.2.2.1 bt401.2.2.2.1 bt401.2.2.2.2.1 bt401.2.2.2.2.2.1 bt401.2.2.2.2.2.2.1 bt401.2.2.2.2.2.2.2.1 bt401.2.2.2.2.2.2.2.2.1 bt401.2.2.2.2.2.2.2.2.2))) else (tiklaw23_DeckAir.j1 k x0 x1 x2 x3 x4 true bt401.1 bt401.2.1 bt401.2.2.1 bt401.2.2.2.1 bt401.2.2.2.2.1 bt401.2.2.2.2.2.1 bt401.2.2.2.2.2.2.1 bt401.2.2.2.2.2.2.2.1 bt401.2.2.2.2.2.2.2.2.1 bt401.2.2.2.2.2.2.2.2.2))) else (tiklaw23_DeckAir.j1 k x0 x1 x2 x3 x4 true bt401.1 bt401.2.1 bt401.2.2.1 bt401.2.2.2.1 bt401.2.2.2.2.1 bt401.2.2.2.2.2.1 bt401.2.2.2.2.2.2.1 bt401.2.2.2.2.2.2.2.1 bt401.2.2.2.2.2.2.2.2.1 bt401.2.2.2.2.2.2.2.2.2))) else (tiklaw23_DeckAir.j1 k x0 x1 x2 x3 x4 true bt401.1 bt401.2.1 bt401.2.2.1 bt401.2.2.2.1 bt401.2.2.2.2.1 bt401.2.2.2.2.2.1 bt401.2.2.2.2.2.2.1 bt401.2.2.2.2.2.2.2.1 bt401.2.2.2.2.2.2.2.2.1 bt401.2.2.2.2.2.2.2.2.2))))))
def tiklaw23_DeckAir.j1 : Nat → Int → Int → Int → Int → Nat → Bool → Int → Int → Int → Int → Bool → Int → Int → Int → Int → Int → Option (Bool)
  | 0, _, _, _, _, _, _, _, _, _, _, _, _, _, _, _, _ => none
  | k + 1, x0, x1, x2, x3, x4, x70, x412000, x412001, x412002, x412003, x412004, x412005, x412006, x412007, x412008, x412009 => if x70 = true then (some false) else ((deck_Deck_Seek.f x412000 x412001 x412002 x412003 x412004 x412005 x412006 x412007 x412008 x412009 x0 x1 x2 x3).bind fun bt467 => (if ((bt467.1 == 12) != (decide (x3 < x1))) = true then (tiklaw23_DeckAir.j2 k x0 x2 x4 true bt467.2.1 bt467.2.2.1 bt467.2.2.2.1 bt467.2.2.2.2.1 bt467.2.2.2.2.2.1 bt467.2.2.2.2.2.2.1 bt467.2.2.2.2.2.2.2.1 bt467.2.2.2.2.2.2.2.2.1 bt467.2.2.2.2.2.2.2.2.2.1 bt467.2.2.2.2.2.2.2.2.2.2) else (if bt467.1 = 0 then ((deck_Deck_Pos.f bt467.2.1 bt467.2.2.1 bt467.2.2.2.1 bt467.2.2.2.2.1 bt467.2.2.2.2.2.1 bt467.2.2.2.2.2.2.1 bt467.2.2.2.2.2.2.2.1 bt467.2.2.2.2.2.2.2.2.1 bt467.2.2.2.2.2.2.2.2.2.1 bt467.2.2.2.2.2.2.2.2.2.2).bind fun bt478 => (if bt478.1 = (mn x3 x2) then ((deck_Deck_Mode.f bt478.2.1 bt478.2.2.1 bt478.2.2.2.1 bt478.2.2.2.2.1 bt478.2.2.2.2.2.1 bt478.2.2.2.2.2.2.1 bt478.2.2.2.2.2.2.2.1 bt478.2.2.2.2.2.2.2.2.1 bt478.2.2.2.2.2.2.2.2.2.1 bt478.2.2.2.2.2.2.2.2.2.2).bind fun bt489 => (if bt489.1 = 1 then (tiklaw23_DeckAir.j2 k x0 x2 x4 false bt489.2.1 bt489.2.2.1 bt489.2.2.2.1 bt489.2.2.2.2.1 bt489.2.2.2.2.2.1 bt489.2.2.2.2.2.2.1 bt489.2.2.2.2.2.2.2.1 bt489.2.2.2.2.2.2.2.2.1 bt489.2.2.2.2.2.2.2.2.2.1 bt489.2.2.2.2.2.2.2.2.2.2) else (tiklaw23_DeckAir.j2 k x0 x2 x4 true bt489.2.1 bt489.2.2.1 bt489.2.2.2.1 bt489.2.2.2.2.1 bt489.2.2.2.2.2.1 bt489.2.2.2.2.2.2.1 bt489.2.2.2.2.2.2.2.1 bt489.2.2.2.2.2.2.2.2.1 bt489.2.2.2.2.2.2.2.2.2.1 bt489.2.2.2.2.2.2.2.2.2.2))) else (tiklaw23_DeckAir.j2 k x0 x2 x4 true bt478.2.1 bt478.2.2.1 bt478.2.2.2.1 bt478.2.2.2.2.1 bt478.2.2.2.2.2.1 bt478.2.2.2.2.2.2.1 bt478.2.2.2.2.2.2.2.1 bt478.2.2.2.2.2.2.2.2.1 bt478.2.2.2.2.2.2.2.2.2.1 bt478.2.2.2.2.2.2.2.2.2.2))) else ((deck_Deck_Mode.f bt467.2.1 bt467.2.2.1 bt467.2.2.2.1 bt467.2.2.2.2.1 bt467.2.2.2.2.2.1 bt467.2.2.2.2.2.2.1 bt467.2.2.2.2.2.2.2.1 bt467.2.2.2.2.2.2.2.2.1 bt467.2.2.2.2.2.2.2.2.2.1 bt467.2.2.2.2.2.2.2.2.2.2).bind fun bt500 => (tiklaw23_DeckAir.j2 k x0 x2 x4 (bt500.1 != 0) bt500.2.1 bt500.2.2.1 bt500.2.2.2.1 bt500.2.2.2.2.1 bt500.2.2.2.2.2.1 bt500.2.2.2.2.2.2.1 bt500.2.2.2.2.2.2.2.1 bt500.2.2.2.2.2.2.2.2.1 bt500.2.2.2.2.2.2.2.2.2.1 bt500.2.2.2.2.2.2.2.2.2.2)))))
def tiklaw23_DeckAir.j2 : Nat → Int → Int → Nat → Bool → Int → Int → Int → Int → Bool → Int → Int → Int → Int → Int → Option (Bool)
  | 0, _, _, _, _, _, _, _, _, _, _, _, _, _, _ => none
  | k + 1, x0, x2, x4, x108, x412000, x412001, x412002, x412003, x412004, x412005, x412006, x412007, x412008, x412009 => if x108 = true then (some false) else ((rate_Of.f x4).bind fun bt511 => ((deck_Deck_Speed.f k x412000 x412001 x412002 x412003 x412004 x412005 x412006 x412007 x412008 x412009 x0 x4).bind fun bt515 => ((deck_Deck_Live.f bt515.2.1 bt515.2.2.1 bt515.2.2.2.1 bt515.2.2.2.2.1 bt515.2.2.2.2.2.1 bt515.2.2.2.2.2.2.1 bt515.2.2.2.2.2.2.2.1 bt515.2.2.2.2.2.2.2.2.1 bt515.2.2.2.2.2.2.2.2.2.1 bt515.2.2.2.2.2.2.2.2.2.2 x0).bind fun bt526 => ((tiklaw23_first.f k).bind fun t536 => (if t536 = true then (if bt511.2.2 = bt515.1 then ((deck_Deck_Mode.f bt526.1 bt526.2.1 bt526.2.2.1 bt526.2.2.2.1 bt526.2.2.2.2.1 bt526.2.2.2.2.2.1 bt526.2.2.2.2.2.2.1 bt526.2.2.2.2.2.2.2.1 bt526.2.2.2.2.2.2.2.2.1 bt526.2.2.2.2.2.2.2.2.2).bind fun bt537 => (if bt537.1 = 0 then ((deck_Deck_Pause.f bt537.2.1 bt537.2.2.1 bt537.2.2.2.1 bt537.2.2.2.2.1 bt537.2.2.2.2.2.1 bt537.2.2.2.2.2.2.1 bt537.2.2.2.2.2.2.2.1 bt537.2.2.2.2.2.2.2.2.1 bt537.2.2.2.2.2.2.2.2.2.1 bt537.2.2.2.2.2.2.2.2.2.2 x0 (IntKind.u64.wrap (x2 + 1)) x2).bind fun bt548 => (if bt548.1 = 1 then ((deck_Deck_Mode.f bt548.2.1 bt548.2.2.1 bt548.2.2.2.1 bt548.2.2.2.2.1 bt548.2.2.2.2.2.1 bt548.2.2.2.2.2.2.1 bt548.2.2.2.2.2.2.2.1 bt548.2.2.2.2.2.2.2.2.1 bt548.2.2.2.2.2.2.2.2.2.1 bt548.2.2.2.2.2.2.2.2.2.2).bind fun bt559 => (some (bt559.1 == 0))) else (some false))) else (some false))) else (some false)) else (some false))))))
end
def tiklaw23_DeckAir.f (k : Nat) (a0 : Int) (a1 : Int) (a2 : Int) (a3 : Int) (a4 : Nat) : Option (Bool) := (tiklaw23_first.f k).bind fun t388 => (if t388 = true then (if a1 > a2 then (tiklaw23_DeckAir.j0 k a0 a1 a2 a3 a4 true) else (if a2 > 4611686018427387904 then (tiklaw23_DeckAir.j0 k a0 a1 a2 a3 a4 true) else (tiklaw23_DeckAir.j0 k a0 a1 a2 a3 a4 (decide (a0 > 4611686018427387904))))) else (some false))
theorem tiklaw23_DeckAir.mono_l : ∀ k, (∀ y0 y1 y2 y3 y4 y5, LeO (tiklaw23_DeckAir.j0 k y0 y1 y2 y3 y4 y5) (tiklaw23_DeckAir.j0 (k + 1) y0 y1 y2 y3 y4 y5)) ∧ (∀ y0 y1 y2 y3 y4 y5 y6 y7 y8 y9 y10 y11 y12 y13 y14 y15, LeO (tiklaw23_DeckAir.j1 k y0 y1 y2 y3 y4 y5 y6 y7 y8 y9 y10 y11 y12 y13 y14 y15) (tiklaw23_DeckAir.j1 (k + 1) y0 y1 y2 y3 y4 y5 y6 y7 y8 y9 y10 y11 y12 y13 y14 y15)) ∧ (∀ y0 y1 y2 y3 y4 y5 y6 y7 y8 y9 y10 y11 y12 y13, LeO (tiklaw23_DeckAir.j2 k y0 y1 y2 y3 y4 y5 y6 y7 y8 y9 y10 y11 y12 y13) (tiklaw23_DeckAir.j2 (k + 1) y0 y1 y2 y3 y4 y5 y6 y7 y8 y9 y10 y11 y12 y13))
  | 0 => ⟨fun _ _ _ _ _ _ r h => by simp [tiklaw23_DeckAir.j0] at h, fun _ _ _ _ _ _ _ _ _ _ _ _ _ _ _ _ r h => by simp [tiklaw23_DeckAir.j1] at h, fun _ _ _ _ _ _ _ _ _ _ _ _ _ _ r h => by simp [tiklaw23_DeckAir.j2] at h⟩
  | k + 1 => by
    obtain ⟨ih0, ih1, ih2⟩ := tiklaw23_DeckAir.mono_l k
    refine ⟨?_, ?_, ?_⟩
    · intro y0 y1 y2 y3 y4 y5
      unfold tiklaw23_DeckAir.j0
      repeat' first
      | (with_reducible exact ih0 _ _ _ _ _ _)
      | (with_reducible exact ih1 _ _ _ _ _ _ _ _ _ _ _ _ _ _ _ _)
      | (with_reducible exact ih2 _ _ _ _ _ _ _ _ _ _ _ _ _ _)
      | (with_reducible exact deck_Deck_Speed.mono _ _ _ _ _ _ _ _ _ _ _ _ _)
      | (with_reducible exact tiklaw23_first.mono _)
      | (with_reducible exact LeO.refl _)
      | (with_reducible exact LeO.none _)
      | (with_reducible refine LeO.ite ?_ ?_)
      | (with_reducible refine LeO.bind ?_ (fun _ => ?_))
      | exact ih0 _ _ _ _ _ _
      | exact ih1 _ _ _ _ _ _ _ _ _ _ _ _ _ _ _ _
      | exact ih2 _ _ _ _ _ _ _ _ _ _ _ _ _ _
      | exact deck_Deck_Speed.mono _ _ _ _ _ _ _ _ _ _ _ _ _
      | exact tiklaw23_first.mono _
      | exact LeO.none _
      | refine LeO.ite ?_ ?_
      | refine LeO.bind ?_ (fun _ => ?_)
    · intro y0 y1 y2 y3 y4 y5 y6 y7 y8 y9 y10 y11 y12 y13 y14 y15
      unfold tiklaw23_DeckAir.j1
      repeat' first
      | (with_reducible exact ih0 _ _ _ _ _ _)
      | (with_reducible exact ih1 _ _ _ _ _ _ _ _ _ _ _ _ _ _ _ _)
      | (with_reducible exact ih2 _ _ _ _ _ _ _ _ _ _ _ _ _ _)
      | (with_reducible exact deck_Deck_Speed.mono _ _ _ _ _ _ _ _ _ _ _ _ _)
      | (with_reducible exact tiklaw23_first.mono _)
      | (with_reducible exact LeO.refl _)
      | (with_reducible exact LeO.none _)
      | (with_reducible refine LeO.ite ?_ ?_)
      | (with_reducible refine LeO.bind ?_ (fun _ => ?_))
      | exact ih0 _ _ _ _ _ _
      | exact ih1 _ _ _ _ _ _ _ _ _ _ _ _ _ _ _ _
      | exact ih2 _ _ _ _ _ _ _ _ _ _ _ _ _ _
      | exact deck_Deck_Speed.mono _ _ _ _ _ _ _ _ _ _ _ _ _
      | exact tiklaw23_first.mono _
      | exact LeO.none _
      | refine LeO.ite ?_ ?_
      | refine LeO.bind ?_ (fun _ => ?_)
    · intro y0 y1 y2 y3 y4 y5 y6 y7 y8 y9 y10 y11 y12 y13
      unfold tiklaw23_DeckAir.j2
      repeat' first
      | (with_reducible exact ih0 _ _ _ _ _ _)
      | (with_reducible exact ih1 _ _ _ _ _ _ _ _ _ _ _ _ _ _ _ _)
      | (with_reducible exact ih2 _ _ _ _ _ _ _ _ _ _ _ _ _ _)
      | (with_reducible exact deck_Deck_Speed.mono _ _ _ _ _ _ _ _ _ _ _ _ _)
      | (with_reducible exact tiklaw23_first.mono _)
      | (with_reducible exact LeO.refl _)
      | (with_reducible exact LeO.none _)
      | (with_reducible refine LeO.ite ?_ ?_)
      | (with_reducible refine LeO.bind ?_ (fun _ => ?_))
      | exact ih0 _ _ _ _ _ _
      | exact ih1 _ _ _ _ _ _ _ _ _ _ _ _ _ _ _ _
      | exact ih2 _ _ _ _ _ _ _ _ _ _ _ _ _ _
      | exact deck_Deck_Speed.mono _ _ _ _ _ _ _ _ _ _ _ _ _
      | exact tiklaw23_first.mono _
      | exact LeO.none _
      | refine LeO.ite ?_ ?_
      | refine LeO.bind ?_ (fun _ => ?_)
theorem tiklaw23_DeckAir.mono : ∀ a0 a1 a2 a3 a4 k, LeO (tiklaw23_DeckAir.f k a0 a1 a2 a3 a4) (tiklaw23_DeckAir.f (k + 1) a0 a1 a2 a3 a4) := by
  intro a0 a1 a2 a3 a4 k
  obtain ⟨ih0, ih1, ih2⟩ := tiklaw23_DeckAir.mono_l k
  unfold tiklaw23_DeckAir.f
  repeat' first
      | (with_reducible exact ih0 _ _ _ _ _ _)
      | (with_reducible exact ih1 _ _ _ _ _ _ _ _ _ _ _ _ _ _ _ _)
      | (with_reducible exact ih2 _ _ _ _ _ _ _ _ _ _ _ _ _ _)
      | (with_reducible exact deck_Deck_Speed.mono _ _ _ _ _ _ _ _ _ _ _ _ _)
      | (with_reducible exact tiklaw23_first.mono _)
      | (with_reducible exact LeO.refl _)
      | (with_reducible exact LeO.none _)
      | (with_reducible refine LeO.ite ?_ ?_)
      | (with_reducible refine LeO.bind ?_ (fun _ => ?_))
      | exact ih0 _ _ _ _ _ _
      | exact ih1 _ _ _ _ _ _ _ _ _ _ _ _ _ _ _ _
      | exact ih2 _ _ _ _ _ _ _ _ _ _ _ _ _ _
      | exact deck_Deck_Speed.mono _ _ _ _ _ _ _ _ _ _ _ _ _
      | exact tiklaw23_first.mono _
      | exact LeO.none _
      | refine LeO.ite ?_ ?_
      | refine LeO.bind ?_ (fun _ => ?_)
set_option maxHeartbeats 8000000 in
set_option maxRecDepth 100000 in
theorem tiklaw23_DeckAir.calls (k : Nat) (a0 : Int) (a1 : Int) (a2 : Int) (a3 : Int) (a4 : Nat) (r : Bool) (w : World) (hT : TabW w) (hr_ : Aside0 (r = true)) (h : tiklaw23_DeckAir.f k a0 a1 a2 a3 a4 = some r) :
    Calls Tryd.prog 7 #[.int .u64 a0, .int .u64 a1, .int .u64 a2, .int .u64 a3, .float .f64 a4] w fun e w' => e = .returned (.bool r) ∧ Below w.heap.size w w' := by
  have HT := Aside0.mk hT
  clear hT
  have hu30 := Tryd.underlying30
  have HB := Aside0.mk (Below.refl w.heap.size w)
  have H : ((tiklaw23_first.f k).bind fun t388 => (if t388 = true then (if a1 > a2 then (tiklaw23_DeckAir.j0 k a0 a1 a2 a3 a4 true) else (if a2 > 4611686018427387904 then (tiklaw23_DeckAir.j0 k a0 a1 a2 a3 a4 true) else (tiklaw23_DeckAir.j0 k a0 a1 a2 a3 a4 (decide (a0 > 4611686018427387904))))) else (some false))) = some r := h
  clear h
  replace H := Option.bind_eq_some_iff.mp H
  obtain ⟨t388, A60, H⟩ := H
  replace H : (if t388 = true then (if a1 > a2 then (tiklaw23_DeckAir.j0 k a0 a1 a2 a3 a4 true) else (if a2 > 4611686018427387904 then (tiklaw23_DeckAir.j0 k a0 a1 a2 a3 a4 true) else (tiklaw23_DeckAir.j0 k a0 a1 a2 a3 a4 (decide (a0 > 4611686018427387904))))) else (some false)) = some r := H
  have A6 := Aside0.mk A60
  clear A60
  by_cases c7 : t388 = true
  · subst c7
    have H1 : (if a1 > a2 then (tiklaw23_DeckAir.j0 k a0 a1 a2 a3 a4 true) else (if a2 > 4611686018427387904 then (tiklaw23_DeckAir.j0 k a0 a1 a2 a3 a4 true) else (tiklaw23_DeckAir.j0 k a0 a1 a2 a3 a4 (decide (a0 > 4611686018427387904))))) = some r := by rw [if_pos rfl] at H; exact H
    clear H
    have H := H1
    clear H1
    have HC8 := Aside0.mk H
    clear H
    go_enter Tryd.func7, Tryd.ntmps7
    go_upto_region 3 with (first | ((with_reducible refine gate_callee (f := 12) rfl ?_); refine goesL_ (some 17) rfl rfl Tryd.func12 (by kernel_rfl) rfl #[] rfl (by (try simp only [List.map_toArray, List.map_cons, List.map_nil]); first | done | rfl | (simp only [List.length_drop, List.length_take]; rfl)) ?_; (with_reducible refine (tiklaw23_first.calls k  true _ ?side1 A6.out).mono ?_); (case side1 => first | (with_reducible exact HT.out) | exact tabAt HT.out (by repeat (first | (with_reducible first | exact HB.out | apply below_alloc | apply pw_below_drewN | apply below_drew1) | exact HB.out))); rintro e w9 ⟨rfl, hb⟩; refine ⟨_, rfl, ?_⟩; have n0_ := Aside0.mk (below_step (by repeat (first | (with_reducible first | exact HB.out | apply below_alloc | apply pw_below_drewN | apply below_drew1) | exact HB.out)) hb); clear HB; have HB := n0_; clear n0_; (try clear hb); (try clear hb2); (try clear hk); (try clear hi)))
    (try simp only [Act.put, List.setIfInBounds_toArray, List.set_cons_zero, List.set_cons_succ])
    go_cut [29] (fun v29 wc => ∃ (kq : Nat) (x29_7 : Bool), v29 = .bool x29_7 ∧ Aside0 (tiklaw23_DeckAir.j0 kq a0 a1 a2 a3 a4 x29_7 = some r) ∧ Aside0 (kq ≤ k) ∧ Aside0 (Below w.heap.size w wc))
    case first =>
      have H := HC8.out
      clear HC8
      by_cases c10 : a1 > a2
      · rw [if_pos c10] at H
        have c10b0 : decide (a2 < a1) = true := decide_eq_true c10
        clear c10
        (first | rw [c10b0] | (simp only [i64_w, i32_w]; rw [c10b0]) | skip)
        have H' := Aside0.mk H
        clear H
        go_wp2
        go_meet
        case rel => exact ⟨_, (true), (by first | rfl | (simp; done) | (simp [*]; done)), H', ⟨by first | omega | exact Nat.le_refl _⟩, ⟨by repeat (first | (with_reducible first | exact HB.out | apply below_alloc | apply pw_below_drewN | apply below_drew1) | exact HB.out)⟩⟩
      · rw [if_neg c10] at H
        have c10b0 : decide (a2 < a1) = false := decide_eq_false c10
        clear c10
        (first | rw [c10b0] | (simp only [i64_w, i32_w]; rw [c10b0]) | skip)
        by_cases c11 : a2 > 4611686018427387904
        · rw [if_pos c11] at H
          have c11b0 : decide (4611686018427387904 < a2) = true := decide_eq_true c11
          clear c11
          have H' := Aside0.mk H
          clear H
          go_wp2
          go_meet
          case rel => exact ⟨_, (true), (by first | rfl | (simp; done) | (simp [*]; done)), H', ⟨by first | omega | exact Nat.le_refl _⟩, ⟨by repeat (first | (with_reducible first | exact HB.out | apply below_alloc | apply pw_below_drewN | apply below_drew1) | exact HB.out)⟩⟩
        · rw [if_neg c11] at H
          have c11b0 : decide (4611686018427387904 < a2) = false := decide_eq_false c11
          clear c11
          have H' := Aside0.mk H
          clear H
          go_wp2
          go_meet
          case rel => exact ⟨_, (decide (a0 > 4611686018427387904)), (by first | rfl | (simp; done) | (simp [*]; done)), H', ⟨by first | omega | exact Nat.le_refl _⟩, ⟨by repeat (first | (with_reducible first | exact HB.out | apply below_alloc | apply pw_below_drewN | apply below_drew1) | exact HB.out)⟩⟩
    case rest =>
      clear HC8
      try clear c1
      try clear p2
      try clear c7
      try clear c10
      try clear c10b0
      try clear c11
      try clear c11b0
      obtain ⟨kq, x29_7, rfl, HA, HJ7, HB⟩ := hcut
      cases kq with
      | zero => exact absurd HA.out (by simp [tiklaw23_DeckAir.j0])
      | succ kj7 =>
        have H := HA.out
        clear HA
        simp only [tiklaw23_DeckAir.j0] at H
        by_cases c12 : x29_7 = true
        · subst c12
          have H1 : ((tiklaw23_first.f kj7).bind fun t389 => (some t389)) = some r := by rw [if_pos rfl] at H; exact H
          clear H
          have H := H1
          clear H1
          replace H := Option.bind_eq_some_iff.mp H
          obtain ⟨t389, A130, H⟩ := H
          replace H : (some t389) = some r := H
          have A13 := Aside0.mk A130
          clear A130
          obtain rfl := Option.some.inj H
          go_wp2_with (first | ((with_reducible refine gate_callee (f := 12) rfl ?_); refine goesL_ (some 30) rfl rfl Tryd.func12 (by kernel_rfl) rfl #[] rfl (by (try simp only [List.map_toArray, List.map_cons, List.map_nil]); first | done | rfl | (simp only [List.length_drop, List.length_take]; rfl)) ?_; (with_reducible refine (tiklaw23_first.calls kj7  t389 _ ?side1 A13.out).mono ?_); (case side1 => first | (with_reducible exact HT.out) | exact tabAt HT.out (by repeat (first | (with_reducible first | exact HB.out | apply below_alloc | apply pw_below_drewN | apply below_drew1) | exact HB.out))); rintro e w14 ⟨rfl, hb⟩; refine ⟨_, rfl, ?_⟩; have n0_ := Aside0.mk (below_step (by repeat (first | (with_reducible first | exact HB.out | apply below_alloc | apply pw_below_drewN | apply below_drew1) | exact HB.out)) hb); clear HB; have HB := n0_; clear n0_; (try clear hb); (try clear hb2); (try clear hk); (try clear hi)))
          go_ret
          exact ⟨by first | rfl | (simp [errW_none, errW_some] <;> rfl) | (simp [*, errW_none, errW_some] <;> rfl), by repeat (first | (with_reducible first | exact HB.out | apply below_alloc | apply pw_below_drewN | apply below_drew1) | exact HB.out)⟩
        · replace c12 := Bool.eq_false_iff.mpr c12
          subst c12
          have H1 : ((deck_New.f).bind fun bt390 => ((deck_New.f).bind fun bt401 => (if false = true then (tiklaw23_DeckAir.j1 kj7 a0 a1 a2 a3 a4 true bt401.1 bt401.2.1 bt401.2.2.1 bt401.2.2.2.1 bt401.2.2.2.2.1 bt401.2.2.2.2.2.1 bt401.2.2.2.2.2.2.1 bt401.2.2.2.2.2.2.2.1 bt401.2.2.2.2.2.2.2.2.1 bt401.2.2.2.2.2.2.2.2.2) else ((deck_Deck_Play.f bt390.1 bt390.2.1 bt390.2.2.1 bt390.2.2.2.1 bt390.2.2.2.2.1 bt390.2.2.2.2.2.1 bt390.2.2.2.2.2.2.1 bt390.2.2.2.2.2.2.2.1 bt390.2.2.2.2.2.2.2.2.1 bt390.2.2.2.2.2.2.2.2.2 a0 a1 a2).bind fun bt412 => (if bt412.1 = 13 then ((deck_Deck_Mode.f bt412.2.1 bt412.2.2.1 bt412.2.2.2.1 bt412.2.2.2.2.1 bt412.2.2.2.2.2.1 bt412.2.2.2.2.2.2.1 bt412.2.2.2.2.2.2.2.1 bt412.2.2.2.2.2.2.2.2.1 bt412.2.2.2.2.2.2.2.2.2.1 bt412.2.2.2.2.2.2.2.2.2.2).bind fun bt423 => (if bt423.1 = 0 then ((deck_Deck_Pause.f bt423.2.1 bt423.2.2.1 bt423.2.2.2.1 bt423.2.2.2.2.1 bt423.2.2.2.2.2.1 bt423.2.2.2.2.2.2.1 bt423.2.2.2.2.2.2.2.1 bt423.2.2.2.2.2.2.2.2.1 bt423.2.2.2.2.2.2.2.2.2.1 bt423.2.2.2.2.2.2.2.2.2.2 a0 a1 a2).bind fun bt434 => (if bt434.1 = 0 then ((deck_Deck_Pos.f bt434.2.1 bt434.2.2.1 bt434.2.2.2.1 bt434.2.2.2.2.1 bt434.2.2.2.2.2.1 bt434.2.2.2.2.2.2.1 bt434.2.2.2.2.2.2.2.1 bt434.2.2.2.2.2.2.2.2.1 bt434.2.2.2.2.2.2.2.2.2.1 bt434.2.2.2.2.2.2.2.2.2.2).bind fun bt445 => (if bt445.1 = a2 then ((deck_Deck_Mode.f bt445.2.1 bt445.2.2.1 bt445.2.2.2.1 bt445.2.2.2.2.1 bt445.2.2.2.2.2.1 bt445.2.2.2.2.2.2.1 bt445.2.2.2.2.2.2.2.1 bt445.2.2.2.2.2.2.2.2.1 bt445.2.2.2.2.2.2.2.2.2.1 bt445.2.2.2.2.2.2.2.2.2.2).bind fun bt456 => (tiklaw23_DeckAir.j1 kj7 a0 a1 a2 a3 a4 (bt456.1 != 1) bt401.1 bt401.2.1 bt401.2.2.1 bt401.2.2.2.1 bt401.2.2.2.2.1 bt401.2.2.2.2.2.1 bt401.2.2.2.2.2.2.1 bt401.2.2.2.2.2.2.2.1 bt401.2.2.2.2.2.2.2.2.1 bt401.2.2.2.2.2.2.2.2.2)) else (tiklaw23_DeckAir.j1 kj7 a0 a1 a2 a3 a4 true bt401.1 bt401.2.1 bt401.2.2.1 bt401.2.2.2.1 bt401.2.2.2.2.1 bt401.2.2.2.2.2.1 bt401.2.2.2.2.2.2.1 bt401.2.2.2.2.2.2.2.1 bt401.2.2.2.2.2.2.2.2.1 bt401.2.2.2.2.2.2.2.2.2))) else (tiklaw23_DeckAir.j1 kj7 a0 a1 a2 a3 a4 true bt401.1 bt401.2.1 bt401.2.2.1 bt401.2.2.2.1 bt401.2.2.2.2.1 bt401.2.2.2.2.2.1 bt401.2.2.2.2.2.2.1 bt401.2.2.2.2.2.2.2.1 bt401.2.2.2.2.2.2.2.2.1 bt401.2.2.2.2.2.2.2.2.2))) else (tiklaw23_DeckAir.j1 kj7 a0 a1 a2 a3 a4 true bt401.1 bt401.2.1 bt401.2.2.1 bt401.2.2.2.1 bt401.2.2.2.2.1 bt401.2.2.2.2.2.1 bt401.2.2.2.2.2.2.1 bt401.2.2.2.2.2.2.2.1 bt401.2.2.2.2.2.2.2.2.1 bt401.2.2.2.2.2.2.2.2.2))) else (tiklaw23_DeckAir.j1 kj7 a0 a1 a2 a3 a4 true bt401.1 bt401.2.1 bt401.2.2.1 bt401.2.2.2.1 bt401.2.2.2.2.1 bt401.2.2.2.2.2.1 bt401.2.2.2.2.2.2.1 bt401.2.2.2.2.2.2.2.1 bt401.2.2.2.2.2.2.2.2.1 bt401.2.2.2.2.2.2.2.2.2)))))) = some r := by rw [if_neg (show ¬ (false = true) by decide)] at H; exact H
          clear H
          have H := H1
          clear H1
          replace H := Option.bind_eq_some_iff.mp H
          obtain ⟨⟨t390, t391, t392, t393, t394, t395, t396, t397, t398, t399⟩, A150, H⟩ := H
          replace H : ((deck_New.f).bind fun bt401 => (if false = true then (tiklaw23_DeckAir.j1 kj7 a0 a1 a2 a3 a4 true bt401.1 bt401.2.1 bt401.2.2.1 bt401.2.2.2.1 bt401.2.2.2.2.1 bt401.2.2.2.2.2.1 bt401.2.2.2.2.2.2.1 bt401.2.2.2.2.2.2.2.1 bt401.2.2.2.2.2.2.2.2.1 bt401.2.2.2.2.2.2.2.2.2) else ((deck_Deck_Play.f t390 t391 t392 t393 t394 t395 t396 t397 t398 t399 a0 a1 a2).bind fun bt412 => (if bt412.1 = 13 then ((deck_Deck_Mode.f bt412.2.1 bt412.2.2.1 bt412.2.2.2.1 bt412.2.2.2.2.1 bt412.2.2.2.2.2.1 bt412.2.2.2.2.2.2.1 bt412.2.2.2.2.2.2.2.1 bt412.2.2.2.2.2.2.2.2.1 bt412.2.2.2.2.2.2.2.2.2.1 bt412.2.2.2.2.2.2.2.2.2.2).bind fun bt423 => (if bt423.1 = 0 then ((deck_Deck_Pause.f bt423.2.1 bt423.2.2.1 bt423.2.2.2.1 bt423.2.2.2.2.1 bt423.2.2.2.2.2.1 bt423.2.2.2.2.2.2.1 bt423.2.2.2.2.2.2.2.1 bt423.2.2.2.2.2.2.2.2.1 bt423.2.2.2.2.2.2.2.2.2.1 bt423.2.2.2.2.2.2.2.2.2.2 a0 a1 a2).bind fun bt434 => (if bt434.1 = 0 then ((deck_Deck_Pos.f bt434.2.1 bt434.2.2.1 bt434.2.2.2.1 bt434.2.2.2.2.1 bt434.2.2.2.2.2.1 bt434.2.2.2.2.2.2.1 bt434.2.2.2.2.2.2.2.1 bt434.2.2.2.2.2.2.2.2.1 bt434.2.2.2.2.2.2.2.2.2.1 bt434.2.2.2.2.2.2.2.2.2.2).bind fun bt445 => (if bt445.1 = a2 then ((deck_Deck_Mode.f bt445.2.1 bt445.2.2.1 bt445.2.2.2.1 bt445.2.2.2.2.1 bt445.2.2.2.2.2.1 bt445.2.2.2.2.2.2.1 bt445.2.2.2.2.2.2.2.1 bt445.2.2.2.2.2.2.2.2.1 bt445.2.2.2.2.2.2.2.2.2.1 bt445.2.2.2.2.2.2.2.2.2.2).bind fun bt456 => (tiklaw23_DeckAir.j1 kj7 a0 a1 a2 a3 a4 (bt456.1 != 1) bt401.1 bt401.2.1 bt401.2.2.1 bt401.2.2.2.1 bt401.2.2.2.2.1 bt401.2.2.2.2.2.1 bt401.2.2.2.2.2.2.1 bt401.2.2.2.2.2.2.2.1 bt401.2.2.2.2.2.2.2.2.1 bt401.2.2.2.2.2.2.2.2.2)) else (tiklaw23_DeckAir.j1 kj7 a0 a1 a2 a3 a4 true bt401.1 bt401.2.1 bt401.2.2.1 bt401.2.2.2.1 bt401.2.2.2.2.1 bt401.2.2.2.2.2.1 bt401.2.2.2.2.2.2.1 bt401.2.2.2.2.2.2.2.1 bt401.2.2.2.2.2.2.2.2.1 bt401.2.2.2.2.2.2.2.2.2))) else (tiklaw23_DeckAir.j1 kj7 a0 a1 a2 a3 a4 true bt401.1 bt401.2.1 bt401.2.2.1 bt401.2.2.2.1 bt401.2.2.2.2.1 bt401.2.2.2.2.2.1 bt401.2.2.2.2.2.2.1 bt401.2.2.2.2.2.2.2.1 bt401.2.2.2.2.2.2.2.2.1 bt401.2.2.2.2.2.2.2.2.2))) else (tiklaw23_DeckAir.j1 kj7 a0 a1 a2 a3 a4 true bt401.1 bt401.2.1 bt401.2.2.1 bt401.2.2.2.1 bt401.2.2.2.2.1 bt401.2.2.2.2.2.1 bt401.2.2.2.2.2.2.1 bt401.2.2.2.2.2.2.2.1 bt401.2.2.2.2.2.2.2.2.1 bt401.2.2.2.2.2.2.2.2.2))) else (tiklaw23_DeckAir.j1 kj7 a0 a1 a2 a3 a4 true bt401.1 bt401.2.1 bt401.2.2.1 bt401.2.2.2.1 bt401.2.2.2.2.1 bt401.2.2.2.2.2.1 bt401.2.2.2.2.2.2.1 bt401.2.2.2.2.2.2.2.1 bt401.2.2.2.2.2.2.2.2.1 bt401.2.2.2.2.2.2.2.2.2))))) = some r := H
          have A15 := Aside0.mk A150
          clear A150
          replace H := Option.bind_eq_some_iff.mp H
          obtain ⟨⟨t401, t402, t403, t404, t405, t406, t407, t408, t409, t410⟩, A160, H⟩ := H
          replace H : (if false = true then (tiklaw23_DeckAir.j1 kj7 a0 a1 a2 a3 a4 true t401 t402 t403 t404 t405 t406 t407 t408 t409 t410) else ((deck_Deck_Play.f t390 t391 t392 t393 t394 t395 t396 t397 t398 t399 a0 a1 a2).bind fun bt412 => (if bt412.1 = 13 then ((deck_Deck_Mode.f bt412.2.1 bt412.2.2.1 bt412.2.2.2.1 bt412.2.2.2.2.1 bt412.2.2.2.2.2.1 bt412.2.2.2.2.2.2.1 bt412.2.2.2.2.2.2.2.1 bt412.2.2.2.2.2.2.2.2.1 bt412.2.2.2.2.2.2.2.2.2.1 bt412.2.2.2.2.2.2.2.2.2.2).bind fun bt423 => (if bt423.1 = 0 then ((deck_Deck_Pause.f bt423.2.1 bt423.2.2.1 bt423.2.2.2.1 bt423.2.2.2.2.1 bt423.2.2.2.2.2.1 bt423.2.2.2.2.2.2.1 bt423.2.2.2.2.2.2.2.1 bt423.2.2.2.2.2.2.2.2.1 bt423.2.2.2.2.2.2.2.2.2.1 bt423.2.2.2.2.2.2.2.2.2.2 a0 a1 a2).bind fun bt434 => (if bt434.1 = 0 then ((deck_Deck_Pos.f bt434.2.1 bt434.2.2.1 bt434.2.2.2.1 bt434.2.2.2.2.1 bt434.2.2.2.2.2.1 bt434.2.2.2.2.2.2.1 bt434.2.2.2.2.2.2.2.1 bt434.2.2.2.2.2.2.2.2.1 bt434.2.2.2.2.2.2.2.2.2.1 bt434.2.2.2.2.2.2.2.2.2.2).bind fun bt445 => (if bt445.1 = a2 then ((deck_Deck_Mode.f bt445.2.1 bt445.2.2.1 bt445.2.2.2.1 bt445.2.2.2.2.1 bt445.2.2.2.2.2.1 bt445.2.2.2.2.2.2.1 bt445.2.2.2.2.2.2.2.1 bt445.2.2.2.2.2.2.2.2.1 bt445.2.2.2.2.2.2.2.2.2.1 bt445.2.2.2.2.2.2.2.2.2.2).bind fun bt456 => (tiklaw23_DeckAir.j1 kj7 a0 a1 a2 a3 a4 (bt456.1 != 1) t401 t402 t403 t404 t405 t406 t407 t408 t409 t410)) else (tiklaw23_DeckAir.j1 kj7 a0 a1 a2 a3 a4 true t401 t402 t403 t404 t405 t406 t407 t408 t409 t410))) else (tiklaw23_DeckAir.j1 kj7 a0 a1 a2 a3 a4 true t401 t402 t403 t404 t405 t406 t407 t408 t409 t410))) else (tiklaw23_DeckAir.j1 kj7 a0 a1 a2 a3 a4 true t401 t402 t403 t404 t405 t406 t407 t408 t409 t410))) else (tiklaw23_DeckAir.j1 kj7 a0 a1 a2 a3 a4 true t401 t402 t403 t404 t405 t406 t407 t408 t409 t410)))) = some r := H
          have A16 := Aside0.mk A160
          clear A160
          have HC17 := Aside0.mk H
          clear H
          go_upto_region 6 with (first | ((with_reducible refine gate_callee (f := 13) rfl ?_); refine goesL_ (some 31) rfl rfl Tryd.func13 (by kernel_rfl) rfl #[] rfl (by (try simp only [List.map_toArray, List.map_cons, List.map_nil]); first | done | rfl | (simp only [List.length_drop, List.length_take]; rfl)) ?_; (with_reducible refine (deck_New.calls  t390 t391 t392 t393 t394 t395 t396 t397 t398 t399 w _ ?side1 A15.out).mono ?_); (case side1 => repeat (first | (with_reducible first | exact HB.out | apply below_alloc | apply pw_below_drewN | apply below_drew1) | exact HB.out)); rintro e w18 ⟨g400, rfl, hi, hb, hb2, hnew⟩; refine ⟨_, rfl, ?_⟩; have n0_ := Aside0.mk (hb); have n1_ := Aside0.mk (hi); clear HB; have HB := n0_; have HI400 := n1_; clear n0_ n1_; (try clear hb); (try clear hb2); (try clear hk); (try clear hi)) | ((with_reducible refine gate_callee (f := 13) rfl ?_); refine goesL_ (some 32) rfl rfl Tryd.func13 (by kernel_rfl) rfl #[] rfl (by (try simp only [List.map_toArray, List.map_cons, List.map_nil]); first | done | rfl | (simp only [List.length_drop, List.length_take]; rfl)) ?_; (with_reducible refine (deck_New.calls  t401 t402 t403 t404 t405 t406 t407 t408 t409 t410 w _ ?side1 A16.out).mono ?_); (case side1 => repeat (first | (with_reducible first | exact HB.out | apply below_alloc | apply pw_below_drewN | apply below_drew1 | refine below_set ?_ (IsS100.ge HI400.out)) | exact HB.out)); rintro e w19 ⟨g411, rfl, hi, hb, hb2, hnew⟩; refine ⟨_, rfl, ?_⟩; have n0_ := Aside0.mk ((Nat.ne_of_lt (Nat.lt_of_lt_of_le (IsS100.lt (show IsS100 w _ g400 t390 t391 t392 t393 t394 t395 t396 t397 t398 t399 from by repeat (first | (with_reducible first | exact HI400.out | apply IsS100.alloc | apply IsS100.drewN | apply IsS100.drew | apply IsS100.set_0 | apply IsS100.set_1 | apply IsS100.set_2 | apply IsS100.set_3 | apply IsS100.set_4 | apply IsS100.set_5 | apply IsS100.set_6 | apply IsS100.set_7 | apply IsS100.set_8 | apply IsS100.set_9) | exact HI400.out))) hnew) : g400 ≠ g411)); have n1_ := Aside0.mk ((Nat.ne_of_gt (Nat.lt_of_lt_of_le (IsS100.lt (show IsS100 w _ g400 t390 t391 t392 t393 t394 t395 t396 t397 t398 t399 from by repeat (first | (with_reducible first | exact HI400.out | apply IsS100.alloc | apply IsS100.drewN | apply IsS100.drew | apply IsS100.set_0 | apply IsS100.set_1 | apply IsS100.set_2 | apply IsS100.set_3 | apply IsS100.set_4 | apply IsS100.set_5 | apply IsS100.set_6 | apply IsS100.set_7 | apply IsS100.set_8 | apply IsS100.set_9) | exact HI400.out))) hnew) : g411 ≠ g400)); have n2_ := Aside0.mk (IsS100.below (by repeat (first | (with_reducible first | exact HI400.out | apply IsS100.alloc | apply IsS100.drewN | apply IsS100.drew | apply IsS100.set_0 | apply IsS100.set_1 | apply IsS100.set_2 | apply IsS100.set_3 | apply IsS100.set_4 | apply IsS100.set_5 | apply IsS100.set_6 | apply IsS100.set_7 | apply IsS100.set_8 | apply IsS100.set_9) | exact HI400.out)) hb2); have n3_ := Aside0.mk (hb); have n4_ := Aside0.mk (hi); clear HI400; clear HB; have NB400_411 := n0_; have NB411_400 := n1_; have HI400 := n2_; have HB := n3_; have HI411 := n4_; clear n0_ n1_ n2_ n3_ n4_; (try clear hb); (try clear hb2); (try clear hk); (try clear hi)))
          (try simp only [Act.put, List.setIfInBounds_toArray, List.set_cons_zero, List.set_cons_succ])
          go_cut [70] (fun v70 wc => ∃ (kq : Nat) (x70_16 : Bool), v70 = .bool x70_16 ∧ Aside0 (tiklaw23_DeckAir.j1 kq a0 a1 a2 a3 a4 x70_16 t401 t402 t403 t404 t405 t406 t407 t408 t409 t410 = some r) ∧ Aside0 (kq ≤ kj7) ∧ Aside0 (IsS100 w wc g411 t401 t402 t403 t404 t405 t406 t407 t408 t409 t410) ∧ Aside0 (Below w.heap.size w wc))
          case first =>
            have H := HC17.out
            clear HC17
            have H1 : ((deck_Deck_Play.f t390 t391 t392 t393 t394 t395 t396 t397 t398 t399 a0 a1 a2).bind fun bt412 => (if bt412.1 = 13 then ((deck_Deck_Mode.f bt412.2.1 bt412.2.2.1 bt412.2.2.2.1 bt412.2.2.2.2.1 bt412.2.2.2.2.2.1 bt412.2.2.2.2.2.2.1 bt412.2.2.2.2.2.2.2.1 bt412.2.2.2.2.2.2.2.2.1 bt412.2.2.2.2.2.2.2.2.2.1 bt412.2.2.2.2.2.2.2.2.2.2).bind fun bt423 => (if bt423.1 = 0 then ((deck_Deck_Pause.f bt423.2.1 bt423.2.2.1 bt423.2.2.2.1 bt423.2.2.2.2.1 bt423.2.2.2.2.2.1 bt423.2.2.2.2.2.2.1 bt423.2.2.2.2.2.2.2.1 bt423.2.2.2.2.2.2.2.2.1 bt423.2.2.2.2.2.2.2.2.2.1 bt423.2.2.2.2.2.2.2.2.2.2 a0 a1 a2).bind fun bt434 => (if bt434.1 = 0 then ((deck_Deck_Pos.f bt434.2.1 bt434.2.2.1 bt434.2.2.2.1 bt434.2.2.2.2.1 bt434.2.2.2.2.2.1 bt434.2.2.2.2.2.2.1 bt434.2.2.2.2.2.2.2.1 bt434.2.2.2.2.2.2.2.2.1 bt434.2.2.2.2.2.2.2.2.2.1 bt434.2.2.2.2.2.2.2.2.2.2).bind fun bt445 => (if bt445.1 = a2 then ((deck_Deck_Mode.f bt445.2.1 bt445.2.2.1 bt445.2.2.2.1 bt445.2.2.2.2.1 bt445.2.2.2.2.2.1 bt445.2.2.2.2.2.2.1 bt445.2.2.2.2.2.2.2.1 bt445.2.2.2.2.2.2.2.2.1 bt445.2.2.2.2.2.2.2.2.2.1 bt445.2.2.2.2.2.2.2.2.2.2).bind fun bt456 => (tiklaw23_DeckAir.j1 kj7 a0 a1 a2 a3 a4 (bt456.1 != 1) t401 t402 t403 t404 t405 t406 t407 t408 t409 t410)) else (tiklaw23_DeckAir.j1 kj7 a0 a1 a2 a3 a4 true t401 t402 t403 t404 t405 t406 t407 t408 t409 t410))) else (tiklaw23_DeckAir.j1 kj7 a0 a1 a2 a3 a4 true t401 t402 t403 t404 t405 t406 t407 t408 t409 t410))) else (tiklaw23_DeckAir.j1 kj7 a0 a1 a2 a3 a4 true t401 t402 t403 t404 t405 t406 t407 t408 t409 t410))) else (tiklaw23_DeckAir.j1 kj7 a0 a1 a2 a3 a4 true t401 t402 t403 t404 t405 t406 t407 t408 t409 t410))) = some r := by first | (rw [if_neg (show ¬ (false = true) by decide)] at H; exact H) | exact (if_neg not_false).symm.trans H
            clear H
            have H := H1
            clear H1
            replace H := Option.bind_eq_some_iff.mp H
            obtain ⟨⟨t412, t413, t414, t415, t416, t417, t418, t419, t420, t421, t422⟩, A200, H⟩ := H
            replace H : (if t412 = 13 then ((deck_Deck_Mode.f t413 t414 t415 t416 t417 t418 t419 t420 t421 t422).bind fun bt423 => (if bt423.1 = 0 then ((deck_Deck_Pause.f bt423.2.1 bt423.2.2.1 bt423.2.2.2.1 bt423.2.2.2.2.1 bt423.2.2.2.2.2.1 bt423.2.2.2.2.2.2.1 bt423.2.2.2.2.2.2.2.1 bt423.2.2.2.2.2.2.2.2.1 bt423.2.2.2.2.2.2.2.2.2.1 bt423.2.2.2.2.2.2.2.2.2.2 a0 a1 a2).bind fun bt434 => (if bt434.1 = 0 then ((deck_Deck_Pos.f bt434.2.1 bt434.2.2.1 bt434.2.2.2.1 bt434.2.2.2.2.1 bt434.2.2.2.2.2.1 bt434.2.2.2.2.2.2.1 bt434.2.2.2.2.2.2.2.1 bt434.2.2.2.2.2.2.2.2.1 bt434.2.2.2.2.2.2.2.2.2.1 bt434.2.2.2.2.2.2.2.2.2.2).bind fun bt445 => (if bt445.1 = a2 then ((deck_Deck_Mode.f bt445.2.1 bt445.2.2.1 bt445.2.2.2.1 bt445.2.2.2.2.1 bt445.2.2.2.2.2.1 bt445.2.2.2.2.2.2.1 bt445.2.2.2.2.2.2.2.1 bt445.2.2.2.2.2.2.2.2.1 bt445.2.2.2.2.2.2.2.2.2.1 bt445.2.2.2.2.2.2.2.2.2.2).bind fun bt456 => (tiklaw23_DeckAir.j1 kj7 a0 a1 a2 a3 a4 (bt456.1 != 1) t401 t402 t403 t404 t405 t406 t407 t408 t409 t410)) else (tiklaw23_DeckAir.j1 kj7 a0 a1 a2 a3 a4 true t401 t402 t403 t404 t405 t406 t407 t408 t409 t410))) else (tiklaw23_DeckAir.j1 kj7 a0 a1 a2 a3 a4 true t401 t402 t403 t404 t405 t406 t407 t408 t409 t410))) else (tiklaw23_DeckAir.j1 kj7 a0 a1 a2 a3 a4 true t401 t402 t403 t404 t405 t406 t407 t408 t409 t410))) else (tiklaw23_DeckAir.j1 kj7 a0 a1 a2 a3 a4 true t401 t402 t403 t404 t405 t406 t407 t408 t409 t410)) = some r := H
            have A20 := Aside0.mk A200
            clear A200
            by_cases c21 : t412 = 13
            · rw [if_pos c21] at H
              have c21b0 : (t412 == 13) = true := beq_iff_eq.mpr c21
              have c21b1 : (t412 != 13) = false := bne_eq_false_iff_eq.mpr c21
              clear c21
              (first | rw [c21b0] | (simp only [i64_w, i32_w]; rw [c21b0]) | skip)
              replace H := Option.bind_eq_some_iff.mp H
              obtain ⟨⟨t423, t424, t425, t426, t427, t428, t429, t430, t431, t432, t433⟩, A220, H⟩ := H
              replace H : (if t423 = 0 then ((deck_Deck_Pause.f t424 t425 t426 t427 t428 t429 t430 t431 t432 t433 a0 a1 a2).bind fun bt434 => (if bt434.1 = 0 then ((deck_Deck_Pos.f bt434.2.1 bt434.2.2.1 bt434.2.2.2.1 bt434.2.2.2.2.1 bt434.2.2.2.2.2.1 bt434.2.2.2.2.2.2.1 bt434.2.2.2.2.2.2.2.1 bt434.2.2.2.2.2.2.2.2.1 bt434.2.2.2.2.2.2.2.2.2.1 bt434.2.2.2.2.2.2.2.2.2.2).bind fun bt445 => (if bt445.1 = a2 then ((deck_Deck_Mode.f bt445.2.1 bt445.2.2.1 bt445.2.2.2.1 bt445.2.2.2.2.1 bt445.2.2.2.2.2.1 bt445.2.2.2.2.2.2.1 bt445.2.2.2.2.2.2.2.1 bt445.2.2.2.2.2.2.2.2.1 bt445.2.2.2.2.2.2.2.2.2.1 bt445.2.2.2.2.2.2.2.2.2.2).bind fun bt456 => (tiklaw23_DeckAir.j1 kj7 a0 a1 a2 a3 a4 (bt456.1 != 1) t401 t402 t403 t404 t405 t406 t407 t408 t409 t410)) else (tiklaw23_DeckAir.j1 kj7 a0 a1 a2 a3 a4 true t401 t402 t403 t404 t405 t406 t407 t408 t409 t410))) else (tiklaw23_DeckAir.j1 kj7 a0 a1 a2 a3 a4 true t401 t402 t403 t404 t405 t406 t407 t408 t409 t410))) else (tiklaw23_DeckAir.j1 kj7 a0 a1 a2 a3 a4 true t401 t402 t403 t404 t405 t406 t407 t408 t409 t410)) = some r := H
              have A22 := Aside0.mk A220
              clear A220
              by_cases c23 : t423 = 0
              · rw [if_pos c23] at H
                have c23b0 : (t423 == 0) = true := beq_iff_eq.mpr c23
                have c23b1 : (t423 != 0) = false := bne_eq_false_iff_eq.mpr c23
                clear c23
                replace H := Option.bind_eq_some_iff.mp H
                obtain ⟨⟨t434, t435, t436, t437, t438, t439, t440, t441, t442, t443, t444⟩, A240, H⟩ := H
                replace H : (if t434 = 0 then ((deck_Deck_Pos.f t435 t436 t437 t438 t439 t440 t441 t442 t443 t444).bind fun bt445 => (if bt445.1 = a2 then ((deck_Deck_Mode.f bt445.2.1 bt445.2.2.1 bt445.2.2.2.1 bt445.2.2.2.2.1 bt445.2.2.2.2.2.1 bt445.2.2.2.2.2.2.1 bt445.2.2.2.2.2.2.2.1 bt445.2.2.2.2.2.2.2.2.1 bt445.2.2.2.2.2.2.2.2.2.1 bt445.2.2.2.2.2.2.2.2.2.2).bind fun bt456 => (tiklaw23_DeckAir.j1 kj7 a0 a1 a2 a3 a4 (bt456.1 != 1) t401 t402 t403 t404 t405 t406 t407 t408 t409 t410)) else (tiklaw23_DeckAir.j1 kj7 a0 a1 a2 a3 a4 true t401 t402 t403 t404 t405 t406 t407 t408 t409 t410))) else (tiklaw23_DeckAir.j1 kj7 a0 a1 a2 a3 a4 true t401 t402 t403 t404 t405 t406 t407 t408 t409 t410)) = some r := H
                have A24 := Aside0.mk A240
                clear A240
                by_cases c25 : t434 = 0
                · rw [if_pos c25] at H
                  have c25b0 : (t434 == 0) = true := beq_iff_eq.mpr c25
                  have c25b1 : (t434 != 0) = false := bne_eq_false_iff_eq.mpr c25
                  clear c25
                  replace H := Option.bind_eq_some_iff.mp H
                  obtain ⟨⟨t445, t446, t447, t448, t449, t450, t451, t452, t453, t454, t455⟩, A260, H⟩ := H
                  replace H : (if t445 = a2 then ((deck_Deck_Mode.f t446 t447 t448 t449 t450 t451 t452 t453 t454 t455).bind fun bt456 => (tiklaw23_DeckAir.j1 kj7 a0 a1 a2 a3 a4 (bt456.1 != 1) t401 t402 t403 t404 t405 t406 t407 t408 t409 t410)) else (tiklaw23_DeckAir.j1 kj7 a0 a1 a2 a3 a4 true t401 t402 t403 t404 t405 t406 t407 t408 t409 t410)) = some r := H
                  have A26 := Aside0.mk A260
                  clear A260
                  by_cases c27 : t445 = a2
                  · rw [if_pos c27] at H
                    have c27b0 : (t445 == a2) = true := beq_iff_eq.mpr c27
                    have c27b1 : (t445 != a2) = false := bne_eq_false_iff_eq.mpr c27
                    clear c27
                    replace H := Option.bind_eq_some_iff.mp H
                    obtain ⟨⟨t456, t457, t458, t459, t460, t461, t462, t463, t464, t465, t466⟩, A280, H⟩ := H
                    replace H : (tiklaw23_DeckAir.j1 kj7 a0 a1 a2 a3 a4 (t456 != 1) t401 t402 t403 t404 t405 t406 t407 t408 t409 t410) = some r := H
                    have A28 := Aside0.mk A280
                    clear A280
                    have H' := Aside0.mk H
                    clear H
                    go_wp2_with (first | (go_at_call 24; (with_reducible refine (deck_Deck_Play.calls g400 t390 t391 t392 t393 t394 t395 t396 t397 t398 t399 a0 a1 a2 t412 t413 t414 t415 t416 t417 t418 t419 t420 t421 t422 w _ ?side1 ?side2 A20.out).mono ?_); (case side1 => repeat (first | (with_reducible first | exact HI400.out | apply IsS100.alloc | apply IsS100.drewN | apply IsS100.drew | apply IsS100.set_0 | apply IsS100.set_1 | apply IsS100.set_2 | apply IsS100.set_3 | apply IsS100.set_4 | apply IsS100.set_5 | apply IsS100.set_6 | apply IsS100.set_7 | apply IsS100.set_8 | apply IsS100.set_9) | exact HI400.out)); (case side2 => repeat (first | (with_reducible first | exact HB.out | apply below_alloc | apply pw_below_drewN | apply below_drew1 | refine below_set ?_ (IsS100.ge HI400.out) | refine below_set ?_ (IsS100.ge HI411.out)) | exact HB.out)); rintro e w29 ⟨rfl, hi, hb, hk⟩; have n0_ := Aside0.mk (IsS100.kept2 (show IsS100 w _ g411 t401 t402 t403 t404 t405 t406 t407 t408 t409 t410 from by repeat (first | (with_reducible first | exact HI411.out | apply IsS100.alloc | apply IsS100.drewN | apply IsS100.drew | apply IsS100.set_0 | apply IsS100.set_1 | apply IsS100.set_2 | apply IsS100.set_3 | apply IsS100.set_4 | apply IsS100.set_5 | apply IsS100.set_6 | apply IsS100.set_7 | apply IsS100.set_8 | apply IsS100.set_9) | exact HI411.out)) (new_has A16.out) hk (NB411_400.out)); have n1_ := Aside0.mk (hb); have n2_ := Aside0.mk (hi); clear HI411; clear HB; clear HI400; have HI411 := n0_; have HB := n1_; have HI400 := n2_; clear n0_ n1_ n2_; (try clear hb); (try clear hb2); (try clear hk); (try clear hi)) | (go_at_call 18; (with_reducible refine (deck_Deck_Mode.calls g400 t413 t414 t415 t416 t417 t418 t419 t420 t421 t422 t423 t424 t425 t426 t427 t428 t429 t430 t431 t432 t433 w _ ?side1 ?side2 A22.out).mono ?_); (case side1 => repeat (first | (with_reducible first | exact HI400.out | apply IsS100.alloc | apply IsS100.drewN | apply IsS100.drew | apply IsS100.set_0 | apply IsS100.set_1 | apply IsS100.set_2 | apply IsS100.set_3 | apply IsS100.set_4 | apply IsS100.set_5 | apply IsS100.set_6 | apply IsS100.set_7 | apply IsS100.set_8 | apply IsS100.set_9) | exact HI400.out)); (case side2 => repeat (first | (with_reducible first | exact HB.out | apply below_alloc | apply pw_below_drewN | apply below_drew1 | refine below_set ?_ (IsS100.ge HI400.out) | refine below_set ?_ (IsS100.ge HI411.out)) | exact HB.out)); rintro e w30 ⟨rfl, hi, hb, hk⟩; have n0_ := Aside0.mk (IsS100.kept2 (show IsS100 w _ g411 t401 t402 t403 t404 t405 t406 t407 t408 t409 t410 from by repeat (first | (with_reducible first | exact HI411.out | apply IsS100.alloc | apply IsS100.drewN | apply IsS100.drew | apply IsS100.set_0 | apply IsS100.set_1 | apply IsS100.set_2 | apply IsS100.set_3 | apply IsS100.set_4 | apply IsS100.set_5 | apply IsS100.set_6 | apply IsS100.set_7 | apply IsS100.set_8 | apply IsS100.set_9) | exact HI411.out)) (new_has A16.out) hk (NB411_400.out)); have n1_ := Aside0.mk (hb); have n2_ := Aside0.mk (hi); clear HI411; clear HB; clear HI400; have HI411 := n0_; have HB := n1_; have HI400 := n2_; clear n0_ n1_ n2_; (try clear hb); (try clear hb2); (try clear hk); (try clear hi)) | (go_at_call 27; (with_reducible refine (deck_Deck_Pause.calls g400 t424 t425 t426 t427 t428 t429 t430 t431 t432 t433 a0 a1 a2 t434 t435 t436 t437 t438 t439 t440 t441 t442 t443 t444 w _ ?side1 ?side2 A24.out).mono ?_); (case side1 => repeat (first | (with_reducible first | exact HI400.out | apply IsS100.alloc | apply IsS100.drewN | apply IsS100.drew | apply IsS100.set_0 | apply IsS100.set_1 | apply IsS100.set_2 | apply IsS100.set_3 | apply IsS100.set_4 | apply IsS100.set_5 | apply IsS100.set_6 | apply IsS100.set_7 | apply IsS100.set_8 | apply IsS100.set_9) | exact HI400.out)); (case side2 => repeat (first | (with_reducible first | exact HB.out | apply below_alloc | apply pw_below_drewN | apply below_drew1 | refine below_set ?_ (IsS100.ge HI400.out) | refine below_set ?_ (IsS100.ge HI411.out)) | exact HB.out)); rintro e w31 ⟨rfl, hi, hb, hk⟩; have n0_ := Aside0.mk (IsS100.kept2 (show IsS100 w _ g411 t401 t402 t403 t404 t405 t406 t407 t408 t409 t410 from by repeat (first | (with_reducible first | exact HI411.out | apply IsS100.alloc | apply IsS100.drewN | apply IsS100.drew | apply IsS100.set_0 | apply IsS100.set_1 | apply IsS100.set_2 | apply IsS100.set_3 | apply IsS100.set_4 | apply IsS100.set_5 | apply IsS100.set_6 | apply IsS100.set_7 | apply IsS100.set_8 | apply IsS100.set_9) | exact HI411.out)) (new_has A16.out) hk (NB411_400.out)); have n1_ := Aside0.mk (hb); have n2_ := Aside0.mk (hi); clear HI411; clear HB; clear HI400; have HI411 := n0_; have HB := n1_; have HI400 := n2_; clear n0_ n1_ n2_; (try clear hb); (try clear hb2); (try clear hk); (try clear hi)) | (go_at_call 19; (with_reducible refine (deck_Deck_Pos.calls g400 t435 t436 t437 t438 t439 t440 t441 t442 t443 t444 t445 t446 t447 t448 t449 t450 t451 t452 t453 t454 t455 w _ ?side1 ?side2 A26.out).mono ?_); (case side1 => repeat (first | (with_reducible first | exact HI400.out | apply IsS100.alloc | apply IsS100.drewN | apply IsS100.drew | apply IsS100.set_0 | apply IsS100.set_1 | apply IsS100.set_2 | apply IsS100.set_3 | apply IsS100.set_4 | apply IsS100.set_5 | apply IsS100.set_6 | apply IsS100.set_7 | apply IsS100.set_8 | apply IsS100.set_9) | exact HI400.out)); (case side2 => repeat (first | (with_reducible first | exact HB.out | apply below_alloc | apply pw_below_drewN | apply below_drew1 | refine below_set ?_ (IsS100.ge HI400.out) | refine below_set ?_ (IsS100.ge HI411.out)) | exact HB.out)); rintro e w32 ⟨rfl, hi, hb, hk⟩; have n0_ := Aside0.mk (IsS100.kept2 (show IsS100 w _ g411 t401 t402 t403 t404 t405 t406 t407 t408 t409 t410 from by repeat (first | (with_reducible first | exact HI411.out | apply IsS100.alloc | apply IsS100.drewN | apply IsS100.drew | apply IsS100.set_0 | apply IsS100.set_1 | apply IsS100.set_2 | apply IsS100.set_3 | apply IsS100.set_4 | apply IsS100.set_5 | apply IsS100.set_6 | apply IsS100.set_7 | apply IsS100.set_8 | apply IsS100.set_9) | exact HI411.out)) (new_has A16.out) hk (NB411_400.out)); have n1_ := Aside0.mk (hb); have n2_ := Aside0.mk (hi); clear HI411; clear HB; clear HI400; have HI411 := n0_; have HB := n1_; have HI400 := n2_; clear n0_ n1_ n2_; (try clear hb); (try clear hb2); (try clear hk); (try clear hi)) | (go_at_call 18; (with_reducible refine (deck_Deck_Mode.calls g400 t446 t447 t448 t449 t450 t451 t452 t453 t454 t455 t456 t457 t458 t459 t460 t461 t462 t463 t464 t465 t466 w _ ?side1 ?side2 A28.out).mono ?_); (case side1 => repeat (first | (with_reducible first | exact HI400.out | apply IsS100.alloc | apply IsS100.drewN | apply IsS100.drew | apply IsS100.set_0 | apply IsS100.set_1 | apply IsS100.set_2 | apply IsS100.set_3 | apply IsS100.set_4 | apply IsS100.set_5 | apply IsS100.set_6 | apply IsS100.set_7 | apply IsS100.set_8 | apply IsS100.set_9) | exact HI400.out)); (case side2 => repeat (first | (with_reducible first | exact HB.out | apply below_alloc | apply pw_below_drewN | apply below_drew1 | refine below_set ?_ (IsS100.ge HI400.out) | refine below_set ?_ (IsS100.ge HI411.out)) | exact HB.out)); rintro e w33 ⟨rfl, hi, hb, hk⟩; have n0_ := Aside0.mk (IsS100.kept2 (show IsS100 w _ g411 t401 t402 t403 t404 t405 t406 t407 t408 t409 t410 from by repeat (first | (with_reducible first | exact HI411.out | apply IsS100.alloc | apply IsS100.drewN | apply IsS100.drew | apply IsS100.set_0 | apply IsS100.set_1 | apply IsS100.set_2 | apply IsS100.set_3 | apply IsS100.set_4 | apply IsS100.set_5 | apply IsS100.set_6 | apply IsS100.set_7 | apply IsS100.set_8 | apply IsS100.set_9) | exact HI411.out)) (new_has A16.out) hk (NB411_400.out)); have n1_ := Aside0.mk (hb); have n2_ := Aside0.mk (hi); clear HI411; clear HB; clear HI400; have HI411 := n0_; have HB := n1_; have HI400 := n2_; clear n0_ n1_ n2_; (try clear hb); (try clear hb2); (try clear hk); (try clear hi)))
                    go_meet
                    case rel => exact ⟨_, ((t456 != 1)), (by first | rfl | (simp; done) | (simp [*]; done)), H', ⟨by have := HJ7.out; first | omega | exact Nat.le_refl _⟩, ⟨by repeat (first | (with_reducible first | exact HI411.out | apply IsS100.alloc | apply IsS100.drewN | apply IsS100.drew | apply IsS100.set_0 | apply IsS100.set_1 | apply IsS100.set_2 | apply IsS100.set_3 | apply IsS100.set_4 | apply IsS100.set_5 | apply IsS100.set_6 | apply IsS100.set_7 | apply IsS100.set_8 | apply IsS100.set_9) | exact HI411.out)⟩, ⟨by repeat (first | (with_reducible first | exact HB.out | apply below_alloc | apply pw_below_drewN | apply below_drew1 | refine below_set ?_ (IsS100.ge HI400.out) | refine below_set ?_ (IsS100.ge HI411.out)) | exact HB.out)⟩⟩
                  · rw [if_neg c27] at H
                    have c27b0 : (t445 == a2) = false := beq_eq_false_iff_ne.mpr c27
                    have c27b1 : (t445 != a2) = true := bne_iff_ne.mpr c27
                    have H' := Aside0.mk H
                    clear H
                    go_wp2_with (first | (go_at_call 24; (with_reducible refine (deck_Deck_Play.calls g400 t390 t391 t392 t393 t394 t395 t396 t397 t398 t399 a0 a1 a2 t412 t413 t414 t415 t416 t417 t418 t419 t420 t421 t422 w _ ?side1 ?side2 A20.out).mono ?_); (case side1 => repeat (first | (with_reducible first | exact HI400.out | apply IsS100.alloc | apply IsS100.drewN | apply IsS100.drew | apply IsS100.set_0 | apply IsS100.set_1 | apply IsS100.set_2 | apply IsS100.set_3 | apply IsS100.set_4 | apply IsS100.set_5 | apply IsS100.set_6 | apply IsS100.set_7 | apply IsS100.set_8 | apply IsS100.set_9) | exact HI400.out)); (case side2 => repeat (first | (with_reducible first | exact HB.out | apply below_alloc | apply pw_below_drewN | apply below_drew1 | refine below_set ?_ (IsS100.ge HI400.out) | refine below_set ?_ (IsS100.ge HI411.out)) | exact HB.out)); rintro e w34 ⟨rfl, hi, hb, hk⟩; have n0_ := Aside0.mk (IsS100.kept2 (show IsS100 w _ g411 t401 t402 t403 t404 t405 t406 t407 t408 t409 t410 from by repeat (first | (with_reducible first | exact HI411.out | apply IsS100.alloc | apply IsS100.drewN | apply IsS100.drew | apply IsS100.set_0 | apply IsS100.set_1 | apply IsS100.set_2 | apply IsS100.set_3 | apply IsS100.set_4 | apply IsS100.set_5 | apply IsS100.set_6 | apply IsS100.set_7 | apply IsS100.set_8 | apply IsS100.set_9) | exact HI411.out)) (new_has A16.out) hk (NB411_400.out)); have n1_ := Aside0.mk (hb); have n2_ := Aside0.mk (hi); clear HI411; clear HB; clear HI400; have HI411 := n0_; have HB := n1_; have HI400 := n2_; clear n0_ n1_ n2_; (try clear hb); (try clear hb2); (try clear hk); (try clear hi)) | (go_at_call 18; (with_reducible refine (deck_Deck_Mode.calls g400 t413 t414 t415 t416 t417 t418 t419 t420 t421 t422 t423 t424 t425 t426 t427 t428 t429 t430 t431 t432 t433 w _ ?side1 ?side2 A22.out).mono ?_); (case side1 => repeat (first | (with_reducible first | exact HI400.out | apply IsS100.alloc | apply IsS100.drewN | apply IsS100.drew | apply IsS100.set_0 | apply IsS100.set_1 | apply IsS100.set_2 | apply IsS100.set_3 | apply IsS100.set_4 | apply IsS100.set_5 | apply IsS100.set_6 | apply IsS100.set_7 | apply IsS100.set_8 | apply IsS100.set_9) | exact HI400.out)); (case side2 => repeat (first | (with_reducible first | exact HB.out | apply below_alloc | apply pw_below_drewN | apply below_drew1 | refine below_set ?_ (IsS100.ge HI400.out) | refine below_set ?_ (IsS100.ge HI411.out)) | exact HB.out)); rintro e w35 ⟨rfl, hi, hb, hk⟩; have n0_ := Aside0.mk (IsS100.kept2 (show IsS100 w _ g411 t401 t402 t403 t404 t405 t406 t407 t408 t409 t410 from by repeat (first | (with_reducible first | exact HI411.out | apply IsS100.alloc | apply IsS100.drewN | apply IsS100.drew | apply IsS100.set_0 | apply IsS100.set_1 | apply IsS100.set_2 | apply IsS100.set_3 | apply IsS100.set_4 | apply IsS100.set_5 | apply IsS100.set_6 | apply IsS100.set_7 | apply IsS100.set_8 | apply IsS100.set_9) | exact HI411.out)) (new_has A16.out) hk (NB411_400.out)); have n1_ := Aside0.mk (hb); have n2_ := Aside0.mk (hi); clear HI411; clear HB; clear HI400; have HI411 := n0_; have HB := n1_; have HI400 := n2_; clear n0_ n1_ n2_; (try clear hb); (try clear hb2); (try clear hk); (try clear hi)) | (go_at_call 27; (with_reducible refine (deck_Deck_Pause.calls g400 t424 t425 t426 t427 t428 t429 t430 t431 t432 t433 a0 a1 a2 t434 t435 t436 t437 t438 t439 t440 t441 t442 t443 t444 w _ ?side1 ?side2 A24.out).mono ?_); (case side1 => repeat (first | (with_reducible first | exact HI400.out | apply IsS100.alloc | apply IsS100.drewN | apply IsS100.drew | apply IsS100.set_0 | apply IsS100.set_1 | apply IsS100.set_2 | apply IsS100.set_3 | apply IsS100.set_4 | apply IsS100.set_5 | apply IsS100.set_6 | apply IsS100.set_7 | apply IsS100.set_8 | apply IsS100.set_9) | exact HI400.out)); (case side2 => repeat (first | (with_reducible first | exact HB.out | apply below_alloc | apply pw_below_drewN | apply below_drew1 | refine below_set ?_ (IsS100.ge HI400.out) | refine below_set ?_ (IsS100.ge HI411.out)) | exact HB.out)); rintro e w36 ⟨rfl, hi, hb, hk⟩; have n0_ := Aside0.mk (IsS100.kept2 (show IsS100 w _ g411 t401 t402 t403 t404 t405 t406 t407 t408 t409 t410 from by repeat (first | (with_reducible first | exact HI411.out | apply IsS100.alloc | apply IsS100.drewN | apply IsS100.drew | apply IsS100.set_0 | apply IsS100.set_1 | apply IsS100.set_2 | apply IsS100.set_3 | apply IsS100.set_4 | apply IsS100.set_5 | apply IsS100.set_6 | apply IsS100.set_7 | apply IsS100.set_8 | apply IsS100.set_9) | exact HI411.out)) (new_has A16.out) hk (NB411_400.out)); have n1_ := Aside0.mk (hb); have n2_ := Aside0.mk (hi); clear HI411; clear HB; clear HI400; have HI411 := n0_; have HB := n1_; have HI400 := n2_; clear n0_ n1_ n2_; (try clear hb); (try clear hb2); (try clear hk); (try clear hi)) | (go_at_call 19; (with_reducible refine (deck_Deck_Pos.calls g400 t435 t436 t437 t438 t439 t440 t441 t442 t443 t444 t445 t446 t447 t448 t449 t450 t451 t452 t453 t454 t455 w _ ?side1 ?side2 A26.out).mono ?_); (case side1 => repeat (first | (with_reducible first | exact HI400.out | apply IsS100.alloc | apply IsS100.drewN | apply IsS100.drew | apply IsS100.set_0 | apply IsS100.set_1 | apply IsS100.set_2 | apply IsS100.set_3 | apply IsS100.set_4 | apply IsS100.set_5 | apply IsS100.set_6 | apply IsS100.set_7 | apply IsS100.set_8 | apply IsS100.set_9) | exact HI400.out)); (case side2 => repeat (first | (with_reducible first | exact HB.out | apply below_alloc | apply pw_below_drewN | apply below_drew1 | refine below_set ?_ (IsS100.ge HI400.out) | refine below_set ?_ (IsS100.ge HI411.out)) | exact HB.out)); rintro e w37 ⟨rfl, hi, hb, hk⟩; have n0_ := Aside0.mk (IsS100.kept2 (show IsS100 w _ g411 t401 t402 t403 t404 t405 t406 t407 t408 t409 t410 from by repeat (first | (with_reducible first | exact HI411.out | apply IsS100.alloc | apply IsS100.drewN | apply IsS100.drew | apply IsS100.set_0 | apply IsS100.set_1 | apply IsS100.set_2 | apply IsS100.set_3 | apply IsS100.set_4 | apply IsS100.set_5 | apply IsS100.set_6 | apply IsS100.set_7 | apply IsS100.set_8 | apply IsS100.set_9) | exact HI411.out)) (new_has A16.out) hk (NB411_400.out)); have n1_ := Aside0.mk (hb); have n2_ := Aside0.mk (hi); clear HI411; clear HB; clear HI400; have HI411 := n0_; have HB := n1_; have HI400 := n2_; clear n0_ n1_ n2_; (try clear hb); (try clear hb2); (try clear hk); (try clear hi)))
                    go_meet
                    case rel => exact ⟨_, (true), (by first | rfl | (simp; done) | (simp [*]; done)), H', ⟨by have := HJ7.out; first | omega | exact Nat.le_refl _⟩, ⟨by repeat (first | (with_reducible first | exact HI411.out | apply IsS100.alloc | apply IsS100.drewN | apply IsS100.drew | apply IsS100.set_0 | apply IsS100.set_1 | apply IsS100.set_2 | apply IsS100.set_3 | apply IsS100.set_4 | apply IsS100.set_5 | apply IsS100.set_6 | apply IsS100.set_7 | apply IsS100.set_8 | apply IsS100.set_9) | exact HI411.out)⟩, ⟨by repeat (first | (with_reducible first | exact HB.out | apply below_alloc | apply pw_below_drewN | apply below_drew1 | refine below_set ?_ (IsS100.ge HI400.out) | refine below_set ?_ (IsS100.ge HI411.out)) | exact HB.out)⟩⟩
                · rw [if_neg c25] at H
                  have c25b0 : (t434 == 0) = false := beq_eq_false_iff_ne.mpr c25
                  have c25b1 : (t434 != 0) = true := bne_iff_ne.mpr c25
                  have H' := Aside0.mk H
                  clear H
                  go_wp2_with (first | (go_at_call 24; (with_reducible refine (deck_Deck_Play.calls g400 t390 t391 t392 t393 t394 t395 t396 t397 t398 t399 a0 a1 a2 t412 t413 t414 t415 t416 t417 t418 t419 t420 t421 t422 w _ ?side1 ?side2 A20.out).mono ?_); (case side1 => repeat (first | (with_reducible first | exact HI400.out | apply IsS100.alloc | apply IsS100.drewN | apply IsS100.drew | apply IsS100.set_0 | apply IsS100.set_1 | apply IsS100.set_2 | apply IsS100.set_3 | apply IsS100.set_4 | apply IsS100.set_5 | apply IsS100.set_6 | apply IsS100.set_7 | apply IsS100.set_8 | apply IsS100.set_9) | exact HI400.out)); (case side2 => repeat (first | (with_reducible first | exact HB.out | apply below_alloc | apply pw_below_drewN | apply below_drew1 | refine below_set ?_ (IsS100.ge HI400.out) | refine below_set ?_ (IsS100.ge HI411.out)) | exact HB.out)); rintro e w38 ⟨rfl, hi, hb, hk⟩; have n0_ := Aside0.mk (IsS100.kept2 (show IsS100 w _ g411 t401 t402 t403 t404 t405 t406 t407 t408 t409 t410 from by repeat (first | (with_reducible first | exact HI411.out | apply IsS100.alloc | apply IsS100.drewN | apply IsS100.drew | apply IsS100.set_0 | apply IsS100.set_1 | apply IsS100.set_2 | apply IsS100.set_3 | apply IsS100.set_4 | apply IsS100.set_5 | apply IsS100.set_6 | apply IsS100.set_7 | apply IsS100.set_8 | apply IsS100.set_9) | exact HI411.out)) (new_has A16.out) hk (NB411_400.out)); have n1_ := Aside0.mk (hb); have n2_ := Aside0.mk (hi); clear HI411; clear HB; clear HI400; have HI411 := n0_; have HB := n1_; have HI400 := n2_; clear n0_ n1_ n2_; (try clear hb); (try clear hb2); (try clear hk); (try clear hi)) | (go_at_call 18; (with_reducible refine (deck_Deck_Mode.calls g400 t413 t414 t415 t416 t417 t418 t419 t420 t421 t422 t423 t424 t425 t426 t427 t428 t429 t430 t431 t432 t433 w _ ?side1 ?side2 A22.out).mono ?_); (case side1 => repeat (first | (with_reducible first | exact HI400.out | apply IsS100.alloc | apply IsS100.drewN | apply IsS100.drew | apply IsS100.set_0 | apply IsS100.set_1 | apply IsS100.set_2 | apply IsS100.set_3 | apply IsS100.set_4 | apply IsS100.set_5 | apply IsS100.set_6 | apply IsS100.set_7 | apply IsS100.set_8 | apply IsS100.set_9) | exact HI400.out)); (case side2 => repeat (first | (with_reducible first | exact HB.out | apply below_alloc | apply pw_below_drewN | apply below_drew1 | refine below_set ?_ (IsS100.ge HI400.out) | refine below_set ?_ (IsS100.ge HI411.out)) | exact HB.out)); rintro e w39 ⟨rfl, hi, hb, hk⟩; have n0_ := Aside0.mk (IsS100.kept2 (show IsS100 w _ g411 t401 t402 t403 t404 t405 t406 t407 t408 t409 t410 from by repeat (first | (with_reducible first | exact HI411.out | apply IsS100.alloc | apply IsS100.drewN | apply IsS100.drew | apply IsS100.set_0 | apply IsS100.set_1 | apply IsS100.set_2 | apply IsS100.set_3 | apply IsS100.set_4 | apply IsS100.set_5 | apply IsS100.set_6 | apply IsS100.set_7 | apply IsS100.set_8 | apply IsS100.set_9) | exact HI411.out)) (new_has A16.out) hk (NB411_400.out)); have n1_ := Aside0.mk (hb); have n2_ := Aside0.mk (hi); clear HI411; clear HB; clear HI400; have HI411 := n0_; have HB := n1_; have HI400 := n2_; clear n0_ n1_ n2_; (try clear hb); (try clear hb2); (try clear hk); (try clear hi)) | (go_at_call 27; (with_reducible refine (deck_Deck_Pause.calls g400 t424 t425 t426 t427 t428 t429 t430 t431 t432 t433 a0 a1 a2 t434 t435 t436 t437 t438 t439 t440 t441 t442 t443 t444 w _ ?side1 ?side2 A24.out).mono ?_); (case side1 => repeat (first | (with_reducible first | exact HI400.out | apply IsS100.alloc | apply IsS100.drewN | apply IsS100.drew | apply IsS100.set_0 | apply IsS100.set_1 | apply IsS100.set_2 | apply IsS100.set_3 | apply IsS100.set_4 | apply IsS100.set_5 | apply IsS100.set_6 | apply IsS100.set_7 | apply IsS100.set_8 | apply IsS100.set_9) | exact HI400.out)); (case side2 => repeat (first | (with_reducible first | exact HB.out | apply below_alloc | apply pw_below_drewN | apply below_drew1 | refine below_set ?_ (IsS100.ge HI400.out) | refine below_set ?_ (IsS100.ge HI411.out)) | exact HB.out)); rintro e w40 ⟨rfl, hi, hb, hk⟩; have n0_ := Aside0.mk (IsS100.kept2 (show IsS100 w _ g411 t401 t402 t403 t404 t405 t406 t407 t408 t409 t410 from by repeat (first | (with_reducible first | exact HI411.out | apply IsS100.alloc | apply IsS100.drewN | apply IsS100.drew | apply IsS100.set_0 | apply IsS100.set_1 | apply IsS100.set_2 | apply IsS100.set_3 | apply IsS100.set_4 | apply IsS100.set_5 | apply IsS100.set_6 | apply IsS100.set_7 | apply IsS100.set_8 | apply IsS100.set_9) | exact HI411.out)) (new_has A16.out) hk (NB411_400.out)); have n1_ := Aside0.mk (hb); have n2_ := Aside0.mk (hi); clear HI411; clear HB; clear HI400; have HI411 := n0_; have HB := n1_; have HI400 := n2_; clear n0_ n1_ n2_; (try clear hb); (try clear hb2); (try clear hk); (try clear hi)))
                  go_meet
                  case rel => exact ⟨_, (true), (by first | rfl | (simp; done) | (simp [*]; done)), H', ⟨by have := HJ7.out; first | omega | exact Nat.le_refl _⟩, ⟨by repeat (first | (with_reducible first | exact HI411.out | apply IsS100.alloc | apply IsS100.drewN | apply IsS100.drew | apply IsS100.set_0 | apply IsS100.set_1 | apply IsS100.set_2 | apply IsS100.set_3 | apply IsS100.set_4 | apply IsS100.set_5 | apply IsS100.set_6 | apply IsS100.set_7 | apply IsS100.set_8 | apply IsS100.set_9) | exact HI411.out)⟩, ⟨by repeat (first | (with_reducible first | exact HB.out | apply below_alloc | apply pw_below_drewN | apply below_drew1 | refine below_set ?_ (IsS100.ge HI400.out) | refine below_set ?_ (IsS100.ge HI411.out)) | exact HB.out)⟩⟩
              · rw [if_neg c23] at H
                have c23b0 : (t423 == 0) = false := beq_eq_false_iff_ne.mpr c23
                have c23b1 : (t423 != 0) = true := bne_iff_ne.mpr c23
                have H' := Aside0.mk H
                clear H
                go_wp2_with (first | (go_at_call 24; (with_reducible refine (deck_Deck_Play.calls g400 t390 t391 t392 t393 t394 t395 t396 t397 t398 t399 a0 a1 a2 t412 t413 t414 t415 t416 t417 t418 t419 t420 t421 t422 w _ ?side1 ?side2 A20.out).mono ?_); (case side1 => repeat (first | (with_reducible first | exact HI400.out | apply IsS100.alloc | apply IsS100.drewN | apply IsS100.drew | apply IsS100.set_0 | apply IsS100.set_1 | apply IsS100.set_2 | apply IsS100.set_3 | apply IsS100.set_4 | apply IsS100.set_5 | apply IsS100.set_6 | apply IsS100.set_7 | apply IsS100.set_8 | apply IsS100.set_9) | exact HI400.out)); (case side2 => repeat (first | (with_reducible first | exact HB.out | apply below_alloc | apply pw_below_drewN | apply below_drew1 | refine below_set ?_ (IsS100.ge HI400.out) | refine below_set ?_ (IsS100.ge HI411.out)) | exact HB.out)); rintro e w41 ⟨rfl, hi, hb, hk⟩; have n0_ := Aside0.mk (IsS100.kept2 (show IsS100 w _ g411 t401 t402 t403 t404 t405 t406 t407 t408 t409 t410 from by repeat (first | (with_reducible first | exact HI411.out | apply IsS100.alloc | apply IsS100.drewN | apply IsS100.drew | apply IsS100.set_0 | apply IsS100.set_1 | apply IsS100.set_2 | apply IsS100.set_3 | apply IsS100.set_4 | apply IsS100.set_5 | apply IsS100.set_6 | apply IsS100.set_7 | apply IsS100.set_8 | apply IsS100.set_9) | exact HI411.out)) (new_has A16.out) hk (NB411_400.out)); have n1_ := Aside0.mk (hb); have n2_ := Aside0.mk (hi); clear HI411; clear HB; clear HI400; have HI411 := n0_; have HB := n1_; have HI400 := n2_; clear n0_ n1_ n2_; (try clear hb); (try clear hb2); (try clear hk); (try clear hi)) | (go_at_call 18; (with_reducible refine (deck_Deck_Mode.calls g400 t413 t414 t415 t416 t417 t418 t419 t420 t421 t422 t423 t424 t425 t426 t427 t428 t429 t430 t431 t432 t433 w _ ?side1 ?side2 A22.out).mono ?_); (case side1 => repeat (first | (with_reducible first | exact HI400.out | apply IsS100.alloc | apply IsS100.drewN | apply IsS100.drew | apply IsS100.set_0 | apply IsS100.set_1 | apply IsS100.set_2 | apply IsS100.set_3 | apply IsS100.set_4 | apply IsS100.set_5 | apply IsS100.set_6 | apply IsS100.set_7 | apply IsS100.set_8 | apply IsS100.set_9) | exact HI400.out)); (case side2 => repeat (first | (with_reducible first | exact HB.out | apply below_alloc | apply pw_below_drewN | apply below_drew1 | refine below_set ?_ (IsS100.ge HI400.out) | refine below_set ?_ (IsS100.ge HI411.out)) | exact HB.out)); rintro e w42 ⟨rfl, hi, hb, hk⟩; have n0_ := Aside0.mk (IsS100.kept2 (show IsS100 w _ g411 t401 t402 t403 t404 t405 t406 t407 t408 t409 t410 from by repeat (first | (with_reducible first | exact HI411.out | apply IsS100.alloc | apply IsS100.drewN | apply IsS100.drew | apply IsS100.set_0 | apply IsS100.set_1 | apply IsS100.set_2 | apply IsS100.set_3 | apply IsS100.set_4 | apply IsS100.set_5 | apply IsS100.set_6 | apply IsS100.set_7 | apply IsS100.set_8 | apply IsS100.set_9) | exact HI411.out)) (new_has A16.out) hk (NB411_400.out)); have n1_ := Aside0.mk (hb); have n2_ := Aside0.mk (hi); clear HI411; clear HB; clear HI400; have HI411 := n0_; have HB := n1_; have HI400 := n2_; clear n0_ n1_ n2_; (try clear hb); (try clear hb2); (try clear hk); (try clear hi)))
                go_meet
                case rel => exact ⟨_, (true), (by first | rfl | (simp; done) | (simp [*]; done)), H', ⟨by have := HJ7.out; first | omega | exact Nat.le_refl _⟩, ⟨by repeat (first | (with_reducible first | exact HI411.out | apply IsS100.alloc | apply IsS100.drewN | apply IsS100.drew | apply IsS100.set_0 | apply IsS100.set_1 | apply IsS100.set_2 | apply IsS100.set_3 | apply IsS100.set_4 | apply IsS100.set_5 | apply IsS100.set_6 | apply IsS100.set_7 | apply IsS100.set_8 | apply IsS100.set_9) | exact HI411.out)⟩, ⟨by repeat (first | (with_reducible first | exact HB.out | apply below_alloc | apply pw_below_drewN | apply below_drew1 | refine below_set ?_ (IsS100.ge HI400.out) | refine below_set ?_ (IsS100.ge HI411.out)) | exact HB.out)⟩⟩
            · rw [if_neg c21] at H
              have c21b0 : (t412 == 13) = false := beq_eq_false_iff_ne.mpr c21
              have c21b1 : (t412 != 13) = true := bne_iff_ne.mpr c21
              (first | rw [c21b0] | (simp only [i64_w, i32_w]; rw [c21b0]) | skip)
              have H' := Aside0.mk H
              clear H
              go_wp2_with (first | (go_at_call 24; (with_reducible refine (deck_Deck_Play.calls g400 t390 t391 t392 t393 t394 t395 t396 t397 t398 t399 a0 a1 a2 t412 t413 t414 t415 t416 t417 t418 t419 t420 t421 t422 w _ ?side1 ?side2 A20.out).mono ?_); (case side1 => repeat (first | (with_reducible first | exact HI400.out | apply IsS100.alloc | apply IsS100.drewN | apply IsS100.drew | apply IsS100.set_0 | apply IsS100.set_1 | apply IsS100.set_2 | apply IsS100.set_3 | apply IsS100.set_4 | apply IsS100.set_5 | apply IsS100.set_6 | apply IsS100.set_7 | apply IsS100.set_8 | apply IsS100.set_9) | exact HI400.out)); (case side2 => repeat (first | (with_reducible first | exact HB.out | apply below_alloc | apply pw_below_drewN | apply below_drew1 | refine below_set ?_ (IsS100.ge HI400.out) | refine below_set ?_ (IsS100.ge HI411.out)) | exact HB.out)); rintro e w43 ⟨rfl, hi, hb, hk⟩; have n0_ := Aside0.mk (IsS100.kept2 (show IsS100 w _ g411 t401 t402 t403 t404 t405 t406 t407 t408 t409 t410 from by repeat (first | (with_reducible first | exact HI411.out | apply IsS100.alloc | apply IsS100.drewN | apply IsS100.drew | apply IsS100.set_0 | apply IsS100.set_1 | apply IsS100.set_2 | apply IsS100.set_3 | apply IsS100.set_4 | apply IsS100.set_5 | apply IsS100.set_6 | apply IsS100.set_7 | apply IsS100.set_8 | apply IsS100.set_9) | exact HI411.out)) (new_has A16.out) hk (NB411_400.out)); have n1_ := Aside0.mk (hb); have n2_ := Aside0.mk (hi); clear HI411; clear HB; clear HI400; have HI411 := n0_; have HB := n1_; have HI400 := n2_; clear n0_ n1_ n2_; (try clear hb); (try clear hb2); (try clear hk); (try clear hi)))
              go_meet
              case rel => exact ⟨_, (true), (by first | rfl | (simp; done) | (simp [*]; done)), H', ⟨by have := HJ7.out; first | omega | exact Nat.le_refl _⟩, ⟨by repeat (first | (with_reducible first | exact HI411.out | apply IsS100.alloc | apply IsS100.drewN | apply IsS100.drew | apply IsS100.set_0 | apply IsS100.set_1 | apply IsS100.set_2 | apply IsS100.set_3 | apply IsS100.set_4 | apply IsS100.set_5 | apply IsS100.set_6 | apply IsS100.set_7 | apply IsS100.set_8 | apply IsS100.set_9) | exact HI411.out)⟩, ⟨by repeat (first | (with_reducible first | exact HB.out | apply below_alloc | apply pw_below_drewN | apply below_drew1 | refine below_set ?_ (IsS100.ge HI400.out) | refine below_set ?_ (IsS100.ge HI411.out)) | exact HB.out)⟩⟩
          case rest =>
            clear HC17
            try clear c1
            try clear c2
            try clear p2
            try clear c7
            try clear c10
            try clear c10b0
            try clear c11
            try clear c11b0
            try clear c12
            try clear c13
            try clear c21
            try clear c21b0
            try clear c21b1
            try clear c23
            try clear c23b0
            try clear c23b1
            try clear c25
            try clear c25b0
            try clear c25b1
            try clear c27
            try clear c27b0
            try clear c27b1
            try clear p2
            obtain ⟨kq, x70_16, rfl, HA, HJ16, HI411, HB⟩ := hcut
            cases kq with
            | zero => exact absurd HA.out (by simp [tiklaw23_DeckAir.j1])
            | succ kj16 =>
              have H := HA.out
              clear HA
              simp only [tiklaw23_DeckAir.j1] at H
              by_cases c44 : x70_16 = true
              · subst c44
                have H1 : (some false) = some r := by rw [if_pos rfl] at H; exact H
                clear H
                have H := H1
                clear H1
                exact absurd ((Option.some.inj H).trans hr_.out) (by simp)
              · replace c44 := Bool.eq_false_iff.mpr c44
                subst c44
                have H1 : ((deck_Deck_Seek.f t401 t402 t403 t404 t405 t406 t407 t408 t409 t410 a0 a1 a2 a3).bind fun bt467 => (if ((bt467.1 == 12) != (decide (a3 < a1))) = true then (tiklaw23_DeckAir.j2 kj16 a0 a2 a4 true bt467.2.1 bt467.2.2.1 bt467.2.2.2.1 bt467.2.2.2.2.1 bt467.2.2.2.2.2.1 bt467.2.2.2.2.2.2.1 bt467.2.2.2.2.2.2.2.1 bt467.2.2.2.2.2.2.2.2.1 bt467.2.2.2.2.2.2.2.2.2.1 bt467.2.2.2.2.2.2.2.2.2.2) else (if bt467.1 = 0 then ((deck_Deck_Pos.f bt467.2.1 bt467.2.2.1 bt467.2.2.2.1 bt467.2.2.2.2.1 bt467.2.2.2.2.2.1 bt467.2.2.2.2.2.2.1 bt467.2.2.2.2.2.2.2.1 bt467.2.2.2.2.2.2.2.2.1 bt467.2.2.2.2.2.2.2.2.2.1 bt467.2.2.2.2.2.2.2.2.2.2).bind fun bt478 => (if bt478.1 = (mn a3 a2) then ((deck_Deck_Mode.f bt478.2.1 bt478.2.2.1 bt478.2.2.2.1 bt478.2.2.2.2.1 bt478.2.2.2.2.2.1 bt478.2.2.2.2.2.2.1 bt478.2.2.2.2.2.2.2.1 bt478.2.2.2.2.2.2.2.2.1 bt478.2.2.2.2.2.2.2.2.2.1 bt478.2.2.2.2.2.2.2.2.2.2).bind fun bt489 => (if bt489.1 = 1 then (tiklaw23_DeckAir.j2 kj16 a0 a2 a4 false bt489.2.1 bt489.2.2.1 bt489.2.2.2.1 bt489.2.2.2.2.1 bt489.2.2.2.2.2.1 bt489.2.2.2.2.2.2.1 bt489.2.2.2.2.2.2.2.1 bt489.2.2.2.2.2.2.2.2.1 bt489.2.2.2.2.2.2.2.2.2.1 bt489.2.2.2.2.2.2.2.2.2.2) else (tiklaw23_DeckAir.j2 kj16 a0 a2 a4 true bt489.2.1 bt489.2.2.1 bt489.2.2.2.1 bt489.2.2.2.2.1 bt489.2.2.2.2.2.1 bt489.2.2.2.2.2.2.1 bt489.2.2.2.2.2.2.2.1 bt489.2.2.2.2.2.2.2.2.1 bt489.2.2.2.2.2.2.2.2.2.1 bt489.2.2.2.2.2.2.2.2.2.2))) else (tiklaw23_DeckAir.j2 kj16 a0 a2 a4 true bt478.2.1 bt478.2.2.1 bt478.2.2.2.1 bt478.2.2.2.2.1 bt478.2.2.2.2.2.1 bt478.2.2.2.2.2.2.1 bt478.2.2.2.2.2.2.2.1 bt478.2.2.2.2.2.2.2.2.1 bt478.2.2.2.2.2.2.2.2.2.1 bt478.2.2.2.2.2.2.2.2.2.2))) else ((deck_Deck_Mode.f bt467.2.1 bt467.2.2.1 bt467.2.2.2.1 bt467.2.2.2.2.1 bt467.2.2.2.2.2.1 bt467.2.2.2.2.2.2.1 bt467.2.2.2.2.2.2.2.1 bt467.2.2.2.2.2.2.2.2.1 bt467.2.2.2.2.2.2.2.2.2.1 bt467.2.2.2.2.2.2.2.2.2.2).bind fun bt500 => (tiklaw23_DeckAir.j2 kj16 a0 a2 a4 (bt500.1 != 0) bt500.2.1 bt500.2.2.1 bt500.2.2.2.1 bt500.2.2.2.2.1 bt500.2.2.2.2.2.1 bt500.2.2.2.2.2.2.1 bt500.2.2.2.2.2.2.2.1 bt500.2.2.2.2.2.2.2.2.1 bt500.2.2.2.2.2.2.2.2.2.1 bt500.2.2.2.2.2.2.2.2.2.2))))) = some r := by rw [if_neg (show ¬ (false = true) by decide)] at H; exact H
                clear H
                have H := H1
                clear H1
                replace H := Option.bind_eq_some_iff.mp H
                obtain ⟨⟨t467, t468, t469, t470, t471, t472, t473, t474, t475, t476, t477⟩, A450, H⟩ := H
                replace H : (if ((t467 == 12) != (decide (a3 < a1))) = true then (tiklaw23_DeckAir.j2 kj16 a0 a2 a4 true t468 t469 t470 t471 t472 t473 t474 t475 t476 t477) else (if t467 = 0 then ((deck_Deck_Pos.f t468 t469 t470 t471 t472 t473 t474 t475 t476 t477).bind fun bt478 => (if bt478.1 = (mn a3 a2) then ((deck_Deck_Mode.f bt478.2.1 bt478.2.2.1 bt478.2.2.2.1 bt478.2.2.2.2.1 bt478.2.2.2.2.2.1 bt478.2.2.2.2.2.2.1 bt478.2.2.2.2.2.2.2.1 bt478.2.2.2.2.2.2.2.2.1 bt478.2.2.2.2.2.2.2.2.2.1 bt478.2.2.2.2.2.2.2.2.2.2).bind fun bt489 => (if bt489.1 = 1 then (tiklaw23_DeckAir.j2 kj16 a0 a2 a4 false bt489.2.1 bt489.2.2.1 bt489.2.2.2.1 bt489.2.2.2.2.1 bt489.2.2.2.2.2.1 bt489.2.2.2.2.2.2.1 bt489.2.2.2.2.2.2.2.1 bt489.2.2.2.2.2.2.2.2.1 bt489.2.2.2.2.2.2.2.2.2.1 bt489.2.2.2.2.2.2.2.2.2.2) else (tiklaw23_DeckAir.j2 kj16 a0 a2 a4 true bt489.2.1 bt489.2.2.1 bt489.2.2.2.1 bt489.2.2.2.2.1 bt489.2.2.2.2.2.1 bt489.2.2.2.2.2.2.1 bt489.2.2.2.2.2.2.2.1 bt489.2.2.2.2.2.2.2.2.1 bt489.2.2.2.2.2.2.2.2.2.1 bt489.2.2.2.2.2.2.2.2.2.2))) else (tiklaw23_DeckAir.j2 kj16 a0 a2 a4 true bt478.2.1 bt478.2.2.1 bt478.2.2.2.1 bt478.2.2.2.2.1 bt478.2.2.2.2.2.1 bt478.2.2.2.2.2.2.1 bt478.2.2.2.2.2.2.2.1 bt478.2.2.2.2.2.2.2.2.1 bt478.2.2.2.2.2.2.2.2.2.1 bt478.2.2.2.2.2.2.2.2.2.2))) else ((deck_Deck_Mode.f t468 t469 t470 t471 t472 t473 t474 t475 t476 t477).bind fun bt500 => (tiklaw23_DeckAir.j2 kj16 a0 a2 a4 (bt500.1 != 0) bt500.2.1 bt500.2.2.1 bt500.2.2.2.1 bt500.2.2.2.2.1 bt500.2.2.2.2.2.1 bt500.2.2.2.2.2.2.1 bt500.2.2.2.2.2.2.2.1 bt500.2.2.2.2.2.2.2.2.1 bt500.2.2.2.2.2.2.2.2.2.1 bt500.2.2.2.2.2.2.2.2.2.2)))) = some r := H
                have A45 := Aside0.mk A450
                clear A450
                have HC46 := Aside0.mk H
                clear H
                go_upto_region 9 with (first | ((with_reducible refine gate_callee (f := 23) rfl ?_); refine goesL_ (some 76) rfl rfl Tryd.func23 (by kernel_rfl) rfl #[.pointer (some ⟨g411, 0, none⟩), .int .u64 a0, .int .u64 a1, .int .u64 a2, .int .u64 a3] rfl (by (try simp only [List.map_toArray, List.map_cons, List.map_nil]); first | done | rfl | (simp only [List.length_drop, List.length_take]; rfl)) ?_; (with_reducible refine (deck_Deck_Seek.calls g411 t401 t402 t403 t404 t405 t406 t407 t408 t409 t410 a0 a1 a2 a3 t467 t468 t469 t470 t471 t472 t473 t474 t475 t476 t477 w _ ?side1 ?side2 A45.out).mono ?_); (case side1 => repeat (first | (with_reducible first | exact HI411.out | apply IsS100.alloc | apply IsS100.drewN | apply IsS100.drew | apply IsS100.set_0 | apply IsS100.set_1 | apply IsS100.set_2 | apply IsS100.set_3 | apply IsS100.set_4 | apply IsS100.set_5 | apply IsS100.set_6 | apply IsS100.set_7 | apply IsS100.set_8 | apply IsS100.set_9) | exact HI411.out)); (case side2 => repeat (first | (with_reducible first | exact HB.out | apply below_alloc | apply pw_below_drewN | apply below_drew1 | refine below_set ?_ (IsS100.ge HI411.out)) | exact HB.out)); rintro e w47 ⟨rfl, hi, hb, hk⟩; refine ⟨_, rfl, ?_⟩; have n0_ := Aside0.mk (hb); have n1_ := Aside0.mk (hi); clear HB; clear HI411; have HB := n0_; have HI411 := n1_; clear n0_ n1_; (try clear hb); (try clear hb2); (try clear hk); (try clear hi)))
                (try simp only [Act.put, List.setIfInBounds_toArray, List.set_cons_zero, List.set_cons_succ])
                go_cut [108] (fun v108 wc => ∃ (kq : Nat) (x108_45 : Bool) (x412000_45 : Int) (x412001_45 : Int) (x412002_45 : Int) (x412003_45 : Int) (x412004_45 : Bool) (x412005_45 : Int) (x412006_45 : Int) (x412007_45 : Int) (x412008_45 : Int) (x412009_45 : Int), v108 = .bool x108_45 ∧ Aside0 (tiklaw23_DeckAir.j2 kq a0 a2 a4 x108_45 x412000_45 x412001_45 x412002_45 x412003_45 x412004_45 x412005_45 x412006_45 x412007_45 x412008_45 x412009_45 = some r) ∧ Aside0 (kq ≤ kj16) ∧ Aside0 (IsS100 w wc g411 x412000_45 x412001_45 x412002_45 x412003_45 x412004_45 x412005_45 x412006_45 x412007_45 x412008_45 x412009_45) ∧ Aside0 (Below w.heap.size w wc))
                case first =>
                  have H := HC46.out
                  clear HC46
                  by_cases c48 : ((t467 == 12) != (decide (a3 < a1))) = true
                  · rw [if_pos c48] at H
                    have c48b0 : ((t467 == 12) != (decide (a3 < a1))) = true := c48
                    (try (have c48b1 : decide ((t467 == 12) = (decide (a3 < a1))) = false := by simpa using c48))
                    (try (have c48b2 : ((t467 == 12) == (decide (a3 < a1))) = false := by simpa using c48))
                    (try (have c48b3 : ¬ ((t467 == 12) = (decide (a3 < a1))) := by simpa using c48))
                    clear c48
                    (first | rw [c48b0] | (simp only [i64_w, i32_w]; rw [c48b0]) | skip)
                    have H' := Aside0.mk H
                    clear H
                    go_wp2
                    go_meet
                    case rel => exact ⟨_, (true), (t468), (t469), (t470), (t471), (t472), (t473), (t474), (t475), (t476), (t477), (by first | rfl | (simp; done) | (simp [*]; done)), H', ⟨by have := HJ7.out; have := HJ16.out; first | omega | exact Nat.le_refl _⟩, ⟨by repeat (first | (with_reducible first | exact HI411.out | apply IsS100.alloc | apply IsS100.drewN | apply IsS100.drew | apply IsS100.set_0 | apply IsS100.set_1 | apply IsS100.set_2 | apply IsS100.set_3 | apply IsS100.set_4 | apply IsS100.set_5 | apply IsS100.set_6 | apply IsS100.set_7 | apply IsS100.set_8 | apply IsS100.set_9) | exact HI411.out)⟩, ⟨by repeat (first | (with_reducible first | exact HB.out | apply below_alloc | apply pw_below_drewN | apply below_drew1 | refine below_set ?_ (IsS100.ge HI411.out)) | exact HB.out)⟩⟩
                  · rw [if_neg c48] at H
                    have c48b0 : ((t467 == 12) != (decide (a3 < a1))) = false := by simpa using c48
                    (try (have c48b1 : decide ((t467 == 12) = (decide (a3 < a1))) = true := by simpa using c48))
                    (try (have c48b2 : ((t467 == 12) == (decide (a3 < a1))) = true := by simpa using c48))
                    clear c48
                    (first | rw [c48b0] | (simp only [i64_w, i32_w]; rw [c48b0]) | skip)
                    by_cases c49 : t467 = 0
                    · rw [if_pos c49] at H
                      have c49b0 : (t467 == 0) = true := beq_iff_eq.mpr c49
                      have c49b1 : (t467 != 0) = false := bne_eq_false_iff_eq.mpr c49
                      clear c49
                      replace H := Option.bind_eq_some_iff.mp H
                      obtain ⟨⟨t478, t479, t480, t481, t482, t483, t484, t485, t486, t487, t488⟩, A500, H⟩ := H
                      replace H : (if t478 = (mn a3 a2) then ((deck_Deck_Mode.f t479 t480 t481 t482 t483 t484 t485 t486 t487 t488).bind fun bt489 => (if bt489.1 = 1 then (tiklaw23_DeckAir.j2 kj16 a0 a2 a4 false bt489.2.1 bt489.2.2.1 bt489.2.2.2.1 bt489.2.2.2.2.1 bt489.2.2.2.2.2.1 bt489.2.2.2.2.2.2.1 bt489.2.2.2.2.2.2.2.1 bt489.2.2.2.2.2.2.2.2.1 bt489.2.2.2.2.2.2.2.2.2.1 bt489.2.2.2.2.2.2.2.2.2.2) else (tiklaw23_DeckAir.j2 kj16 a0 a2 a4 true bt489.2.1 bt489.2.2.1 bt489.2.2.2.1 bt489.2.2.2.2.1 bt489.2.2.2.2.2.1 bt489.2.2.2.2.2.2.1 bt489.2.2.2.2.2.2.2.1 bt489.2.2.2.2.2.2.2.2.1 bt489.2.2.2.2.2.2.2.2.2.1 bt489.2.2.2.2.2.2.2.2.2.2))) else (tiklaw23_DeckAir.j2 kj16 a0 a2 a4 true t479 t480 t481 t482 t483 t484 t485 t486 t487 t488)) = some r := H
                      have A50 := Aside0.mk A500
                      clear A500
                      obtain ⟨ji51, hji51⟩ : ∃ j_ : Int, (mn a3 a2) = j_ := ⟨_, rfl⟩
                      replace H : (if t478 = (ji51) then ((deck_Deck_Mode.f t479 t480 t481 t482 t483 t484 t485 t486 t487 t488).bind fun bt489 => (if bt489.1 = 1 then (tiklaw23_DeckAir.j2 kj16 a0 a2 a4 false bt489.2.1 bt489.2.2.1 bt489.2.2.2.1 bt489.2.2.2.2.1 bt489.2.2.2.2.2.1 bt489.2.2.2.2.2.2.1 bt489.2.2.2.2.2.2.2.1 bt489.2.2.2.2.2.2.2.2.1 bt489.2.2.2.2.2.2.2.2.2.1 bt489.2.2.2.2.2.2.2.2.2.2) else (tiklaw23_DeckAir.j2 kj16 a0 a2 a4 true bt489.2.1 bt489.2.2.1 bt489.2.2.2.1 bt489.2.2.2.2.1 bt489.2.2.2.2.2.1 bt489.2.2.2.2.2.2.1 bt489.2.2.2.2.2.2.2.1 bt489.2.2.2.2.2.2.2.2.1 bt489.2.2.2.2.2.2.2.2.2.1 bt489.2.2.2.2.2.2.2.2.2.2))) else (tiklaw23_DeckAir.j2 kj16 a0 a2 a4 true t479 t480 t481 t482 t483 t484 t485 t486 t487 t488)) = some r := by first | (rw [hji51] at H; exact H) | (simp only [hji51] at H ⊢; exact H)
                      (try rw [hji51] at A50)
                      have hji51_ : (if a2 < a3 then a2 else a3) = ji51 := hji51
                      by_cases c52 : t478 = (ji51)
                      · rw [if_pos c52] at H
                        have c52b0 : (t478 == (ji51)) = true := beq_iff_eq.mpr c52
                        have c52b1 : (t478 != (ji51)) = false := bne_eq_false_iff_eq.mpr c52
                        clear c52
                        replace H := Option.bind_eq_some_iff.mp H
                        obtain ⟨⟨t489, t490, t491, t492, t493, t494, t495, t496, t497, t498, t499⟩, A530, H⟩ := H
                        replace H : (if t489 = 1 then (tiklaw23_DeckAir.j2 kj16 a0 a2 a4 false t490 t491 t492 t493 t494 t495 t496 t497 t498 t499) else (tiklaw23_DeckAir.j2 kj16 a0 a2 a4 true t490 t491 t492 t493 t494 t495 t496 t497 t498 t499)) = some r := H
                        have A53 := Aside0.mk A530
                        clear A530
                        by_cases c54 : t489 = 1
                        · rw [if_pos c54] at H
                          have c54b0 : (t489 == 1) = true := beq_iff_eq.mpr c54
                          have c54b1 : (t489 != 1) = false := bne_eq_false_iff_eq.mpr c54
                          clear c54
                          have H' := Aside0.mk H
                          clear H
                          go_wp2_with (first | (go_at_call 19; (with_reducible refine (deck_Deck_Pos.calls g411 t468 t469 t470 t471 t472 t473 t474 t475 t476 t477 t478 t479 t480 t481 t482 t483 t484 t485 t486 t487 t488 w _ ?side1 ?side2 A50.out).mono ?_); (case side1 => repeat (first | (with_reducible first | exact HI411.out | apply IsS100.alloc | apply IsS100.drewN | apply IsS100.drew | apply IsS100.set_0 | apply IsS100.set_1 | apply IsS100.set_2 | apply IsS100.set_3 | apply IsS100.set_4 | apply IsS100.set_5 | apply IsS100.set_6 | apply IsS100.set_7 | apply IsS100.set_8 | apply IsS100.set_9) | exact HI411.out)); (case side2 => repeat (first | (with_reducible first | exact HB.out | apply below_alloc | apply pw_below_drewN | apply below_drew1 | refine below_set ?_ (IsS100.ge HI411.out)) | exact HB.out)); rintro e w55 ⟨rfl, hi, hb, hk⟩; have n0_ := Aside0.mk (hb); have n1_ := Aside0.mk (hi); clear HB; clear HI411; have HB := n0_; have HI411 := n1_; clear n0_ n1_; (try clear hb); (try clear hb2); (try clear hk); (try clear hi)) | (go_at_call 18; (with_reducible refine (deck_Deck_Mode.calls g411 t479 t480 t481 t482 t483 t484 t485 t486 t487 t488 t489 t490 t491 t492 t493 t494 t495 t496 t497 t498 t499 w _ ?side1 ?side2 A53.out).mono ?_); (case side1 => repeat (first | (with_reducible first | exact HI411.out | apply IsS100.alloc | apply IsS100.drewN | apply IsS100.drew | apply IsS100.set_0 | apply IsS100.set_1 | apply IsS100.set_2 | apply IsS100.set_3 | apply IsS100.set_4 | apply IsS100.set_5 | apply IsS100.set_6 | apply IsS100.set_7 | apply IsS100.set_8 | apply IsS100.set_9) | exact HI411.out)); (case side2 => repeat (first | (with_reducible first | exact HB.out | apply below_alloc | apply pw_below_drewN | apply below_drew1 | refine below_set ?_ (IsS100.ge HI411.out)) | exact HB.out)); rintro e w56 ⟨rfl, hi, hb, hk⟩; have n0_ := Aside0.mk (hb); have n1_ := Aside0.mk (hi); clear HB; clear HI411; have HB := n0_; have HI411 := n1_; clear n0_ n1_; (try clear hb); (try clear hb2); (try clear hk); (try clear hi)))
                          go_meet
                          case rel => exact ⟨_, (false), (t490), (t491), (t492), (t493), (t494), (t495), (t496), (t497), (t498), (t499), (by first | rfl | (simp; done) | (simp [*]; done)), H', ⟨by have := HJ7.out; have := HJ16.out; first | omega | exact Nat.le_refl _⟩, ⟨by repeat (first | (with_reducible first | exact HI411.out | apply IsS100.alloc | apply IsS100.drewN | apply IsS100.drew | apply IsS100.set_0 | apply IsS100.set_1 | apply IsS100.set_2 | apply IsS100.set_3 | apply IsS100.set_4 | apply IsS100.set_5 | apply IsS100.set_6 | apply IsS100.set_7 | apply IsS100.set_8 | apply IsS100.set_9) | exact HI411.out)⟩, ⟨by repeat (first | (with_reducible first | exact HB.out | apply below_alloc | apply pw_below_drewN | apply below_drew1 | refine below_set ?_ (IsS100.ge HI411.out)) | exact HB.out)⟩⟩
                        · rw [if_neg c54] at H
                          have c54b0 : (t489 == 1) = false := beq_eq_false_iff_ne.mpr c54
                          have c54b1 : (t489 != 1) = true := bne_iff_ne.mpr c54
                          have H' := Aside0.mk H
                          clear H
                          go_wp2_with (first | (go_at_call 19; (with_reducible refine (deck_Deck_Pos.calls g411 t468 t469 t470 t471 t472 t473 t474 t475 t476 t477 t478 t479 t480 t481 t482 t483 t484 t485 t486 t487 t488 w _ ?side1 ?side2 A50.out).mono ?_); (case side1 => repeat (first | (with_reducible first | exact HI411.out | apply IsS100.alloc | apply IsS100.drewN | apply IsS100.drew | apply IsS100.set_0 | apply IsS100.set_1 | apply IsS100.set_2 | apply IsS100.set_3 | apply IsS100.set_4 | apply IsS100.set_5 | apply IsS100.set_6 | apply IsS100.set_7 | apply IsS100.set_8 | apply IsS100.set_9) | exact HI411.out)); (case side2 => repeat (first | (with_reducible first | exact HB.out | apply below_alloc | apply pw_below_drewN | apply below_drew1 | refine below_set ?_ (IsS100.ge HI411.out)) | exact HB.out)); rintro e w57 ⟨rfl, hi, hb, hk⟩; have n0_ := Aside0.mk (hb); have n1_ := Aside0.mk (hi); clear HB; clear HI411; have HB := n0_; have HI411 := n1_; clear n0_ n1_; (try clear hb); (try clear hb2); (try clear hk); (try clear hi)) | (go_at_call 18; (with_reducible refine (deck_Deck_Mode.calls g411 t479 t480 t481 t482 t483 t484 t485 t486 t487 t488 t489 t490 t491 t492 t493 t494 t495 t496 t497 t498 t499 w _ ?side1 ?side2 A53.out).mono ?_); (case side1 => repeat (first | (with_reducible first | exact HI411.out | apply IsS100.alloc | apply IsS100.drewN | apply IsS100.drew | apply IsS100.set_0 | apply IsS100.set_1 | apply IsS100.set_2 | apply IsS100.set_3 | apply IsS100.set_4 | apply IsS100.set_5 | apply IsS100.set_6 | apply IsS100.set_7 | apply IsS100.set_8 | apply IsS100.set_9) | exact HI411.out)); (case side2 => repeat (first | (with_reducible first | exact HB.out | apply below_alloc | apply pw_below_drewN | apply below_drew1 | refine below_set ?_ (IsS100.ge HI411.out)) | exact HB.out)); rintro e w58 ⟨rfl, hi, hb, hk⟩; have n0_ := Aside0.mk (hb); have n1_ := Aside0.mk (hi); clear HB; clear HI411; have HB := n0_; have HI411 := n1_; clear n0_ n1_; (try clear hb); (try clear hb2); (try clear hk); (try clear hi)))
                          go_meet
                          case rel => exact ⟨_, (true), (t490), (t491), (t492), (t493), (t494), (t495), (t496), (t497), (t498), (t499), (by first | rfl | (simp; done) | (simp [*]; done)), H', ⟨by have := HJ7.out; have := HJ16.out; first | omega | exact Nat.le_refl _⟩, ⟨by repeat (first | (with_reducible first | exact HI411.out | apply IsS100.alloc | apply IsS100.drewN | apply IsS100.drew | apply IsS100.set_0 | apply IsS100.set_1 | apply IsS100.set_2 | apply IsS100.set_3 | apply IsS100.set_4 | apply IsS100.set_5 | apply IsS100.set_6 | apply IsS100.set_7 | apply IsS100.set_8 | apply IsS100.set_9) | exact HI411.out)⟩, ⟨by repeat (first | (with_reducible first | exact HB.out | apply below_alloc | apply pw_below_drewN | apply below_drew1 | refine below_set ?_ (IsS100.ge HI411.out)) | exact HB.out)⟩⟩
                      · rw [if_neg c52] at H
                        have c52b0 : (t478 == (ji51)) = false := beq_eq_false_iff_ne.mpr c52
                        have c52b1 : (t478 != (ji51)) = true := bne_iff_ne.mpr c52
                        have H' := Aside0.mk H
                        clear H
                        go_wp2_with (first | (go_at_call 19; (with_reducible refine (deck_Deck_Pos.calls g411 t468 t469 t470 t471 t472 t473 t474 t475 t476 t477 t478 t479 t480 t481 t482 t483 t484 t485 t486 t487 t488 w _ ?side1 ?side2 A50.out).mono ?_); (case side1 => repeat (first | (with_reducible first | exact HI411.out | apply IsS100.alloc | apply IsS100.drewN | apply IsS100.drew | apply IsS100.set_0 | apply IsS100.set_1 | apply IsS100.set_2 | apply IsS100.set_3 | apply IsS100.set_4 | apply IsS100.set_5 | apply IsS100.set_6 | apply IsS100.set_7 | apply IsS100.set_8 | apply IsS100.set_9) | exact HI411.out)); (case side2 => repeat (first | (with_reducible first | exact HB.out | apply below_alloc | apply pw_below_drewN | apply below_drew1 | refine below_set ?_ (IsS100.ge HI411.out)) | exact HB.out)); rintro e w59 ⟨rfl, hi, hb, hk⟩; have n0_ := Aside0.mk (hb); have n1_ := Aside0.mk (hi); clear HB; clear HI411; have HB := n0_; have HI411 := n1_; clear n0_ n1_; (try clear hb); (try clear hb2); (try clear hk); (try clear hi)))
                        go_meet
                        case rel => exact ⟨_, (true), (t479), (t480), (t481), (t482), (t483), (t484), (t485), (t486), (t487), (t488), (by first | rfl | (simp; done) | (simp [*]; done)), H', ⟨by have := HJ7.out; have := HJ16.out; first | omega | exact Nat.le_refl _⟩, ⟨by repeat (first | (with_reducible first | exact HI411.out | apply IsS100.alloc | apply IsS100.drewN | apply IsS100.drew | apply IsS100.set_0 | apply IsS100.set_1 | apply IsS100.set_2 | apply IsS100.set_3 | apply IsS100.set_4 | apply IsS100.set_5 | apply IsS100.set_6 | apply IsS100.set_7 | apply IsS100.set_8 | apply IsS100.set_9) | exact HI411.out)⟩, ⟨by repeat (first | (with_reducible first | exact HB.out | apply below_alloc | apply pw_below_drewN | apply below_drew1 | refine below_set ?_ (IsS100.ge HI411.out)) | exact HB.out)⟩⟩
                    · rw [if_neg c49] at H
                      have c49b0 : (t467 == 0) = false := beq_eq_false_iff_ne.mpr c49
                      have c49b1 : (t467 != 0) = true := bne_iff_ne.mpr c49
                      replace H := Option.bind_eq_some_iff.mp H
                      obtain ⟨⟨t500, t501, t502, t503, t504, t505, t506, t507, t508, t509, t510⟩, A600, H⟩ := H
                      replace H : (tiklaw23_DeckAir.j2 kj16 a0 a2 a4 (t500 != 0) t501 t502 t503 t504 t505 t506 t507 t508 t509 t510) = some r := H
                      have A60 := Aside0.mk A600
                      clear A600
                      have H' := Aside0.mk H
                      clear H
                      go_wp2_with (first | (go_at_call 18; (with_reducible refine (deck_Deck_Mode.calls g411 t468 t469 t470 t471 t472 t473 t474 t475 t476 t477 t500 t501 t502 t503 t504 t505 t506 t507 t508 t509 t510 w _ ?side1 ?side2 A60.out).mono ?_); (case side1 => repeat (first | (with_reducible first | exact HI411.out | apply IsS100.alloc | apply IsS100.drewN | apply IsS100.drew | apply IsS100.set_0 | apply IsS100.set_1 | apply IsS100.set_2 | apply IsS100.set_3 | apply IsS100.set_4 | apply IsS100.set_5 | apply IsS100.set_6 | apply IsS100.set_7 | apply IsS100.set_8 | apply IsS100.set_9) | exact HI411.out)); (case side2 => repeat (first | (with_reducible first | exact HB.out | apply below_alloc | apply pw_below_drewN | apply below_drew1 | refine below_set ?_ (IsS100.ge HI411.out)) | exact HB.out)); rintro e w61 ⟨rfl, hi, hb, hk⟩; have n0_ := Aside0.mk (hb); have n1_ := Aside0.mk (hi); clear HB; clear HI411; have HB := n0_; have HI411 := n1_; clear n0_ n1_; (try clear hb); (try clear hb2); (try clear hk); (try clear hi)))
                      go_meet
                      case rel => exact ⟨_, ((t500 != 0)), (t501), (t502), (t503), (t504), (t505), (t506), (t507), (t508), (t509), (t510), (by first | rfl | (simp; done) | (simp [*]; done)), H', ⟨by have := HJ7.out; have := HJ16.out; first | omega | exact Nat.le_refl _⟩, ⟨by repeat (first | (with_reducible first | exact HI411.out | apply IsS100.alloc | apply IsS100.drewN | apply IsS100.drew | apply IsS100.set_0 | apply IsS100.set_1 | apply IsS100.set_2 | apply IsS100.set_3 | apply IsS100.set_4 | apply IsS100.set_5 | apply IsS100.set_6 | apply IsS100.set_7 | apply IsS100.set_8 | apply IsS100.set_9) | exact HI411.out)⟩, ⟨by repeat (first | (with_reducible first | exact HB.out | apply below_alloc | apply pw_below_drewN | apply below_drew1 | refine below_set ?_ (IsS100.ge HI411.out)) | exact HB.out)⟩⟩
                case rest =>
                  clear HC46
                  try clear c1
                  try clear c2
                  try clear p2
                  try clear c4
                  try clear c5
                  try clear c7
                  try clear c10
                  try clear c10b0
                  try clear c11
                  try clear c11b0
                  try clear c12
                  try clear c13
                  try clear c21
                  try clear c21b0
                  try clear c21b1
                  try clear c23
                  try clear c23b0
                  try clear c23b1
                  try clear c25
                  try clear c25b0
                  try clear c25b1
                  try clear c27
                  try clear c27b0
                  try clear c27b1
                  try clear c44
                  try clear c48
                  try clear c48b0
                  try clear c48b1
                  try clear c48b2
                  try clear c49
                  try clear c49b0
                  try clear c49b1
                  try clear c52
                  try clear c52b0
                  try clear c52b1
                  try clear c54
                  try clear c54b0
                  try clear c54b1
                  try clear p2
                  obtain ⟨kq, x108_45, x412000_45, x412001_45, x412002_45, x412003_45, x412004_45, x412005_45, x412006_45, x412007_45, x412008_45, x412009_45, rfl, HA, HJ45, HI411, HB⟩ := hcut
                  cases kq with
                  | zero => exact absurd HA.out (by simp [tiklaw23_DeckAir.j2])
                  | succ kj45 =>
                    have H := HA.out
                    clear HA
                    simp only [tiklaw23_DeckAir.j2] at H
                    by_cases c62 : x108_45 = true
                    · subst c62
                      have H1 : (some false) = some r := by rw [if_pos rfl] at H; exact H
                      clear H
                      have H := H1
                      clear H1
                      exact absurd ((Option.some.inj H).trans hr_.out) (by simp)
                    · replace c62 := Bool.eq_false_iff.mpr c62
                      subst c62
                      have H1 : ((rate_Of.f a4).bind fun bt511 => ((deck_Deck_Speed.f kj45 x412000_45 x412001_45 x412002_45 x412003_45 x412004_45 x412005_45 x412006_45 x412007_45 x412008_45 x412009_45 a0 a4).bind fun bt515 => ((deck_Deck_Live.f bt515.2.1 bt515.2.2.1 bt515.2.2.2.1 bt515.2.2.2.2.1 bt515.2.2.2.2.2.1 bt515.2.2.2.2.2.2.1 bt515.2.2.2.2.2.2.2.1 bt515.2.2.2.2.2.2.2.2.1 bt515.2.2.2.2.2.2.2.2.2.1 bt515.2.2.2.2.2.2.2.2.2.2 a0).bind fun bt526 => ((tiklaw23_first.f kj45).bind fun t536 => (if t536 = true then (if bt511.2.2 = bt515.1 then ((deck_Deck_Mode.f bt526.1 bt526.2.1 bt526.2.2.1 bt526.2.2.2.1 bt526.2.2.2.2.1 bt526.2.2.2.2.2.1 bt526.2.2.2.2.2.2.1 bt526.2.2.2.2.2.2.2.1 bt526.2.2.2.2.2.2.2.2.1 bt526.2.2.2.2.2.2.2.2.2).bind fun bt537 => (if bt537.1 = 0 then ((deck_Deck_Pause.f bt537.2.1 bt537.2.2.1 bt537.2.2.2.1 bt537.2.2.2.2.1 bt537.2.2.2.2.2.1 bt537.2.2.2.2.2.2.1 bt537.2.2.2.2.2.2.2.1 bt537.2.2.2.2.2.2.2.2.1 bt537.2.2.2.2.2.2.2.2.2.1 bt537.2.2.2.2.2.2.2.2.2.2 a0 (IntKind.u64.wrap (a2 + 1)) a2).bind fun bt548 => (if bt548.1 = 1 then ((deck_Deck_Mode.f bt548.2.1 bt548.2.2.1 bt548.2.2.2.1 bt548.2.2.2.2.1 bt548.2.2.2.2.2.1 bt548.2.2.2.2.2.2.1 bt548.2.2.2.2.2.2.2.1 bt548.2.2.2.2.2.2.2.2.1 bt548.2.2.2.2.2.2.2.2.2.1 bt548.2.2.2.2.2.2.2.2.2.2).bind fun bt559 => (some (bt559.1 == 0))) else (some false))) else (some false))) else (some false)) else (some false)))))) = some r := by rw [if_neg (show ¬ (false = true) by decide)] at H; exact H
                      clear H
                      have H := H1
                      clear H1
                      replace H := Option.bind_eq_some_iff.mp H
                      obtain ⟨⟨t511, t512, t513⟩, A630, H⟩ := H
                      replace H : ((deck_Deck_Speed.f kj45 x412000_45 x412001_45 x412002_45 x412003_45 x412004_45 x412005_45 x412006_45 x412007_45 x412008_45 x412009_45 a0 a4).bind fun bt515 => ((deck_Deck_Live.f bt515.2.1 bt515.2.2.1 bt515.2.2.2.1 bt515.2.2.2.2.1 bt515.2.2.2.2.2.1 bt515.2.2.2.2.2.2.1 bt515.2.2.2.2.2.2.2.1 bt515.2.2.2.2.2.2.2.2.1 bt515.2.2.2.2.2.2.2.2.2.1 bt515.2.2.2.2.2.2.2.2.2.2 a0).bind fun bt526 => ((tiklaw23_first.f kj45).bind fun t536 => (if t536 = true then (if t513 = bt515.1 then ((deck_Deck_Mode.f bt526.1 bt526.2.1 bt526.2.2.1 bt526.2.2.2.1 bt526.2.2.2.2.1 bt526.2.2.2.2.2.1 bt526.2.2.2.2.2.2.1 bt526.2.2.2.2.2.2.2.1 bt526.2.2.2.2.2.2.2.2.1 bt526.2.2.2.2.2.2.2.2.2).bind fun bt537 => (if bt537.1 = 0 then ((deck_Deck_Pause.f bt537.2.1 bt537.2.2.1 bt537.2.2.2.1 bt537.2.2.2.2.1 bt537.2.2.2.2.2.1 bt537.2.2.2.2.2.2.1 bt537.2.2.2.2.2.2.2.1 bt537.2.2.2.2.2.2.2.2.1 bt537.2.2.2.2.2.2.2.2.2.1 bt537.2.2.2.2.2.2.2.2.2.2 a0 (IntKind.u64.wrap (a2 + 1)) a2).bind fun bt548 => (if bt548.1 = 1 then ((deck_Deck_Mode.f bt548.2.1 bt548.2.2.1 bt548.2.2.2.1 bt548.2.2.2.2.1 bt548.2.2.2.2.2.1 bt548.2.2.2.2.2.2.1 bt548.2.2.2.2.2.2.2.1 bt548.2.2.2.2.2.2.2.2.1 bt548.2.2.2.2.2.2.2.2.2.1 bt548.2.2.2.2.2.2.2.2.2.2).bind fun bt559 => (some (bt559.1 == 0))) else (some false))) else (some false))) else (some false)) else (some false))))) = some r := H
                      have A63 := Aside0.mk A630
                      clear A630
                      replace H := Option.bind_eq_some_iff.mp H
                      obtain ⟨⟨t515, t516, t517, t518, t519, t520, t521, t522, t523, t524, t525⟩, A640, H⟩ := H
                      replace H : ((deck_Deck_Live.f t516 t517 t518 t519 t520 t521 t522 t523 t524 t525 a0).bind fun bt526 => ((tiklaw23_first.f kj45).bind fun t536 => (if t536 = true then (if t513 = t515 then ((deck_Deck_Mode.f bt526.1 bt526.2.1 bt526.2.2.1 bt526.2.2.2.1 bt526.2.2.2.2.1 bt526.2.2.2.2.2.1 bt526.2.2.2.2.2.2.1 bt526.2.2.2.2.2.2.2.1 bt526.2.2.2.2.2.2.2.2.1 bt526.2.2.2.2.2.2.2.2.2).bind fun bt537 => (if bt537.1 = 0 then ((deck_Deck_Pause.f bt537.2.1 bt537.2.2.1 bt537.2.2.2.1 bt537.2.2.2.2.1 bt537.2.2.2.2.2.1 bt537.2.2.2.2.2.2.1 bt537.2.2.2.2.2.2.2.1 bt537.2.2.2.2.2.2.2.2.1 bt537.2.2.2.2.2.2.2.2.2.1 bt537.2.2.2.2.2.2.2.2.2.2 a0 (IntKind.u64.wrap (a2 + 1)) a2).bind fun bt548 => (if bt548.1 = 1 then ((deck_Deck_Mode.f bt548.2.1 bt548.2.2.1 bt548.2.2.2.1 bt548.2.2.2.2.1 bt548.2.2.2.2.2.1 bt548.2.2.2.2.2.2.1 bt548.2.2.2.2.2.2.2.1 bt548.2.2.2.2.2.2.2.2.1 bt548.2.2.2.2.2.2.2.2.2.1 bt548.2.2.2.2.2.2.2.2.2.2).bind fun bt559 => (some (bt559.1 == 0))) else (some false))) else (some false))) else (some false)) else (some false)))) = some r := H
                      have A64 := Aside0.mk A640
                      clear A640
                      replace H := Option.bind_eq_some_iff.mp H
                      obtain ⟨⟨t526, t527, t528, t529, t530, t531, t532, t533, t534, t535⟩, A650, H⟩ := H
                      replace H : ((tiklaw23_first.f kj45).bind fun t536 => (if t536 = true then (if t513 = t515 then ((deck_Deck_Mode.f t526 t527 t528 t529 t530 t531 t532 t533 t534 t535).bind fun bt537 => (if bt537.1 = 0 then ((deck_Deck_Pause.f bt537.2.1 bt537.2.2.1 bt537.2.2.2.1 bt537.2.2.2.2.1 bt537.2.2.2.2.2.1 bt537.2.2.2.2.2.2.1 bt537.2.2.2.2.2.2.2.1 bt537.2.2.2.2.2.2.2.2.1 bt537.2.2.2.2.2.2.2.2.2.1 bt537.2.2.2.2.2.2.2.2.2.2 a0 (IntKind.u64.wrap (a2 + 1)) a2).bind fun bt548 => (if bt548.1 = 1 then ((deck_Deck_Mode.f bt548.2.1 bt548.2.2.1 bt548.2.2.2.1 bt548.2.2.2.2.1 bt548.2.2.2.2.2.1 bt548.2.2.2.2.2.2.1 bt548.2.2.2.2.2.2.2.1 bt548.2.2.2.2.2.2.2.2.1 bt548.2.2.2.2.2.2.2.2.2.1 bt548.2.2.2.2.2.2.2.2.2.2).bind fun bt559 => (some (bt559.1 == 0))) else (some false))) else (some false))) else (some false)) else (some false))) = some r := H
                      have A65 := Aside0.mk A650
                      clear A650
                      replace H := Option.bind_eq_some_iff.mp H
                      obtain ⟨t536, A660, H⟩ := H
                      replace H : (if t536 = true then (if t513 = t515 then ((deck_Deck_Mode.f t526 t527 t528 t529 t530 t531 t532 t533 t534 t535).bind fun bt537 => (if bt537.1 = 0 then ((deck_Deck_Pause.f bt537.2.1 bt537.2.2.1 bt537.2.2.2.1 bt537.2.2.2.2.1 bt537.2.2.2.2.2.1 bt537.2.2.2.2.2.2.1 bt537.2.2.2.2.2.2.2.1 bt537.2.2.2.2.2.2.2.2.1 bt537.2.2.2.2.2.2.2.2.2.1 bt537.2.2.2.2.2.2.2.2.2.2 a0 (IntKind.u64.wrap (a2 + 1)) a2).bind fun bt548 => (if bt548.1 = 1 then ((deck_Deck_Mode.f bt548.2.1 bt548.2.2.1 bt548.2.2.2.1 bt548.2.2.2.2.1 bt548.2.2.2.2.2.1 bt548.2.2.2.2.2.2.1 bt548.2.2.2.2.2.2.2.1 bt548.2.2.2.2.2.2.2.2.1 bt548.2.2.2.2.2.2.2.2.2.1 bt548.2.2.2.2.2.2.2.2.2.2).bind fun bt559 => (some (bt559.1 == 0))) else (some false))) else (some false))) else (some false)) else (some false)) = some r := H
                      have A66 := Aside0.mk A660
                      clear A660
                      by_cases c67 : t536 = true
                      · subst c67
                        have H1 : (if t513 = t515 then ((deck_Deck_Mode.f t526 t527 t528 t529 t530 t531 t532 t533 t534 t535).bind fun bt537 => (if bt537.1 = 0 then ((deck_Deck_Pause.f bt537.2.1 bt537.2.2.1 bt537.2.2.2.1 bt537.2.2.2.2.1 bt537.2.2.2.2.2.1 bt537.2.2.2.2.2.2.1 bt537.2.2.2.2.2.2.2.1 bt537.2.2.2.2.2.2.2.2.1 bt537.2.2.2.2.2.2.2.2.2.1 bt537.2.2.2.2.2.2.2.2.2.2 a0 (IntKind.u64.wrap (a2 + 1)) a2).bind fun bt548 => (if bt548.1 = 1 then ((deck_Deck_Mode.f bt548.2.1 bt548.2.2.1 bt548.2.2.2.1 bt548.2.2.2.2.1 bt548.2.2.2.2.2.1 bt548.2.2.2.2.2.2.1 bt548.2.2.2.2.2.2.2.1 bt548.2.2.2.2.2.2.2.2.1 bt548.2.2.2.2.2.2.2.2.2.1 bt548.2.2.2.2.2.2.2.2.2.2).bind fun bt559 => (some (bt559.1 == 0))) else (some false))) else (some false))) else (some false)) = some r := by rw [if_pos rfl] at H; exact H
                        clear H
                        have H := H1
                        clear H1
                        by_cases c68 : t513 = t515
                        · rw [if_pos c68] at H
                          have c68b0 : (t513 == t515) = true := beq_iff_eq.mpr c68
                          have c68b1 : (t513 != t515) = false := bne_eq_false_iff_eq.mpr c68
                          clear c68
                          replace H := Option.bind_eq_some_iff.mp H
                          obtain ⟨⟨t537, t538, t539, t540, t541, t542, t543, t544, t545, t546, t547⟩, A690, H⟩ := H
                          replace H : (if t537 = 0 then ((deck_Deck_Pause.f t538 t539 t540 t541 t542 t543 t544 t545 t546 t547 a0 (IntKind.u64.wrap (a2 + 1)) a2).bind fun bt548 => (if bt548.1 = 1 then ((deck_Deck_Mode.f bt548.2.1 bt548.2.2.1 bt548.2.2.2.1 bt548.2.2.2.2.1 bt548.2.2.2.2.2.1 bt548.2.2.2.2.2.2.1 bt548.2.2.2.2.2.2.2.1 bt548.2.2.2.2.2.2.2.2.1 bt548.2.2.2.2.2.2.2.2.2.1 bt548.2.2.2.2.2.2.2.2.2.2).bind fun bt559 => (some (bt559.1 == 0))) else (some false))) else (some false)) = some r := H
                          have A69 := Aside0.mk A690
                          clear A690
                          by_cases c70 : t537 = 0
                          · rw [if_pos c70] at H
                            have c70b0 : (t537 == 0) = true := beq_iff_eq.mpr c70
                            have c70b1 : (t537 != 0) = false := bne_eq_false_iff_eq.mpr c70
                            clear c70
                            replace H := Option.bind_eq_some_iff.mp H
                            obtain ⟨⟨t548, t549, t550, t551, t552, t553, t554, t555, t556, t557, t558⟩, A710, H⟩ := H
                            replace H : (if t548 = 1 then ((deck_Deck_Mode.f t549 t550 t551 t552 t553 t554 t555 t556 t557 t558).bind fun bt559 => (some (bt559.1 == 0))) else (some false)) = some r := H
                            have A71 := Aside0.mk A710
                            clear A710
                            by_cases c72 : t548 = 1
                            · rw [if_pos c72] at H
                              have c72b0 : (t548 == 1) = true := beq_iff_eq.mpr c72
                              have c72b1 : (t548 != 1) = false := bne_eq_false_iff_eq.mpr c72
                              clear c72
                              replace H := Option.bind_eq_some_iff.mp H
                              obtain ⟨⟨t559, t560, t561, t562, t563, t564, t565, t566, t567, t568, t569⟩, A730, H⟩ := H
                              replace H : (some (t559 == 0)) = some r := H
                              have A73 := Aside0.mk A730
                              clear A730
                              obtain rfl := Option.some.inj H
                              go_wp2_with (first | ((with_reducible refine gate_callee (f := 22) rfl ?_); refine goesL_ (some 111) rfl rfl Tryd.func22 (by kernel_rfl) rfl #[.float .f64 a4] rfl (by (try simp only [List.map_toArray, List.map_cons, List.map_nil]); first | done | rfl | (simp only [List.length_drop, List.length_take]; rfl)) ?_; (with_reducible refine (rate_Of.calls a4 t511 t512 t513 _ ?side1 A63.out).mono ?_); (case side1 => first | (with_reducible exact HT.out) | exact tabAt HT.out (by repeat (first | (with_reducible first | exact HB.out | apply below_alloc | apply pw_below_drewN | apply below_drew1 | refine below_set ?_ (IsS100.ge HI411.out)) | exact HB.out))); rintro e w74 ⟨rfl, hb⟩; refine ⟨_, rfl, ?_⟩; have n0_ := Aside0.mk (IsS100.below (by repeat (first | (with_reducible first | exact HI411.out | apply IsS100.alloc | apply IsS100.drewN | apply IsS100.drew | apply IsS100.set_0 | apply IsS100.set_1 | apply IsS100.set_2 | apply IsS100.set_3 | apply IsS100.set_4 | apply IsS100.set_5 | apply IsS100.set_6 | apply IsS100.set_7 | apply IsS100.set_8 | apply IsS100.set_9) | exact HI411.out)) hb); have n1_ := Aside0.mk (below_step (by repeat (first | (with_reducible first | exact HB.out | apply below_alloc | apply pw_below_drewN | apply below_drew1 | refine below_set ?_ (IsS100.ge HI411.out)) | exact HB.out)) hb); clear HI411; clear HB; have HI411 := n0_; have HB := n1_; clear n0_ n1_; (try clear hb); (try clear hb2); (try clear hk); (try clear hi)) | ((with_reducible refine gate_dst (N := 14) rfl ?_); (try (refine gate_guard (by rfl) ?_; dsimp only)); refine box_event ?hg (N := 14) ?hd (cs := #[.int .u64 0, .int .u64 0]) (t := 30) ?hr ?_; (case hd => rfl); (case hg => rfl); (case hr => first | (go_simp; done) | (go_simp; rfl)); intro gb514 hg w75 hbox hb; have n0_ := Aside0.mk (IsS100.below (by repeat (first | (with_reducible first | exact HI411.out | apply IsS100.alloc | apply IsS100.drewN | apply IsS100.drew | apply IsS100.set_0 | apply IsS100.set_1 | apply IsS100.set_2 | apply IsS100.set_3 | apply IsS100.set_4 | apply IsS100.set_5 | apply IsS100.set_6 | apply IsS100.set_7 | apply IsS100.set_8 | apply IsS100.set_9) | exact HI411.out)) hb); have n1_ := Aside0.mk (below_step (by repeat (first | (with_reducible first | exact HB.out | apply below_alloc | apply pw_below_drewN | apply below_drew1 | refine below_set ?_ (IsS100.ge HI411.out)) | exact HB.out)) hb); have n2_ := Aside0.mk (hbox); have n3_ := Aside0.mk ((by rw [hg]; exact (below_size (by repeat (first | (with_reducible first | exact HB.out | apply below_alloc | apply pw_below_drewN | apply below_drew1 | refine below_set ?_ (IsS100.ge HI411.out)) | exact HB.out))) : w.heap.size ≤ gb514)); have n4_ := Aside0.mk ((by rw [hg]; exact (below_size (by repeat (first | (with_reducible first | exact HB.out | apply below_alloc | apply pw_below_drewN | apply below_drew1 | refine below_set ?_ (IsS100.ge HI411.out)) | exact HB.out))) : w.heap.size ≤ gb514)); have n5_ := Aside0.mk ((by rw [hg]; exact Nat.ne_of_lt (IsS100.lt (show IsS100 w _ g411 x412000_45 x412001_45 x412002_45 x412003_45 x412004_45 x412005_45 x412006_45 x412007_45 x412008_45 x412009_45 from by repeat (first | (with_reducible first | exact HI411.out | apply IsS100.alloc | apply IsS100.drewN | apply IsS100.drew | apply IsS100.set_0 | apply IsS100.set_1 | apply IsS100.set_2 | apply IsS100.set_3 | apply IsS100.set_4 | apply IsS100.set_5 | apply IsS100.set_6 | apply IsS100.set_7 | apply IsS100.set_8 | apply IsS100.set_9) | exact HI411.out))) : g411 ≠ gb514)); have n6_ := Aside0.mk ((by rw [hg]; exact Nat.ne_of_gt (IsS100.lt (show IsS100 w _ g411 x412000_45 x412001_45 x412002_45 x412003_45 x412004_45 x412005_45 x412006_45 x412007_45 x412008_45 x412009_45 from by repeat (first | (with_reducible first | exact HI411.out | apply IsS100.alloc | apply IsS100.drewN | apply IsS100.drew | apply IsS100.set_0 | apply IsS100.set_1 | apply IsS100.set_2 | apply IsS100.set_3 | apply IsS100.set_4 | apply IsS100.set_5 | apply IsS100.set_6 | apply IsS100.set_7 | apply IsS100.set_8 | apply IsS100.set_9) | exact HI411.out))) : gb514 ≠ g411)); clear HI411; clear HB; have HI411 := n0_; have HB := n1_; have BK514 := n2_; have GW514 := n3_; have GE514 := n4_; have NB411_514 := n5_; have NB514_411 := n6_; clear n0_ n1_ n2_ n3_ n4_ n5_ n6_; clear hb hbox hg; have hnb76 := NB514_411.out; have hnc76 := NB411_514.out; have hcz77_0 : w75.cell? ⟨gb514, 0, none⟩ = some (.int .u64 0) := (blk_cell BK514.out 0).trans rfl; have hcz77_1 : w75.cell? ⟨gb514, 1, none⟩ = some (.int .u64 0) := (blk_cell BK514.out 1).trans rfl; have hfz77_0 := blk_frozen BK514.out 0; have hfz77_1 := blk_frozen BK514.out 1) | ((with_reducible refine gate_callee (f := 21) rfl ?_); refine goesL_ (some 117) rfl rfl Tryd.func21 (by kernel_rfl) rfl #[.pointer (some ⟨g411, 0, none⟩), .int .u64 a0, .float .f64 a4] rfl (by (try simp only [List.map_toArray, List.map_cons, List.map_nil]); first | done | rfl | (simp only [List.length_drop, List.length_take]; rfl)) ?_; (with_reducible refine (deck_Deck_Speed.calls kj45 g411 x412000_45 x412001_45 x412002_45 x412003_45 x412004_45 x412005_45 x412006_45 x412007_45 x412008_45 x412009_45 a0 a4 t515 t516 t517 t518 t519 t520 t521 t522 t523 t524 t525 w _ ?side1 ?side2 ?side3 A64.out).mono ?_); (case side1 => repeat (first | (with_reducible first | exact HI411.out | apply IsS100.alloc | apply IsS100.drewN | apply IsS100.drew | apply IsS100.set_0 | apply IsS100.set_1 | apply IsS100.set_2 | apply IsS100.set_3 | apply IsS100.set_4 | apply IsS100.set_5 | apply IsS100.set_6 | apply IsS100.set_7 | apply IsS100.set_8 | apply IsS100.set_9 | refine IsS100.far ?_ NB411_514.out _ ?_ | exact typ_of BK514 (by decide) (by decide) | refine typ_set ?_ _ _ _ | refine typ_alloc ?_ _ | refine typ_drewN ?_ _ | refine typ_drew ?_) | exact HI411.out)); (case side2 => repeat (first | (with_reducible first | exact HB.out | apply below_alloc | apply pw_below_drewN | apply below_drew1 | refine below_set ?_ (IsS100.ge HI411.out) | refine below_set ?_ GE514.out) | exact HB.out)); (case side3 => first | (with_reducible exact HT.out) | exact tabAt HT.out (by repeat (first | (with_reducible first | exact HB.out | apply below_alloc | apply pw_below_drewN | apply below_drew1 | refine below_set ?_ (IsS100.ge HI411.out) | refine below_set ?_ GE514.out) | exact HB.out))); rintro e w78 ⟨rfl, hi, hb, hk⟩; refine ⟨_, rfl, ?_⟩; have n0_ := Aside0.mk (KeepBut.blk hk (g' := gb514) (o := .cells #[.int .u64 t511, .int .u64 t512] 30 (0, 0)) (by (with_reducible repeat (first | refine blk_drewN ?_ _ | refine blk_drew ?_ | refine blk_alloc ?_ _)); refine blk_put (cs := #[.int .u64 t511, .int .u64 0]) ?_ 1 _ rfl; (with_reducible repeat (first | refine blk_drewN ?_ _ | refine blk_drew ?_ | refine blk_alloc ?_ _)); refine blk_put (cs := #[.int .u64 0, .int .u64 0]) ?_ 0 _ rfl; (with_reducible repeat (first | refine blk_drewN ?_ _ | refine blk_drew ?_ | refine blk_alloc ?_ _)); exact BK514.out) NB514_411.out (by simp)); have n1_ := Aside0.mk (hb); have n2_ := Aside0.mk (hi); clear BK514; clear HB; clear HI411; have BK514 := n0_; have HB := n1_; have HI411 := n2_; clear n0_ n1_ n2_; (try clear hb); (try clear hb2); (try clear hk); (try clear hi)) | ((with_reducible refine gate_callee (f := 28) rfl ?_); refine goesL_ (some 120) rfl rfl Tryd.func28 (by kernel_rfl) rfl #[.pointer (some ⟨g411, 0, none⟩), .int .u64 a0] rfl (by (try simp only [List.map_toArray, List.map_cons, List.map_nil]); first | done | rfl | (simp only [List.length_drop, List.length_take]; rfl)) ?_; (with_reducible refine (deck_Deck_Live.calls g411 t516 t517 t518 t519 t520 t521 t522 t523 t524 t525 a0 t526 t527 t528 t529 t530 t531 t532 t533 t534 t535 w _ ?side1 ?side2 A65.out).mono ?_); (case side1 => repeat (first | (with_reducible first | exact HI411.out | apply IsS100.alloc | apply IsS100.drewN | apply IsS100.drew | apply IsS100.set_0 | apply IsS100.set_1 | apply IsS100.set_2 | apply IsS100.set_3 | apply IsS100.set_4 | apply IsS100.set_5 | apply IsS100.set_6 | apply IsS100.set_7 | apply IsS100.set_8 | apply IsS100.set_9 | refine IsS100.far ?_ NB411_514.out _ ?_ | exact typ_of BK514 (by decide) (by decide) | refine typ_set ?_ _ _ _ | refine typ_alloc ?_ _ | refine typ_drewN ?_ _ | refine typ_drew ?_) | exact HI411.out)); (case side2 => repeat (first | (with_reducible first | exact HB.out | apply below_alloc | apply pw_below_drewN | apply below_drew1 | refine below_set ?_ (IsS100.ge HI411.out) | refine below_set ?_ GE514.out) | exact HB.out)); rintro e w79 ⟨rfl, hi, hb, hk⟩; refine ⟨_, rfl, ?_⟩; have n0_ := Aside0.mk (KeepBut.blk hk (g' := gb514) (o := .cells #[.int .u64 t511, .int .u64 t512] 30 (0, 0)) (by (with_reducible repeat (first | refine blk_drewN ?_ _ | refine blk_drew ?_ | refine blk_alloc ?_ _)); exact BK514.out) NB514_411.out (by simp)); have n1_ := Aside0.mk (hb); have n2_ := Aside0.mk (hi); clear BK514; clear HB; clear HI411; have BK514 := n0_; have HB := n1_; have HI411 := n2_; clear n0_ n1_ n2_; (try clear hb); (try clear hb2); (try clear hk); (try clear hi)) | ((with_reducible refine gate_callee (f := 12) rfl ?_); refine goesL_ (some 121) rfl rfl Tryd.func12 (by kernel_rfl) rfl #[] rfl (by (try simp only [List.map_toArray, List.map_cons, List.map_nil]); first | done | rfl | (simp only [List.length_drop, List.length_take]; rfl)) ?_; (with_reducible refine (tiklaw23_first.calls kj45  true _ ?side1 A66.out).mono ?_); (case side1 => first | (with_reducible exact HT.out) | exact tabAt HT.out (by repeat (first | (with_reducible first | exact HB.out | apply below_alloc | apply pw_below_drewN | apply below_drew1 | refine below_set ?_ (IsS100.ge HI411.out) | refine below_set ?_ GE514.out) | exact HB.out))); rintro e w80 ⟨rfl, hb⟩; refine ⟨_, rfl, ?_⟩; have n0_ := Aside0.mk (IsS100.below (by repeat (first | (with_reducible first | exact HI411.out | apply IsS100.alloc | apply IsS100.drewN | apply IsS100.drew | apply IsS100.set_0 | apply IsS100.set_1 | apply IsS100.set_2 | apply IsS100.set_3 | apply IsS100.set_4 | apply IsS100.set_5 | apply IsS100.set_6 | apply IsS100.set_7 | apply IsS100.set_8 | apply IsS100.set_9 | refine IsS100.far ?_ NB411_514.out _ ?_ | exact typ_of BK514 (by decide) (by decide) | refine typ_set ?_ _ _ _ | refine typ_alloc ?_ _ | refine typ_drewN ?_ _ | refine typ_drew ?_) | exact HI411.out)) hb); have n1_ := Aside0.mk (blk_below (g := gb514) (o := .cells #[.int .u64 t511, .int .u64 t512] 30 (0, 0)) (by (with_reducible repeat (first | refine blk_drewN ?_ _ | refine blk_drew ?_ | refine blk_alloc ?_ _)); exact BK514.out) hb); have n2_ := Aside0.mk (below_step (by repeat (first | (with_reducible first | exact HB.out | apply below_alloc | apply pw_below_drewN | apply below_drew1 | refine below_set ?_ (IsS100.ge HI411.out) | refine below_set ?_ GE514.out) | exact HB.out)) hb); clear HI411; clear BK514; clear HB; have HI411 := n0_; have BK514 := n1_; have HB := n2_; clear n0_ n1_ n2_; (try clear hb); (try clear hb2); (try clear hk); (try clear hi)) | (go_at_call 18; (with_reducible refine (deck_Deck_Mode.calls g411 t526 t527 t528 t529 t530 t531 t532 t533 t534 t535 t537 t538 t539 t540 t541 t542 t543 t544 t545 t546 t547 w _ ?side1 ?side2 A69.out).mono ?_); (case side1 => repeat (first | (with_reducible first | exact HI411.out | apply IsS100.alloc | apply IsS100.drewN | apply IsS100.drew | apply IsS100.set_0 | apply IsS100.set_1 | apply IsS100.set_2 | apply IsS100.set_3 | apply IsS100.set_4 | apply IsS100.set_5 | apply IsS100.set_6 | apply IsS100.set_7 | apply IsS100.set_8 | apply IsS100.set_9 | refine IsS100.far ?_ NB411_514.out _ ?_ | exact typ_of BK514 (by decide) (by decide) | refine typ_set ?_ _ _ _ | refine typ_alloc ?_ _ | refine typ_drewN ?_ _ | refine typ_drew ?_) | exact HI411.out)); (case side2 => repeat (first | (with_reducible first | exact HB.out | apply below_alloc | apply pw_below_drewN | apply below_drew1 | refine below_set ?_ (IsS100.ge HI411.out) | refine below_set ?_ GE514.out) | exact HB.out)); rintro e w81 ⟨rfl, hi, hb, hk⟩; have n0_ := Aside0.mk (KeepBut.blk hk (g' := gb514) (o := .cells #[.int .u64 t511, .int .u64 t512] 30 (0, 0)) (by (with_reducible repeat (first | refine blk_drewN ?_ _ | refine blk_drew ?_ | refine blk_alloc ?_ _)); exact BK514.out) NB514_411.out (by simp)); have n1_ := Aside0.mk (hb); have n2_ := Aside0.mk (hi); clear BK514; clear HB; clear HI411; have BK514 := n0_; have HB := n1_; have HI411 := n2_; clear n0_ n1_ n2_; (try clear hb); (try clear hb2); (try clear hk); (try clear hi)) | (go_at_call 27; (with_reducible refine (deck_Deck_Pause.calls g411 t538 t539 t540 t541 t542 t543 t544 t545 t546 t547 a0 (IntKind.u64.wrap (a2 + 1)) a2 t548 t549 t550 t551 t552 t553 t554 t555 t556 t557 t558 w _ ?side1 ?side2 A71.out).mono ?_); (case side1 => repeat (first | (with_reducible first | exact HI411.out | apply IsS100.alloc | apply IsS100.drewN | apply IsS100.drew | apply IsS100.set_0 | apply IsS100.set_1 | apply IsS100.set_2 | apply IsS100.set_3 | apply IsS100.set_4 | apply IsS100.set_5 | apply IsS100.set_6 | apply IsS100.set_7 | apply IsS100.set_8 | apply IsS100.set_9 | refine IsS100.far ?_ NB411_514.out _ ?_ | exact typ_of BK514 (by decide) (by decide) | refine typ_set ?_ _ _ _ | refine typ_alloc ?_ _ | refine typ_drewN ?_ _ | refine typ_drew ?_) | exact HI411.out)); (case side2 => repeat (first | (with_reducible first | exact HB.out | apply below_alloc | apply pw_below_drewN | apply below_drew1 | refine below_set ?_ (IsS100.ge HI411.out) | refine below_set ?_ GE514.out) | exact HB.out)); rintro e w82 ⟨rfl, hi, hb, hk⟩; have n0_ := Aside0.mk (KeepBut.blk hk (g' := gb514) (o := .cells #[.int .u64 t511, .int .u64 t512] 30 (0, 0)) (by (with_reducible repeat (first | refine blk_drewN ?_ _ | refine blk_drew ?_ | refine blk_alloc ?_ _)); exact BK514.out) NB514_411.out (by simp)); have n1_ := Aside0.mk (hb); have n2_ := Aside0.mk (hi); clear BK514; clear HB; clear HI411; have BK514 := n0_; have HB := n1_; have HI411 := n2_; clear n0_ n1_ n2_; (try clear hb); (try clear hb2); (try clear hk); (try clear hi)) | (go_at_call 18; (with_reducible refine (deck_Deck_Mode.calls g411 t549 t550 t551 t552 t553 t554 t555 t556 t557 t558 t559 t560 t561 t562 t563 t564 t565 t566 t567 t568 t569 w _ ?side1 ?side2 A73.out).mono ?_); (case side1 => repeat (first | (with_reducible first | exact HI411.out | apply IsS100.alloc | apply IsS100.drewN | apply IsS100.drew | apply IsS100.set_0 | apply IsS100.set_1 | apply IsS100.set_2 | apply IsS100.set_3 | apply IsS100.set_4 | apply IsS100.set_5 | apply IsS100.set_6 | apply IsS100.set_7 | apply IsS100.set_8 | apply IsS100.set_9 | refine IsS100.far ?_ NB411_514.out _ ?_ | exact typ_of BK514 (by decide) (by decide) | refine typ_set ?_ _ _ _ | refine typ_alloc ?_ _ | refine typ_drewN ?_ _ | refine typ_drew ?_) | exact HI411.out)); (case side2 => repeat (first | (with_reducible first | exact HB.out | apply below_alloc | apply pw_below_drewN | apply below_drew1 | refine below_set ?_ (IsS100.ge HI411.out) | refine below_set ?_ GE514.out) | exact HB.out)); rintro e w83 ⟨rfl, hi, hb, hk⟩; have n0_ := Aside0.mk (KeepBut.blk hk (g' := gb514) (o := .cells #[.int .u64 t511, .int .u64 t512] 30 (0, 0)) (by (with_reducible repeat (first | refine blk_drewN ?_ _ | refine blk_drew ?_ | refine blk_alloc ?_ _)); exact BK514.out) NB514_411.out (by simp)); have n1_ := Aside0.mk (hb); have n2_ := Aside0.mk (hi); clear BK514; clear HB; clear HI411; have BK514 := n0_; have HB := n1_; have HI411 := n2_; clear n0_ n1_ n2_; (try clear hb); (try clear hb2); (try clear hk); (try clear hi)))
                              go_ret
                              exact ⟨by first | rfl | (simp [errW_none, errW_some] <;> rfl) | (simp [*, errW_none, errW_some] <;> rfl), by repeat (first | (with_reducible first | exact HB.out | apply below_alloc | apply pw_below_drewN | apply below_drew1 | refine below_set ?_ (IsS100.ge HI411.out) | refine below_set ?_ GE514.out) | exact HB.out)⟩
                            · rw [if_neg c72] at H
                              have c72b0 : (t548 == 1) = false := beq_eq_false_iff_ne.mpr c72
                              have c72b1 : (t548 != 1) = true := bne_iff_ne.mpr c72
                              exact absurd ((Option.some.inj H).trans hr_.out) (by simp)
                          · rw [if_neg c70] at H
                            have c70b0 : (t537 == 0) = false := beq_eq_false_iff_ne.mpr c70
                            have c70b1 : (t537 != 0) = true := bne_iff_ne.mpr c70
                            exact absurd ((Option.some.inj H).trans hr_.out) (by simp)
                        · rw [if_neg c68] at H
                          have c68b0 : (t513 == t515) = false := beq_eq_false_iff_ne.mpr c68
                          have c68b1 : (t513 != t515) = true := bne_iff_ne.mpr c68
                          exact absurd ((Option.some.inj H).trans hr_.out) (by simp)
                      · replace c67 := Bool.eq_false_iff.mpr c67
                        subst c67
                        have H1 : (some false) = some r := by rw [if_neg (show ¬ (false = true) by decide)] at H; exact H
                        clear H
                        have H := H1
                        clear H1
                        exact absurd ((Option.some.inj H).trans hr_.out) (by simp)
  · replace c7 := Bool.eq_false_iff.mpr c7
    subst c7
    have H1 : (some false) = some r := by rw [if_neg (show ¬ (false = true) by decide)] at H; exact H
    clear H
    have H := H1
    clear H1
    exact absurd ((Option.some.inj H).trans hr_.out) (by simp)

end Go.Proofs.YtlgfmmkabnbllaaDoor.PT
/-
  DeckAir: the plain law. No program.
-/
namespace Go.Proofs.YtlgfmmkabnbllaaDoor.Hand
open Go.RowKit Go.Proofs.YtlgfmmkabnbllaaDoorW.PrintWords Go.Proofs.YtlgfmmkabnbllaaDoorW.PrintLast Go.Proofs.YtlgfmmkabnbllaaDoorW.PrintMore Go.Proofs.YtlgfmmkabnbllaaDoor.PA Go.Proofs.YtlgfmmkabnbllaaDoor.PB Go.Proofs.YtlgfmmkabnbllaaDoor.PC Go.Proofs.YtlgfmmkabnbllaaDoor.PT
set_option linter.unusedSimpArgs false
set_option linter.unusedVariables false

theorem mn_min4 (a b : Int) : mn a b = min a b := by unfold mn; split <;> omega
theorem air_j2 (K : Nat) {now lo hi : Int} {x : Nat} {s0 s1 : Int} (hx : x < 18446744073709551616) (h0 : 0 ≤ hi) (q2 : ¬ hi > 4611686018427387904) (h2 : s0 ≠ 2) (h3 : ¬ now > 4611686018427387904) : tiklaw23_DeckAir.j2 (K + 2) now hi x false s0 s1 1 1 false 0 0 0 0 0 = some true := by
  have e : rate_Of.f x = some (ofV x) := if_pos hx
  obtain ⟨n, d, c, er⟩ : ∃ a b c, ofV x = (a, b, c) := ⟨_, _, _, rfl⟩
  have hs : ∃ n' d', deck_Deck_Speed.f (K + 1) s0 s1 1 1 false 0 0 0 0 0 now x = some (c, s0, s1, n', d', false, 0, 0, 0, 0, 0) := by
    unfold deck_Deck_Speed.f
    rw [e, Option.bind_some, er]
    dsimp only
    by_cases q : c = 0
    · rw [if_pos q, if_neg h3, if_neg h2, q]; exact ⟨_, _, rfl⟩
    · rw [if_neg q]; exact ⟨_, _, rfl⟩
  obtain ⟨n', d', hs⟩ := hs
  have hp : deck_Deck_Pause.f 0 s1 n' d' false 0 0 0 0 0 now (IntKind.u64.wrap (hi + 1)) hi = some (1, 0, s1, n', d', false, 0, 0, 0, 0, 0) := by
    rw [IntWalk.u64_in _ (by omega)]
    unfold deck_Deck_Pause.f
    refine if_neg ?_
    intro h
    have := (mayV_parts h).1
    omega
  rw [tiklaw23_DeckAir.j2, if_neg (by decide), e, Option.bind_some, hs, Option.bind_some]
  dsimp only
  rw [live_f, Option.bind_some, dfirst_true, Option.bind_some, if_pos rfl, er]
  dsimp only
  rw [if_pos rfl, mode_f, Option.bind_some]
  dsimp only
  rw [if_pos rfl, hp, Option.bind_some]
  dsimp only
  rw [if_pos rfl, mode_f, Option.bind_some]
  rfl
theorem air_any (K : Nat) {now lo hi t : Int} {x : Nat} (hx : x < 18446744073709551616) (h0 : 0 ≤ hi) :
    tiklaw23_DeckAir.f (K + 4) now lo hi t x = some true := by
  have bad : tiklaw23_DeckAir.j0 (K + 4) now lo hi t x true = some true := by
    rw [tiklaw23_DeckAir.j0, if_pos rfl, dfirst_true]; rfl
  unfold tiklaw23_DeckAir.f
  rw [dfirst_true, Option.bind_some, if_pos rfl]
  by_cases q1 : lo > hi
  · rw [if_pos q1, bad]
  rw [if_neg q1]
  by_cases q2 : hi > 4611686018427387904
  · rw [if_pos q2, bad]
  rw [if_neg q2]
  by_cases q3 : now > 4611686018427387904
  · rw [decide_eq_true q3, bad]
  have hm : mayV now lo hi = true := mayV_yes (by omega) (by omega) (by omega)
  have e1 : deck_Deck_Play.f 0 0 1 1 false 0 0 0 0 0 now lo hi = some (13, 0, 0, 1, 1, false, 0, 0, 0, 0, 0) := by
    unfold deck_Deck_Play.f
    rw [if_pos hm, if_pos rfl]
  have e2 : deck_Deck_Pause.f 0 0 1 1 false 0 0 0 0 0 now lo hi = some (0, 1, hi, 1, 1, false, 0, 0, 0, 0, 0) := by
    unfold deck_Deck_Pause.f
    rw [if_pos hm, if_neg (by decide)]; rfl
  rw [decide_eq_false q3, tiklaw23_DeckAir.j0, if_neg (by decide), new_f, Option.bind_some, Option.bind_some, if_neg (by decide)]
  dsimp only
  rw [e1, Option.bind_some]
  dsimp only
  rw [if_pos rfl, mode_f, Option.bind_some]
  dsimp only
  rw [if_pos rfl, e2, Option.bind_some]
  dsimp only
  rw [if_pos rfl, pos_f, Option.bind_some]
  dsimp only
  rw [if_pos rfl, mode_f, Option.bind_some]
  dsimp only
  rw [show ((1 : Int) != 1) = false from rfl, tiklaw23_DeckAir.j1, if_neg (by decide)]
  by_cases q4 : t < lo
  · have e3 : deck_Deck_Seek.f 0 0 1 1 false 0 0 0 0 0 now lo hi t = some (12, 0, 0, 1, 1, false, 0, 0, 0, 0, 0) := by
      unfold deck_Deck_Seek.f
      rw [if_pos hm, if_pos q4]
    rw [e3, Option.bind_some]
    dsimp only
    rw [decide_eq_true q4, if_neg (by decide), if_neg (by decide)]
    rw [mode_f, Option.bind_some]
    dsimp only
    rw [show ((0 : Int) != 0) = false from rfl]
    exact air_j2 (lo := lo) K hx h0 q2 (by decide) q3
  · rw [seek_stands hm q4 (by decide), Option.bind_some]
    dsimp only
    rw [decide_eq_false q4, if_neg (by decide), if_pos rfl, pos_f, Option.bind_some]
    dsimp only
    rw [mn_min4, if_pos rfl, mode_f, Option.bind_some]
    dsimp only
    rw [if_pos rfl]
    exact air_j2 (lo := lo) K hx h0 q2 (by decide) q3
end Go.Proofs.YtlgfmmkabnbllaaDoor.Hand
namespace Go.Proofs.YtlgfmmkabnbllaaDoor.RowDeckAir
open Go.ChangeShapes Go.WideShapes Go.ChangeAt Go.RowKit
open Go.ChangeMaps (open_string shut_string)
open Go.Proofs.YtlgfmmkabnbllaaDoorW.PrintWords Go.Proofs.YtlgfmmkabnbllaaDoor.Opens
open Go.Proofs.YtlgfmmkabnbllaaDoor.Hand
open Go.Proofs.YtlgfmmkabnbllaaDoor.PT
set_option linter.unusedVariables false
set_option linter.unusedSimpArgs false
theorem ownK : ownKnob Tryd.prog.godebug = none := by kernel_rfl
theorem laidOut : laidOutB Tryd.prog = true := by kernel_rfl
abbrev laid2 : List (String × DataW Unit) := [("math/bits.deBruijn64tab", Rows.laid_math_bits_deBruijn64tab)]
set_option maxRecDepth 100000 in
theorem door_met (os : Os) (args : Array Value) : laidMetH Tryd.prog laid2 ((World.doorLaid Tryd.prog 400 os).forCall (fun _ _ => 0) ⟨#[], args, []⟩).memory :=
  laidMetH_of_parts3 (fuel := 8) (laidMet_of_run' 8 (by kernel_rfl) (by kernel_rfl)) (by kernel_rfl) (by kernel_rfl)
set_option maxRecDepth 100000 in
theorem lifted (os : Os) (started : os.Started) (H : Type) (enc : TypeId × Value → H) :
    ReturnsInHanded {} Tryd.checked os 7 .any (fun w args => (Rows.deckAirSpec.pre enc Tryd.prog Tryd.f7 [] false w args ∧ laidMetH Tryd.prog laid2 w) ∧ sizedMet enc Tryd.prog Tryd.f7 (OpenSpec.ofChange Rows.deckAirSpec) false w args)
      (Rows.deckAirSpec.post enc Tryd.prog Tryd.f7 false true false false) := by
  refine returnsInHanded_of_change_and (C := Tryd.checked) (X := fun w _ => laidMetH Tryd.prog laid2 w) (fun _ _ _ hh h => h.of_heap hh) ownK started (by kernel_rfl) Tryd.func7
    (ChangeSpec.witness_shaped (enc := enc) (C := Tryd.checked) (os := os) (X := fun w _ => laidMetH Tryd.prog laid2 w) false (World.doorLaid Tryd.prog 400 os) #[.int .u64 0, .int .u64 0, .int .u64 0, .int .u64 0, .float .f64 0] 8 rfl (World.shaped_of_RefB (by kernel_rfl) (by kernel_rfl)) (by kernel_rfl) (by kernel_rfl) (by kernel_rfl) (door_met os _)) ?_
  intro W base args ds gs before hval0 hW _ hsz0 hT _
  have hsz : (DataW.weightsEach Tryd.prog (Tryd.f7.params.toList ++ Rows.deckAirSpec.plain.varTypes Tryd.prog) (ds ++ gs)).all (· ≤ reachBytes) = true := hsz0
  have hval : ∀ (j : Nat) t v, Tryd.f7.params[j]? = some t → args[j]? = some v → Value.okWide Tryd.prog W .any base t v := hval0
  have hW' := hW
  obtain ⟨p, q, hA0, hV, rfl, hfz, hnd⟩ := hW
  have hA : DataW.TrodAll enc Tryd.prog W 0 (fun _ => true) true Tryd.f7.params.toList args.toList ds p := hA0
  rw [Tryd.params7] at hA hval hsz
  obtain ⟨v0, vs0, d0, ds0, p0, q0, hargs, rfl, rfl, h0, r0⟩ := trodAll_cons hA
  obtain ⟨v1, vs1, d1, ds1, p1, q1, rfl, rfl, rfl, h1, r1⟩ := trodAll_cons r0
  obtain ⟨v2, vs2, d2, ds2, p2, q2, rfl, rfl, rfl, h2, r2⟩ := trodAll_cons r1
  obtain ⟨v3, vs3, d3, ds3, p3, q3, rfl, rfl, rfl, h3, r3⟩ := trodAll_cons r2
  obtain ⟨v4, vs4, d4, ds4, p4, q4, rfl, rfl, rfl, h4, r4⟩ := trodAll_cons r3
  obtain ⟨rfl, rfl, rfl⟩ := trodAll_nil r4
  obtain rfl : args = #[v0, v1, v2, v3, v4] := by cases args; simp_all
  obtain ⟨rfl, rfl⟩ := trodVars_none hV
  obtain ⟨a0, rfl, rfl, rfl, w0⟩ := open_int Tryd.underlying28 (hval 0 28 v0 rfl rfl) h0
  obtain ⟨a1, rfl, rfl, rfl, w1⟩ := open_int Tryd.underlying28 (hval 1 28 v1 rfl rfl) h1
  obtain ⟨a2, rfl, rfl, rfl, w2⟩ := open_int Tryd.underlying28 (hval 2 28 v2 rfl rfl) h2
  obtain ⟨a3, rfl, rfl, rfl, w3⟩ := open_int Tryd.underlying28 (hval 3 28 v3 rfl rfl) h3
  obtain ⟨a4, rfl, rfl, rfl, w4⟩ := open_float Tryd.underlying34 (hval 4 34 v4 rfl rfl) h4
  clear hA0 hval0
  refine (tiklaw23_DeckAir.calls 4 a0 a1 a2 a3 a4 true W (tabW_of hT) ⟨rfl⟩ (air_any 0 (f64_lt w4) (by have := bounds_u64 w2; omega))).mono fun e W' ⟨he, bel⟩ => ?_
  subst he
  exact ⟨_, rfl, _, _, _, [], _, [], hW', trodAll_mk1 (shut_bool Tryd.underlying4 _), (trodAll_cons_mk (shut_int Tryd.underlying28 w0) (trodAll_cons_mk (shut_int Tryd.underlying28 w1) (trodAll_cons_mk (shut_int Tryd.underlying28 w2) (trodAll_cons_mk (shut_int Tryd.underlying28 w3) (trodAll_cons_mk (shut_float Tryd.underlying34 w4) trodAll_mk0))))), rfl, bel.frame _, fun h => by cases h⟩
theorem over : Rows.deckAirRow.holds Tryd.pinned (OpenSpec.ofChange Rows.deckAirSpec) :=
  OpenClaim.holds_of_wide 7 Tryd.f7 rfl rfl rfl rfl rfl rfl rfl ⟨rfl, rfl, rfl, rfl, rfl⟩ rfl rfl rfl rfl rfl (by kernel_rfl) Tryd.func7 (by kernel_rfl)
    (of_decide_eq_true (by kernel_rfl)) (by unfold Func.isWrapper; first | (rw [if_pos (by decide +kernel)]; kernel_rfl) | (rw [if_neg (by decide +kernel)]; exact ⟨rfl, rfl⟩))
    (fun os started H enc _ => lifted os started H enc)
theorem card : Rows.DeckAirCardSaid :=
  Claim7.holds_tied_plain_at .later [] [.data] true (true, "f4cce56c052b8147ed0d96dfe40f3886e39b5e64f551fd0da9ae368612f96104") true
    over (fun _ h => by cases h) (by kernel_rfl) (fun _ h => by cases h) deckAir_row_tie rfl ⟨rfl, rfl⟩ (by kernel_rfl) rfl
    (fun f fn hf hfn => by
      obtain rfl : f = 7 := Option.some.inj ((show Tryd.prog.funcNamed "tickertape/tiklaw23.DeckAir" = some 7 by kernel_rfl).symm.trans hf) |>.symm
      obtain rfl : fn = Tryd.f7 := (Option.some.inj (Tryd.func7.symm.trans hfn)).symm
      exact ⟨by kernel_rfl, fun j t ht => by
        rw [Tryd.params7] at ht
        have hm : t ∈ [28, 28, 28, 28, 34] := by simpa using Array.mem_of_getElem? ht
        have hall : ([28, 28, 28, 28, 34].all fun u => !Tryd.prog.wantsStandIn u) = true := by kernel_rfl
        exact (show Tryd.prog.wantsStandIn t = false by simpa using List.all_eq_true.1 hall t hm)⟩)
    (by kernel_rfl)
#print axioms card
end Go.Proofs.YtlgfmmkabnbllaaDoor.RowDeckAir
namespace Go.Proofs.YtlgfmmkabnbllaaDoor
theorem deckAir_holds : Rows.DeckAirCardSaid := RowDeckAir.card
end Go.Proofs.YtlgfmmkabnbllaaDoor
