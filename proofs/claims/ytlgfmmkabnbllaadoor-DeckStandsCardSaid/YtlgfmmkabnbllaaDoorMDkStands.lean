/- DeckStands: who is paused stands still, whatever time goes by, but where what is kept begins behind it; an error changes nothing: the call returns true and leaves its arguments as they were. No condition; the table of the library is tied to the program's text. -/
import Derived.Test.YtlgfmmkabnbllaaDoorMDkb
import Derived.Test.YtlgfmmkabnbllaaDoorRows
import Derived.Test.YtlgfmmkabnbllaaDoorMDka
import Derived.Test.YtlgfmmkabnbllaaDoorTie
import Derived.Test.YtlgfmmkabnbllaaDoorCards
import Derived.WalkKit
import Derived.ProofKit
import Derived.OpenShut
import Derived.ShutString
import Derived.ChangeOld
import Derived.Below
import Derived.SizedLaws
import Derived.LaidMore
import Derived.Stop.Joined
import Derived.SevenTiedAt
namespace Go.Proofs.YtlgfmmkabnbllaaDoor.PT
open Go.RowKit Go.Proofs.YtlgfmmkabnbllaaDoorW.PrintWords Go.Proofs.YtlgfmmkabnbllaaDoorW.PrintLast Go.Proofs.YtlgfmmkabnbllaaDoorW.PrintMore
attribute [local go_sem] max2_int min2_int max_two min_two max_three min_three max_four min_four   -- for this text's walks alone
open Go.Proofs.YtlgfmmkabnbllaaDoor.Hand
open Go.Proofs.YtlgfmmkabnbllaaDoor.PA
open Go.Proofs.YtlgfmmkabnbllaaDoor.PB
open Go.Proofs.YtlgfmmkabnbllaaDoor.PC
open Go.Proofs.YtlgfmmkabnbllaaDoor.PM
set_option linter.unusedVariables false
set_option linter.unusedSimpArgs false

attribute [local go_sem high] eqA30
/-! ### tiklaw23_first: function 12 -/
def tiklaw23_first.j0 : Nat → Bool → Int → Int → Int → Int → Bool → Int → Int → Int → Int → Int → Option (Bool)
  | 0, _, _, _, _, _, _, _, _, _, _, _ => none
  | k + 1, x19, x112000, x112001, x112002, x112003, x112004, x112005, x112006, x112007, x112008, x112009 => if x19 = true then (some false) else ((deck_Deck_Mode.f x112000 x112001 x112002 x112003 x112004 x112005 x112006 x112007 x112008 x112009).bind fun bt145 => (if bt145.1 = 1 then ((deck_Deck_Pos.f bt145.2.1 bt145.2.2.1 bt145.2.2.2.1 bt145.2.2.2.2.1 bt145.2.2.2.2.2.1 bt145.2.2.2.2.2.2.1 bt145.2.2.2.2.2.2.2.1 bt145.2.2.2.2.2.2.2.2.1 bt145.2.2.2.2.2.2.2.2.2.1 bt145.2.2.2.2.2.2.2.2.2.2).bind fun bt156 => (if bt156.1 = 9 then ((deck_Deck_Seek.f bt156.2.1 bt156.2.2.1 bt156.2.2.2.1 bt156.2.2.2.2.1 bt156.2.2.2.2.2.1 bt156.2.2.2.2.2.2.1 bt156.2.2.2.2.2.2.2.1 bt156.2.2.2.2.2.2.2.2.1 bt156.2.2.2.2.2.2.2.2.2.1 bt156.2.2.2.2.2.2.2.2.2.2 5 2 9 1).bind fun bt167 => (if bt167.1 = 12 then ((rate_From.f 9221120237041090560).bind fun t178 => ((deck_Deck_Speed.f k bt167.2.1 bt167.2.2.1 bt167.2.2.2.1 bt167.2.2.2.2.1 bt167.2.2.2.2.2.1 bt167.2.2.2.2.2.2.1 bt167.2.2.2.2.2.2.2.1 bt167.2.2.2.2.2.2.2.2.1 bt167.2.2.2.2.2.2.2.2.2.1 bt167.2.2.2.2.2.2.2.2.2.2 5 t178).bind fun bt179 => (if bt179.1 = 10 then ((deck_Deck_Rate.f bt179.2.1 bt179.2.2.1 bt179.2.2.2.1 bt179.2.2.2.2.1 bt179.2.2.2.2.2.1 bt179.2.2.2.2.2.2.1 bt179.2.2.2.2.2.2.2.1 bt179.2.2.2.2.2.2.2.2.1 bt179.2.2.2.2.2.2.2.2.2.1 bt179.2.2.2.2.2.2.2.2.2.2).bind fun bt190 => (some (bt190.1 == 1 && (bt190.2.1 == 1)))) else (some false)))) else (some false))) else (some false))) else (some false)))
def tiklaw23_first.f (k : Nat)  : Option (Bool) := (deck_New.f).bind fun bt101 => (if false = true then (tiklaw23_first.j0 k true bt101.1 bt101.2.1 bt101.2.2.1 bt101.2.2.2.1 bt101.2.2.2.2.1 bt101.2.2.2.2.2.1 bt101.2.2.2.2.2.2.1 bt101.2.2.2.2.2.2.2.1 bt101.2.2.2.2.2.2.2.2.1 bt101.2.2.2.2.2.2.2.2.2) else ((deck_Deck_Mode.f bt101.1 bt101.2.1 bt101.2.2.1 bt101.2.2.2.1 bt101.2.2.2.2.1 bt101.2.2.2.2.2.1 bt101.2.2.2.2.2.2.1 bt101.2.2.2.2.2.2.2.1 bt101.2.2.2.2.2.2.2.2.1 bt101.2.2.2.2.2.2.2.2.2).bind fun bt112 => (if bt112.1 = 0 then ((deck_Deck_Play.f bt112.2.1 bt112.2.2.1 bt112.2.2.2.1 bt112.2.2.2.2.1 bt112.2.2.2.2.2.1 bt112.2.2.2.2.2.2.1 bt112.2.2.2.2.2.2.2.1 bt112.2.2.2.2.2.2.2.2.1 bt112.2.2.2.2.2.2.2.2.2.1 bt112.2.2.2.2.2.2.2.2.2.2 5 0 9).bind fun bt123 => (if bt123.1 = 13 then ((deck_Deck_Pause.f bt123.2.1 bt123.2.2.1 bt123.2.2.2.1 bt123.2.2.2.2.1 bt123.2.2.2.2.2.1 bt123.2.2.2.2.2.2.1 bt123.2.2.2.2.2.2.2.1 bt123.2.2.2.2.2.2.2.2.1 bt123.2.2.2.2.2.2.2.2.2.1 bt123.2.2.2.2.2.2.2.2.2.2 5 0 9).bind fun bt134 => (tiklaw23_first.j0 k (bt134.1 != 0) bt134.2.1 bt134.2.2.1 bt134.2.2.2.1 bt134.2.2.2.2.1 bt134.2.2.2.2.2.1 bt134.2.2.2.2.2.2.1 bt134.2.2.2.2.2.2.2.1 bt134.2.2.2.2.2.2.2.2.1 bt134.2.2.2.2.2.2.2.2.2.1 bt134.2.2.2.2.2.2.2.2.2.2)) else (tiklaw23_first.j0 k true bt123.2.1 bt123.2.2.1 bt123.2.2.2.1 bt123.2.2.2.2.1 bt123.2.2.2.2.2.1 bt123.2.2.2.2.2.2.1 bt123.2.2.2.2.2.2.2.1 bt123.2.2.2.2.2.2.2.2.1 bt123.2.2.2.2.2.2.2.2.2.1 bt123.2.2.2.2.2.2.2.2.2.2))) else (tiklaw23_first.j0 k true bt112.2.1 bt112.2.2.1 bt112.2.2.2.1 bt112.2.2.2.2.1 bt112.2.2.2.2.2.1 bt112.2.2.2.2.2.2.1 bt112.2.2.2.2.2.2.2.1 bt112.2.2.2.2.2.2.2.2.1 bt112.2.2.2.2.2.2.2.2.2.1 bt112.2.2.2.2.2.2.2.2.2.2))))
theorem tiklaw23_first.mono_l : ∀ k, (∀ y0 y1 y2 y3 y4 y5 y6 y7 y8 y9 y10, LeO (tiklaw23_first.j0 k y0 y1 y2 y3 y4 y5 y6 y7 y8 y9 y10) (tiklaw23_first.j0 (k + 1) y0 y1 y2 y3 y4 y5 y6 y7 y8 y9 y10))
  | 0 => fun _ _ _ _ _ _ _ _ _ _ _ r h => by simp [tiklaw23_first.j0] at h
  | k + 1 => by
    have ih0 := tiklaw23_first.mono_l k
    · intro y0 y1 y2 y3 y4 y5 y6 y7 y8 y9 y10
      unfold tiklaw23_first.j0
      repeat' first
      | (with_reducible exact ih0 _ _ _ _ _ _ _ _ _ _ _)
      | (with_reducible exact deck_Deck_Speed.mono _ _ _ _ _ _ _ _ _ _ _ _ _)
      | (with_reducible exact LeO.refl _)
      | (with_reducible exact LeO.none _)
      | (with_reducible refine LeO.ite ?_ ?_)
      | (with_reducible refine LeO.bind ?_ (fun _ => ?_))
      | exact ih0 _ _ _ _ _ _ _ _ _ _ _
      | exact deck_Deck_Speed.mono _ _ _ _ _ _ _ _ _ _ _ _ _
      | exact LeO.none _
      | refine LeO.ite ?_ ?_
      | refine LeO.bind ?_ (fun _ => ?_)
theorem tiklaw23_first.mono : ∀ k, LeO (tiklaw23_first.f k ) (tiklaw23_first.f (k + 1) ) := by
  intro  k
  have ih0 := tiklaw23_first.mono_l k
  unfold tiklaw23_first.f
  repeat' first
      | (with_reducible exact ih0 _ _ _ _ _ _ _ _ _ _ _)
      | (with_reducible exact deck_Deck_Speed.mono _ _ _ _ _ _ _ _ _ _ _ _ _)
      | (with_reducible exact LeO.refl _)
      | (with_reducible exact LeO.none _)
      | (with_reducible refine LeO.ite ?_ ?_)
      | (with_reducible refine LeO.bind ?_ (fun _ => ?_))
      | exact ih0 _ _ _ _ _ _ _ _ _ _ _
      | exact deck_Deck_Speed.mono _ _ _ _ _ _ _ _ _ _ _ _ _
      | exact LeO.none _
      | refine LeO.ite ?_ ?_
      | refine LeO.bind ?_ (fun _ => ?_)
set_option maxHeartbeats 8000000 in
set_option maxRecDepth 100000 in
theorem tiklaw23_first.calls (k : Nat)  (r : Bool) (w : World) (hT : TabW w) (h : tiklaw23_first.f k  = some r) :
    Calls Tryd.prog 12 #[] w fun e w' => e = .returned (.bool r) ∧ Below w.heap.size w w' := by
  have HT := Aside0.mk hT
  clear hT
  have hu30 := Tryd.underlying30
  have HB := Aside0.mk (Below.refl w.heap.size w)
  have H : ((deck_New.f).bind fun bt101 => (if false = true then (tiklaw23_first.j0 k true bt101.1 bt101.2.1 bt101.2.2.1 bt101.2.2.2.1 bt101.2.2.2.2.1 bt101.2.2.2.2.2.1 bt101.2.2.2.2.2.2.1 bt101.2.2.2.2.2.2.2.1 bt101.2.2.2.2.2.2.2.2.1 bt101.2.2.2.2.2.2.2.2.2) else ((deck_Deck_Mode.f bt101.1 bt101.2.1 bt101.2.2.1 bt101.2.2.2.1 bt101.2.2.2.2.1 bt101.2.2.2.2.2.1 bt101.2.2.2.2.2.2.1 bt101.2.2.2.2.2.2.2.1 bt101.2.2.2.2.2.2.2.2.1 bt101.2.2.2.2.2.2.2.2.2).bind fun bt112 => (if bt112.1 = 0 then ((deck_Deck_Play.f bt112.2.1 bt112.2.2.1 bt112.2.2.2.1 bt112.2.2.2.2.1 bt112.2.2.2.2.2.1 bt112.2.2.2.2.2.2.1 bt112.2.2.2.2.2.2.2.1 bt112.2.2.2.2.2.2.2.2.1 bt112.2.2.2.2.2.2.2.2.2.1 bt112.2.2.2.2.2.2.2.2.2.2 5 0 9).bind fun bt123 => (if bt123.1 = 13 then ((deck_Deck_Pause.f bt123.2.1 bt123.2.2.1 bt123.2.2.2.1 bt123.2.2.2.2.1 bt123.2.2.2.2.2.1 bt123.2.2.2.2.2.2.1 bt123.2.2.2.2.2.2.2.1 bt123.2.2.2.2.2.2.2.2.1 bt123.2.2.2.2.2.2.2.2.2.1 bt123.2.2.2.2.2.2.2.2.2.2 5 0 9).bind fun bt134 => (tiklaw23_first.j0 k (bt134.1 != 0) bt134.2.1 bt134.2.2.1 bt134.2.2.2.1 bt134.2.2.2.2.1 bt134.2.2.2.2.2.1 bt134.2.2.2.2.2.2.1 bt134.2.2.2.2.2.2.2.1 bt134.2.2.2.2.2.2.2.2.1 bt134.2.2.2.2.2.2.2.2.2.1 bt134.2.2.2.2.2.2.2.2.2.2)) else (tiklaw23_first.j0 k true bt123.2.1 bt123.2.2.1 bt123.2.2.2.1 bt123.2.2.2.2.1 bt123.2.2.2.2.2.1 bt123.2.2.2.2.2.2.1 bt123.2.2.2.2.2.2.2.1 bt123.2.2.2.2.2.2.2.2.1 bt123.2.2.2.2.2.2.2.2.2.1 bt123.2.2.2.2.2.2.2.2.2.2))) else (tiklaw23_first.j0 k true bt112.2.1 bt112.2.2.1 bt112.2.2.2.1 bt112.2.2.2.2.1 bt112.2.2.2.2.2.1 bt112.2.2.2.2.2.2.1 bt112.2.2.2.2.2.2.2.1 bt112.2.2.2.2.2.2.2.2.1 bt112.2.2.2.2.2.2.2.2.2.1 bt112.2.2.2.2.2.2.2.2.2.2))))) = some r := h
  clear h
  replace H := Option.bind_eq_some_iff.mp H
  obtain ⟨⟨t101, t102, t103, t104, t105, t106, t107, t108, t109, t110⟩, A10, H⟩ := H
  replace H : (if false = true then (tiklaw23_first.j0 k true t101 t102 t103 t104 t105 t106 t107 t108 t109 t110) else ((deck_Deck_Mode.f t101 t102 t103 t104 t105 t106 t107 t108 t109 t110).bind fun bt112 => (if bt112.1 = 0 then ((deck_Deck_Play.f bt112.2.1 bt112.2.2.1 bt112.2.2.2.1 bt112.2.2.2.2.1 bt112.2.2.2.2.2.1 bt112.2.2.2.2.2.2.1 bt112.2.2.2.2.2.2.2.1 bt112.2.2.2.2.2.2.2.2.1 bt112.2.2.2.2.2.2.2.2.2.1 bt112.2.2.2.2.2.2.2.2.2.2 5 0 9).bind fun bt123 => (if bt123.1 = 13 then ((deck_Deck_Pause.f bt123.2.1 bt123.2.2.1 bt123.2.2.2.1 bt123.2.2.2.2.1 bt123.2.2.2.2.2.1 bt123.2.2.2.2.2.2.1 bt123.2.2.2.2.2.2.2.1 bt123.2.2.2.2.2.2.2.2.1 bt123.2.2.2.2.2.2.2.2.2.1 bt123.2.2.2.2.2.2.2.2.2.2 5 0 9).bind fun bt134 => (tiklaw23_first.j0 k (bt134.1 != 0) bt134.2.1 bt134.2.2.1 bt134.2.2.2.1 bt134.2.2.2.2.1 bt134.2.2.2.2.2.1 bt134.2.2.2.2.2.2.1 bt134.2.2.2.2.2.2.2.1 bt134.2.2.2.2.2.2.2.2.1 bt134.2.2.2.2.2.2.2.2.2.1 bt134.2.2.2.2.2.2.2.2.2.2)) else (tiklaw23_first.j0 k true bt123.2.1 bt123.2.2.1 bt123.2.2.2.1 bt123.2.2.2.2.1 bt123.2.2.2.2.2.1 bt123.2.2.2.2.2.2.1 bt123.2.2.2.2.2.2.2.1 bt123.2.2.2.2.2.2.2.2.1 bt123.2.2.2.2.2.2.2.2.2.1 bt123.2.2.2.2.2.2.2.2.2.2))) else (tiklaw23_first.j0 k true bt112.2.1 bt112.2.2.1 bt112.2.2.2.1 bt112.2.2.2.2.1 bt112.2.2.2.2.2.1 bt112.2.2.2.2.2.2.1 bt112.2.2.2.2.2.2.2.1 bt112.2.2.2.2.2.2.2.2.1 bt112.2.2.2.2.2.2.2.2.2.1 bt112.2.2.2.2.2.2.2.2.2.2)))) = some r := H
  have A1 := Aside0.mk A10
  clear A10
  have HC2 := Aside0.mk H
  clear H
  go_enter Tryd.func12, Tryd.ntmps12
  go_upto_region 2 with (first | ((with_reducible refine gate_callee (f := 13) rfl ?_); refine goesL_ (some 2) rfl rfl Tryd.func13 (by kernel_rfl) rfl #[] rfl (by (try simp only [List.map_toArray, List.map_cons, List.map_nil]); first | done | rfl | (simp only [List.length_drop, List.length_take]; rfl)) ?_; (with_reducible refine (deck_New.calls  t101 t102 t103 t104 t105 t106 t107 t108 t109 t110 w _ ?side1 A1.out).mono ?_); (case side1 => repeat (first | (with_reducible first | exact HB.out | apply below_alloc | apply pw_below_drewN | apply below_drew1) | exact HB.out)); rintro e w3 ⟨g111, rfl, hi, hb, hb2, hnew⟩; refine ⟨_, rfl, ?_⟩; have n0_ := Aside0.mk (hb); have n1_ := Aside0.mk (hi); clear HB; have HB := n0_; have HI111 := n1_; clear n0_ n1_; (try clear hb); (try clear hb2); (try clear hk); (try clear hi)))
  (try simp only [Act.put, List.setIfInBounds_toArray, List.set_cons_zero, List.set_cons_succ])
  go_cut [19] (fun v19 wc => ∃ (kq : Nat) (x19_1 : Bool) (x112000_1 : Int) (x112001_1 : Int) (x112002_1 : Int) (x112003_1 : Int) (x112004_1 : Bool) (x112005_1 : Int) (x112006_1 : Int) (x112007_1 : Int) (x112008_1 : Int) (x112009_1 : Int), v19 = .bool x19_1 ∧ Aside0 (tiklaw23_first.j0 kq x19_1 x112000_1 x112001_1 x112002_1 x112003_1 x112004_1 x112005_1 x112006_1 x112007_1 x112008_1 x112009_1 = some r) ∧ Aside0 (kq ≤ k) ∧ Aside0 (IsS100 w wc g111 x112000_1 x112001_1 x112002_1 x112003_1 x112004_1 x112005_1 x112006_1 x112007_1 x112008_1 x112009_1) ∧ Aside0 (Below w.heap.size w wc))
  case first =>
    have H := HC2.out
    clear HC2
    have H1 : ((deck_Deck_Mode.f t101 t102 t103 t104 t105 t106 t107 t108 t109 t110).bind fun bt112 => (if bt112.1 = 0 then ((deck_Deck_Play.f bt112.2.1 bt112.2.2.1 bt112.2.2.2.1 bt112.2.2.2.2.1 bt112.2.2.2.2.2.1 bt112.2.2.2.2.2.2.1 bt112.2.2.2.2.2.2.2.1 bt112.2.2.2.2.2.2.2.2.1 bt112.2.2.2.2.2.2.2.2.2.1 bt112.2.2.2.2.2.2.2.2.2.2 5 0 9).bind fun bt123 => (if bt123.1 = 13 then ((deck_Deck_Pause.f bt123.2.1 bt123.2.2.1 bt123.2.2.2.1 bt123.2.2.2.2.1 bt123.2.2.2.2.2.1 bt123.2.2.2.2.2.2.1 bt123.2.2.2.2.2.2.2.1 bt123.2.2.2.2.2.2.2.2.1 bt123.2.2.2.2.2.2.2.2.2.1 bt123.2.2.2.2.2.2.2.2.2.2 5 0 9).bind fun bt134 => (tiklaw23_first.j0 k (bt134.1 != 0) bt134.2.1 bt134.2.2.1 bt134.2.2.2.1 bt134.2.2.2.2.1 bt134.2.2.2.2.2.1 bt134.2.2.2.2.2.2.1 bt134.2.2.2.2.2.2.2.1 bt134.2.2.2.2.2.2.2.2.1 bt134.2.2.2.2.2.2.2.2.2.1 bt134.2.2.2.2.2.2.2.2.2.2)) else (tiklaw23_first.j0 k true bt123.2.1 bt123.2.2.1 bt123.2.2.2.1 bt123.2.2.2.2.1 bt123.2.2.2.2.2.1 bt123.2.2.2.2.2.2.1 bt123.2.2.2.2.2.2.2.1 bt123.2.2.2.2.2.2.2.2.1 bt123.2.2.2.2.2.2.2.2.2.1 bt123.2.2.2.2.2.2.2.2.2.2))) else (tiklaw23_first.j0 k true bt112.2.1 bt112.2.2.1 bt112.2.2.2.1 bt112.2.2.2.2.1 bt112.2.2.2.2.2.1 bt112.2.2.2.2.2.2.1 bt112.2.2.2.2.2.2.2.1 bt112.2.2.2.2.2.2.2.2.1 bt112.2.2.2.2.2.2.2.2.2.1 bt112.2.2.2.2.2.2.2.2.2.2))) = some r := by first | (rw [if_neg (show ¬ (false = true) by decide)] at H; exact H) | exact (if_neg not_false).symm.trans H
    clear H
    have H := H1
    clear H1
    replace H := Option.bind_eq_some_iff.mp H
    obtain ⟨⟨t112, t113, t114, t115, t116, t117, t118, t119, t120, t121, t122⟩, A40, H⟩ := H
    replace H : (if t112 = 0 then ((deck_Deck_Play.f t113 t114 t115 t116 t117 t118 t119 t120 t121 t122 5 0 9).bind fun bt123 => (if bt123.1 = 13 then ((deck_Deck_Pause.f bt123.2.1 bt123.2.2.1 bt123.2.2.2.1 bt123.2.2.2.2.1 bt123.2.2.2.2.2.1 bt123.2.2.2.2.2.2.1 bt123.2.2.2.2.2.2.2.1 bt123.2.2.2.2.2.2.2.2.1 bt123.2.2.2.2.2.2.2.2.2.1 bt123.2.2.2.2.2.2.2.2.2.2 5 0 9).bind fun bt134 => (tiklaw23_first.j0 k (bt134.1 != 0) bt134.2.1 bt134.2.2.1 bt134.2.2.2.1 bt134.2.2.2.2.1 bt134.2.2.2.2.2.1 bt134.2.2.2.2.2.2.1 bt134.2.2.2.2.2.2.2.1 bt134.2.2.2.2.2.2.2.2.1 bt134.2.2.2.2.2.2.2.2.2.1 bt134.2.2.2.2.2.2.2.2.2.2)) else (tiklaw23_first.j0 k true bt123.2.1 bt123.2.2.1 bt123.2.2.2.1 bt123.2.2.2.2.1 bt123.2.2.2.2.2.1 bt123.2.2.2.2.2.2.1 bt123.2.2.2.2.2.2.2.1 bt123.2.2.2.2.2.2.2.2.1 bt123.2.2.2.2.2.2.2.2.2.1 bt123.2.2.2.2.2.2.2.2.2.2))) else (tiklaw23_first.j0 k true t113 t114 t115 t116 t117 t118 t119 t120 t121 t122)) = some r := H
    have A4 := Aside0.mk A40
    clear A40
    by_cases c5 : t112 = 0
    · rw [if_pos c5] at H
      have c5b0 : (t112 == 0) = true := beq_iff_eq.mpr c5
      have c5b1 : (t112 != 0) = false := bne_eq_false_iff_eq.mpr c5
      clear c5
      (first | rw [c5b0] | (simp only [i64_w, i32_w]; rw [c5b0]) | skip)
      replace H := Option.bind_eq_some_iff.mp H
      obtain ⟨⟨t123, t124, t125, t126, t127, t128, t129, t130, t131, t132, t133⟩, A60, H⟩ := H
      replace H : (if t123 = 13 then ((deck_Deck_Pause.f t124 t125 t126 t127 t128 t129 t130 t131 t132 t133 5 0 9).bind fun bt134 => (tiklaw23_first.j0 k (bt134.1 != 0) bt134.2.1 bt134.2.2.1 bt134.2.2.2.1 bt134.2.2.2.2.1 bt134.2.2.2.2.2.1 bt134.2.2.2.2.2.2.1 bt134.2.2.2.2.2.2.2.1 bt134.2.2.2.2.2.2.2.2.1 bt134.2.2.2.2.2.2.2.2.2.1 bt134.2.2.2.2.2.2.2.2.2.2)) else (tiklaw23_first.j0 k true t124 t125 t126 t127 t128 t129 t130 t131 t132 t133)) = some r := H
      have A6 := Aside0.mk A60
      clear A60
      by_cases c7 : t123 = 13
      · rw [if_pos c7] at H
        have c7b0 : (t123 == 13) = true := beq_iff_eq.mpr c7
        have c7b1 : (t123 != 13) = false := bne_eq_false_iff_eq.mpr c7
        clear c7
        replace H := Option.bind_eq_some_iff.mp H
        obtain ⟨⟨t134, t135, t136, t137, t138, t139, t140, t141, t142, t143, t144⟩, A80, H⟩ := H
        replace H : (tiklaw23_first.j0 k (t134 != 0) t135 t136 t137 t138 t139 t140 t141 t142 t143 t144) = some r := H
        have A8 := Aside0.mk A80
        clear A80
        have H' := Aside0.mk H
        clear H
        go_wp2_with (first | (go_at_call 18; (with_reducible refine (deck_Deck_Mode.calls g111 t101 t102 t103 t104 t105 t106 t107 t108 t109 t110 t112 t113 t114 t115 t116 t117 t118 t119 t120 t121 t122 w _ ?side1 ?side2 A4.out).mono ?_); (case side1 => repeat (first | (with_reducible first | exact HI111.out | apply IsS100.alloc | apply IsS100.drewN | apply IsS100.drew | apply IsS100.set_0 | apply IsS100.set_1 | apply IsS100.set_2 | apply IsS100.set_3 | apply IsS100.set_4 | apply IsS100.set_5 | apply IsS100.set_6 | apply IsS100.set_7 | apply IsS100.set_8 | apply IsS100.set_9) | exact HI111.out)); (case side2 => repeat (first | (with_reducible first | exact HB.out | apply below_alloc | apply pw_below_drewN | apply below_drew1 | refine below_set ?_ (IsS100.ge HI111.out)) | exact HB.out)); rintro e w9 ⟨rfl, hi, hb, hk⟩; have n0_ := Aside0.mk (hb); have n1_ := Aside0.mk (hi); clear HB; clear HI111; have HB := n0_; have HI111 := n1_; clear n0_ n1_; (try clear hb); (try clear hb2); (try clear hk); (try clear hi)) | (go_at_call 24; (with_reducible refine (deck_Deck_Play.calls g111 t113 t114 t115 t116 t117 t118 t119 t120 t121 t122 5 0 9 t123 t124 t125 t126 t127 t128 t129 t130 t131 t132 t133 w _ ?side1 ?side2 A6.out).mono ?_); (case side1 => repeat (first | (with_reducible first | exact HI111.out | apply IsS100.alloc | apply IsS100.drewN | apply IsS100.drew | apply IsS100.set_0 | apply IsS100.set_1 | apply IsS100.set_2 | apply IsS100.set_3 | apply IsS100.set_4 | apply IsS100.set_5 | apply IsS100.set_6 | apply IsS100.set_7 | apply IsS100.set_8 | apply IsS100.set_9) | exact HI111.out)); (case side2 => repeat (first | (with_reducible first | exact HB.out | apply below_alloc | apply pw_below_drewN | apply below_drew1 | refine below_set ?_ (IsS100.ge HI111.out)) | exact HB.out)); rintro e w10 ⟨rfl, hi, hb, hk⟩; have n0_ := Aside0.mk (hb); have n1_ := Aside0.mk (hi); clear HB; clear HI111; have HB := n0_; have HI111 := n1_; clear n0_ n1_; (try clear hb); (try clear hb2); (try clear hk); (try clear hi)) | (go_at_call 27; (with_reducible refine (deck_Deck_Pause.calls g111 t124 t125 t126 t127 t128 t129 t130 t131 t132 t133 5 0 9 t134 t135 t136 t137 t138 t139 t140 t141 t142 t143 t144 w _ ?side1 ?side2 A8.out).mono ?_); (case side1 => repeat (first | (with_reducible first | exact HI111.out | apply IsS100.alloc | apply IsS100.drewN | apply IsS100.drew | apply IsS100.set_0 | apply IsS100.set_1 | apply IsS100.set_2 | apply IsS100.set_3 | apply IsS100.set_4 | apply IsS100.set_5 | apply IsS100.set_6 | apply IsS100.set_7 | apply IsS100.set_8 | apply IsS100.set_9) | exact HI111.out)); (case side2 => repeat (first | (with_reducible first | exact HB.out | apply below_alloc | apply pw_below_drewN | apply below_drew1 | refine below_set ?_ (IsS100.ge HI111.out)) | exact HB.out)); rintro e w11 ⟨rfl, hi, hb, hk⟩; have n0_ := Aside0.mk (hb); have n1_ := Aside0.mk (hi); clear HB; clear HI111; have HB := n0_; have HI111 := n1_; clear n0_ n1_; (try clear hb); (try clear hb2); (try clear hk); (try clear hi)))
        go_meet
        case rel => exact ⟨_, ((t134 != 0)), (t135), (t136), (t137), (t138), (t139), (t140), (t141), (t142), (t143), (t144), (by first | rfl | (simp; done) | (simp [*]; done)), H', ⟨by first | omega | exact Nat.le_refl _⟩, ⟨by repeat (first | (with_reducible first | exact HI111.out | apply IsS100.alloc | apply IsS100.drewN | apply IsS100.drew | apply IsS100.set_0 | apply IsS100.set_1 | apply IsS100.set_2 | apply IsS100.set_3 | apply IsS100.set_4 | apply IsS100.set_5 | apply IsS100.set_6 | apply IsS100.set_7 | apply IsS100.set_8 | apply IsS100.set_9) | exact HI111.out)⟩, ⟨by repeat (first | (with_reducible first | exact HB.out | apply below_alloc | apply pw_below_drewN | apply below_drew1 | refine below_set ?_ (IsS100.ge HI111.out)) | exact HB.out)⟩⟩
      · rw [if_neg c7] at H
        have c7b0 : (t123 == 13) = false := beq_eq_false_iff_ne.mpr c7
        have c7b1 : (t123 != 13) = true := bne_iff_ne.mpr c7
        have H' := Aside0.mk H
        clear H
        go_wp2_with (first | (go_at_call 18; (with_reducible refine (deck_Deck_Mode.calls g111 t101 t102 t103 t104 t105 t106 t107 t108 t109 t110 t112 t113 t114 t115 t116 t117 t118 t119 t120 t121 t122 w _ ?side1 ?side2 A4.out).mono ?_); (case side1 => repeat (first | (with_reducible first | exact HI111.out | apply IsS100.alloc | apply IsS100.drewN | apply IsS100.drew | apply IsS100.set_0 | apply IsS100.set_1 | apply IsS100.set_2 | apply IsS100.set_3 | apply IsS100.set_4 | apply IsS100.set_5 | apply IsS100.set_6 | apply IsS100.set_7 | apply IsS100.set_8 | apply IsS100.set_9) | exact HI111.out)); (case side2 => repeat (first | (with_reducible first | exact HB.out | apply below_alloc | apply pw_below_drewN | apply below_drew1 | refine below_set ?_ (IsS100.ge HI111.out)) | exact HB.out)); rintro e w12 ⟨rfl, hi, hb, hk⟩; have n0_ := Aside0.mk (hb); have n1_ := Aside0.mk (hi); clear HB; clear HI111; have HB := n0_; have HI111 := n1_; clear n0_ n1_; (try clear hb); (try clear hb2); (try clear hk); (try clear hi)) | (go_at_call 24; (with_reducible refine (deck_Deck_Play.calls g111 t113 t114 t115 t116 t117 t118 t119 t120 t121 t122 5 0 9 t123 t124 t125 t126 t127 t128 t129 t130 t131 t132 t133 w _ ?side1 ?side2 A6.out).mono ?_); (case side1 => repeat (first | (with_reducible first | exact HI111.out | apply IsS100.alloc | apply IsS100.drewN | apply IsS100.drew | apply IsS100.set_0 | apply IsS100.set_1 | apply IsS100.set_2 | apply IsS100.set_3 | apply IsS100.set_4 | apply IsS100.set_5 | apply IsS100.set_6 | apply IsS100.set_7 | apply IsS100.set_8 | apply IsS100.set_9) | exact HI111.out)); (case side2 => repeat (first | (with_reducible first | exact HB.out | apply below_alloc | apply pw_below_drewN | apply below_drew1 | refine below_set ?_ (IsS100.ge HI111.out)) | exact HB.out)); rintro e w13 ⟨rfl, hi, hb, hk⟩; have n0_ := Aside0.mk (hb); have n1_ := Aside0.mk (hi); clear HB; clear HI111; have HB := n0_; have HI111 := n1_; clear n0_ n1_; (try clear hb); (try clear hb2); (try clear hk); (try clear hi)))
        go_meet
        case rel => exact ⟨_, (true), (t124), (t125), (t126), (t127), (t128), (t129), (t130), (t131), (t132), (t133), (by first | rfl | (simp; done) | (simp [*]; done)), H', ⟨by first | omega | exact Nat.le_refl _⟩, ⟨by repeat (first | (with_reducible first | exact HI111.out | apply IsS100.alloc | apply IsS100.drewN | apply IsS100.drew | apply IsS100.set_0 | apply IsS100.set_1 | apply IsS100.set_2 | apply IsS100.set_3 | apply IsS100.set_4 | apply IsS100.set_5 | apply IsS100.set_6 | apply IsS100.set_7 | apply IsS100.set_8 | apply IsS100.set_9) | exact HI111.out)⟩, ⟨by repeat (first | (with_reducible first | exact HB.out | apply below_alloc | apply pw_below_drewN | apply below_drew1 | refine below_set ?_ (IsS100.ge HI111.out)) | exact HB.out)⟩⟩
    · rw [if_neg c5] at H
      have c5b0 : (t112 == 0) = false := beq_eq_false_iff_ne.mpr c5
      have c5b1 : (t112 != 0) = true := bne_iff_ne.mpr c5
      (first | rw [c5b0] | (simp only [i64_w, i32_w]; rw [c5b0]) | skip)
      have H' := Aside0.mk H
      clear H
      go_wp2_with (first | (go_at_call 18; (with_reducible refine (deck_Deck_Mode.calls g111 t101 t102 t103 t104 t105 t106 t107 t108 t109 t110 t112 t113 t114 t115 t116 t117 t118 t119 t120 t121 t122 w _ ?side1 ?side2 A4.out).mono ?_); (case side1 => repeat (first | (with_reducible first | exact HI111.out | apply IsS100.alloc | apply IsS100.drewN | apply IsS100.drew | apply IsS100.set_0 | apply IsS100.set_1 | apply IsS100.set_2 | apply IsS100.set_3 | apply IsS100.set_4 | apply IsS100.set_5 | apply IsS100.set_6 | apply IsS100.set_7 | apply IsS100.set_8 | apply IsS100.set_9) | exact HI111.out)); (case side2 => repeat (first | (with_reducible first | exact HB.out | apply below_alloc | apply pw_below_drewN | apply below_drew1 | refine below_set ?_ (IsS100.ge HI111.out)) | exact HB.out)); rintro e w14 ⟨rfl, hi, hb, hk⟩; have n0_ := Aside0.mk (hb); have n1_ := Aside0.mk (hi); clear HB; clear HI111; have HB := n0_; have HI111 := n1_; clear n0_ n1_; (try clear hb); (try clear hb2); (try clear hk); (try clear hi)))
      go_meet
      case rel => exact ⟨_, (true), (t113), (t114), (t115), (t116), (t117), (t118), (t119), (t120), (t121), (t122), (by first | rfl | (simp; done) | (simp [*]; done)), H', ⟨by first | omega | exact Nat.le_refl _⟩, ⟨by repeat (first | (with_reducible first | exact HI111.out | apply IsS100.alloc | apply IsS100.drewN | apply IsS100.drew | apply IsS100.set_0 | apply IsS100.set_1 | apply IsS100.set_2 | apply IsS100.set_3 | apply IsS100.set_4 | apply IsS100.set_5 | apply IsS100.set_6 | apply IsS100.set_7 | apply IsS100.set_8 | apply IsS100.set_9) | exact HI111.out)⟩, ⟨by repeat (first | (with_reducible first | exact HB.out | apply below_alloc | apply pw_below_drewN | apply below_drew1 | refine below_set ?_ (IsS100.ge HI111.out)) | exact HB.out)⟩⟩
  case rest =>
    clear HC2
    try clear c1
    try clear p2
    try clear c5
    try clear c5b0
    try clear c5b1
    try clear c7
    try clear c7b0
    try clear c7b1
    try clear c12
    try clear c13
    obtain ⟨kq, x19_1, x112000_1, x112001_1, x112002_1, x112003_1, x112004_1, x112005_1, x112006_1, x112007_1, x112008_1, x112009_1, rfl, HA, HJ1, HI111, HB⟩ := hcut
    cases kq with
    | zero => exact absurd HA.out (by simp [tiklaw23_first.j0])
    | succ kj1 =>
      have H := HA.out
      clear HA
      simp only [tiklaw23_first.j0] at H
      by_cases c15 : x19_1 = true
      · subst c15
        have H1 : (some false) = some r := by rw [if_pos rfl] at H; exact H
        clear H
        have H := H1
        clear H1
        obtain rfl := Option.some.inj H
        go_wp2
        go_ret
        exact ⟨by first | rfl | (simp [errW_none, errW_some] <;> rfl) | (simp [*, errW_none, errW_some] <;> rfl), by repeat (first | (with_reducible first | exact HB.out | apply below_alloc | apply pw_below_drewN | apply below_drew1 | refine below_set ?_ (IsS100.ge HI111.out)) | exact HB.out)⟩
      · replace c15 := Bool.eq_false_iff.mpr c15
        subst c15
        have H1 : ((deck_Deck_Mode.f x112000_1 x112001_1 x112002_1 x112003_1 x112004_1 x112005_1 x112006_1 x112007_1 x112008_1 x112009_1).bind fun bt145 => (if bt145.1 = 1 then ((deck_Deck_Pos.f bt145.2.1 bt145.2.2.1 bt145.2.2.2.1 bt145.2.2.2.2.1 bt145.2.2.2.2.2.1 bt145.2.2.2.2.2.2.1 bt145.2.2.2.2.2.2.2.1 bt145.2.2.2.2.2.2.2.2.1 bt145.2.2.2.2.2.2.2.2.2.1 bt145.2.2.2.2.2.2.2.2.2.2).bind fun bt156 => (if bt156.1 = 9 then ((deck_Deck_Seek.f bt156.2.1 bt156.2.2.1 bt156.2.2.2.1 bt156.2.2.2.2.1 bt156.2.2.2.2.2.1 bt156.2.2.2.2.2.2.1 bt156.2.2.2.2.2.2.2.1 bt156.2.2.2.2.2.2.2.2.1 bt156.2.2.2.2.2.2.2.2.2.1 bt156.2.2.2.2.2.2.2.2.2.2 5 2 9 1).bind fun bt167 => (if bt167.1 = 12 then ((rate_From.f 9221120237041090560).bind fun t178 => ((deck_Deck_Speed.f kj1 bt167.2.1 bt167.2.2.1 bt167.2.2.2.1 bt167.2.2.2.2.1 bt167.2.2.2.2.2.1 bt167.2.2.2.2.2.2.1 bt167.2.2.2.2.2.2.2.1 bt167.2.2.2.2.2.2.2.2.1 bt167.2.2.2.2.2.2.2.2.2.1 bt167.2.2.2.2.2.2.2.2.2.2 5 t178).bind fun bt179 => (if bt179.1 = 10 then ((deck_Deck_Rate.f bt179.2.1 bt179.2.2.1 bt179.2.2.2.1 bt179.2.2.2.2.1 bt179.2.2.2.2.2.1 bt179.2.2.2.2.2.2.1 bt179.2.2.2.2.2.2.2.1 bt179.2.2.2.2.2.2.2.2.1 bt179.2.2.2.2.2.2.2.2.2.1 bt179.2.2.2.2.2.2.2.2.2.2).bind fun bt190 => (some (bt190.1 == 1 && (bt190.2.1 == 1)))) else (some false)))) else (some false))) else (some false))) else (some false))) = some r := by rw [if_neg (show ¬ (false = true) by decide)] at H; exact H
        clear H
        have H := H1
        clear H1
        replace H := Option.bind_eq_some_iff.mp H
        obtain ⟨⟨t145, t146, t147, t148, t149, t150, t151, t152, t153, t154, t155⟩, A160, H⟩ := H
        replace H : (if t145 = 1 then ((deck_Deck_Pos.f t146 t147 t148 t149 t150 t151 t152 t153 t154 t155).bind fun bt156 => (if bt156.1 = 9 then ((deck_Deck_Seek.f bt156.2.1 bt156.2.2.1 bt156.2.2.2.1 bt156.2.2.2.2.1 bt156.2.2.2.2.2.1 bt156.2.2.2.2.2.2.1 bt156.2.2.2.2.2.2.2.1 bt156.2.2.2.2.2.2.2.2.1 bt156.2.2.2.2.2.2.2.2.2.1 bt156.2.2.2.2.2.2.2.2.2.2 5 2 9 1).bind fun bt167 => (if bt167.1 = 12 then ((rate_From.f 9221120237041090560).bind fun t178 => ((deck_Deck_Speed.f kj1 bt167.2.1 bt167.2.2.1 bt167.2.2.2.1 bt167.2.2.2.2.1 bt167.2.2.2.2.2.1 bt167.2.2.2.2.2.2.1 bt167.2.2.2.2.2.2.2.1 bt167.2.2.2.2.2.2.2.2.1 bt167.2.2.2.2.2.2.2.2.2.1 bt167.2.2.2.2.2.2.2.2.2.2 5 t178).bind fun bt179 => (if bt179.1 = 10 then ((deck_Deck_Rate.f bt179.2.1 bt179.2.2.1 bt179.2.2.2.1 bt179.2.2.2.2.1 bt179.2.2.2.2.2.1 bt179.2.2.2.2.2.2.1 bt179.2.2.2.2.2.2.2.1 bt179.2.2.2.2.2.2.2.2.1 bt179.2.2.2.2.2.2.2.2.2.1 bt179.2.2.2.2.2.2.2.2.2.2).bind fun bt190 => (some (bt190.1 == 1 && (bt190.2.1 == 1)))) else (some false)))) else (some false))) else (some false))) else (some false)) = some r := H
        have A16 := Aside0.mk A160
        clear A160
        by_cases c17 : t145 = 1
        · rw [if_pos c17] at H
          have c17b0 : (t145 == 1) = true := beq_iff_eq.mpr c17
          have c17b1 : (t145 != 1) = false := bne_eq_false_iff_eq.mpr c17
          clear c17
          replace H := Option.bind_eq_some_iff.mp H
          obtain ⟨⟨t156, t157, t158, t159, t160, t161, t162, t163, t164, t165, t166⟩, A180, H⟩ := H
          replace H : (if t156 = 9 then ((deck_Deck_Seek.f t157 t158 t159 t160 t161 t162 t163 t164 t165 t166 5 2 9 1).bind fun bt167 => (if bt167.1 = 12 then ((rate_From.f 9221120237041090560).bind fun t178 => ((deck_Deck_Speed.f kj1 bt167.2.1 bt167.2.2.1 bt167.2.2.2.1 bt167.2.2.2.2.1 bt167.2.2.2.2.2.1 bt167.2.2.2.2.2.2.1 bt167.2.2.2.2.2.2.2.1 bt167.2.2.2.2.2.2.2.2.1 bt167.2.2.2.2.2.2.2.2.2.1 bt167.2.2.2.2.2.2.2.2.2.2 5 t178).bind fun bt179 => (if bt179.1 = 10 then ((deck_Deck_Rate.f bt179.2.1 bt179.2.2.1 bt179.2.2.2.1 bt179.2.2.2.2.1 bt179.2.2.2.2.2.1 bt179.2.2.2.2.2.2.1 bt179.2.2.2.2.2.2.2.1 bt179.2.2.2.2.2.2.2.2.1 bt179.2.2.2.2.2.2.2.2.2.1 bt179.2.2.2.2.2.2.2.2.2.2).bind fun bt190 => (some (bt190.1 == 1 && (bt190.2.1 == 1)))) else (some false)))) else (some false))) else (some false)) = some r := H
          have A18 := Aside0.mk A180
          clear A180
          by_cases c19 : t156 = 9
          · rw [if_pos c19] at H
            have c19b0 : (t156 == 9) = true := beq_iff_eq.mpr c19
            have c19b1 : (t156 != 9) = false := bne_eq_false_iff_eq.mpr c19
            clear c19
            replace H := Option.bind_eq_some_iff.mp H
            obtain ⟨⟨t167, t168, t169, t170, t171, t172, t173, t174, t175, t176, t177⟩, A200, H⟩ := H
            replace H : (if t167 = 12 then ((rate_From.f 9221120237041090560).bind fun t178 => ((deck_Deck_Speed.f kj1 t168 t169 t170 t171 t172 t173 t174 t175 t176 t177 5 t178).bind fun bt179 => (if bt179.1 = 10 then ((deck_Deck_Rate.f bt179.2.1 bt179.2.2.1 bt179.2.2.2.1 bt179.2.2.2.2.1 bt179.2.2.2.2.2.1 bt179.2.2.2.2.2.2.1 bt179.2.2.2.2.2.2.2.1 bt179.2.2.2.2.2.2.2.2.1 bt179.2.2.2.2.2.2.2.2.2.1 bt179.2.2.2.2.2.2.2.2.2.2).bind fun bt190 => (some (bt190.1 == 1 && (bt190.2.1 == 1)))) else (some false)))) else (some false)) = some r := H
            have A20 := Aside0.mk A200
            clear A200
            by_cases c21 : t167 = 12
            · rw [if_pos c21] at H
              have c21b0 : (t167 == 12) = true := beq_iff_eq.mpr c21
              have c21b1 : (t167 != 12) = false := bne_eq_false_iff_eq.mpr c21
              clear c21
              replace H := Option.bind_eq_some_iff.mp H
              obtain ⟨t178, A220, H⟩ := H
              replace H : ((deck_Deck_Speed.f kj1 t168 t169 t170 t171 t172 t173 t174 t175 t176 t177 5 t178).bind fun bt179 => (if bt179.1 = 10 then ((deck_Deck_Rate.f bt179.2.1 bt179.2.2.1 bt179.2.2.2.1 bt179.2.2.2.2.1 bt179.2.2.2.2.2.1 bt179.2.2.2.2.2.2.1 bt179.2.2.2.2.2.2.2.1 bt179.2.2.2.2.2.2.2.2.1 bt179.2.2.2.2.2.2.2.2.2.1 bt179.2.2.2.2.2.2.2.2.2.2).bind fun bt190 => (some (bt190.1 == 1 && (bt190.2.1 == 1)))) else (some false))) = some r := H
              have A22 := Aside0.mk A220
              clear A220
              replace H := Option.bind_eq_some_iff.mp H
              obtain ⟨⟨t179, t180, t181, t182, t183, t184, t185, t186, t187, t188, t189⟩, A230, H⟩ := H
              replace H : (if t179 = 10 then ((deck_Deck_Rate.f t180 t181 t182 t183 t184 t185 t186 t187 t188 t189).bind fun bt190 => (some (bt190.1 == 1 && (bt190.2.1 == 1)))) else (some false)) = some r := H
              have A23 := Aside0.mk A230
              clear A230
              by_cases c24 : t179 = 10
              · rw [if_pos c24] at H
                have c24b0 : (t179 == 10) = true := beq_iff_eq.mpr c24
                have c24b1 : (t179 != 10) = false := bne_eq_false_iff_eq.mpr c24
                clear c24
                replace H := Option.bind_eq_some_iff.mp H
                obtain ⟨⟨t190, t191, t192, t193, t194, t195, t196, t197, t198, t199, t200, t201⟩, A250, H⟩ := H
                replace H : (some (t190 == 1 && (t191 == 1))) = some r := H
                have A25 := Aside0.mk A250
                clear A250
                obtain rfl := Option.some.inj H
                go_wp2_with (first | ((with_reducible refine gate_callee (f := 18) rfl ?_); refine goesL_ (some 21) rfl rfl Tryd.func18 (by kernel_rfl) rfl #[.pointer (some ⟨g111, 0, none⟩)] rfl (by (try simp only [List.map_toArray, List.map_cons, List.map_nil]); first | done | rfl | (simp only [List.length_drop, List.length_take]; rfl)) ?_; (with_reducible refine (deck_Deck_Mode.calls g111 x112000_1 x112001_1 x112002_1 x112003_1 x112004_1 x112005_1 x112006_1 x112007_1 x112008_1 x112009_1 t145 t146 t147 t148 t149 t150 t151 t152 t153 t154 t155 w _ ?side1 ?side2 A16.out).mono ?_); (case side1 => repeat (first | (with_reducible first | exact HI111.out | apply IsS100.alloc | apply IsS100.drewN | apply IsS100.drew | apply IsS100.set_0 | apply IsS100.set_1 | apply IsS100.set_2 | apply IsS100.set_3 | apply IsS100.set_4 | apply IsS100.set_5 | apply IsS100.set_6 | apply IsS100.set_7 | apply IsS100.set_8 | apply IsS100.set_9) | exact HI111.out)); (case side2 => repeat (first | (with_reducible first | exact HB.out | apply below_alloc | apply pw_below_drewN | apply below_drew1 | refine below_set ?_ (IsS100.ge HI111.out)) | exact HB.out)); rintro e w26 ⟨rfl, hi, hb, hk⟩; refine ⟨_, rfl, ?_⟩; have n0_ := Aside0.mk (hb); have n1_ := Aside0.mk (hi); clear HB; clear HI111; have HB := n0_; have HI111 := n1_; clear n0_ n1_; (try clear hb); (try clear hb2); (try clear hk); (try clear hi)) | (go_at_call 19; (with_reducible refine (deck_Deck_Pos.calls g111 t146 t147 t148 t149 t150 t151 t152 t153 t154 t155 t156 t157 t158 t159 t160 t161 t162 t163 t164 t165 t166 w _ ?side1 ?side2 A18.out).mono ?_); (case side1 => repeat (first | (with_reducible first | exact HI111.out | apply IsS100.alloc | apply IsS100.drewN | apply IsS100.drew | apply IsS100.set_0 | apply IsS100.set_1 | apply IsS100.set_2 | apply IsS100.set_3 | apply IsS100.set_4 | apply IsS100.set_5 | apply IsS100.set_6 | apply IsS100.set_7 | apply IsS100.set_8 | apply IsS100.set_9) | exact HI111.out)); (case side2 => repeat (first | (with_reducible first | exact HB.out | apply below_alloc | apply pw_below_drewN | apply below_drew1 | refine below_set ?_ (IsS100.ge HI111.out)) | exact HB.out)); rintro e w27 ⟨rfl, hi, hb, hk⟩; have n0_ := Aside0.mk (hb); have n1_ := Aside0.mk (hi); clear HB; clear HI111; have HB := n0_; have HI111 := n1_; clear n0_ n1_; (try clear hb); (try clear hb2); (try clear hk); (try clear hi)) | (go_at_call 23; (with_reducible refine (deck_Deck_Seek.calls g111 t157 t158 t159 t160 t161 t162 t163 t164 t165 t166 5 2 9 1 t167 t168 t169 t170 t171 t172 t173 t174 t175 t176 t177 w _ ?side1 ?side2 A20.out).mono ?_); (case side1 => repeat (first | (with_reducible first | exact HI111.out | apply IsS100.alloc | apply IsS100.drewN | apply IsS100.drew | apply IsS100.set_0 | apply IsS100.set_1 | apply IsS100.set_2 | apply IsS100.set_3 | apply IsS100.set_4 | apply IsS100.set_5 | apply IsS100.set_6 | apply IsS100.set_7 | apply IsS100.set_8 | apply IsS100.set_9) | exact HI111.out)); (case side2 => repeat (first | (with_reducible first | exact HB.out | apply below_alloc | apply pw_below_drewN | apply below_drew1 | refine below_set ?_ (IsS100.ge HI111.out)) | exact HB.out)); rintro e w28 ⟨rfl, hi, hb, hk⟩; have n0_ := Aside0.mk (hb); have n1_ := Aside0.mk (hi); clear HB; clear HI111; have HB := n0_; have HI111 := n1_; clear n0_ n1_; (try clear hb); (try clear hb2); (try clear hk); (try clear hi)) | (go_at_call 44; (with_reducible refine (rate_From.calls 9221120237041090560 t178 _ A22.out).mono ?_); rintro e w29 ⟨rfl, hb⟩; have n0_ := Aside0.mk (IsS100.below (by repeat (first | (with_reducible first | exact HI111.out | apply IsS100.alloc | apply IsS100.drewN | apply IsS100.drew | apply IsS100.set_0 | apply IsS100.set_1 | apply IsS100.set_2 | apply IsS100.set_3 | apply IsS100.set_4 | apply IsS100.set_5 | apply IsS100.set_6 | apply IsS100.set_7 | apply IsS100.set_8 | apply IsS100.set_9) | exact HI111.out)) hb); have n1_ := Aside0.mk (below_step (by repeat (first | (with_reducible first | exact HB.out | apply below_alloc | apply pw_below_drewN | apply below_drew1 | refine below_set ?_ (IsS100.ge HI111.out)) | exact HB.out)) hb); clear HI111; clear HB; have HI111 := n0_; have HB := n1_; clear n0_ n1_; (try clear hb); (try clear hb2); (try clear hk); (try clear hi)) | (go_at_call 21; (with_reducible refine (deck_Deck_Speed.calls kj1 g111 t168 t169 t170 t171 t172 t173 t174 t175 t176 t177 5 t178 t179 t180 t181 t182 t183 t184 t185 t186 t187 t188 t189 w _ ?side1 ?side2 ?side3 A23.out).mono ?_); (case side1 => repeat (first | (with_reducible first | exact HI111.out | apply IsS100.alloc | apply IsS100.drewN | apply IsS100.drew | apply IsS100.set_0 | apply IsS100.set_1 | apply IsS100.set_2 | apply IsS100.set_3 | apply IsS100.set_4 | apply IsS100.set_5 | apply IsS100.set_6 | apply IsS100.set_7 | apply IsS100.set_8 | apply IsS100.set_9) | exact HI111.out)); (case side2 => repeat (first | (with_reducible first | exact HB.out | apply below_alloc | apply pw_below_drewN | apply below_drew1 | refine below_set ?_ (IsS100.ge HI111.out)) | exact HB.out)); (case side3 => first | (with_reducible exact HT.out) | exact tabAt HT.out (by repeat (first | (with_reducible first | exact HB.out | apply below_alloc | apply pw_below_drewN | apply below_drew1 | refine below_set ?_ (IsS100.ge HI111.out)) | exact HB.out))); rintro e w30 ⟨rfl, hi, hb, hk⟩; have n0_ := Aside0.mk (hb); have n1_ := Aside0.mk (hi); clear HB; clear HI111; have HB := n0_; have HI111 := n1_; clear n0_ n1_; (try clear hb); (try clear hb2); (try clear hk); (try clear hi)) | (go_at_call 15; (with_reducible refine (deck_Deck_Rate.calls g111 t180 t181 t182 t183 t184 t185 t186 t187 t188 t189 t190 t191 t192 t193 t194 t195 t196 t197 t198 t199 t200 t201 w _ ?side1 ?side2 A25.out).mono ?_); (case side1 => repeat (first | (with_reducible first | exact HI111.out | apply IsS100.alloc | apply IsS100.drewN | apply IsS100.drew | apply IsS100.set_0 | apply IsS100.set_1 | apply IsS100.set_2 | apply IsS100.set_3 | apply IsS100.set_4 | apply IsS100.set_5 | apply IsS100.set_6 | apply IsS100.set_7 | apply IsS100.set_8 | apply IsS100.set_9) | exact HI111.out)); (case side2 => repeat (first | (with_reducible first | exact HB.out | apply below_alloc | apply pw_below_drewN | apply below_drew1 | refine below_set ?_ (IsS100.ge HI111.out)) | exact HB.out)); rintro e w31 ⟨rfl, hi, hb, hk⟩; have n0_ := Aside0.mk (hb); have n1_ := Aside0.mk (hi); clear HB; clear HI111; have HB := n0_; have HI111 := n1_; clear n0_ n1_; (try clear hb); (try clear hb2); (try clear hk); (try clear hi)))
                go_ret
                exact ⟨by first | rfl | (simp [errW_none, errW_some] <;> rfl) | (simp [*, errW_none, errW_some] <;> rfl), by repeat (first | (with_reducible first | exact HB.out | apply below_alloc | apply pw_below_drewN | apply below_drew1 | refine below_set ?_ (IsS100.ge HI111.out)) | exact HB.out)⟩
              · rw [if_neg c24] at H
                have c24b0 : (t179 == 10) = false := beq_eq_false_iff_ne.mpr c24
                have c24b1 : (t179 != 10) = true := bne_iff_ne.mpr c24
                obtain rfl := Option.some.inj H
                go_wp2_with (first | ((with_reducible refine gate_callee (f := 18) rfl ?_); refine goesL_ (some 21) rfl rfl Tryd.func18 (by kernel_rfl) rfl #[.pointer (some ⟨g111, 0, none⟩)] rfl (by (try simp only [List.map_toArray, List.map_cons, List.map_nil]); first | done | rfl | (simp only [List.length_drop, List.length_take]; rfl)) ?_; (with_reducible refine (deck_Deck_Mode.calls g111 x112000_1 x112001_1 x112002_1 x112003_1 x112004_1 x112005_1 x112006_1 x112007_1 x112008_1 x112009_1 t145 t146 t147 t148 t149 t150 t151 t152 t153 t154 t155 w _ ?side1 ?side2 A16.out).mono ?_); (case side1 => repeat (first | (with_reducible first | exact HI111.out | apply IsS100.alloc | apply IsS100.drewN | apply IsS100.drew | apply IsS100.set_0 | apply IsS100.set_1 | apply IsS100.set_2 | apply IsS100.set_3 | apply IsS100.set_4 | apply IsS100.set_5 | apply IsS100.set_6 | apply IsS100.set_7 | apply IsS100.set_8 | apply IsS100.set_9) | exact HI111.out)); (case side2 => repeat (first | (with_reducible first | exact HB.out | apply below_alloc | apply pw_below_drewN | apply below_drew1 | refine below_set ?_ (IsS100.ge HI111.out)) | exact HB.out)); rintro e w32 ⟨rfl, hi, hb, hk⟩; refine ⟨_, rfl, ?_⟩; have n0_ := Aside0.mk (hb); have n1_ := Aside0.mk (hi); clear HB; clear HI111; have HB := n0_; have HI111 := n1_; clear n0_ n1_; (try clear hb); (try clear hb2); (try clear hk); (try clear hi)) | (go_at_call 19; (with_reducible refine (deck_Deck_Pos.calls g111 t146 t147 t148 t149 t150 t151 t152 t153 t154 t155 t156 t157 t158 t159 t160 t161 t162 t163 t164 t165 t166 w _ ?side1 ?side2 A18.out).mono ?_); (case side1 => repeat (first | (with_reducible first | exact HI111.out | apply IsS100.alloc | apply IsS100.drewN | apply IsS100.drew | apply IsS100.set_0 | apply IsS100.set_1 | apply IsS100.set_2 | apply IsS100.set_3 | apply IsS100.set_4 | apply IsS100.set_5 | apply IsS100.set_6 | apply IsS100.set_7 | apply IsS100.set_8 | apply IsS100.set_9) | exact HI111.out)); (case side2 => repeat (first | (with_reducible first | exact HB.out | apply below_alloc | apply pw_below_drewN | apply below_drew1 | refine below_set ?_ (IsS100.ge HI111.out)) | exact HB.out)); rintro e w33 ⟨rfl, hi, hb, hk⟩; have n0_ := Aside0.mk (hb); have n1_ := Aside0.mk (hi); clear HB; clear HI111; have HB := n0_; have HI111 := n1_; clear n0_ n1_; (try clear hb); (try clear hb2); (try clear hk); (try clear hi)) | (go_at_call 23; (with_reducible refine (deck_Deck_Seek.calls g111 t157 t158 t159 t160 t161 t162 t163 t164 t165 t166 5 2 9 1 t167 t168 t169 t170 t171 t172 t173 t174 t175 t176 t177 w _ ?side1 ?side2 A20.out).mono ?_); (case side1 => repeat (first | (with_reducible first | exact HI111.out | apply IsS100.alloc | apply IsS100.drewN | apply IsS100.drew | apply IsS100.set_0 | apply IsS100.set_1 | apply IsS100.set_2 | apply IsS100.set_3 | apply IsS100.set_4 | apply IsS100.set_5 | apply IsS100.set_6 | apply IsS100.set_7 | apply IsS100.set_8 | apply IsS100.set_9) | exact HI111.out)); (case side2 => repeat (first | (with_reducible first | exact HB.out | apply below_alloc | apply pw_below_drewN | apply below_drew1 | refine below_set ?_ (IsS100.ge HI111.out)) | exact HB.out)); rintro e w34 ⟨rfl, hi, hb, hk⟩; have n0_ := Aside0.mk (hb); have n1_ := Aside0.mk (hi); clear HB; clear HI111; have HB := n0_; have HI111 := n1_; clear n0_ n1_; (try clear hb); (try clear hb2); (try clear hk); (try clear hi)) | (go_at_call 44; (with_reducible refine (rate_From.calls 9221120237041090560 t178 _ A22.out).mono ?_); rintro e w35 ⟨rfl, hb⟩; have n0_ := Aside0.mk (IsS100.below (by repeat (first | (with_reducible first | exact HI111.out | apply IsS100.alloc | apply IsS100.drewN | apply IsS100.drew | apply IsS100.set_0 | apply IsS100.set_1 | apply IsS100.set_2 | apply IsS100.set_3 | apply IsS100.set_4 | apply IsS100.set_5 | apply IsS100.set_6 | apply IsS100.set_7 | apply IsS100.set_8 | apply IsS100.set_9) | exact HI111.out)) hb); have n1_ := Aside0.mk (below_step (by repeat (first | (with_reducible first | exact HB.out | apply below_alloc | apply pw_below_drewN | apply below_drew1 | refine below_set ?_ (IsS100.ge HI111.out)) | exact HB.out)) hb); clear HI111; clear HB; have HI111 := n0_; have HB := n1_; clear n0_ n1_; (try clear hb); (try clear hb2); (try clear hk); (try clear hi)) | (go_at_call 21; (with_reducible refine (deck_Deck_Speed.calls kj1 g111 t168 t169 t170 t171 t172 t173 t174 t175 t176 t177 5 t178 t179 t180 t181 t182 t183 t184 t185 t186 t187 t188 t189 w _ ?side1 ?side2 ?side3 A23.out).mono ?_); (case side1 => repeat (first | (with_reducible first | exact HI111.out | apply IsS100.alloc | apply IsS100.drewN | apply IsS100.drew | apply IsS100.set_0 | apply IsS100.set_1 | apply IsS100.set_2 | apply IsS100.set_3 | apply IsS100.set_4 | apply IsS100.set_5 | apply IsS100.set_6 | apply IsS100.set_7 | apply IsS100.set_8 | apply IsS100.set_9) | exact HI111.out)); (case side2 => repeat (first | (with_reducible first | exact HB.out | apply below_alloc | apply pw_below_drewN | apply below_drew1 | refine below_set ?_ (IsS100.ge HI111.out)) | exact HB.out)); (case side3 => first | (with_reducible exact HT.out) | exact tabAt HT.out (by repeat (first | (with_reducible first | exact HB.out | apply below_alloc | apply pw_below_drewN | apply below_drew1 | refine below_set ?_ (IsS100.ge HI111.out)) | exact HB.out))); rintro e w36 ⟨rfl, hi, hb, hk⟩; have n0_ := Aside0.mk (hb); have n1_ := Aside0.mk (hi); clear HB; clear HI111; have HB := n0_; have HI111 := n1_; clear n0_ n1_; (try clear hb); (try clear hb2); (try clear hk); (try clear hi)))
                go_ret
                exact ⟨by first | rfl | (simp [errW_none, errW_some] <;> rfl) | (simp [*, errW_none, errW_some] <;> rfl), by repeat (first | (with_reducible first | exact HB.out | apply below_alloc | apply pw_below_drewN | apply below_drew1 | refine below_set ?_ (IsS100.ge HI111.out)) | exact HB.out)⟩
            · rw [if_neg c21] at H
              have c21b0 : (t167 == 12) = false := beq_eq_false_iff_ne.mpr c21
              have c21b1 : (t167 != 12) = true := bne_iff_ne.mpr c21
              obtain rfl := Option.some.inj H
              go_wp2_with (first | ((with_reducible refine gate_callee (f := 18) rfl ?_); refine goesL_ (some 21) rfl rfl Tryd.func18 (by kernel_rfl) rfl #[.pointer (some ⟨g111, 0, none⟩)] rfl (by (try simp only [List.map_toArray, List.map_cons, List.map_nil]); first | done | rfl | (simp only [List.length_drop, List.length_take]; rfl)) ?_; (with_reducible refine (deck_Deck_Mode.calls g111 x112000_1 x112001_1 x112002_1 x112003_1 x112004_1 x112005_1 x112006_1 x112007_1 x112008_1 x112009_1 t145 t146 t147 t148 t149 t150 t151 t152 t153 t154 t155 w _ ?side1 ?side2 A16.out).mono ?_); (case side1 => repeat (first | (with_reducible first | exact HI111.out | apply IsS100.alloc | apply IsS100.drewN | apply IsS100.drew | apply IsS100.set_0 | apply IsS100.set_1 | apply IsS100.set_2 | apply IsS100.set_3 | apply IsS100.set_4 | apply IsS100.set_5 | apply IsS100.set_6 | apply IsS100.set_7 | apply IsS100.set_8 | apply IsS100.set_9) | exact HI111.out)); (case side2 => repeat (first | (with_reducible first | exact HB.out | apply below_alloc | apply pw_below_drewN | apply below_drew1 | refine below_set ?_ (IsS100.ge HI111.out)) | exact HB.out)); rintro e w37 ⟨rfl, hi, hb, hk⟩; refine ⟨_, rfl, ?_⟩; have n0_ := Aside0.mk (hb); have n1_ := Aside0.mk (hi); clear HB; clear HI111; have HB := n0_; have HI111 := n1_; clear n0_ n1_; (try clear hb); (try clear hb2); (try clear hk); (try clear hi)) | (go_at_call 19; (with_reducible refine (deck_Deck_Pos.calls g111 t146 t147 t148 t149 t150 t151 t152 t153 t154 t155 t156 t157 t158 t159 t160 t161 t162 t163 t164 t165 t166 w _ ?side1 ?side2 A18.out).mono ?_); (case side1 => repeat (first | (with_reducible first | exact HI111.out | apply IsS100.alloc | apply IsS100.drewN | apply IsS100.drew | apply IsS100.set_0 | apply IsS100.set_1 | apply IsS100.set_2 | apply IsS100.set_3 | apply IsS100.set_4 | apply IsS100.set_5 | apply IsS100.set_6 | apply IsS100.set_7 | apply IsS100.set_8 | apply IsS100.set_9) | exact HI111.out)); (case side2 => repeat (first | (with_reducible first | exact HB.out | apply below_alloc | apply pw_below_drewN | apply below_drew1 | refine below_set ?_ (IsS100.ge HI111.out)) | exact HB.out)); rintro e w38 ⟨rfl, hi, hb, hk⟩; have n0_ := Aside0.mk (hb); have n1_ := Aside0.mk (hi); clear HB; clear HI111; have HB := n0_; have HI111 := n1_; clear n0_ n1_; (try clear hb); (try clear hb2); (try clear hk); (try clear hi)) | (go_at_call 23; (with_reducible refine (deck_Deck_Seek.calls g111 t157 t158 t159 t160 t161 t162 t163 t164 t165 t166 5 2 9 1 t167 t168 t169 t170 t171 t172 t173 t174 t175 t176 t177 w _ ?side1 ?side2 A20.out).mono ?_); (case side1 => repeat (first | (with_reducible first | exact HI111.out | apply IsS100.alloc | apply IsS100.drewN | apply IsS100.drew | apply IsS100.set_0 | apply IsS100.set_1 | apply IsS100.set_2 | apply IsS100.set_3 | apply IsS100.set_4 | apply IsS100.set_5 | apply IsS100.set_6 | apply IsS100.set_7 | apply IsS100.set_8 | apply IsS100.set_9) | exact HI111.out)); (case side2 => repeat (first | (with_reducible first | exact HB.out | apply below_alloc | apply pw_below_drewN | apply below_drew1 | refine below_set ?_ (IsS100.ge HI111.out)) | exact HB.out)); rintro e w39 ⟨rfl, hi, hb, hk⟩; have n0_ := Aside0.mk (hb); have n1_ := Aside0.mk (hi); clear HB; clear HI111; have HB := n0_; have HI111 := n1_; clear n0_ n1_; (try clear hb); (try clear hb2); (try clear hk); (try clear hi)))
              go_ret
              exact ⟨by first | rfl | (simp [errW_none, errW_some] <;> rfl) | (simp [*, errW_none, errW_some] <;> rfl), by repeat (first | (with_reducible first | exact HB.out | apply below_alloc | apply pw_below_drewN | apply below_drew1 | refine below_set ?_ (IsS100.ge HI111.out)) | exact HB.out)⟩
          · rw [if_neg c19] at H
            have c19b0 : (t156 == 9) = false := beq_eq_false_iff_ne.mpr c19
            have c19b1 : (t156 != 9) = true := bne_iff_ne.mpr c19
            obtain rfl := Option.some.inj H
            go_wp2_with (first | ((with_reducible refine gate_callee (f := 18) rfl ?_); refine goesL_ (some 21) rfl rfl Tryd.func18 (by kernel_rfl) rfl #[.pointer (some ⟨g111, 0, none⟩)] rfl (by (try simp only [List.map_toArray, List.map_cons, List.map_nil]); first | done | rfl | (simp only [List.length_drop, List.length_take]; rfl)) ?_; (with_reducible refine (deck_Deck_Mode.calls g111 x112000_1 x112001_1 x112002_1 x112003_1 x112004_1 x112005_1 x112006_1 x112007_1 x112008_1 x112009_1 t145 t146 t147 t148 t149 t150 t151 t152 t153 t154 t155 w _ ?side1 ?side2 A16.out).mono ?_); (case side1 => repeat (first | (with_reducible first | exact HI111.out | apply IsS100.alloc | apply IsS100.drewN | apply IsS100.drew | apply IsS100.set_0 | apply IsS100.set_1 | apply IsS100.set_2 | apply IsS100.set_3 | apply IsS100.set_4 | apply IsS100.set_5 | apply IsS100.set_6 | apply IsS100.set_7 | apply IsS100.set_8 | apply IsS100.set_9) | exact HI111.out)); (case side2 => repeat (first | (with_reducible first | exact HB.out | apply below_alloc | apply pw_below_drewN | apply below_drew1 | refine below_set ?_ (IsS100.ge HI111.out)) | exact HB.out)); rintro e w40 ⟨rfl, hi, hb, hk⟩; refine ⟨_, rfl, ?_⟩; have n0_ := Aside0.mk (hb); have n1_ := Aside0.mk (hi); clear HB; clear HI111; have HB := n0_; have HI111 := n1_; clear n0_ n1_; (try clear hb); (try clear hb2); (try clear hk); (try clear hi)) | (go_at_call 19; (with_reducible refine (deck_Deck_Pos.calls g111 t146 t147 t148 t149 t150 t151 t152 t153 t154 t155 t156 t157 t158 t159 t160 t161 t162 t163 t164 t165 t166 w _ ?side1 ?side2 A18.out).mono ?_); (case side1 => repeat (first | (with_reducible first | exact HI111.out | apply IsS100.alloc | apply IsS100.drewN | apply IsS100.drew | apply IsS100.set_0 | apply IsS100.set_1 | apply IsS100.set_2 | apply IsS100.set_3 | apply IsS100.set_4 | apply IsS100.set_5 | apply IsS100.set_6 | apply IsS100.set_7 | apply IsS100.set_8 | apply IsS100.set_9) | exact HI111.out)); (case side2 => repeat (first | (with_reducible first | exact HB.out | apply below_alloc | apply pw_below_drewN | apply below_drew1 | refine below_set ?_ (IsS100.ge HI111.out)) | exact HB.out)); rintro e w41 ⟨rfl, hi, hb, hk⟩; have n0_ := Aside0.mk (hb); have n1_ := Aside0.mk (hi); clear HB; clear HI111; have HB := n0_; have HI111 := n1_; clear n0_ n1_; (try clear hb); (try clear hb2); (try clear hk); (try clear hi)))
            go_ret
            exact ⟨by first | rfl | (simp [errW_none, errW_some] <;> rfl) | (simp [*, errW_none, errW_some] <;> rfl), by repeat (first | (with_reducible first | exact HB.out | apply below_alloc | apply pw_below_drewN | apply below_drew1 | refine below_set ?_ (IsS100.ge HI111.out)) | exact HB.out)⟩
        · rw [if_neg c17] at H
          have c17b0 : (t145 == 1) = false := beq_eq_false_iff_ne.mpr c17
          have c17b1 : (t145 != 1) = true := bne_iff_ne.mpr c17
          obtain rfl := Option.some.inj H
          go_wp2_with (first | ((with_reducible refine gate_callee (f := 18) rfl ?_); refine goesL_ (some 21) rfl rfl Tryd.func18 (by kernel_rfl) rfl #[.pointer (some ⟨g111, 0, none⟩)] rfl (by (try simp only [List.map_toArray, List.map_cons, List.map_nil]); first | done | rfl | (simp only [List.length_drop, List.length_take]; rfl)) ?_; (with_reducible refine (deck_Deck_Mode.calls g111 x112000_1 x112001_1 x112002_1 x112003_1 x112004_1 x112005_1 x112006_1 x112007_1 x112008_1 x112009_1 t145 t146 t147 t148 t149 t150 t151 t152 t153 t154 t155 w _ ?side1 ?side2 A16.out).mono ?_); (case side1 => repeat (first | (with_reducible first | exact HI111.out | apply IsS100.alloc | apply IsS100.drewN | apply IsS100.drew | apply IsS100.set_0 | apply IsS100.set_1 | apply IsS100.set_2 | apply IsS100.set_3 | apply IsS100.set_4 | apply IsS100.set_5 | apply IsS100.set_6 | apply IsS100.set_7 | apply IsS100.set_8 | apply IsS100.set_9) | exact HI111.out)); (case side2 => repeat (first | (with_reducible first | exact HB.out | apply below_alloc | apply pw_below_drewN | apply below_drew1 | refine below_set ?_ (IsS100.ge HI111.out)) | exact HB.out)); rintro e w42 ⟨rfl, hi, hb, hk⟩; refine ⟨_, rfl, ?_⟩; have n0_ := Aside0.mk (hb); have n1_ := Aside0.mk (hi); clear HB; clear HI111; have HB := n0_; have HI111 := n1_; clear n0_ n1_; (try clear hb); (try clear hb2); (try clear hk); (try clear hi)))
          go_ret
          exact ⟨by first | rfl | (simp [errW_none, errW_some] <;> rfl) | (simp [*, errW_none, errW_some] <;> rfl), by repeat (first | (with_reducible first | exact HB.out | apply below_alloc | apply pw_below_drewN | apply below_drew1 | refine below_set ?_ (IsS100.ge HI111.out)) | exact HB.out)⟩

/-! ### tiklaw23_Does: function 16 -/
def tiklaw23_Does.f (k : Nat) (s0_0 : Int) (s0_1 : Int) (s0_2 : Int) (s0_3 : Int) (s0_4 : Bool) (s0_5 : Int) (s0_6 : Int) (s0_7 : Int) (s0_8 : Int) (s0_9 : Int) (a1_0 : Int) (a1_1 : Int) (a1_2 : Int) (a1_3 : Int) (a1_4 : Int) (a1_5 : Nat) : Option (Int × Int × Int × Int × Int × Bool × Int × Int × Int × Int × Int) := if a1_0 = 0 then ((deck_Deck_Live.f s0_0 s0_1 s0_2 s0_3 s0_4 s0_5 s0_6 s0_7 s0_8 s0_9 a1_1).bind fun bt203 => (some (0, bt203.1, bt203.2.1, bt203.2.2.1, bt203.2.2.2.1, bt203.2.2.2.2.1, bt203.2.2.2.2.2.1, bt203.2.2.2.2.2.2.1, bt203.2.2.2.2.2.2.2.1, bt203.2.2.2.2.2.2.2.2.1, bt203.2.2.2.2.2.2.2.2.2))) else (if a1_0 = 1 then ((deck_Deck_Pause.f s0_0 s0_1 s0_2 s0_3 s0_4 s0_5 s0_6 s0_7 s0_8 s0_9 a1_1 a1_2 a1_3).bind fun bt213 => (some (bt213.1, bt213.2.1, bt213.2.2.1, bt213.2.2.2.1, bt213.2.2.2.2.1, bt213.2.2.2.2.2.1, bt213.2.2.2.2.2.2.1, bt213.2.2.2.2.2.2.2.1, bt213.2.2.2.2.2.2.2.2.1, bt213.2.2.2.2.2.2.2.2.2.1, bt213.2.2.2.2.2.2.2.2.2.2))) else (if a1_0 = 2 then ((deck_Deck_Play.f s0_0 s0_1 s0_2 s0_3 s0_4 s0_5 s0_6 s0_7 s0_8 s0_9 a1_1 a1_2 a1_3).bind fun bt224 => (some (bt224.1, bt224.2.1, bt224.2.2.1, bt224.2.2.2.1, bt224.2.2.2.2.1, bt224.2.2.2.2.2.1, bt224.2.2.2.2.2.2.1, bt224.2.2.2.2.2.2.2.1, bt224.2.2.2.2.2.2.2.2.1, bt224.2.2.2.2.2.2.2.2.2.1, bt224.2.2.2.2.2.2.2.2.2.2))) else (if a1_0 = 3 then ((deck_Deck_Seek.f s0_0 s0_1 s0_2 s0_3 s0_4 s0_5 s0_6 s0_7 s0_8 s0_9 a1_1 a1_2 a1_3 a1_4).bind fun bt235 => (some (bt235.1, bt235.2.1, bt235.2.2.1, bt235.2.2.2.1, bt235.2.2.2.2.1, bt235.2.2.2.2.2.1, bt235.2.2.2.2.2.2.1, bt235.2.2.2.2.2.2.2.1, bt235.2.2.2.2.2.2.2.2.1, bt235.2.2.2.2.2.2.2.2.2.1, bt235.2.2.2.2.2.2.2.2.2.2))) else (if a1_0 = 4 then ((deck_Deck_Speed.f k s0_0 s0_1 s0_2 s0_3 s0_4 s0_5 s0_6 s0_7 s0_8 s0_9 a1_1 a1_5).bind fun bt246 => (some (bt246.1, bt246.2.1, bt246.2.2.1, bt246.2.2.2.1, bt246.2.2.2.2.1, bt246.2.2.2.2.2.1, bt246.2.2.2.2.2.2.1, bt246.2.2.2.2.2.2.2.1, bt246.2.2.2.2.2.2.2.2.1, bt246.2.2.2.2.2.2.2.2.2.1, bt246.2.2.2.2.2.2.2.2.2.2))) else ((deck_Deck_Tick.f s0_0 s0_1 s0_2 s0_3 s0_4 s0_5 s0_6 s0_7 s0_8 s0_9 a1_1 a1_2 a1_3).bind fun bt257 => (some (0, bt257.1, bt257.2.1, bt257.2.2.1, bt257.2.2.2.1, bt257.2.2.2.2.1, bt257.2.2.2.2.2.1, bt257.2.2.2.2.2.2.1, bt257.2.2.2.2.2.2.2.1, bt257.2.2.2.2.2.2.2.2.1, bt257.2.2.2.2.2.2.2.2.2)))))))
theorem tiklaw23_Does.mono : ∀ a0 a1 a2 a3 a4 a5 a6 a7 a8 a9 a10 a11 a12 a13 a14 a15 k, LeO (tiklaw23_Does.f k a0 a1 a2 a3 a4 a5 a6 a7 a8 a9 a10 a11 a12 a13 a14 a15) (tiklaw23_Does.f (k + 1) a0 a1 a2 a3 a4 a5 a6 a7 a8 a9 a10 a11 a12 a13 a14 a15) := by
  intro a0 a1 a2 a3 a4 a5 a6 a7 a8 a9 a10 a11 a12 a13 a14 a15 k
  unfold tiklaw23_Does.f
  repeat' first
      | (with_reducible exact deck_Deck_Speed.mono _ _ _ _ _ _ _ _ _ _ _ _ _)
      | (with_reducible exact LeO.refl _)
      | (with_reducible exact LeO.none _)
      | (with_reducible refine LeO.ite ?_ ?_)
      | (with_reducible refine LeO.bind ?_ (fun _ => ?_))
      | exact deck_Deck_Speed.mono _ _ _ _ _ _ _ _ _ _ _ _ _
      | exact LeO.none _
      | refine LeO.ite ?_ ?_
      | refine LeO.bind ?_ (fun _ => ?_)
set_option maxHeartbeats 8000000 in
set_option maxRecDepth 100000 in
theorem tiklaw23_Does.calls (k : Nat) (g : Nat) (s0_0 : Int) (s0_1 : Int) (s0_2 : Int) (s0_3 : Int) (s0_4 : Bool) (s0_5 : Int) (s0_6 : Int) (s0_7 : Int) (s0_8 : Int) (s0_9 : Int) (a1_0 : Int) (a1_1 : Int) (a1_2 : Int) (a1_3 : Int) (a1_4 : Int) (a1_5 : Nat) (r1 : Int) (r2 : Int) (r3 : Int) (r4 : Int) (r5 : Int) (r6 : Bool) (r7 : Int) (r8 : Int) (r9 : Int) (r10 : Int) (r11 : Int) (w0 w : World) (hI : IsS100 w0 w g s0_0 s0_1 s0_2 s0_3 s0_4 s0_5 s0_6 s0_7 s0_8 s0_9) (hB : Below w0.heap.size w0 w) (hT : TabW w0) (h : tiklaw23_Does.f k s0_0 s0_1 s0_2 s0_3 s0_4 s0_5 s0_6 s0_7 s0_8 s0_9 a1_0 a1_1 a1_2 a1_3 a1_4 a1_5 = some (r1, r2, r3, r4, r5, r6, r7, r8, r9, r10, r11)) :
    Calls Tryd.prog 16 #[.pointer (some ⟨g, 0, none⟩), .agg #[.int .i64 a1_0, .int .u64 a1_1, .int .u64 a1_2, .int .u64 a1_3, .int .u64 a1_4, .float .f64 a1_5]] w fun e w' => e = .returned (.int .i64 r1) ∧ IsS100 w0 w' g r2 r3 r4 r5 r6 r7 r8 r9 r10 r11 ∧ Below w0.heap.size w0 w' ∧ KeepBut w w' g none := by
  have HT := Aside0.mk hT
  clear hT
  have hu36 := Tryd.underlying36
  have HI0 := Aside0.mk hI
  have HK := Aside0.mk (KeepBut.refl w g none)
  have HL := Aside0.mk hB.size
  clear hI
  have HW0 := Aside0.mk hB.size
  have HB := Aside0.mk hB
  clear hB
  have H : (if a1_0 = 0 then ((deck_Deck_Live.f s0_0 s0_1 s0_2 s0_3 s0_4 s0_5 s0_6 s0_7 s0_8 s0_9 a1_1).bind fun bt203 => (some (0, bt203.1, bt203.2.1, bt203.2.2.1, bt203.2.2.2.1, bt203.2.2.2.2.1, bt203.2.2.2.2.2.1, bt203.2.2.2.2.2.2.1, bt203.2.2.2.2.2.2.2.1, bt203.2.2.2.2.2.2.2.2.1, bt203.2.2.2.2.2.2.2.2.2))) else (if a1_0 = 1 then ((deck_Deck_Pause.f s0_0 s0_1 s0_2 s0_3 s0_4 s0_5 s0_6 s0_7 s0_8 s0_9 a1_1 a1_2 a1_3).bind fun bt213 => (some (bt213.1, bt213.2.1, bt213.2.2.1, bt213.2.2.2.1, bt213.2.2.2.2.1, bt213.2.2.2.2.2.1, bt213.2.2.2.2.2.2.1, bt213.2.2.2.2.2.2.2.1, bt213.2.2.2.2.2.2.2.2.1, bt213.2.2.2.2.2.2.2.2.2.1, bt213.2.2.2.2.2.2.2.2.2.2))) else (if a1_0 = 2 then ((deck_Deck_Play.f s0_0 s0_1 s0_2 s0_3 s0_4 s0_5 s0_6 s0_7 s0_8 s0_9 a1_1 a1_2 a1_3).bind fun bt224 => (some (bt224.1, bt224.2.1, bt224.2.2.1, bt224.2.2.2.1, bt224.2.2.2.2.1, bt224.2.2.2.2.2.1, bt224.2.2.2.2.2.2.1, bt224.2.2.2.2.2.2.2.1, bt224.2.2.2.2.2.2.2.2.1, bt224.2.2.2.2.2.2.2.2.2.1, bt224.2.2.2.2.2.2.2.2.2.2))) else (if a1_0 = 3 then ((deck_Deck_Seek.f s0_0 s0_1 s0_2 s0_3 s0_4 s0_5 s0_6 s0_7 s0_8 s0_9 a1_1 a1_2 a1_3 a1_4).bind fun bt235 => (some (bt235.1, bt235.2.1, bt235.2.2.1, bt235.2.2.2.1, bt235.2.2.2.2.1, bt235.2.2.2.2.2.1, bt235.2.2.2.2.2.2.1, bt235.2.2.2.2.2.2.2.1, bt235.2.2.2.2.2.2.2.2.1, bt235.2.2.2.2.2.2.2.2.2.1, bt235.2.2.2.2.2.2.2.2.2.2))) else (if a1_0 = 4 then ((deck_Deck_Speed.f k s0_0 s0_1 s0_2 s0_3 s0_4 s0_5 s0_6 s0_7 s0_8 s0_9 a1_1 a1_5).bind fun bt246 => (some (bt246.1, bt246.2.1, bt246.2.2.1, bt246.2.2.2.1, bt246.2.2.2.2.1, bt246.2.2.2.2.2.1, bt246.2.2.2.2.2.2.1, bt246.2.2.2.2.2.2.2.1, bt246.2.2.2.2.2.2.2.2.1, bt246.2.2.2.2.2.2.2.2.2.1, bt246.2.2.2.2.2.2.2.2.2.2))) else ((deck_Deck_Tick.f s0_0 s0_1 s0_2 s0_3 s0_4 s0_5 s0_6 s0_7 s0_8 s0_9 a1_1 a1_2 a1_3).bind fun bt257 => (some (0, bt257.1, bt257.2.1, bt257.2.2.1, bt257.2.2.2.1, bt257.2.2.2.2.1, bt257.2.2.2.2.2.1, bt257.2.2.2.2.2.2.1, bt257.2.2.2.2.2.2.2.1, bt257.2.2.2.2.2.2.2.2.1, bt257.2.2.2.2.2.2.2.2.2)))))))) = some (r1, r2, r3, r4, r5, r6, r7, r8, r9, r10, r11) := h
  clear h
  by_cases c3 : a1_0 = 0
  · rw [if_pos c3] at H
    have c3b0 : (a1_0 == 0) = true := beq_iff_eq.mpr c3
    have c3b1 : (a1_0 != 0) = false := bne_eq_false_iff_eq.mpr c3
    clear c3
    replace H := Option.bind_eq_some_iff.mp H
    obtain ⟨⟨t203, t204, t205, t206, t207, t208, t209, t210, t211, t212⟩, A40, H⟩ := H
    replace H : (some (0, t203, t204, t205, t206, t207, t208, t209, t210, t211, t212)) = some (r1, r2, r3, r4, r5, r6, r7, r8, r9, r10, r11) := H
    have A4 := Aside0.mk A40
    clear A40
    simp only [Option.some.injEq, Prod.mk.injEq] at H
    obtain ⟨rfl, rfl, rfl, rfl, rfl, rfl, rfl, rfl, rfl, rfl, rfl⟩ := H
    go_enter Tryd.func16, Tryd.ntmps16
    go_wp2_with (first | ((with_reducible refine gate_dst (N := 3) rfl ?_); refine box_event ?hg (N := 3) ?hd (cs := #[.int .i64 a1_0, .int .u64 a1_1, .int .u64 a1_2, .int .u64 a1_3, .int .u64 a1_4, .float .f64 a1_5]) (t := 36) ?hr ?_; (case hd => rfl); (case hg => rfl); (case hr => first | (go_simp; done) | (go_simp; rfl)); intro gb202 hg w5 hbox hb; have n0_ := Aside0.mk (IsS100.below (by repeat (first | (with_reducible first | exact HI0.out | apply IsS100.alloc | apply IsS100.drewN | apply IsS100.drew | apply IsS100.set_0 | apply IsS100.set_1 | apply IsS100.set_2 | apply IsS100.set_3 | apply IsS100.set_4 | apply IsS100.set_5 | apply IsS100.set_6 | apply IsS100.set_7 | apply IsS100.set_8 | apply IsS100.set_9) | exact HI0.out)) hb); have n1_ := Aside0.mk (KeepBut.trans (by repeat (first | (with_reducible first | exact HK.out | apply KeepBut.set_ | apply keep_drewN | apply keep_drew | apply keep_alloc) | exact HK.out)) (KeepBut.of_below hb g none) (.inl rfl)); have n2_ := Aside0.mk (below_step (by repeat (first | (with_reducible first | exact HB.out | apply below_alloc | apply pw_below_drewN | apply below_drew1 | refine below_set ?_ (IsS100.ge HI0.out)) | exact HB.out)) hb); have n3_ := Aside0.mk (hbox); have n4_ := Aside0.mk ((by rw [hg]; exact (keep_size (w := w) (g := g) (row := none) (by repeat (first | (with_reducible first | exact HK.out | apply KeepBut.set_ | apply keep_drewN | apply keep_drew | apply keep_alloc) | exact HK.out))) : w.heap.size ≤ gb202)); have n5_ := Aside0.mk ((Nat.le_trans HW0.out (by rw [hg]; exact (keep_size (w := w) (g := g) (row := none) (by repeat (first | (with_reducible first | exact HK.out | apply KeepBut.set_ | apply keep_drewN | apply keep_drew | apply keep_alloc) | exact HK.out))) : w.heap.size ≤ gb202) : w0.heap.size ≤ gb202)); have n6_ := Aside0.mk ((by rw [hg]; exact Nat.ne_of_lt (IsS100.lt (show IsS100 w0 _ g s0_0 s0_1 s0_2 s0_3 s0_4 s0_5 s0_6 s0_7 s0_8 s0_9 from by repeat (first | (with_reducible first | exact HI0.out | apply IsS100.alloc | apply IsS100.drewN | apply IsS100.drew | apply IsS100.set_0 | apply IsS100.set_1 | apply IsS100.set_2 | apply IsS100.set_3 | apply IsS100.set_4 | apply IsS100.set_5 | apply IsS100.set_6 | apply IsS100.set_7 | apply IsS100.set_8 | apply IsS100.set_9) | exact HI0.out))) : g ≠ gb202)); have n7_ := Aside0.mk ((by rw [hg]; exact Nat.ne_of_gt (IsS100.lt (show IsS100 w0 _ g s0_0 s0_1 s0_2 s0_3 s0_4 s0_5 s0_6 s0_7 s0_8 s0_9 from by repeat (first | (with_reducible first | exact HI0.out | apply IsS100.alloc | apply IsS100.drewN | apply IsS100.drew | apply IsS100.set_0 | apply IsS100.set_1 | apply IsS100.set_2 | apply IsS100.set_3 | apply IsS100.set_4 | apply IsS100.set_5 | apply IsS100.set_6 | apply IsS100.set_7 | apply IsS100.set_8 | apply IsS100.set_9) | exact HI0.out))) : gb202 ≠ g)); clear HI0; clear HK; clear HB; have HI0 := n0_; have HK := n1_; have HB := n2_; have BK202 := n3_; have GW202 := n4_; have GE202 := n5_; have NB0_202 := n6_; have NB202_0 := n7_; clear n0_ n1_ n2_ n3_ n4_ n5_ n6_ n7_; clear hb hbox hg; have hnb6 := NB202_0.out; have hnc6 := NB0_202.out; have hcz7_0 : w5.cell? ⟨gb202, 0, none⟩ = some (.int .i64 a1_0) := (blk_cell BK202.out 0).trans rfl; have hcz7_1 : w5.cell? ⟨gb202, 1, none⟩ = some (.int .u64 a1_1) := (blk_cell BK202.out 1).trans rfl; have hcz7_2 : w5.cell? ⟨gb202, 2, none⟩ = some (.int .u64 a1_2) := (blk_cell BK202.out 2).trans rfl; have hcz7_3 : w5.cell? ⟨gb202, 3, none⟩ = some (.int .u64 a1_3) := (blk_cell BK202.out 3).trans rfl; have hcz7_4 : w5.cell? ⟨gb202, 4, none⟩ = some (.int .u64 a1_4) := (blk_cell BK202.out 4).trans rfl; have hcz7_5 : w5.cell? ⟨gb202, 5, none⟩ = some (.float .f64 a1_5) := (blk_cell BK202.out 5).trans rfl; have hfz7_0 := blk_frozen BK202.out 0; have hfz7_1 := blk_frozen BK202.out 1; have hfz7_2 := blk_frozen BK202.out 2; have hfz7_3 := blk_frozen BK202.out 3; have hfz7_4 := blk_frozen BK202.out 4; have hfz7_5 := blk_frozen BK202.out 5) | ((with_reducible refine gate_callee (f := 28) rfl ?_); refine goesL_ (some 20) rfl rfl Tryd.func28 (by kernel_rfl) rfl #[.pointer (some ⟨g, 0, none⟩), .int .u64 a1_1] rfl (by (try simp only [List.map_toArray, List.map_cons, List.map_nil]); first | done | rfl | (simp only [List.length_drop, List.length_take]; rfl)) ?_; (with_reducible refine (deck_Deck_Live.calls g s0_0 s0_1 s0_2 s0_3 s0_4 s0_5 s0_6 s0_7 s0_8 s0_9 a1_1 t203 t204 t205 t206 t207 t208 t209 t210 t211 t212 w0 _ ?side1 ?side2 A4.out).mono ?_); (case side1 => repeat (first | (with_reducible first | exact HI0.out | apply IsS100.alloc | apply IsS100.drewN | apply IsS100.drew | apply IsS100.set_0 | apply IsS100.set_1 | apply IsS100.set_2 | apply IsS100.set_3 | apply IsS100.set_4 | apply IsS100.set_5 | apply IsS100.set_6 | apply IsS100.set_7 | apply IsS100.set_8 | apply IsS100.set_9 | refine IsS100.far ?_ NB0_202.out _) | exact HI0.out)); (case side2 => repeat (first | (with_reducible first | exact HB.out | apply below_alloc | apply pw_below_drewN | apply below_drew1 | refine below_set ?_ (IsS100.ge HI0.out) | refine below_set ?_ GE202.out) | exact HB.out)); rintro e w8 ⟨rfl, hi, hb, hk⟩; refine ⟨_, rfl, ?_⟩; have n0_ := Aside0.mk (KeepBut.blk hk (g' := gb202) (o := .cells #[.int .i64 a1_0, .int .u64 a1_1, .int .u64 a1_2, .int .u64 a1_3, .int .u64 a1_4, .float .f64 a1_5] 36 (0, 0)) (by (with_reducible repeat (first | refine blk_drewN ?_ _ | refine blk_drew ?_ | refine blk_alloc ?_ _)); exact BK202.out) NB202_0.out (by simp)); have n1_ := Aside0.mk (KeepBut.trans (by repeat (first | (with_reducible first | exact HK.out | apply KeepBut.set_ | apply keep_drewN | apply keep_drew | apply keep_alloc | refine keep_far ?_ GW202.out _) | exact HK.out)) hk (.inl rfl)); have n2_ := Aside0.mk (hb); have n3_ := Aside0.mk (hi); clear BK202; clear HK; clear HB; clear HI0; have BK202 := n0_; have HK := n1_; have HB := n2_; have HI0 := n3_; clear n0_ n1_ n2_ n3_; (try clear hb); (try clear hb2); (try clear hk); (try clear hi)))
    go_ret
    exact ⟨by first | rfl | (simp [errW_none, errW_some] <;> rfl) | (simp [*, errW_none, errW_some] <;> rfl), by repeat (first | (with_reducible first | exact HI0.out | apply IsS100.alloc | apply IsS100.drewN | apply IsS100.drew | apply IsS100.set_0 | apply IsS100.set_1 | apply IsS100.set_2 | apply IsS100.set_3 | apply IsS100.set_4 | apply IsS100.set_5 | apply IsS100.set_6 | apply IsS100.set_7 | apply IsS100.set_8 | apply IsS100.set_9 | refine IsS100.far ?_ NB0_202.out _) | exact HI0.out), by repeat (first | (with_reducible first | exact HB.out | apply below_alloc | apply pw_below_drewN | apply below_drew1 | refine below_set ?_ (IsS100.ge HI0.out) | refine below_set ?_ GE202.out) | exact HB.out), by repeat (first | (with_reducible first | exact HK.out | apply KeepBut.set_ | apply keep_drewN | apply keep_drew | apply keep_alloc | refine keep_far ?_ GW202.out _) | exact HK.out)⟩
  · rw [if_neg c3] at H
    have c3b0 : (a1_0 == 0) = false := beq_eq_false_iff_ne.mpr c3
    have c3b1 : (a1_0 != 0) = true := bne_iff_ne.mpr c3
    by_cases c9 : a1_0 = 1
    · rw [if_pos c9] at H
      have c9b0 : (a1_0 == 1) = true := beq_iff_eq.mpr c9
      have c9b1 : (a1_0 != 1) = false := bne_eq_false_iff_eq.mpr c9
      clear c9
      replace H := Option.bind_eq_some_iff.mp H
      obtain ⟨⟨t213, t214, t215, t216, t217, t218, t219, t220, t221, t222, t223⟩, A100, H⟩ := H
      replace H : (some (t213, t214, t215, t216, t217, t218, t219, t220, t221, t222, t223)) = some (r1, r2, r3, r4, r5, r6, r7, r8, r9, r10, r11) := H
      have A10 := Aside0.mk A100
      clear A100
      simp only [Option.some.injEq, Prod.mk.injEq] at H
      obtain ⟨rfl, rfl, rfl, rfl, rfl, rfl, rfl, rfl, rfl, rfl, rfl⟩ := H
      go_enter Tryd.func16, Tryd.ntmps16
      go_wp2_with (first | ((with_reducible refine gate_dst (N := 3) rfl ?_); refine box_event ?hg (N := 3) ?hd (cs := #[.int .i64 a1_0, .int .u64 a1_1, .int .u64 a1_2, .int .u64 a1_3, .int .u64 a1_4, .float .f64 a1_5]) (t := 36) ?hr ?_; (case hd => rfl); (case hg => rfl); (case hr => first | (go_simp; done) | (go_simp; rfl)); intro gb202 hg w11 hbox hb; have n0_ := Aside0.mk (IsS100.below (by repeat (first | (with_reducible first | exact HI0.out | apply IsS100.alloc | apply IsS100.drewN | apply IsS100.drew | apply IsS100.set_0 | apply IsS100.set_1 | apply IsS100.set_2 | apply IsS100.set_3 | apply IsS100.set_4 | apply IsS100.set_5 | apply IsS100.set_6 | apply IsS100.set_7 | apply IsS100.set_8 | apply IsS100.set_9) | exact HI0.out)) hb); have n1_ := Aside0.mk (KeepBut.trans (by repeat (first | (with_reducible first | exact HK.out | apply KeepBut.set_ | apply keep_drewN | apply keep_drew | apply keep_alloc) | exact HK.out)) (KeepBut.of_below hb g none) (.inl rfl)); have n2_ := Aside0.mk (below_step (by repeat (first | (with_reducible first | exact HB.out | apply below_alloc | apply pw_below_drewN | apply below_drew1 | refine below_set ?_ (IsS100.ge HI0.out)) | exact HB.out)) hb); have n3_ := Aside0.mk (hbox); have n4_ := Aside0.mk ((by rw [hg]; exact (keep_size (w := w) (g := g) (row := none) (by repeat (first | (with_reducible first | exact HK.out | apply KeepBut.set_ | apply keep_drewN | apply keep_drew | apply keep_alloc) | exact HK.out))) : w.heap.size ≤ gb202)); have n5_ := Aside0.mk ((Nat.le_trans HW0.out (by rw [hg]; exact (keep_size (w := w) (g := g) (row := none) (by repeat (first | (with_reducible first | exact HK.out | apply KeepBut.set_ | apply keep_drewN | apply keep_drew | apply keep_alloc) | exact HK.out))) : w.heap.size ≤ gb202) : w0.heap.size ≤ gb202)); have n6_ := Aside0.mk ((by rw [hg]; exact Nat.ne_of_lt (IsS100.lt (show IsS100 w0 _ g s0_0 s0_1 s0_2 s0_3 s0_4 s0_5 s0_6 s0_7 s0_8 s0_9 from by repeat (first | (with_reducible first | exact HI0.out | apply IsS100.alloc | apply IsS100.drewN | apply IsS100.drew | apply IsS100.set_0 | apply IsS100.set_1 | apply IsS100.set_2 | apply IsS100.set_3 | apply IsS100.set_4 | apply IsS100.set_5 | apply IsS100.set_6 | apply IsS100.set_7 | apply IsS100.set_8 | apply IsS100.set_9) | exact HI0.out))) : g ≠ gb202)); have n7_ := Aside0.mk ((by rw [hg]; exact Nat.ne_of_gt (IsS100.lt (show IsS100 w0 _ g s0_0 s0_1 s0_2 s0_3 s0_4 s0_5 s0_6 s0_7 s0_8 s0_9 from by repeat (first | (with_reducible first | exact HI0.out | apply IsS100.alloc | apply IsS100.drewN | apply IsS100.drew | apply IsS100.set_0 | apply IsS100.set_1 | apply IsS100.set_2 | apply IsS100.set_3 | apply IsS100.set_4 | apply IsS100.set_5 | apply IsS100.set_6 | apply IsS100.set_7 | apply IsS100.set_8 | apply IsS100.set_9) | exact HI0.out))) : gb202 ≠ g)); clear HI0; clear HK; clear HB; have HI0 := n0_; have HK := n1_; have HB := n2_; have BK202 := n3_; have GW202 := n4_; have GE202 := n5_; have NB0_202 := n6_; have NB202_0 := n7_; clear n0_ n1_ n2_ n3_ n4_ n5_ n6_ n7_; clear hb hbox hg; have hnb12 := NB202_0.out; have hnc12 := NB0_202.out; have hcz13_0 : w11.cell? ⟨gb202, 0, none⟩ = some (.int .i64 a1_0) := (blk_cell BK202.out 0).trans rfl; have hcz13_1 : w11.cell? ⟨gb202, 1, none⟩ = some (.int .u64 a1_1) := (blk_cell BK202.out 1).trans rfl; have hcz13_2 : w11.cell? ⟨gb202, 2, none⟩ = some (.int .u64 a1_2) := (blk_cell BK202.out 2).trans rfl; have hcz13_3 : w11.cell? ⟨gb202, 3, none⟩ = some (.int .u64 a1_3) := (blk_cell BK202.out 3).trans rfl; have hcz13_4 : w11.cell? ⟨gb202, 4, none⟩ = some (.int .u64 a1_4) := (blk_cell BK202.out 4).trans rfl; have hcz13_5 : w11.cell? ⟨gb202, 5, none⟩ = some (.float .f64 a1_5) := (blk_cell BK202.out 5).trans rfl; have hfz13_0 := blk_frozen BK202.out 0; have hfz13_1 := blk_frozen BK202.out 1; have hfz13_2 := blk_frozen BK202.out 2; have hfz13_3 := blk_frozen BK202.out 3; have hfz13_4 := blk_frozen BK202.out 4; have hfz13_5 := blk_frozen BK202.out 5) | ((with_reducible refine gate_callee (f := 27) rfl ?_); refine goesL_ (some 30) rfl rfl Tryd.func27 (by kernel_rfl) rfl #[.pointer (some ⟨g, 0, none⟩), .int .u64 a1_1, .int .u64 a1_2, .int .u64 a1_3] rfl (by (try simp only [List.map_toArray, List.map_cons, List.map_nil]); first | done | rfl | (simp only [List.length_drop, List.length_take]; rfl)) ?_; (with_reducible refine (deck_Deck_Pause.calls g s0_0 s0_1 s0_2 s0_3 s0_4 s0_5 s0_6 s0_7 s0_8 s0_9 a1_1 a1_2 a1_3 t213 t214 t215 t216 t217 t218 t219 t220 t221 t222 t223 w0 _ ?side1 ?side2 A10.out).mono ?_); (case side1 => repeat (first | (with_reducible first | exact HI0.out | apply IsS100.alloc | apply IsS100.drewN | apply IsS100.drew | apply IsS100.set_0 | apply IsS100.set_1 | apply IsS100.set_2 | apply IsS100.set_3 | apply IsS100.set_4 | apply IsS100.set_5 | apply IsS100.set_6 | apply IsS100.set_7 | apply IsS100.set_8 | apply IsS100.set_9 | refine IsS100.far ?_ NB0_202.out _) | exact HI0.out)); (case side2 => repeat (first | (with_reducible first | exact HB.out | apply below_alloc | apply pw_below_drewN | apply below_drew1 | refine below_set ?_ (IsS100.ge HI0.out) | refine below_set ?_ GE202.out) | exact HB.out)); rintro e w14 ⟨rfl, hi, hb, hk⟩; refine ⟨_, rfl, ?_⟩; have n0_ := Aside0.mk (KeepBut.blk hk (g' := gb202) (o := .cells #[.int .i64 a1_0, .int .u64 a1_1, .int .u64 a1_2, .int .u64 a1_3, .int .u64 a1_4, .float .f64 a1_5] 36 (0, 0)) (by (with_reducible repeat (first | refine blk_drewN ?_ _ | refine blk_drew ?_ | refine blk_alloc ?_ _)); exact BK202.out) NB202_0.out (by simp)); have n1_ := Aside0.mk (KeepBut.trans (by repeat (first | (with_reducible first | exact HK.out | apply KeepBut.set_ | apply keep_drewN | apply keep_drew | apply keep_alloc | refine keep_far ?_ GW202.out _) | exact HK.out)) hk (.inl rfl)); have n2_ := Aside0.mk (hb); have n3_ := Aside0.mk (hi); clear BK202; clear HK; clear HB; clear HI0; have BK202 := n0_; have HK := n1_; have HB := n2_; have HI0 := n3_; clear n0_ n1_ n2_ n3_; (try clear hb); (try clear hb2); (try clear hk); (try clear hi)))
      go_ret
      exact ⟨by first | rfl | (simp [errW_none, errW_some] <;> rfl) | (simp [*, errW_none, errW_some] <;> rfl), by repeat (first | (with_reducible first | exact HI0.out | apply IsS100.alloc | apply IsS100.drewN | apply IsS100.drew | apply IsS100.set_0 | apply IsS100.set_1 | apply IsS100.set_2 | apply IsS100.set_3 | apply IsS100.set_4 | apply IsS100.set_5 | apply IsS100.set_6 | apply IsS100.set_7 | apply IsS100.set_8 | apply IsS100.set_9 | refine IsS100.far ?_ NB0_202.out _) | exact HI0.out), by repeat (first | (with_reducible first | exact HB.out | apply below_alloc | apply pw_below_drewN | apply below_drew1 | refine below_set ?_ (IsS100.ge HI0.out) | refine below_set ?_ GE202.out) | exact HB.out), by repeat (first | (with_reducible first | exact HK.out | apply KeepBut.set_ | apply keep_drewN | apply keep_drew | apply keep_alloc | refine keep_far ?_ GW202.out _) | exact HK.out)⟩
    · rw [if_neg c9] at H
      have c9b0 : (a1_0 == 1) = false := beq_eq_false_iff_ne.mpr c9
      have c9b1 : (a1_0 != 1) = true := bne_iff_ne.mpr c9
      by_cases c15 : a1_0 = 2
      · rw [if_pos c15] at H
        have c15b0 : (a1_0 == 2) = true := beq_iff_eq.mpr c15
        have c15b1 : (a1_0 != 2) = false := bne_eq_false_iff_eq.mpr c15
        clear c15
        replace H := Option.bind_eq_some_iff.mp H
        obtain ⟨⟨t224, t225, t226, t227, t228, t229, t230, t231, t232, t233, t234⟩, A160, H⟩ := H
        replace H : (some (t224, t225, t226, t227, t228, t229, t230, t231, t232, t233, t234)) = some (r1, r2, r3, r4, r5, r6, r7, r8, r9, r10, r11) := H
        have A16 := Aside0.mk A160
        clear A160
        simp only [Option.some.injEq, Prod.mk.injEq] at H
        obtain ⟨rfl, rfl, rfl, rfl, rfl, rfl, rfl, rfl, rfl, rfl, rfl⟩ := H
        go_enter Tryd.func16, Tryd.ntmps16
        go_wp2_with (first | ((with_reducible refine gate_dst (N := 3) rfl ?_); refine box_event ?hg (N := 3) ?hd (cs := #[.int .i64 a1_0, .int .u64 a1_1, .int .u64 a1_2, .int .u64 a1_3, .int .u64 a1_4, .float .f64 a1_5]) (t := 36) ?hr ?_; (case hd => rfl); (case hg => rfl); (case hr => first | (go_simp; done) | (go_simp; rfl)); intro gb202 hg w17 hbox hb; have n0_ := Aside0.mk (IsS100.below (by repeat (first | (with_reducible first | exact HI0.out | apply IsS100.alloc | apply IsS100.drewN | apply IsS100.drew | apply IsS100.set_0 | apply IsS100.set_1 | apply IsS100.set_2 | apply IsS100.set_3 | apply IsS100.set_4 | apply IsS100.set_5 | apply IsS100.set_6 | apply IsS100.set_7 | apply IsS100.set_8 | apply IsS100.set_9) | exact HI0.out)) hb); have n1_ := Aside0.mk (KeepBut.trans (by repeat (first | (with_reducible first | exact HK.out | apply KeepBut.set_ | apply keep_drewN | apply keep_drew | apply keep_alloc) | exact HK.out)) (KeepBut.of_below hb g none) (.inl rfl)); have n2_ := Aside0.mk (below_step (by repeat (first | (with_reducible first | exact HB.out | apply below_alloc | apply pw_below_drewN | apply below_drew1 | refine below_set ?_ (IsS100.ge HI0.out)) | exact HB.out)) hb); have n3_ := Aside0.mk (hbox); have n4_ := Aside0.mk ((by rw [hg]; exact (keep_size (w := w) (g := g) (row := none) (by repeat (first | (with_reducible first | exact HK.out | apply KeepBut.set_ | apply keep_drewN | apply keep_drew | apply keep_alloc) | exact HK.out))) : w.heap.size ≤ gb202)); have n5_ := Aside0.mk ((Nat.le_trans HW0.out (by rw [hg]; exact (keep_size (w := w) (g := g) (row := none) (by repeat (first | (with_reducible first | exact HK.out | apply KeepBut.set_ | apply keep_drewN | apply keep_drew | apply keep_alloc) | exact HK.out))) : w.heap.size ≤ gb202) : w0.heap.size ≤ gb202)); have n6_ := Aside0.mk ((by rw [hg]; exact Nat.ne_of_lt (IsS100.lt (show IsS100 w0 _ g s0_0 s0_1 s0_2 s0_3 s0_4 s0_5 s0_6 s0_7 s0_8 s0_9 from by repeat (first | (with_reducible first | exact HI0.out | apply IsS100.alloc | apply IsS100.drewN | apply IsS100.drew | apply IsS100.set_0 | apply IsS100.set_1 | apply IsS100.set_2 | apply IsS100.set_3 | apply IsS100.set_4 | apply IsS100.set_5 | apply IsS100.set_6 | apply IsS100.set_7 | apply IsS100.set_8 | apply IsS100.set_9) | exact HI0.out))) : g ≠ gb202)); have n7_ := Aside0.mk ((by rw [hg]; exact Nat.ne_of_gt (IsS100.lt (show IsS100 w0 _ g s0_0 s0_1 s0_2 s0_3 s0_4 s0_5 s0_6 s0_7 s0_8 s0_9 from by repeat (first | (with_reducible first | exact HI0.out | apply IsS100.alloc | apply IsS100.drewN | apply IsS100.drew | apply IsS100.set_0 | apply IsS100.set_1 | apply IsS100.set_2 | apply IsS100.set_3 | apply IsS100.set_4 | apply IsS100.set_5 | apply IsS100.set_6 | apply IsS100.set_7 | apply IsS100.set_8 | apply IsS100.set_9) | exact HI0.out))) : gb202 ≠ g)); clear HI0; clear HK; clear HB; have HI0 := n0_; have HK := n1_; have HB := n2_; have BK202 := n3_; have GW202 := n4_; have GE202 := n5_; have NB0_202 := n6_; have NB202_0 := n7_; clear n0_ n1_ n2_ n3_ n4_ n5_ n6_ n7_; clear hb hbox hg; have hnb18 := NB202_0.out; have hnc18 := NB0_202.out; have hcz19_0 : w17.cell? ⟨gb202, 0, none⟩ = some (.int .i64 a1_0) := (blk_cell BK202.out 0).trans rfl; have hcz19_1 : w17.cell? ⟨gb202, 1, none⟩ = some (.int .u64 a1_1) := (blk_cell BK202.out 1).trans rfl; have hcz19_2 : w17.cell? ⟨gb202, 2, none⟩ = some (.int .u64 a1_2) := (blk_cell BK202.out 2).trans rfl; have hcz19_3 : w17.cell? ⟨gb202, 3, none⟩ = some (.int .u64 a1_3) := (blk_cell BK202.out 3).trans rfl; have hcz19_4 : w17.cell? ⟨gb202, 4, none⟩ = some (.int .u64 a1_4) := (blk_cell BK202.out 4).trans rfl; have hcz19_5 : w17.cell? ⟨gb202, 5, none⟩ = some (.float .f64 a1_5) := (blk_cell BK202.out 5).trans rfl; have hfz19_0 := blk_frozen BK202.out 0; have hfz19_1 := blk_frozen BK202.out 1; have hfz19_2 := blk_frozen BK202.out 2; have hfz19_3 := blk_frozen BK202.out 3; have hfz19_4 := blk_frozen BK202.out 4; have hfz19_5 := blk_frozen BK202.out 5) | ((with_reducible refine gate_callee (f := 24) rfl ?_); refine goesL_ (some 40) rfl rfl Tryd.func24 (by kernel_rfl) rfl #[.pointer (some ⟨g, 0, none⟩), .int .u64 a1_1, .int .u64 a1_2, .int .u64 a1_3] rfl (by (try simp only [List.map_toArray, List.map_cons, List.map_nil]); first | done | rfl | (simp only [List.length_drop, List.length_take]; rfl)) ?_; (with_reducible refine (deck_Deck_Play.calls g s0_0 s0_1 s0_2 s0_3 s0_4 s0_5 s0_6 s0_7 s0_8 s0_9 a1_1 a1_2 a1_3 t224 t225 t226 t227 t228 t229 t230 t231 t232 t233 t234 w0 _ ?side1 ?side2 A16.out).mono ?_); (case side1 => repeat (first | (with_reducible first | exact HI0.out | apply IsS100.alloc | apply IsS100.drewN | apply IsS100.drew | apply IsS100.set_0 | apply IsS100.set_1 | apply IsS100.set_2 | apply IsS100.set_3 | apply IsS100.set_4 | apply IsS100.set_5 | apply IsS100.set_6 | apply IsS100.set_7 | apply IsS100.set_8 | apply IsS100.set_9 | refine IsS100.far ?_ NB0_202.out _) | exact HI0.out)); (case side2 => repeat (first | (with_reducible first | exact HB.out | apply below_alloc | apply pw_below_drewN | apply below_drew1 | refine below_set ?_ (IsS100.ge HI0.out) | refine below_set ?_ GE202.out) | exact HB.out)); rintro e w20 ⟨rfl, hi, hb, hk⟩; refine ⟨_, rfl, ?_⟩; have n0_ := Aside0.mk (KeepBut.blk hk (g' := gb202) (o := .cells #[.int .i64 a1_0, .int .u64 a1_1, .int .u64 a1_2, .int .u64 a1_3, .int .u64 a1_4, .float .f64 a1_5] 36 (0, 0)) (by (with_reducible repeat (first | refine blk_drewN ?_ _ | refine blk_drew ?_ | refine blk_alloc ?_ _)); exact BK202.out) NB202_0.out (by simp)); have n1_ := Aside0.mk (KeepBut.trans (by repeat (first | (with_reducible first | exact HK.out | apply KeepBut.set_ | apply keep_drewN | apply keep_drew | apply keep_alloc | refine keep_far ?_ GW202.out _) | exact HK.out)) hk (.inl rfl)); have n2_ := Aside0.mk (hb); have n3_ := Aside0.mk (hi); clear BK202; clear HK; clear HB; clear HI0; have BK202 := n0_; have HK := n1_; have HB := n2_; have HI0 := n3_; clear n0_ n1_ n2_ n3_; (try clear hb); (try clear hb2); (try clear hk); (try clear hi)))
        go_ret
        exact ⟨by first | rfl | (simp [errW_none, errW_some] <;> rfl) | (simp [*, errW_none, errW_some] <;> rfl), by repeat (first | (with_reducible first | exact HI0.out | apply IsS100.alloc | apply IsS100.drewN | apply IsS100.drew | apply IsS100.set_0 | apply IsS100.set_1 | apply IsS100.set_2 | apply IsS100.set_3 | apply IsS100.set_4 | apply IsS100.set_5 | apply IsS100.set_6 | apply IsS100.set_7 | apply IsS100.set_8 | apply IsS100.set_9 | refine IsS100.far ?_ NB0_202.out _) | exact HI0.out), by repeat (first | (with_reducible first | exact HB.out | apply below_alloc | apply pw_below_drewN | apply below_drew1 | refine below_set ?_ (IsS100.ge HI0.out) | refine below_set ?_ GE202.out) | exact HB.out), by repeat (first | (with_reducible first | exact HK.out | apply KeepBut.set_ | apply keep_drewN | apply keep_drew | apply keep_alloc | refine keep_far ?_ GW202.out _) | exact HK.out)⟩
      · rw [if_neg c15] at H
        have c15b0 : (a1_0 == 2) = false := beq_eq_false_iff_ne.mpr c15
        have c15b1 : (a1_0 != 2) = true := bne_iff_ne.mpr c15
        by_cases c21 : a1_0 = 3
        · rw [if_pos c21] at H
          have c21b0 : (a1_0 == 3) = true := beq_iff_eq.mpr c21
          have c21b1 : (a1_0 != 3) = false := bne_eq_false_iff_eq.mpr c21
          clear c21
          replace H := Option.bind_eq_some_iff.mp H
          obtain ⟨⟨t235, t236, t237, t238, t239, t240, t241, t242, t243, t244, t245⟩, A220, H⟩ := H
          replace H : (some (t235, t236, t237, t238, t239, t240, t241, t242, t243, t244, t245)) = some (r1, r2, r3, r4, r5, r6, r7, r8, r9, r10, r11) := H
          have A22 := Aside0.mk A220
          clear A220
          simp only [Option.some.injEq, Prod.mk.injEq] at H
          obtain ⟨rfl, rfl, rfl, rfl, rfl, rfl, rfl, rfl, rfl, rfl, rfl⟩ := H
          go_enter Tryd.func16, Tryd.ntmps16
          go_wp2_with (first | ((with_reducible refine gate_dst (N := 3) rfl ?_); refine box_event ?hg (N := 3) ?hd (cs := #[.int .i64 a1_0, .int .u64 a1_1, .int .u64 a1_2, .int .u64 a1_3, .int .u64 a1_4, .float .f64 a1_5]) (t := 36) ?hr ?_; (case hd => rfl); (case hg => rfl); (case hr => first | (go_simp; done) | (go_simp; rfl)); intro gb202 hg w23 hbox hb; have n0_ := Aside0.mk (IsS100.below (by repeat (first | (with_reducible first | exact HI0.out | apply IsS100.alloc | apply IsS100.drewN | apply IsS100.drew | apply IsS100.set_0 | apply IsS100.set_1 | apply IsS100.set_2 | apply IsS100.set_3 | apply IsS100.set_4 | apply IsS100.set_5 | apply IsS100.set_6 | apply IsS100.set_7 | apply IsS100.set_8 | apply IsS100.set_9) | exact HI0.out)) hb); have n1_ := Aside0.mk (KeepBut.trans (by repeat (first | (with_reducible first | exact HK.out | apply KeepBut.set_ | apply keep_drewN | apply keep_drew | apply keep_alloc) | exact HK.out)) (KeepBut.of_below hb g none) (.inl rfl)); have n2_ := Aside0.mk (below_step (by repeat (first | (with_reducible first | exact HB.out | apply below_alloc | apply pw_below_drewN | apply below_drew1 | refine below_set ?_ (IsS100.ge HI0.out)) | exact HB.out)) hb); have n3_ := Aside0.mk (hbox); have n4_ := Aside0.mk ((by rw [hg]; exact (keep_size (w := w) (g := g) (row := none) (by repeat (first | (with_reducible first | exact HK.out | apply KeepBut.set_ | apply keep_drewN | apply keep_drew | apply keep_alloc) | exact HK.out))) : w.heap.size ≤ gb202)); have n5_ := Aside0.mk ((Nat.le_trans HW0.out (by rw [hg]; exact (keep_size (w := w) (g := g) (row := none) (by repeat (first | (with_reducible first | exact HK.out | apply KeepBut.set_ | apply keep_drewN | apply keep_drew | apply keep_alloc) | exact HK.out))) : w.heap.size ≤ gb202) : w0.heap.size ≤ gb202)); have n6_ := Aside0.mk ((by rw [hg]; exact Nat.ne_of_lt (IsS100.lt (show IsS100 w0 _ g s0_0 s0_1 s0_2 s0_3 s0_4 s0_5 s0_6 s0_7 s0_8 s0_9 from by repeat (first | (with_reducible first | exact HI0.out | apply IsS100.alloc | apply IsS100.drewN | apply IsS100.drew | apply IsS100.set_0 | apply IsS100.set_1 | apply IsS100.set_2 | apply IsS100.set_3 | apply IsS100.set_4 | apply IsS100.set_5 | apply IsS100.set_6 | apply IsS100.set_7 | apply IsS100.set_8 | apply IsS100.set_9) | exact HI0.out))) : g ≠ gb202)); have n7_ := Aside0.mk ((by rw [hg]; exact Nat.ne_of_gt (IsS100.lt (show IsS100 w0 _ g s0_0 s0_1 s0_2 s0_3 s0_4 s0_5 s0_6 s0_7 s0_8 s0_9 from by repeat (first | (with_reducible first | exact HI0.out | apply IsS100.alloc | apply IsS100.drewN | apply IsS100.drew | apply IsS100.set_0 | apply IsS100.set_1 | apply IsS100.set_2 | apply IsS100.set_3 | apply IsS100.set_4 | apply IsS100.set_5 | apply IsS100.set_6 | apply IsS100.set_7 | apply IsS100.set_8 | apply IsS100.set_9) | exact HI0.out))) : gb202 ≠ g)); clear HI0; clear HK; clear HB; have HI0 := n0_; have HK := n1_; have HB := n2_; have BK202 := n3_; have GW202 := n4_; have GE202 := n5_; have NB0_202 := n6_; have NB202_0 := n7_; clear n0_ n1_ n2_ n3_ n4_ n5_ n6_ n7_; clear hb hbox hg; have hnb24 := NB202_0.out; have hnc24 := NB0_202.out; have hcz25_0 : w23.cell? ⟨gb202, 0, none⟩ = some (.int .i64 a1_0) := (blk_cell BK202.out 0).trans rfl; have hcz25_1 : w23.cell? ⟨gb202, 1, none⟩ = some (.int .u64 a1_1) := (blk_cell BK202.out 1).trans rfl; have hcz25_2 : w23.cell? ⟨gb202, 2, none⟩ = some (.int .u64 a1_2) := (blk_cell BK202.out 2).trans rfl; have hcz25_3 : w23.cell? ⟨gb202, 3, none⟩ = some (.int .u64 a1_3) := (blk_cell BK202.out 3).trans rfl; have hcz25_4 : w23.cell? ⟨gb202, 4, none⟩ = some (.int .u64 a1_4) := (blk_cell BK202.out 4).trans rfl; have hcz25_5 : w23.cell? ⟨gb202, 5, none⟩ = some (.float .f64 a1_5) := (blk_cell BK202.out 5).trans rfl; have hfz25_0 := blk_frozen BK202.out 0; have hfz25_1 := blk_frozen BK202.out 1; have hfz25_2 := blk_frozen BK202.out 2; have hfz25_3 := blk_frozen BK202.out 3; have hfz25_4 := blk_frozen BK202.out 4; have hfz25_5 := blk_frozen BK202.out 5) | ((with_reducible refine gate_callee (f := 23) rfl ?_); refine goesL_ (some 52) rfl rfl Tryd.func23 (by kernel_rfl) rfl #[.pointer (some ⟨g, 0, none⟩), .int .u64 a1_1, .int .u64 a1_2, .int .u64 a1_3, .int .u64 a1_4] rfl (by (try simp only [List.map_toArray, List.map_cons, List.map_nil]); first | done | rfl | (simp only [List.length_drop, List.length_take]; rfl)) ?_; (with_reducible refine (deck_Deck_Seek.calls g s0_0 s0_1 s0_2 s0_3 s0_4 s0_5 s0_6 s0_7 s0_8 s0_9 a1_1 a1_2 a1_3 a1_4 t235 t236 t237 t238 t239 t240 t241 t242 t243 t244 t245 w0 _ ?side1 ?side2 A22.out).mono ?_); (case side1 => repeat (first | (with_reducible first | exact HI0.out | apply IsS100.alloc | apply IsS100.drewN | apply IsS100.drew | apply IsS100.set_0 | apply IsS100.set_1 | apply IsS100.set_2 | apply IsS100.set_3 | apply IsS100.set_4 | apply IsS100.set_5 | apply IsS100.set_6 | apply IsS100.set_7 | apply IsS100.set_8 | apply IsS100.set_9 | refine IsS100.far ?_ NB0_202.out _) | exact HI0.out)); (case side2 => repeat (first | (with_reducible first | exact HB.out | apply below_alloc | apply pw_below_drewN | apply below_drew1 | refine below_set ?_ (IsS100.ge HI0.out) | refine below_set ?_ GE202.out) | exact HB.out)); rintro e w26 ⟨rfl, hi, hb, hk⟩; refine ⟨_, rfl, ?_⟩; have n0_ := Aside0.mk (KeepBut.blk hk (g' := gb202) (o := .cells #[.int .i64 a1_0, .int .u64 a1_1, .int .u64 a1_2, .int .u64 a1_3, .int .u64 a1_4, .float .f64 a1_5] 36 (0, 0)) (by (with_reducible repeat (first | refine blk_drewN ?_ _ | refine blk_drew ?_ | refine blk_alloc ?_ _)); exact BK202.out) NB202_0.out (by simp)); have n1_ := Aside0.mk (KeepBut.trans (by repeat (first | (with_reducible first | exact HK.out | apply KeepBut.set_ | apply keep_drewN | apply keep_drew | apply keep_alloc | refine keep_far ?_ GW202.out _) | exact HK.out)) hk (.inl rfl)); have n2_ := Aside0.mk (hb); have n3_ := Aside0.mk (hi); clear BK202; clear HK; clear HB; clear HI0; have BK202 := n0_; have HK := n1_; have HB := n2_; have HI0 := n3_; clear n0_ n1_ n2_ n3_; (try clear hb); (try clear hb2); (try clear hk); (try clear hi)))
          go_ret
          exact ⟨by first | rfl | (simp [errW_none, errW_some] <;> rfl) | (simp [*, errW_none, errW_some] <;> rfl), by repeat (first | (with_reducible first | exact HI0.out | apply IsS100.alloc | apply IsS100.drewN | apply IsS100.drew | apply IsS100.set_0 | apply IsS100.set_1 | apply IsS100.set_2 | apply IsS100.set_3 | apply IsS100.set_4 | apply IsS100.set_5 | apply IsS100.set_6 | apply IsS100.set_7 | apply IsS100.set_8 | apply IsS100.set_9 | refine IsS100.far ?_ NB0_202.out _) | exact HI0.out), by repeat (first | (with_reducible first | exact HB.out | apply below_alloc | apply pw_below_drewN | apply below_drew1 | refine below_set ?_ (IsS100.ge HI0.out) | refine below_set ?_ GE202.out) | exact HB.out), by repeat (first | (with_reducible first | exact HK.out | apply KeepBut.set_ | apply keep_drewN | apply keep_drew | apply keep_alloc | refine keep_far ?_ GW202.out _) | exact HK.out)⟩
        · rw [if_neg c21] at H
          have c21b0 : (a1_0 == 3) = false := beq_eq_false_iff_ne.mpr c21
          have c21b1 : (a1_0 != 3) = true := bne_iff_ne.mpr c21
          by_cases c27 : a1_0 = 4
          · rw [if_pos c27] at H
            have c27b0 : (a1_0 == 4) = true := beq_iff_eq.mpr c27
            have c27b1 : (a1_0 != 4) = false := bne_eq_false_iff_eq.mpr c27
            clear c27
            replace H := Option.bind_eq_some_iff.mp H
            obtain ⟨⟨t246, t247, t248, t249, t250, t251, t252, t253, t254, t255, t256⟩, A280, H⟩ := H
            replace H : (some (t246, t247, t248, t249, t250, t251, t252, t253, t254, t255, t256)) = some (r1, r2, r3, r4, r5, r6, r7, r8, r9, r10, r11) := H
            have A28 := Aside0.mk A280
            clear A280
            simp only [Option.some.injEq, Prod.mk.injEq] at H
            obtain ⟨rfl, rfl, rfl, rfl, rfl, rfl, rfl, rfl, rfl, rfl, rfl⟩ := H
            go_enter Tryd.func16, Tryd.ntmps16
            go_wp2_with (first | ((with_reducible refine gate_dst (N := 3) rfl ?_); refine box_event ?hg (N := 3) ?hd (cs := #[.int .i64 a1_0, .int .u64 a1_1, .int .u64 a1_2, .int .u64 a1_3, .int .u64 a1_4, .float .f64 a1_5]) (t := 36) ?hr ?_; (case hd => rfl); (case hg => rfl); (case hr => first | (go_simp; done) | (go_simp; rfl)); intro gb202 hg w29 hbox hb; have n0_ := Aside0.mk (IsS100.below (by repeat (first | (with_reducible first | exact HI0.out | apply IsS100.alloc | apply IsS100.drewN | apply IsS100.drew | apply IsS100.set_0 | apply IsS100.set_1 | apply IsS100.set_2 | apply IsS100.set_3 | apply IsS100.set_4 | apply IsS100.set_5 | apply IsS100.set_6 | apply IsS100.set_7 | apply IsS100.set_8 | apply IsS100.set_9) | exact HI0.out)) hb); have n1_ := Aside0.mk (KeepBut.trans (by repeat (first | (with_reducible first | exact HK.out | apply KeepBut.set_ | apply keep_drewN | apply keep_drew | apply keep_alloc) | exact HK.out)) (KeepBut.of_below hb g none) (.inl rfl)); have n2_ := Aside0.mk (below_step (by repeat (first | (with_reducible first | exact HB.out | apply below_alloc | apply pw_below_drewN | apply below_drew1 | refine below_set ?_ (IsS100.ge HI0.out)) | exact HB.out)) hb); have n3_ := Aside0.mk (hbox); have n4_ := Aside0.mk ((by rw [hg]; exact (keep_size (w := w) (g := g) (row := none) (by repeat (first | (with_reducible first | exact HK.out | apply KeepBut.set_ | apply keep_drewN | apply keep_drew | apply keep_alloc) | exact HK.out))) : w.heap.size ≤ gb202)); have n5_ := Aside0.mk ((Nat.le_trans HW0.out (by rw [hg]; exact (keep_size (w := w) (g := g) (row := none) (by repeat (first | (with_reducible first | exact HK.out | apply KeepBut.set_ | apply keep_drewN | apply keep_drew | apply keep_alloc) | exact HK.out))) : w.heap.size ≤ gb202) : w0.heap.size ≤ gb202)); have n6_ := Aside0.mk ((by rw [hg]; exact Nat.ne_of_lt (IsS100.lt (show IsS100 w0 _ g s0_0 s0_1 s0_2 s0_3 s0_4 s0_5 s0_6 s0_7 s0_8 s0_9 from by repeat (first | (with_reducible first | exact HI0.out | apply IsS100.alloc | apply IsS100.drewN | apply IsS100.drew | apply IsS100.set_0 | apply IsS100.set_1 | apply IsS100.set_2 | apply IsS100.set_3 | apply IsS100.set_4 | apply IsS100.set_5 | apply IsS100.set_6 | apply IsS100.set_7 | apply IsS100.set_8 | apply IsS100.set_9) | exact HI0.out))) : g ≠ gb202)); have n7_ := Aside0.mk ((by rw [hg]; exact Nat.ne_of_gt (IsS100.lt (show IsS100 w0 _ g s0_0 s0_1 s0_2 s0_3 s0_4 s0_5 s0_6 s0_7 s0_8 s0_9 from by repeat (first | (with_reducible first | exact HI0.out | apply IsS100.alloc | apply IsS100.drewN | apply IsS100.drew | apply IsS100.set_0 | apply IsS100.set_1 | apply IsS100.set_2 | apply IsS100.set_3 | apply IsS100.set_4 | apply IsS100.set_5 | apply IsS100.set_6 | apply IsS100.set_7 | apply IsS100.set_8 | apply IsS100.set_9) | exact HI0.out))) : gb202 ≠ g)); clear HI0; clear HK; clear HB; have HI0 := n0_; have HK := n1_; have HB := n2_; have BK202 := n3_; have GW202 := n4_; have GE202 := n5_; have NB0_202 := n6_; have NB202_0 := n7_; clear n0_ n1_ n2_ n3_ n4_ n5_ n6_ n7_; clear hb hbox hg; have hnb30 := NB202_0.out; have hnc30 := NB0_202.out; have hcz31_0 : w29.cell? ⟨gb202, 0, none⟩ = some (.int .i64 a1_0) := (blk_cell BK202.out 0).trans rfl; have hcz31_1 : w29.cell? ⟨gb202, 1, none⟩ = some (.int .u64 a1_1) := (blk_cell BK202.out 1).trans rfl; have hcz31_2 : w29.cell? ⟨gb202, 2, none⟩ = some (.int .u64 a1_2) := (blk_cell BK202.out 2).trans rfl; have hcz31_3 : w29.cell? ⟨gb202, 3, none⟩ = some (.int .u64 a1_3) := (blk_cell BK202.out 3).trans rfl; have hcz31_4 : w29.cell? ⟨gb202, 4, none⟩ = some (.int .u64 a1_4) := (blk_cell BK202.out 4).trans rfl; have hcz31_5 : w29.cell? ⟨gb202, 5, none⟩ = some (.float .f64 a1_5) := (blk_cell BK202.out 5).trans rfl; have hfz31_0 := blk_frozen BK202.out 0; have hfz31_1 := blk_frozen BK202.out 1; have hfz31_2 := blk_frozen BK202.out 2; have hfz31_3 := blk_frozen BK202.out 3; have hfz31_4 := blk_frozen BK202.out 4; have hfz31_5 := blk_frozen BK202.out 5) | ((with_reducible refine gate_callee (f := 21) rfl ?_); refine goesL_ (some 60) rfl rfl Tryd.func21 (by kernel_rfl) rfl #[.pointer (some ⟨g, 0, none⟩), .int .u64 a1_1, .float .f64 a1_5] rfl (by (try simp only [List.map_toArray, List.map_cons, List.map_nil]); first | done | rfl | (simp only [List.length_drop, List.length_take]; rfl)) ?_; (with_reducible refine (deck_Deck_Speed.calls k g s0_0 s0_1 s0_2 s0_3 s0_4 s0_5 s0_6 s0_7 s0_8 s0_9 a1_1 a1_5 t246 t247 t248 t249 t250 t251 t252 t253 t254 t255 t256 w0 _ ?side1 ?side2 ?side3 A28.out).mono ?_); (case side1 => repeat (first | (with_reducible first | exact HI0.out | apply IsS100.alloc | apply IsS100.drewN | apply IsS100.drew | apply IsS100.set_0 | apply IsS100.set_1 | apply IsS100.set_2 | apply IsS100.set_3 | apply IsS100.set_4 | apply IsS100.set_5 | apply IsS100.set_6 | apply IsS100.set_7 | apply IsS100.set_8 | apply IsS100.set_9 | refine IsS100.far ?_ NB0_202.out _) | exact HI0.out)); (case side2 => repeat (first | (with_reducible first | exact HB.out | apply below_alloc | apply pw_below_drewN | apply below_drew1 | refine below_set ?_ (IsS100.ge HI0.out) | refine below_set ?_ GE202.out) | exact HB.out)); (case side3 => first | (with_reducible exact HT.out) | exact tabAt HT.out (by repeat (first | (with_reducible first | exact HB.out | apply below_alloc | apply pw_below_drewN | apply below_drew1 | refine below_set ?_ (IsS100.ge HI0.out) | refine below_set ?_ GE202.out) | exact HB.out))); rintro e w32 ⟨rfl, hi, hb, hk⟩; refine ⟨_, rfl, ?_⟩; have n0_ := Aside0.mk (KeepBut.blk hk (g' := gb202) (o := .cells #[.int .i64 a1_0, .int .u64 a1_1, .int .u64 a1_2, .int .u64 a1_3, .int .u64 a1_4, .float .f64 a1_5] 36 (0, 0)) (by (with_reducible repeat (first | refine blk_drewN ?_ _ | refine blk_drew ?_ | refine blk_alloc ?_ _)); exact BK202.out) NB202_0.out (by simp)); have n1_ := Aside0.mk (KeepBut.trans (by repeat (first | (with_reducible first | exact HK.out | apply KeepBut.set_ | apply keep_drewN | apply keep_drew | apply keep_alloc | refine keep_far ?_ GW202.out _) | exact HK.out)) hk (.inl rfl)); have n2_ := Aside0.mk (hb); have n3_ := Aside0.mk (hi); clear BK202; clear HK; clear HB; clear HI0; have BK202 := n0_; have HK := n1_; have HB := n2_; have HI0 := n3_; clear n0_ n1_ n2_ n3_; (try clear hb); (try clear hb2); (try clear hk); (try clear hi)))
            go_ret
            exact ⟨by first | rfl | (simp [errW_none, errW_some] <;> rfl) | (simp [*, errW_none, errW_some] <;> rfl), by repeat (first | (with_reducible first | exact HI0.out | apply IsS100.alloc | apply IsS100.drewN | apply IsS100.drew | apply IsS100.set_0 | apply IsS100.set_1 | apply IsS100.set_2 | apply IsS100.set_3 | apply IsS100.set_4 | apply IsS100.set_5 | apply IsS100.set_6 | apply IsS100.set_7 | apply IsS100.set_8 | apply IsS100.set_9 | refine IsS100.far ?_ NB0_202.out _) | exact HI0.out), by repeat (first | (with_reducible first | exact HB.out | apply below_alloc | apply pw_below_drewN | apply below_drew1 | refine below_set ?_ (IsS100.ge HI0.out) | refine below_set ?_ GE202.out) | exact HB.out), by repeat (first | (with_reducible first | exact HK.out | apply KeepBut.set_ | apply keep_drewN | apply keep_drew | apply keep_alloc | refine keep_far ?_ GW202.out _) | exact HK.out)⟩
          · rw [if_neg c27] at H
            have c27b0 : (a1_0 == 4) = false := beq_eq_false_iff_ne.mpr c27
            have c27b1 : (a1_0 != 4) = true := bne_iff_ne.mpr c27
            replace H := Option.bind_eq_some_iff.mp H
            obtain ⟨⟨t257, t258, t259, t260, t261, t262, t263, t264, t265, t266⟩, A330, H⟩ := H
            replace H : (some (0, t257, t258, t259, t260, t261, t262, t263, t264, t265, t266)) = some (r1, r2, r3, r4, r5, r6, r7, r8, r9, r10, r11) := H
            have A33 := Aside0.mk A330
            clear A330
            simp only [Option.some.injEq, Prod.mk.injEq] at H
            obtain ⟨rfl, rfl, rfl, rfl, rfl, rfl, rfl, rfl, rfl, rfl, rfl⟩ := H
            go_enter Tryd.func16, Tryd.ntmps16
            go_wp2_with (first | ((with_reducible refine gate_dst (N := 3) rfl ?_); refine box_event ?hg (N := 3) ?hd (cs := #[.int .i64 a1_0, .int .u64 a1_1, .int .u64 a1_2, .int .u64 a1_3, .int .u64 a1_4, .float .f64 a1_5]) (t := 36) ?hr ?_; (case hd => rfl); (case hg => rfl); (case hr => first | (go_simp; done) | (go_simp; rfl)); intro gb202 hg w34 hbox hb; have n0_ := Aside0.mk (IsS100.below (by repeat (first | (with_reducible first | exact HI0.out | apply IsS100.alloc | apply IsS100.drewN | apply IsS100.drew | apply IsS100.set_0 | apply IsS100.set_1 | apply IsS100.set_2 | apply IsS100.set_3 | apply IsS100.set_4 | apply IsS100.set_5 | apply IsS100.set_6 | apply IsS100.set_7 | apply IsS100.set_8 | apply IsS100.set_9) | exact HI0.out)) hb); have n1_ := Aside0.mk (KeepBut.trans (by repeat (first | (with_reducible first | exact HK.out | apply KeepBut.set_ | apply keep_drewN | apply keep_drew | apply keep_alloc) | exact HK.out)) (KeepBut.of_below hb g none) (.inl rfl)); have n2_ := Aside0.mk (below_step (by repeat (first | (with_reducible first | exact HB.out | apply below_alloc | apply pw_below_drewN | apply below_drew1 | refine below_set ?_ (IsS100.ge HI0.out)) | exact HB.out)) hb); have n3_ := Aside0.mk (hbox); have n4_ := Aside0.mk ((by rw [hg]; exact (keep_size (w := w) (g := g) (row := none) (by repeat (first | (with_reducible first | exact HK.out | apply KeepBut.set_ | apply keep_drewN | apply keep_drew | apply keep_alloc) | exact HK.out))) : w.heap.size ≤ gb202)); have n5_ := Aside0.mk ((Nat.le_trans HW0.out (by rw [hg]; exact (keep_size (w := w) (g := g) (row := none) (by repeat (first | (with_reducible first | exact HK.out | apply KeepBut.set_ | apply keep_drewN | apply keep_drew | apply keep_alloc) | exact HK.out))) : w.heap.size ≤ gb202) : w0.heap.size ≤ gb202)); have n6_ := Aside0.mk ((by rw [hg]; exact Nat.ne_of_lt (IsS100.lt (show IsS100 w0 _ g s0_0 s0_1 s0_2 s0_3 s0_4 s0_5 s0_6 s0_7 s0_8 s0_9 from by repeat (first | (with_reducible first | exact HI0.out | apply IsS100.alloc | apply IsS100.drewN | apply IsS100.drew | apply IsS100.set_0 | apply IsS100.set_1 | apply IsS100.set_2 | apply IsS100.set_3 | apply IsS100.set_4 | apply IsS100.set_5 | apply IsS100.set_6 | apply IsS100.set_7 | apply IsS100.set_8 | apply IsS100.set_9) | exact HI0.out))) : g ≠ gb202)); have n7_ := Aside0.mk ((by rw [hg]; exact Nat.ne_of_gt (IsS100.lt (show IsS100 w0 _ g s0_0 s0_1 s0_2 s0_3 s0_4 s0_5 s0_6 s0_7 s0_8 s0_9 from by repeat (first | (with_reducible first | exact HI0.out | apply IsS100.alloc | apply IsS100.drewN | apply IsS100.drew | apply IsS100.set_0 | apply IsS100.set_1 | apply IsS100.set_2 | apply IsS100.set_3 | apply IsS100.set_4 | apply IsS100.set_5 | apply IsS100.set_6 | apply IsS100.set_7 | apply IsS100.set_8 | apply IsS100.set_9) | exact HI0.out))) : gb202 ≠ g)); clear HI0; clear HK; clear HB; have HI0 := n0_; have HK := n1_; have HB := n2_; have BK202 := n3_; have GW202 := n4_; have GE202 := n5_; have NB0_202 := n6_; have NB202_0 := n7_; clear n0_ n1_ n2_ n3_ n4_ n5_ n6_ n7_; clear hb hbox hg; have hnb35 := NB202_0.out; have hnc35 := NB0_202.out; have hcz36_0 : w34.cell? ⟨gb202, 0, none⟩ = some (.int .i64 a1_0) := (blk_cell BK202.out 0).trans rfl; have hcz36_1 : w34.cell? ⟨gb202, 1, none⟩ = some (.int .u64 a1_1) := (blk_cell BK202.out 1).trans rfl; have hcz36_2 : w34.cell? ⟨gb202, 2, none⟩ = some (.int .u64 a1_2) := (blk_cell BK202.out 2).trans rfl; have hcz36_3 : w34.cell? ⟨gb202, 3, none⟩ = some (.int .u64 a1_3) := (blk_cell BK202.out 3).trans rfl; have hcz36_4 : w34.cell? ⟨gb202, 4, none⟩ = some (.int .u64 a1_4) := (blk_cell BK202.out 4).trans rfl; have hcz36_5 : w34.cell? ⟨gb202, 5, none⟩ = some (.float .f64 a1_5) := (blk_cell BK202.out 5).trans rfl; have hfz36_0 := blk_frozen BK202.out 0; have hfz36_1 := blk_frozen BK202.out 1; have hfz36_2 := blk_frozen BK202.out 2; have hfz36_3 := blk_frozen BK202.out 3; have hfz36_4 := blk_frozen BK202.out 4; have hfz36_5 := blk_frozen BK202.out 5) | ((with_reducible refine gate_callee (f := 25) rfl ?_); refine goesL_ (some 14) rfl rfl Tryd.func25 (by kernel_rfl) rfl #[.pointer (some ⟨g, 0, none⟩), .int .u64 a1_1, .int .u64 a1_2, .int .u64 a1_3] rfl (by (try simp only [List.map_toArray, List.map_cons, List.map_nil]); first | done | rfl | (simp only [List.length_drop, List.length_take]; rfl)) ?_; (with_reducible refine (deck_Deck_Tick.calls g s0_0 s0_1 s0_2 s0_3 s0_4 s0_5 s0_6 s0_7 s0_8 s0_9 a1_1 a1_2 a1_3 t257 t258 t259 t260 t261 t262 t263 t264 t265 t266 w0 _ ?side1 ?side2 A33.out).mono ?_); (case side1 => repeat (first | (with_reducible first | exact HI0.out | apply IsS100.alloc | apply IsS100.drewN | apply IsS100.drew | apply IsS100.set_0 | apply IsS100.set_1 | apply IsS100.set_2 | apply IsS100.set_3 | apply IsS100.set_4 | apply IsS100.set_5 | apply IsS100.set_6 | apply IsS100.set_7 | apply IsS100.set_8 | apply IsS100.set_9 | refine IsS100.far ?_ NB0_202.out _) | exact HI0.out)); (case side2 => repeat (first | (with_reducible first | exact HB.out | apply below_alloc | apply pw_below_drewN | apply below_drew1 | refine below_set ?_ (IsS100.ge HI0.out) | refine below_set ?_ GE202.out) | exact HB.out)); rintro e w37 ⟨rfl, hi, hb, hk⟩; refine ⟨_, rfl, ?_⟩; have n0_ := Aside0.mk (KeepBut.blk hk (g' := gb202) (o := .cells #[.int .i64 a1_0, .int .u64 a1_1, .int .u64 a1_2, .int .u64 a1_3, .int .u64 a1_4, .float .f64 a1_5] 36 (0, 0)) (by (with_reducible repeat (first | refine blk_drewN ?_ _ | refine blk_drew ?_ | refine blk_alloc ?_ _)); exact BK202.out) NB202_0.out (by simp)); have n1_ := Aside0.mk (KeepBut.trans (by repeat (first | (with_reducible first | exact HK.out | apply KeepBut.set_ | apply keep_drewN | apply keep_drew | apply keep_alloc | refine keep_far ?_ GW202.out _) | exact HK.out)) hk (.inl rfl)); have n2_ := Aside0.mk (hb); have n3_ := Aside0.mk (hi); clear BK202; clear HK; clear HB; clear HI0; have BK202 := n0_; have HK := n1_; have HB := n2_; have HI0 := n3_; clear n0_ n1_ n2_ n3_; (try clear hb); (try clear hb2); (try clear hk); (try clear hi)))
            go_ret
            exact ⟨by first | rfl | (simp [errW_none, errW_some] <;> rfl) | (simp [*, errW_none, errW_some] <;> rfl), by repeat (first | (with_reducible first | exact HI0.out | apply IsS100.alloc | apply IsS100.drewN | apply IsS100.drew | apply IsS100.set_0 | apply IsS100.set_1 | apply IsS100.set_2 | apply IsS100.set_3 | apply IsS100.set_4 | apply IsS100.set_5 | apply IsS100.set_6 | apply IsS100.set_7 | apply IsS100.set_8 | apply IsS100.set_9 | refine IsS100.far ?_ NB0_202.out _) | exact HI0.out), by repeat (first | (with_reducible first | exact HB.out | apply below_alloc | apply pw_below_drewN | apply below_drew1 | refine below_set ?_ (IsS100.ge HI0.out) | refine below_set ?_ GE202.out) | exact HB.out), by repeat (first | (with_reducible first | exact HK.out | apply KeepBut.set_ | apply keep_drewN | apply keep_drew | apply keep_alloc | refine keep_far ?_ GW202.out _) | exact HK.out)⟩

end Go.Proofs.YtlgfmmkabnbllaaDoor.PT
/-
  DeckStands: the plain law. No program.
-/
namespace Go.Proofs.YtlgfmmkabnbllaaDoor.Hand
open Go.RowKit Go.Proofs.YtlgfmmkabnbllaaDoorW.PrintWords Go.Proofs.YtlgfmmkabnbllaaDoorW.PrintLast Go.Proofs.YtlgfmmkabnbllaaDoorW.PrintMore Go.Proofs.YtlgfmmkabnbllaaDoor.PA Go.Proofs.YtlgfmmkabnbllaaDoor.PB Go.Proofs.YtlgfmmkabnbllaaDoor.PC Go.Proofs.YtlgfmmkabnbllaaDoor.PT
set_option linter.unusedSimpArgs false
set_option linter.unusedVariables false
set_option exponentiation.threshold 3000

theorem mode_f (s0 s1 s2 s3 : Int) (s4 : Bool) (s5 s6 s7 s8 s9 : Int) : deck_Deck_Mode.f s0 s1 s2 s3 s4 s5 s6 s7 s8 s9 = some (s0, s0, s1, s2, s3, s4, s5, s6, s7, s8, s9) := rfl
theorem pos_f (s0 s1 s2 s3 : Int) (s4 : Bool) (s5 s6 s7 s8 s9 : Int) : deck_Deck_Pos.f s0 s1 s2 s3 s4 s5 s6 s7 s8 s9 = some (s1, s0, s1, s2, s3, s4, s5, s6, s7, s8, s9) := rfl
theorem drate_f (s0 s1 s2 s3 : Int) (s4 : Bool) (s5 s6 s7 s8 s9 : Int) : deck_Deck_Rate.f s0 s1 s2 s3 s4 s5 s6 s7 s8 s9 = some (s2, s3, s0, s1, s2, s3, s4, s5, s6, s7, s8, s9) := rfl
theorem live_f (s0 s1 s2 s3 : Int) (s4 : Bool) (s5 s6 s7 s8 s9 a : Int) : deck_Deck_Live.f s0 s1 s2 s3 s4 s5 s6 s7 s8 s9 a = some (0, s1, s2, s3, false, 0, 0, 0, 0, 0) := rfl
theorem new_f : deck_New.f = some (0, 0, 1, 1, false, 0, 0, 0, 0, 0) := rfl
theorem dfirst_true (K : Nat) : tiklaw23_first.f (K + 1) = some true := by
  have h1 : ∀ s0 s1 s2 s3 s4 s5 s6 s7 s8 s9, deck_Deck_Speed.f K s0 s1 s2 s3 s4 s5 s6 s7 s8 s9 5 9221120237041090560 = some (10, s0, s1, s2, s3, s4, s5, s6, s7, s8, s9) := by
    intro s0 s1 s2 s3 s4 s5 s6 s7 s8 s9
    have : rate_Of.f 9221120237041090560 = some (0, 0, 10) := by decide +kernel
    unfold deck_Deck_Speed.f
    rw [this]
    rfl
  have h2 : rate_From.f 9221120237041090560 = some 9221120237041090560 := by decide +kernel
  unfold tiklaw23_first.f
  rw [new_f, Option.bind_some, if_neg (by decide), mode_f, Option.bind_some, if_pos rfl]
  have e1 : deck_Deck_Play.f 0 0 1 1 false 0 0 0 0 0 5 0 9 = some (13, 0, 0, 1, 1, false, 0, 0, 0, 0, 0) := rfl
  have e2 : deck_Deck_Pause.f 0 0 1 1 false 0 0 0 0 0 5 0 9 = some (0, 1, 9, 1, 1, false, 0, 0, 0, 0, 0) := rfl
  have e3 : deck_Deck_Seek.f 1 9 1 1 false 0 0 0 0 0 5 2 9 1 = some (12, 1, 9, 1, 1, false, 0, 0, 0, 0, 0) := rfl
  rw [e1, Option.bind_some, if_pos rfl, e2, Option.bind_some]
  show tiklaw23_first.j0 (K + 1) false 1 9 1 1 false 0 0 0 0 0 = some true
  rw [tiklaw23_first.j0]
  rw [if_neg (by decide), mode_f, Option.bind_some, if_pos rfl, pos_f, Option.bind_some, if_pos rfl, e3, Option.bind_some, if_pos rfl, h2, Option.bind_some, h1, Option.bind_some, if_pos rfl, drate_f, Option.bind_some]
  rfl
theorem may11 : rate_May.f 1 1 = some true := by decide +kernel
/-- Who is paused: an error changes nothing. -/
theorem does_stands (k : Nat) {p k0 now lo hi t : Int} {x : Nat} (hx : x < 18446744073709551616) : ∃ r s, tiklaw23_Does.f k 1 p 1 1 false 0 0 0 0 0 k0 now lo hi t x = some (r, s) ∧ (r ≠ 0 → s = (1, p, 1, 1, false, 0, 0, 0, 0, 0)) := by
  unfold tiklaw23_Does.f
  by_cases h0 : k0 = 0
  · rw [if_pos h0, live_f, Option.bind_some]
    exact ⟨_, _, rfl, fun h => absurd rfl h⟩
  rw [if_neg h0]
  by_cases h1 : k0 = 1
  · rw [if_pos h1]
    by_cases hm : mayV now lo hi = true
    · have e : deck_Deck_Pause.f 1 p 1 1 false 0 0 0 0 0 now lo hi = some (0, 1, p, 1, 1, false, 0, 0, 0, 0, 0) := by
        unfold deck_Deck_Pause.f
        rw [if_pos hm]; rfl
      rw [e, Option.bind_some]
      exact ⟨_, _, rfl, fun h => absurd rfl h⟩
    · have e : deck_Deck_Pause.f 1 p 1 1 false 0 0 0 0 0 now lo hi = some (1, 1, p, 1, 1, false, 0, 0, 0, 0, 0) := by
        unfold deck_Deck_Pause.f
        rw [if_neg hm]
      rw [e, Option.bind_some]
      exact ⟨_, _, rfl, fun h => rfl⟩
  rw [if_neg h1]
  by_cases h2 : k0 = 2
  · rw [if_pos h2]
    by_cases hm : mayV now lo hi = true
    · rw [play_goes hm may11 rfl, Option.bind_some]
      exact ⟨_, _, rfl, fun h => absurd rfl h⟩
    · have e : deck_Deck_Play.f 1 p 1 1 false 0 0 0 0 0 now lo hi = some (1, 1, p, 1, 1, false, 0, 0, 0, 0, 0) := by
        unfold deck_Deck_Play.f
        rw [if_neg hm]
      rw [e, Option.bind_some]
      exact ⟨_, _, rfl, fun h => rfl⟩
  rw [if_neg h2]
  by_cases h3 : k0 = 3
  · rw [if_pos h3]
    by_cases hm : mayV now lo hi = true
    · by_cases hl : t < lo
      · have e : deck_Deck_Seek.f 1 p 1 1 false 0 0 0 0 0 now lo hi t = some (12, 1, p, 1, 1, false, 0, 0, 0, 0, 0) := by
          unfold deck_Deck_Seek.f
          rw [if_pos hm, if_pos hl]
        rw [e, Option.bind_some]
        exact ⟨_, _, rfl, fun h => rfl⟩
      · rw [seek_stands hm hl (by decide), Option.bind_some]
        exact ⟨_, _, rfl, fun h => absurd rfl h⟩
    · have e : deck_Deck_Seek.f 1 p 1 1 false 0 0 0 0 0 now lo hi t = some (1, 1, p, 1, 1, false, 0, 0, 0, 0, 0) := by
        unfold deck_Deck_Seek.f
        rw [if_neg hm]
      rw [e, Option.bind_some]
      exact ⟨_, _, rfl, fun h => rfl⟩
  rw [if_neg h3]
  by_cases h4 : k0 = 4
  · rw [if_pos h4]
    have e : rate_Of.f x = some (ofV x) := if_pos hx
    obtain ⟨n, d, er⟩ : ∃ a b c, ofV x = (a, b, c) := ⟨_, _, _, rfl⟩
    obtain ⟨c, er⟩ := er
    unfold deck_Deck_Speed.f
    rw [e, Option.bind_some, er]
    dsimp only
    by_cases q : c = 0
    · rw [if_pos q]
      by_cases q2 : now > 4611686018427387904
      · rw [if_pos q2, Option.bind_some]
        exact ⟨_, _, rfl, fun h => rfl⟩
      · rw [if_neg q2, if_neg (by decide), Option.bind_some]
        exact ⟨_, _, rfl, fun h => absurd rfl h⟩
    · rw [if_neg q, Option.bind_some]
      exact ⟨_, _, rfl, fun h => rfl⟩
  rw [if_neg h4]
  by_cases hm : mayV now lo hi = true
  · rw [tick_stands hm, Option.bind_some]
    exact ⟨_, _, rfl, fun h => absurd rfl h⟩
  · have e : deck_Deck_Tick.f 1 p 1 1 false 0 0 0 0 0 now lo hi = some (1, p, 1, 1, false, 0, 0, 0, 0, 0) := by
      unfold deck_Deck_Tick.f
      rw [if_neg hm]
    rw [e, Option.bind_some]
    exact ⟨_, _, rfl, fun h => absurd rfl h⟩
end Go.Proofs.YtlgfmmkabnbllaaDoor.Hand
namespace Go.Proofs.YtlgfmmkabnbllaaDoor.PT
open Go.RowKit Go.Proofs.YtlgfmmkabnbllaaDoorW.PrintWords Go.Proofs.YtlgfmmkabnbllaaDoorW.PrintLast Go.Proofs.YtlgfmmkabnbllaaDoorW.PrintMore
attribute [local go_sem] max2_int min2_int max_two min_two max_three min_three max_four min_four   -- for this text's walks alone
open Go.Proofs.YtlgfmmkabnbllaaDoor.Hand
open Go.Proofs.YtlgfmmkabnbllaaDoor.PA
open Go.Proofs.YtlgfmmkabnbllaaDoor.PB
open Go.Proofs.YtlgfmmkabnbllaaDoor.PC
open Go.Proofs.YtlgfmmkabnbllaaDoor.PM
set_option linter.unusedVariables false
set_option linter.unusedSimpArgs false

attribute [local go_sem high] eqA30
/-! ### tiklaw23_DeckStands: function 5 -/
mutual
def tiklaw23_DeckStands.j0 : Nat → Int → Int → Int → Int → List Int → Bool → Int → Int → Int → Int → Int → Nat → Int → Int → Int → Int → Bool → Int → Int → Int → Int → Int → Option (Bool)
  | 0, _, _, _, _, _, _, _, _, _, _, _, _, _, _, _, _, _, _, _, _, _, _ => none
  | k + 1, x0, x1, x2, x3, x5, x49, x268000, x268001, x268002, x268003, x268004, x268005, x280000, x280001, x280002, x280003, x280004, x280005, x280006, x280007, x280008, x280009 => if x49 = true then (if true = true then ((tiklaw23_first.f k).bind fun t280 => (some t280)) else (some false)) else ((deck_Deck_Seek.f x280000 x280001 x280002 x280003 x280004 x280005 x280006 x280007 x280008 x280009 x0 x1 x2 x3).bind fun bt281 => (if bt281.1 = 0 then (tiklaw23_DeckStands.l0 k x0 x2 x5 x3 0 x268000 x268001 x268002 x268003 x268004 x268005 bt281.2.1 bt281.2.2.1 bt281.2.2.2.1 bt281.2.2.2.2.1 bt281.2.2.2.2.2.1 bt281.2.2.2.2.2.2.1 bt281.2.2.2.2.2.2.2.1 bt281.2.2.2.2.2.2.2.2.1 bt281.2.2.2.2.2.2.2.2.2.1 bt281.2.2.2.2.2.2.2.2.2.2) else (some false)))
def tiklaw23_DeckStands.l0 : Nat → Int → Int → List Int → Int → Int → Int → Int → Int → Int → Int → Nat → Int → Int → Int → Int → Bool → Int → Int → Int → Int → Int → Option (Bool)
  | 0, _, _, _, _, _, _, _, _, _, _, _, _, _, _, _, _, _, _, _, _, _ => none
  | k + 1, x0, x2, x5, x14, x15, x268000, x268001, x268002, x268003, x268004, x268005, x280000, x280001, x280002, x280003, x280004, x280005, x280006, x280007, x280008, x280009 => if x15 < (x5.length : Int) then (if 0 ≤ x15 then (if (rd x5 x15) > x2 then ((tiklaw23_first.f k).bind fun t293 => (some t293)) else ((deck_Deck_Tick.f x280000 x280001 x280002 x280003 x280004 x280005 x280006 x280007 x280008 x280009 (IntKind.u64.wrap (x0 + (IntKind.u64.wrap (x15)))) (rd x5 x15) x2).bind fun bt296 => ((deck_Deck_Pos.f bt296.1 bt296.2.1 bt296.2.2.1 bt296.2.2.2.1 bt296.2.2.2.2.1 bt296.2.2.2.2.2.1 bt296.2.2.2.2.2.2.1 bt296.2.2.2.2.2.2.2.1 bt296.2.2.2.2.2.2.2.2.1 bt296.2.2.2.2.2.2.2.2.2).bind fun bt306 => (if bt306.1 = (mx x14 (rd x5 x15)) then ((deck_Deck_Mode.f bt306.2.1 bt306.2.2.1 bt306.2.2.2.1 bt306.2.2.2.2.1 bt306.2.2.2.2.2.1 bt306.2.2.2.2.2.2.1 bt306.2.2.2.2.2.2.2.1 bt306.2.2.2.2.2.2.2.2.1 bt306.2.2.2.2.2.2.2.2.2.1 bt306.2.2.2.2.2.2.2.2.2.2).bind fun bt317 => (if bt317.1 = 1 then (tiklaw23_DeckStands.l0 k x0 x2 x5 (mx x14 (rd x5 x15)) (wrap64 (x15 + 1)) x268000 x268001 x268002 x268003 x268004 x268005 bt317.2.1 bt317.2.2.1 bt317.2.2.2.1 bt317.2.2.2.2.1 bt317.2.2.2.2.2.1 bt317.2.2.2.2.2.2.1 bt317.2.2.2.2.2.2.2.1 bt317.2.2.2.2.2.2.2.2.1 bt317.2.2.2.2.2.2.2.2.2.1 bt317.2.2.2.2.2.2.2.2.2.2) else (some false))) else (some false))))) else (none)) else ((deck_Deck_Rate.f x280000 x280001 x280002 x280003 x280004 x280005 x280006 x280007 x280008 x280009).bind fun bt328 => ((tiklaw23_Does.f k bt328.2.2.1 bt328.2.2.2.1 bt328.2.2.2.2.1 bt328.2.2.2.2.2.1 bt328.2.2.2.2.2.2.1 bt328.2.2.2.2.2.2.2.1 bt328.2.2.2.2.2.2.2.2.1 bt328.2.2.2.2.2.2.2.2.2.1 bt328.2.2.2.2.2.2.2.2.2.2.1 bt328.2.2.2.2.2.2.2.2.2.2.2 x268000 x268001 x268002 x268003 x268004 x268005).bind fun bt341 => (if bt341.1 = 0 then ((tiklaw23_first.f k).bind fun t352 => (some t352)) else ((tiklaw23_first.f k).bind fun t353 => (if t353 = true then ((deck_Deck_Pos.f bt341.2.1 bt341.2.2.1 bt341.2.2.2.1 bt341.2.2.2.2.1 bt341.2.2.2.2.2.1 bt341.2.2.2.2.2.2.1 bt341.2.2.2.2.2.2.2.1 bt341.2.2.2.2.2.2.2.2.1 bt341.2.2.2.2.2.2.2.2.2.1 bt341.2.2.2.2.2.2.2.2.2.2).bind fun bt354 => (if bt354.1 = x14 then ((deck_Deck_Mode.f bt354.2.1 bt354.2.2.1 bt354.2.2.2.1 bt354.2.2.2.2.1 bt354.2.2.2.2.2.1 bt354.2.2.2.2.2.2.1 bt354.2.2.2.2.2.2.2.1 bt354.2.2.2.2.2.2.2.2.1 bt354.2.2.2.2.2.2.2.2.2.1 bt354.2.2.2.2.2.2.2.2.2.2).bind fun bt365 => (if bt365.1 = 1 then ((deck_Deck_Rate.f bt365.2.1 bt365.2.2.1 bt365.2.2.2.1 bt365.2.2.2.2.1 bt365.2.2.2.2.2.1 bt365.2.2.2.2.2.2.1 bt365.2.2.2.2.2.2.2.1 bt365.2.2.2.2.2.2.2.2.1 bt365.2.2.2.2.2.2.2.2.2.1 bt365.2.2.2.2.2.2.2.2.2.2).bind fun bt376 => (some (bt376.1 == bt328.1 && (bt376.2.1 == bt328.2.1)))) else (some false))) else (some false))) else (some false))))))
end
def tiklaw23_DeckStands.f (k : Nat) (a0 : Int) (a1 : Int) (a2 : Int) (a3 : Int) (a4_0 : Int) (a4_1 : Int) (a4_2 : Int) (a4_3 : Int) (a4_4 : Int) (a4_5 : Nat) (l5 : List Int) : Option (Bool) := (tiklaw23_first.f k).bind fun t268 => (if t268 = true then ((deck_New.f).bind fun bt269 => (if false = true then (tiklaw23_DeckStands.j0 k a0 a1 a2 a3 l5 true a4_0 a4_1 a4_2 a4_3 a4_4 a4_5 bt269.1 bt269.2.1 bt269.2.2.1 bt269.2.2.2.1 bt269.2.2.2.2.1 bt269.2.2.2.2.2.1 bt269.2.2.2.2.2.2.1 bt269.2.2.2.2.2.2.2.1 bt269.2.2.2.2.2.2.2.2.1 bt269.2.2.2.2.2.2.2.2.2) else (if (l5.length : Int) > 200 then (tiklaw23_DeckStands.j0 k a0 a1 a2 a3 l5 true a4_0 a4_1 a4_2 a4_3 a4_4 a4_5 bt269.1 bt269.2.1 bt269.2.2.1 bt269.2.2.2.1 bt269.2.2.2.2.1 bt269.2.2.2.2.2.1 bt269.2.2.2.2.2.2.1 bt269.2.2.2.2.2.2.2.1 bt269.2.2.2.2.2.2.2.2.1 bt269.2.2.2.2.2.2.2.2.2) else (if a1 > a2 then (tiklaw23_DeckStands.j0 k a0 a1 a2 a3 l5 true a4_0 a4_1 a4_2 a4_3 a4_4 a4_5 bt269.1 bt269.2.1 bt269.2.2.1 bt269.2.2.2.1 bt269.2.2.2.2.1 bt269.2.2.2.2.2.1 bt269.2.2.2.2.2.2.1 bt269.2.2.2.2.2.2.2.1 bt269.2.2.2.2.2.2.2.2.1 bt269.2.2.2.2.2.2.2.2.2) else (if a2 > 1152921504606846976 then (tiklaw23_DeckStands.j0 k a0 a1 a2 a3 l5 true a4_0 a4_1 a4_2 a4_3 a4_4 a4_5 bt269.1 bt269.2.1 bt269.2.2.1 bt269.2.2.2.1 bt269.2.2.2.2.1 bt269.2.2.2.2.2.1 bt269.2.2.2.2.2.2.1 bt269.2.2.2.2.2.2.2.1 bt269.2.2.2.2.2.2.2.2.1 bt269.2.2.2.2.2.2.2.2.2) else (if a0 > 1152921504606846976 then (tiklaw23_DeckStands.j0 k a0 a1 a2 a3 l5 true a4_0 a4_1 a4_2 a4_3 a4_4 a4_5 bt269.1 bt269.2.1 bt269.2.2.1 bt269.2.2.2.1 bt269.2.2.2.2.1 bt269.2.2.2.2.2.1 bt269.2.2.2.2.2.2.1 bt269.2.2.2.2.2.2.2.1 bt269.2.2.2.2.2.2.2.2.1 bt269.2.2.2.2.2.2.2.2.2) else (if a3 < a1 then (tiklaw23_DeckStands.j0 k a0 a1 a2 a3 l5 true a4_0 a4_1 a4_2 a4_3 a4_4 a4_5 bt269.1 bt269.2.1 bt269.2.2.1 bt269.2.2.2.1 bt269.2.2.2.2.1 bt269.2.2.2.2.2.1 bt269.2.2.2.2.2.2.1 bt269.2.2.2.2.2.2.2.1 bt269.2.2.2.2.2.2.2.2.1 bt269.2.2.2.2.2.2.2.2.2) else (tiklaw23_DeckStands.j0 k a0 a1 a2 a3 l5 (decide (a3 > a2)) a4_0 a4_1 a4_2 a4_3 a4_4 a4_5 bt269.1 bt269.2.1 bt269.2.2.1 bt269.2.2.2.1 bt269.2.2.2.2.1 bt269.2.2.2.2.2.1 bt269.2.2.2.2.2.2.1 bt269.2.2.2.2.2.2.2.1 bt269.2.2.2.2.2.2.2.2.1 bt269.2.2.2.2.2.2.2.2.2)))))))) else (some false))
theorem tiklaw23_DeckStands.mono_l : ∀ k, (∀ y0 y1 y2 y3 y4 y5 y6 y7 y8 y9 y10 y11 y12 y13 y14 y15 y16 y17 y18 y19 y20 y21, LeO (tiklaw23_DeckStands.j0 k y0 y1 y2 y3 y4 y5 y6 y7 y8 y9 y10 y11 y12 y13 y14 y15 y16 y17 y18 y19 y20 y21) (tiklaw23_DeckStands.j0 (k + 1) y0 y1 y2 y3 y4 y5 y6 y7 y8 y9 y10 y11 y12 y13 y14 y15 y16 y17 y18 y19 y20 y21)) ∧ (∀ y0 y1 y2 y3 y4 y5 y6 y7 y8 y9 y10 y11 y12 y13 y14 y15 y16 y17 y18 y19 y20, LeO (tiklaw23_DeckStands.l0 k y0 y1 y2 y3 y4 y5 y6 y7 y8 y9 y10 y11 y12 y13 y14 y15 y16 y17 y18 y19 y20) (tiklaw23_DeckStands.l0 (k + 1) y0 y1 y2 y3 y4 y5 y6 y7 y8 y9 y10 y11 y12 y13 y14 y15 y16 y17 y18 y19 y20))
  | 0 => ⟨fun _ _ _ _ _ _ _ _ _ _ _ _ _ _ _ _ _ _ _ _ _ _ r h => by simp [tiklaw23_DeckStands.j0] at h, fun _ _ _ _ _ _ _ _ _ _ _ _ _ _ _ _ _ _ _ _ _ r h => by simp [tiklaw23_DeckStands.l0] at h⟩
  | k + 1 => by
    obtain ⟨ih0, ih1⟩ := tiklaw23_DeckStands.mono_l k
    refine ⟨?_, ?_⟩
    · intro y0 y1 y2 y3 y4 y5 y6 y7 y8 y9 y10 y11 y12 y13 y14 y15 y16 y17 y18 y19 y20 y21
      unfold tiklaw23_DeckStands.j0
      repeat' first
      | (with_reducible exact ih0 _ _ _ _ _ _ _ _ _ _ _ _ _ _ _ _ _ _ _ _ _ _)
      | (with_reducible exact ih1 _ _ _ _ _ _ _ _ _ _ _ _ _ _ _ _ _ _ _ _ _)
      | (with_reducible exact tiklaw23_Does.mono _ _ _ _ _ _ _ _ _ _ _ _ _ _ _ _ _)
      | (with_reducible exact tiklaw23_first.mono _)
      | (with_reducible exact LeO.refl _)
      | (with_reducible exact LeO.none _)
      | (with_reducible refine LeO.ite ?_ ?_)
      | (with_reducible refine LeO.bind ?_ (fun _ => ?_))
      | exact ih0 _ _ _ _ _ _ _ _ _ _ _ _ _ _ _ _ _ _ _ _ _ _
      | exact ih1 _ _ _ _ _ _ _ _ _ _ _ _ _ _ _ _ _ _ _ _ _
      | exact tiklaw23_Does.mono _ _ _ _ _ _ _ _ _ _ _ _ _ _ _ _ _
      | exact tiklaw23_first.mono _
      | exact LeO.none _
      | refine LeO.ite ?_ ?_
      | refine LeO.bind ?_ (fun _ => ?_)
    · intro y0 y1 y2 y3 y4 y5 y6 y7 y8 y9 y10 y11 y12 y13 y14 y15 y16 y17 y18 y19 y20
      unfold tiklaw23_DeckStands.l0
      repeat' first
      | (with_reducible exact ih0 _ _ _ _ _ _ _ _ _ _ _ _ _ _ _ _ _ _ _ _ _ _)
      | (with_reducible exact ih1 _ _ _ _ _ _ _ _ _ _ _ _ _ _ _ _ _ _ _ _ _)
      | (with_reducible exact tiklaw23_Does.mono _ _ _ _ _ _ _ _ _ _ _ _ _ _ _ _ _)
      | (with_reducible exact tiklaw23_first.mono _)
      | (with_reducible exact LeO.refl _)
      | (with_reducible exact LeO.none _)
      | (with_reducible refine LeO.ite ?_ ?_)
      | (with_reducible refine LeO.bind ?_ (fun _ => ?_))
      | exact ih0 _ _ _ _ _ _ _ _ _ _ _ _ _ _ _ _ _ _ _ _ _ _
      | exact ih1 _ _ _ _ _ _ _ _ _ _ _ _ _ _ _ _ _ _ _ _ _
      | exact tiklaw23_Does.mono _ _ _ _ _ _ _ _ _ _ _ _ _ _ _ _ _
      | exact tiklaw23_first.mono _
      | exact LeO.none _
      | refine LeO.ite ?_ ?_
      | refine LeO.bind ?_ (fun _ => ?_)
theorem tiklaw23_DeckStands.mono : ∀ a0 a1 a2 a3 a4 a5 a6 a7 a8 a9 a10 k, LeO (tiklaw23_DeckStands.f k a0 a1 a2 a3 a4 a5 a6 a7 a8 a9 a10) (tiklaw23_DeckStands.f (k + 1) a0 a1 a2 a3 a4 a5 a6 a7 a8 a9 a10) := by
  intro a0 a1 a2 a3 a4 a5 a6 a7 a8 a9 a10 k
  obtain ⟨ih0, ih1⟩ := tiklaw23_DeckStands.mono_l k
  unfold tiklaw23_DeckStands.f
  repeat' first
      | (with_reducible exact ih0 _ _ _ _ _ _ _ _ _ _ _ _ _ _ _ _ _ _ _ _ _ _)
      | (with_reducible exact ih1 _ _ _ _ _ _ _ _ _ _ _ _ _ _ _ _ _ _ _ _ _)
      | (with_reducible exact tiklaw23_Does.mono _ _ _ _ _ _ _ _ _ _ _ _ _ _ _ _ _)
      | (with_reducible exact tiklaw23_first.mono _)
      | (with_reducible exact LeO.refl _)
      | (with_reducible exact LeO.none _)
      | (with_reducible refine LeO.ite ?_ ?_)
      | (with_reducible refine LeO.bind ?_ (fun _ => ?_))
      | exact ih0 _ _ _ _ _ _ _ _ _ _ _ _ _ _ _ _ _ _ _ _ _ _
      | exact ih1 _ _ _ _ _ _ _ _ _ _ _ _ _ _ _ _ _ _ _ _ _
      | exact tiklaw23_Does.mono _ _ _ _ _ _ _ _ _ _ _ _ _ _ _ _ _
      | exact tiklaw23_first.mono _
      | exact LeO.none _
      | refine LeO.ite ?_ ?_
      | refine LeO.bind ?_ (fun _ => ?_)
def tiklaw23_DeckStands.T21 : Bool × List (List Nat × List Nat) := (true, [([], []), ([0, 0], [0]), ([1], [1]), ([2, 1, 1], [1, 2]), ([1], [1]), ([3, 4, 1], [1, 3, 4]), ([1, 5], [1, 5]), ([6, 3], [6]), ([7], [7]), ([8, 7, 7], [7, 8]), ([9, 7], [7, 9]), ([7, 10], [7, 10]), ([11, 9], [11]), ([12], [12]), ([13, 12, 12], [12, 13]), ([12], [12]), ([14, 15, 12], [12, 14, 15]), ([12, 16], [12, 16]), ([17, 14, 0, 1, 2, 3, 4, 5, 6, 7, 8, 9, 10, 11, 12, 13, 14, 15, 16, 17], [17])])
def tiklaw23_DeckStands.B21 : List Nat := [0, 1, 3, 7, 3, 31, 63, 127, 255, 511, 1023, 2047, 4095, 8191, 16383, 8191, 65535, 131071, 262143]
theorem tiklaw23_DeckStands.tab21 : rtab .any (opsOf Tryd.f5 21) = tiklaw23_DeckStands.T21 := by kernel_rfl
theorem tiklaw23_DeckStands.bits21 : waitsOk tiklaw23_DeckStands.T21.2 tiklaw23_DeckStands.B21 = true := by kernel_rfl
set_option maxHeartbeats 8000000 in
set_option maxRecDepth 100000 in
theorem tiklaw23_DeckStands.calls (k : Nat) (a0 : Int) (a1 : Int) (a2 : Int) (a3 : Int) (a4_0 : Int) (a4_1 : Int) (a4_2 : Int) (a4_3 : Int) (a4_4 : Int) (a4_5 : Nat) (A5 : Option Addr) (c5 : Nat) (l5 : List Int) (r : Bool) (w : World) (hr5 : Kd.C (Kd.int .u64) w A5 l5.length l5) (hc5 : l5.length ≤ c5) (hT : TabW w) (hr_ : Aside0 (r = true)) (h : tiklaw23_DeckStands.f k a0 a1 a2 a3 a4_0 a4_1 a4_2 a4_3 a4_4 a4_5 l5 = some r) :
    Calls Tryd.prog 5 #[.int .u64 a0, .int .u64 a1, .int .u64 a2, .int .u64 a3, .agg #[.int .i64 a4_0, .int .u64 a4_1, .int .u64 a4_2, .int .u64 a4_3, .int .u64 a4_4, .float .f64 a4_5], .slice A5 l5.length c5] w fun e w' => e = .returned (.bool r) ∧ Below w.heap.size w w' := by
  have HT := Aside0.mk hT
  clear hT
  have hu36 := Tryd.underlying36
  have hu30 := Tryd.underlying30
  have HR5 := Aside0.mk hr5
  have HC5 := Aside0.mk hc5
  clear hr5 hc5
  have HB := Aside0.mk (Below.refl w.heap.size w)
  have H : ((tiklaw23_first.f k).bind fun t268 => (if t268 = true then ((deck_New.f).bind fun bt269 => (if false = true then (tiklaw23_DeckStands.j0 k a0 a1 a2 a3 l5 true a4_0 a4_1 a4_2 a4_3 a4_4 a4_5 bt269.1 bt269.2.1 bt269.2.2.1 bt269.2.2.2.1 bt269.2.2.2.2.1 bt269.2.2.2.2.2.1 bt269.2.2.2.2.2.2.1 bt269.2.2.2.2.2.2.2.1 bt269.2.2.2.2.2.2.2.2.1 bt269.2.2.2.2.2.2.2.2.2) else (if (l5.length : Int) > 200 then (tiklaw23_DeckStands.j0 k a0 a1 a2 a3 l5 true a4_0 a4_1 a4_2 a4_3 a4_4 a4_5 bt269.1 bt269.2.1 bt269.2.2.1 bt269.2.2.2.1 bt269.2.2.2.2.1 bt269.2.2.2.2.2.1 bt269.2.2.2.2.2.2.1 bt269.2.2.2.2.2.2.2.1 bt269.2.2.2.2.2.2.2.2.1 bt269.2.2.2.2.2.2.2.2.2) else (if a1 > a2 then (tiklaw23_DeckStands.j0 k a0 a1 a2 a3 l5 true a4_0 a4_1 a4_2 a4_3 a4_4 a4_5 bt269.1 bt269.2.1 bt269.2.2.1 bt269.2.2.2.1 bt269.2.2.2.2.1 bt269.2.2.2.2.2.1 bt269.2.2.2.2.2.2.1 bt269.2.2.2.2.2.2.2.1 bt269.2.2.2.2.2.2.2.2.1 bt269.2.2.2.2.2.2.2.2.2) else (if a2 > 1152921504606846976 then (tiklaw23_DeckStands.j0 k a0 a1 a2 a3 l5 true a4_0 a4_1 a4_2 a4_3 a4_4 a4_5 bt269.1 bt269.2.1 bt269.2.2.1 bt269.2.2.2.1 bt269.2.2.2.2.1 bt269.2.2.2.2.2.1 bt269.2.2.2.2.2.2.1 bt269.2.2.2.2.2.2.2.1 bt269.2.2.2.2.2.2.2.2.1 bt269.2.2.2.2.2.2.2.2.2) else (if a0 > 1152921504606846976 then (tiklaw23_DeckStands.j0 k a0 a1 a2 a3 l5 true a4_0 a4_1 a4_2 a4_3 a4_4 a4_5 bt269.1 bt269.2.1 bt269.2.2.1 bt269.2.2.2.1 bt269.2.2.2.2.1 bt269.2.2.2.2.2.1 bt269.2.2.2.2.2.2.1 bt269.2.2.2.2.2.2.2.1 bt269.2.2.2.2.2.2.2.2.1 bt269.2.2.2.2.2.2.2.2.2) else (if a3 < a1 then (tiklaw23_DeckStands.j0 k a0 a1 a2 a3 l5 true a4_0 a4_1 a4_2 a4_3 a4_4 a4_5 bt269.1 bt269.2.1 bt269.2.2.1 bt269.2.2.2.1 bt269.2.2.2.2.1 bt269.2.2.2.2.2.1 bt269.2.2.2.2.2.2.1 bt269.2.2.2.2.2.2.2.1 bt269.2.2.2.2.2.2.2.2.1 bt269.2.2.2.2.2.2.2.2.2) else (tiklaw23_DeckStands.j0 k a0 a1 a2 a3 l5 (decide (a3 > a2)) a4_0 a4_1 a4_2 a4_3 a4_4 a4_5 bt269.1 bt269.2.1 bt269.2.2.1 bt269.2.2.2.1 bt269.2.2.2.2.1 bt269.2.2.2.2.2.1 bt269.2.2.2.2.2.2.1 bt269.2.2.2.2.2.2.2.1 bt269.2.2.2.2.2.2.2.2.1 bt269.2.2.2.2.2.2.2.2.2)))))))) else (some false))) = some r := h
  clear h
  replace H := Option.bind_eq_some_iff.mp H
  obtain ⟨t268, A70, H⟩ := H
  replace H : (if t268 = true then ((deck_New.f).bind fun bt269 => (if false = true then (tiklaw23_DeckStands.j0 k a0 a1 a2 a3 l5 true a4_0 a4_1 a4_2 a4_3 a4_4 a4_5 bt269.1 bt269.2.1 bt269.2.2.1 bt269.2.2.2.1 bt269.2.2.2.2.1 bt269.2.2.2.2.2.1 bt269.2.2.2.2.2.2.1 bt269.2.2.2.2.2.2.2.1 bt269.2.2.2.2.2.2.2.2.1 bt269.2.2.2.2.2.2.2.2.2) else (if (l5.length : Int) > 200 then (tiklaw23_DeckStands.j0 k a0 a1 a2 a3 l5 true a4_0 a4_1 a4_2 a4_3 a4_4 a4_5 bt269.1 bt269.2.1 bt269.2.2.1 bt269.2.2.2.1 bt269.2.2.2.2.1 bt269.2.2.2.2.2.1 bt269.2.2.2.2.2.2.1 bt269.2.2.2.2.2.2.2.1 bt269.2.2.2.2.2.2.2.2.1 bt269.2.2.2.2.2.2.2.2.2) else (if a1 > a2 then (tiklaw23_DeckStands.j0 k a0 a1 a2 a3 l5 true a4_0 a4_1 a4_2 a4_3 a4_4 a4_5 bt269.1 bt269.2.1 bt269.2.2.1 bt269.2.2.2.1 bt269.2.2.2.2.1 bt269.2.2.2.2.2.1 bt269.2.2.2.2.2.2.1 bt269.2.2.2.2.2.2.2.1 bt269.2.2.2.2.2.2.2.2.1 bt269.2.2.2.2.2.2.2.2.2) else (if a2 > 1152921504606846976 then (tiklaw23_DeckStands.j0 k a0 a1 a2 a3 l5 true a4_0 a4_1 a4_2 a4_3 a4_4 a4_5 bt269.1 bt269.2.1 bt269.2.2.1 bt269.2.2.2.1 bt269.2.2.2.2.1 bt269.2.2.2.2.2.1 bt269.2.2.2.2.2.2.1 bt269.2.2.2.2.2.2.2.1 bt269.2.2.2.2.2.2.2.2.1 bt269.2.2.2.2.2.2.2.2.2) else (if a0 > 1152921504606846976 then (tiklaw23_DeckStands.j0 k a0 a1 a2 a3 l5 true a4_0 a4_1 a4_2 a4_3 a4_4 a4_5 bt269.1 bt269.2.1 bt269.2.2.1 bt269.2.2.2.1 bt269.2.2.2.2.1 bt269.2.2.2.2.2.1 bt269.2.2.2.2.2.2.1 bt269.2.2.2.2.2.2.2.1 bt269.2.2.2.2.2.2.2.2.1 bt269.2.2.2.2.2.2.2.2.2) else (if a3 < a1 then (tiklaw23_DeckStands.j0 k a0 a1 a2 a3 l5 true a4_0 a4_1 a4_2 a4_3 a4_4 a4_5 bt269.1 bt269.2.1 bt269.2.2.1 bt269.2.2.2.1 bt269.2.2.2.2.1 bt269.2.2.2.2.2.1 bt269.2.2.2.2.2.2.1 bt269.2.2.2.2.2.2.2.1 bt269.2.2.2.2.2.2.2.2.1 bt269.2.2.2.2.2.2.2.2.2) else (tiklaw23_DeckStands.j0 k a0 a1 a2 a3 l5 (decide (a3 > a2)) a4_0 a4_1 a4_2 a4_3 a4_4 a4_5 bt269.1 bt269.2.1 bt269.2.2.1 bt269.2.2.2.1 bt269.2.2.2.2.1 bt269.2.2.2.2.2.1 bt269.2.2.2.2.2.2.1 bt269.2.2.2.2.2.2.2.1 bt269.2.2.2.2.2.2.2.2.1 bt269.2.2.2.2.2.2.2.2.2)))))))) else (some false)) = some r := H
  have A7 := Aside0.mk A70
  clear A70
  by_cases c8 : t268 = true
  · subst c8
    have H1 : ((deck_New.f).bind fun bt269 => (if false = true then (tiklaw23_DeckStands.j0 k a0 a1 a2 a3 l5 true a4_0 a4_1 a4_2 a4_3 a4_4 a4_5 bt269.1 bt269.2.1 bt269.2.2.1 bt269.2.2.2.1 bt269.2.2.2.2.1 bt269.2.2.2.2.2.1 bt269.2.2.2.2.2.2.1 bt269.2.2.2.2.2.2.2.1 bt269.2.2.2.2.2.2.2.2.1 bt269.2.2.2.2.2.2.2.2.2) else (if (l5.length : Int) > 200 then (tiklaw23_DeckStands.j0 k a0 a1 a2 a3 l5 true a4_0 a4_1 a4_2 a4_3 a4_4 a4_5 bt269.1 bt269.2.1 bt269.2.2.1 bt269.2.2.2.1 bt269.2.2.2.2.1 bt269.2.2.2.2.2.1 bt269.2.2.2.2.2.2.1 bt269.2.2.2.2.2.2.2.1 bt269.2.2.2.2.2.2.2.2.1 bt269.2.2.2.2.2.2.2.2.2) else (if a1 > a2 then (tiklaw23_DeckStands.j0 k a0 a1 a2 a3 l5 true a4_0 a4_1 a4_2 a4_3 a4_4 a4_5 bt269.1 bt269.2.1 bt269.2.2.1 bt269.2.2.2.1 bt269.2.2.2.2.1 bt269.2.2.2.2.2.1 bt269.2.2.2.2.2.2.1 bt269.2.2.2.2.2.2.2.1 bt269.2.2.2.2.2.2.2.2.1 bt269.2.2.2.2.2.2.2.2.2) else (if a2 > 1152921504606846976 then (tiklaw23_DeckStands.j0 k a0 a1 a2 a3 l5 true a4_0 a4_1 a4_2 a4_3 a4_4 a4_5 bt269.1 bt269.2.1 bt269.2.2.1 bt269.2.2.2.1 bt269.2.2.2.2.1 bt269.2.2.2.2.2.1 bt269.2.2.2.2.2.2.1 bt269.2.2.2.2.2.2.2.1 bt269.2.2.2.2.2.2.2.2.1 bt269.2.2.2.2.2.2.2.2.2) else (if a0 > 1152921504606846976 then (tiklaw23_DeckStands.j0 k a0 a1 a2 a3 l5 true a4_0 a4_1 a4_2 a4_3 a4_4 a4_5 bt269.1 bt269.2.1 bt269.2.2.1 bt269.2.2.2.1 bt269.2.2.2.2.1 bt269.2.2.2.2.2.1 bt269.2.2.2.2.2.2.1 bt269.2.2.2.2.2.2.2.1 bt269.2.2.2.2.2.2.2.2.1 bt269.2.2.2.2.2.2.2.2.2) else (if a3 < a1 then (tiklaw23_DeckStands.j0 k a0 a1 a2 a3 l5 true a4_0 a4_1 a4_2 a4_3 a4_4 a4_5 bt269.1 bt269.2.1 bt269.2.2.1 bt269.2.2.2.1 bt269.2.2.2.2.1 bt269.2.2.2.2.2.1 bt269.2.2.2.2.2.2.1 bt269.2.2.2.2.2.2.2.1 bt269.2.2.2.2.2.2.2.2.1 bt269.2.2.2.2.2.2.2.2.2) else (tiklaw23_DeckStands.j0 k a0 a1 a2 a3 l5 (decide (a3 > a2)) a4_0 a4_1 a4_2 a4_3 a4_4 a4_5 bt269.1 bt269.2.1 bt269.2.2.1 bt269.2.2.2.1 bt269.2.2.2.2.1 bt269.2.2.2.2.2.1 bt269.2.2.2.2.2.2.1 bt269.2.2.2.2.2.2.2.1 bt269.2.2.2.2.2.2.2.2.1 bt269.2.2.2.2.2.2.2.2.2)))))))) = some r := by rw [if_pos rfl] at H; exact H
    clear H
    have H := H1
    clear H1
    replace H := Option.bind_eq_some_iff.mp H
    obtain ⟨⟨t269, t270, t271, t272, t273, t274, t275, t276, t277, t278⟩, A90, H⟩ := H
    replace H : (if false = true then (tiklaw23_DeckStands.j0 k a0 a1 a2 a3 l5 true a4_0 a4_1 a4_2 a4_3 a4_4 a4_5 t269 t270 t271 t272 t273 t274 t275 t276 t277 t278) else (if (l5.length : Int) > 200 then (tiklaw23_DeckStands.j0 k a0 a1 a2 a3 l5 true a4_0 a4_1 a4_2 a4_3 a4_4 a4_5 t269 t270 t271 t272 t273 t274 t275 t276 t277 t278) else (if a1 > a2 then (tiklaw23_DeckStands.j0 k a0 a1 a2 a3 l5 true a4_0 a4_1 a4_2 a4_3 a4_4 a4_5 t269 t270 t271 t272 t273 t274 t275 t276 t277 t278) else (if a2 > 1152921504606846976 then (tiklaw23_DeckStands.j0 k a0 a1 a2 a3 l5 true a4_0 a4_1 a4_2 a4_3 a4_4 a4_5 t269 t270 t271 t272 t273 t274 t275 t276 t277 t278) else (if a0 > 1152921504606846976 then (tiklaw23_DeckStands.j0 k a0 a1 a2 a3 l5 true a4_0 a4_1 a4_2 a4_3 a4_4 a4_5 t269 t270 t271 t272 t273 t274 t275 t276 t277 t278) else (if a3 < a1 then (tiklaw23_DeckStands.j0 k a0 a1 a2 a3 l5 true a4_0 a4_1 a4_2 a4_3 a4_4 a4_5 t269 t270 t271 t272 t273 t274 t275 t276 t277 t278) else (tiklaw23_DeckStands.j0 k a0 a1 a2 a3 l5 (decide (a3 > a2)) a4_0 a4_1 a4_2 a4_3 a4_4 a4_5 t269 t270 t271 t272 t273 t274 t275 t276 t277 t278))))))) = some r := H
    have A9 := Aside0.mk A90
    clear A90
    have HC10 := Aside0.mk H
    clear H
    go_enter Tryd.func5, Tryd.ntmps5
    go_upto_region 4 with (first | ((with_reducible refine gate_dst (N := 10) rfl ?_); (try (refine gate_guard (by rfl) ?_; dsimp only)); refine box_event ?hg (N := 10) ?hd (cs := #[.int .i64 a4_0, .int .u64 a4_1, .int .u64 a4_2, .int .u64 a4_3, .int .u64 a4_4, .float .f64 a4_5]) (t := 36) ?hr ?_; (case hd => rfl); (case hg => rfl); (case hr => first | (go_simp; done) | (go_simp; rfl)); intro gb267 hg w11 hbox hb; have n0_ := Aside0.mk (below_step (by repeat (first | (with_reducible first | exact HB.out | apply below_alloc | apply pw_below_drewN | apply below_drew1) | exact HB.out)) hb); have n1_ := Aside0.mk (hbox); have n2_ := Aside0.mk ((by rw [hg]; exact (below_size (by repeat (first | (with_reducible first | exact HB.out | apply below_alloc | apply pw_below_drewN | apply below_drew1) | exact HB.out))) : w.heap.size ≤ gb267)); have n3_ := Aside0.mk ((by rw [hg]; exact (below_size (by repeat (first | (with_reducible first | exact HB.out | apply below_alloc | apply pw_below_drewN | apply below_drew1) | exact HB.out))) : w.heap.size ≤ gb267)); clear HB; have HB := n0_; have BK267 := n1_; have GW267 := n2_; have GE267 := n3_; clear n0_ n1_ n2_ n3_; clear hb hbox hg) | ((with_reducible refine gate_callee (f := 12) rfl ?_); refine goesL_ (some 17) rfl rfl Tryd.func12 (by kernel_rfl) rfl #[] rfl (by (try simp only [List.map_toArray, List.map_cons, List.map_nil]); first | done | rfl | (simp only [List.length_drop, List.length_take]; rfl)) ?_; (with_reducible refine (tiklaw23_first.calls k  true _ ?side1 A7.out).mono ?_); (case side1 => first | (with_reducible exact HT.out) | exact tabAt HT.out (by repeat (first | (with_reducible first | exact HB.out | apply below_alloc | apply pw_below_drewN | apply below_drew1 | refine below_set ?_ GE267.out) | exact HB.out))); rintro e w12 ⟨rfl, hb⟩; refine ⟨_, rfl, ?_⟩; have n0_ := Aside0.mk (blk_below (g := gb267) (o := .cells #[.int .i64 a4_0, .int .u64 a4_1, .int .u64 a4_2, .int .u64 a4_3, .int .u64 a4_4, .float .f64 a4_5] 36 (0, 0)) (by (with_reducible repeat (first | refine blk_drewN ?_ _ | refine blk_drew ?_ | refine blk_alloc ?_ _)); exact BK267.out) hb); have n1_ := Aside0.mk (below_step (by repeat (first | (with_reducible first | exact HB.out | apply below_alloc | apply pw_below_drewN | apply below_drew1 | refine below_set ?_ GE267.out) | exact HB.out)) hb); clear BK267; clear HB; have BK267 := n0_; have HB := n1_; clear n0_ n1_; (try clear hb); (try clear hb2); (try clear hk); (try clear hi)) | ((with_reducible refine gate_callee (f := 13) rfl ?_); refine goesL_ (some 19) rfl rfl Tryd.func13 (by kernel_rfl) rfl #[] rfl (by (try simp only [List.map_toArray, List.map_cons, List.map_nil]); first | done | rfl | (simp only [List.length_drop, List.length_take]; rfl)) ?_; (with_reducible refine (deck_New.calls  t269 t270 t271 t272 t273 t274 t275 t276 t277 t278 w _ ?side1 A9.out).mono ?_); (case side1 => repeat (first | (with_reducible first | exact HB.out | apply below_alloc | apply pw_below_drewN | apply below_drew1 | refine below_set ?_ GE267.out) | exact HB.out)); rintro e w13 ⟨g279, rfl, hi, hb, hb2, hnew⟩; refine ⟨_, rfl, ?_⟩; have n0_ := Aside0.mk (blk_below (g := gb267) (o := .cells #[.int .i64 a4_0, .int .u64 a4_1, .int .u64 a4_2, .int .u64 a4_3, .int .u64 a4_4, .float .f64 a4_5] 36 (0, 0)) (by (with_reducible repeat (first | refine blk_drewN ?_ _ | refine blk_drew ?_ | refine blk_alloc ?_ _)); exact BK267.out) hb2); have n1_ := Aside0.mk (hb); have n2_ := Aside0.mk (hi); have n3_ := Aside0.mk (IsS100.ne_blk hi (blk_below (g := gb267) (o := .cells #[.int .i64 a4_0, .int .u64 a4_1, .int .u64 a4_2, .int .u64 a4_3, .int .u64 a4_4, .float .f64 a4_5] 36 (0, 0)) (by (with_reducible repeat (first | refine blk_drewN ?_ _ | refine blk_drew ?_ | refine blk_alloc ?_ _)); exact BK267.out) hb2) (by decide)); have n4_ := Aside0.mk (Ne.symm (IsS100.ne_blk hi (blk_below (g := gb267) (o := .cells #[.int .i64 a4_0, .int .u64 a4_1, .int .u64 a4_2, .int .u64 a4_3, .int .u64 a4_4, .float .f64 a4_5] 36 (0, 0)) (by (with_reducible repeat (first | refine blk_drewN ?_ _ | refine blk_drew ?_ | refine blk_alloc ?_ _)); exact BK267.out) hb2) (by decide))); clear BK267; clear HB; have BK267 := n0_; have HB := n1_; have HI279 := n2_; have NB279_267 := n3_; have NB267_279 := n4_; clear n0_ n1_ n2_ n3_ n4_; (try clear hb); (try clear hb2); (try clear hk); (try clear hi)))
    (try simp only [Act.put, List.setIfInBounds_toArray, List.set_cons_zero, List.set_cons_succ])
    go_cut [49] (fun v49 wc => ∃ (kq : Nat) (x49_9 : Bool), v49 = .bool x49_9 ∧ Aside0 (tiklaw23_DeckStands.j0 kq a0 a1 a2 a3 l5 x49_9 a4_0 a4_1 a4_2 a4_3 a4_4 a4_5 t269 t270 t271 t272 t273 t274 t275 t276 t277 t278 = some r) ∧ Aside0 (kq ≤ k) ∧ Aside0 (wc.heap[gb267]? = some (.cells #[.int .i64 a4_0, .int .u64 a4_1, .int .u64 a4_2, .int .u64 a4_3, .int .u64 a4_4, .float .f64 a4_5] 36 (0, 0))) ∧ Aside0 (IsS100 w wc g279 t269 t270 t271 t272 t273 t274 t275 t276 t277 t278) ∧ Aside0 (Below w.heap.size w wc))
    case first =>
      have H := HC10.out
      clear HC10
      have H1 : (if (l5.length : Int) > 200 then (tiklaw23_DeckStands.j0 k a0 a1 a2 a3 l5 true a4_0 a4_1 a4_2 a4_3 a4_4 a4_5 t269 t270 t271 t272 t273 t274 t275 t276 t277 t278) else (if a1 > a2 then (tiklaw23_DeckStands.j0 k a0 a1 a2 a3 l5 true a4_0 a4_1 a4_2 a4_3 a4_4 a4_5 t269 t270 t271 t272 t273 t274 t275 t276 t277 t278) else (if a2 > 1152921504606846976 then (tiklaw23_DeckStands.j0 k a0 a1 a2 a3 l5 true a4_0 a4_1 a4_2 a4_3 a4_4 a4_5 t269 t270 t271 t272 t273 t274 t275 t276 t277 t278) else (if a0 > 1152921504606846976 then (tiklaw23_DeckStands.j0 k a0 a1 a2 a3 l5 true a4_0 a4_1 a4_2 a4_3 a4_4 a4_5 t269 t270 t271 t272 t273 t274 t275 t276 t277 t278) else (if a3 < a1 then (tiklaw23_DeckStands.j0 k a0 a1 a2 a3 l5 true a4_0 a4_1 a4_2 a4_3 a4_4 a4_5 t269 t270 t271 t272 t273 t274 t275 t276 t277 t278) else (tiklaw23_DeckStands.j0 k a0 a1 a2 a3 l5 (decide (a3 > a2)) a4_0 a4_1 a4_2 a4_3 a4_4 a4_5 t269 t270 t271 t272 t273 t274 t275 t276 t277 t278)))))) = some r := by first | (rw [if_neg (show ¬ (false = true) by decide)] at H; exact H) | exact (if_neg not_false).symm.trans H
      clear H
      have H := H1
      clear H1
      by_cases c14 : (l5.length : Int) > 200
      · rw [if_pos c14] at H
        have c14b0 : decide (200 < (l5.length : Int)) = true := decide_eq_true c14
        have c14b1 : decide (200 < l5.length) = true := decide_eq_true (by omega)
        clear c14
        (first | rw [c14b0] | (simp only [i64_w, i32_w]; rw [c14b0]) | skip)
        have H' := Aside0.mk H
        clear H
        go_wp2
        go_meet
        case rel => exact ⟨_, (true), (by first | rfl | (simp; done) | (simp [*]; done)), H', ⟨by first | omega | exact Nat.le_refl _⟩, ⟨by (with_reducible repeat (first | refine blk_drewN ?_ _ | refine blk_drew ?_ | refine blk_alloc ?_ _)); exact BK267.out⟩, ⟨by repeat (first | (with_reducible first | exact HI279.out | apply IsS100.alloc | apply IsS100.drewN | apply IsS100.drew | apply IsS100.set_0 | apply IsS100.set_1 | apply IsS100.set_2 | apply IsS100.set_3 | apply IsS100.set_4 | apply IsS100.set_5 | apply IsS100.set_6 | apply IsS100.set_7 | apply IsS100.set_8 | apply IsS100.set_9 | refine IsS100.far ?_ NB279_267.out _) | exact HI279.out)⟩, ⟨by repeat (first | (with_reducible first | exact HB.out | apply below_alloc | apply pw_below_drewN | apply below_drew1 | refine below_set ?_ (IsS100.ge HI279.out) | refine below_set ?_ GE267.out) | exact HB.out)⟩⟩
      · rw [if_neg c14] at H
        have c14b0 : decide (200 < (l5.length : Int)) = false := decide_eq_false c14
        have c14b1 : decide (200 < l5.length) = false := decide_eq_false (by omega)
        clear c14
        (first | rw [c14b0] | (simp only [i64_w, i32_w]; rw [c14b0]) | skip)
        by_cases c15 : a1 > a2
        · rw [if_pos c15] at H
          have c15b0 : decide (a2 < a1) = true := decide_eq_true c15
          clear c15
          have H' := Aside0.mk H
          clear H
          go_wp2
          go_meet
          case rel => exact ⟨_, (true), (by first | rfl | (simp; done) | (simp [*]; done)), H', ⟨by first | omega | exact Nat.le_refl _⟩, ⟨by (with_reducible repeat (first | refine blk_drewN ?_ _ | refine blk_drew ?_ | refine blk_alloc ?_ _)); exact BK267.out⟩, ⟨by repeat (first | (with_reducible first | exact HI279.out | apply IsS100.alloc | apply IsS100.drewN | apply IsS100.drew | apply IsS100.set_0 | apply IsS100.set_1 | apply IsS100.set_2 | apply IsS100.set_3 | apply IsS100.set_4 | apply IsS100.set_5 | apply IsS100.set_6 | apply IsS100.set_7 | apply IsS100.set_8 | apply IsS100.set_9 | refine IsS100.far ?_ NB279_267.out _) | exact HI279.out)⟩, ⟨by repeat (first | (with_reducible first | exact HB.out | apply below_alloc | apply pw_below_drewN | apply below_drew1 | refine below_set ?_ (IsS100.ge HI279.out) | refine below_set ?_ GE267.out) | exact HB.out)⟩⟩
        · rw [if_neg c15] at H
          have c15b0 : decide (a2 < a1) = false := decide_eq_false c15
          clear c15
          by_cases c16 : a2 > 1152921504606846976
          · rw [if_pos c16] at H
            have c16b0 : decide (1152921504606846976 < a2) = true := decide_eq_true c16
            clear c16
            have H' := Aside0.mk H
            clear H
            go_wp2
            go_meet
            case rel => exact ⟨_, (true), (by first | rfl | (simp; done) | (simp [*]; done)), H', ⟨by first | omega | exact Nat.le_refl _⟩, ⟨by (with_reducible repeat (first | refine blk_drewN ?_ _ | refine blk_drew ?_ | refine blk_alloc ?_ _)); exact BK267.out⟩, ⟨by repeat (first | (with_reducible first | exact HI279.out | apply IsS100.alloc | apply IsS100.drewN | apply IsS100.drew | apply IsS100.set_0 | apply IsS100.set_1 | apply IsS100.set_2 | apply IsS100.set_3 | apply IsS100.set_4 | apply IsS100.set_5 | apply IsS100.set_6 | apply IsS100.set_7 | apply IsS100.set_8 | apply IsS100.set_9 | refine IsS100.far ?_ NB279_267.out _) | exact HI279.out)⟩, ⟨by repeat (first | (with_reducible first | exact HB.out | apply below_alloc | apply pw_below_drewN | apply below_drew1 | refine below_set ?_ (IsS100.ge HI279.out) | refine below_set ?_ GE267.out) | exact HB.out)⟩⟩
          · rw [if_neg c16] at H
            have c16b0 : decide (1152921504606846976 < a2) = false := decide_eq_false c16
            clear c16
            by_cases c17 : a0 > 1152921504606846976
            · rw [if_pos c17] at H
              have c17b0 : decide (1152921504606846976 < a0) = true := decide_eq_true c17
              clear c17
              have H' := Aside0.mk H
              clear H
              go_wp2
              go_meet
              case rel => exact ⟨_, (true), (by first | rfl | (simp; done) | (simp [*]; done)), H', ⟨by first | omega | exact Nat.le_refl _⟩, ⟨by (with_reducible repeat (first | refine blk_drewN ?_ _ | refine blk_drew ?_ | refine blk_alloc ?_ _)); exact BK267.out⟩, ⟨by repeat (first | (with_reducible first | exact HI279.out | apply IsS100.alloc | apply IsS100.drewN | apply IsS100.drew | apply IsS100.set_0 | apply IsS100.set_1 | apply IsS100.set_2 | apply IsS100.set_3 | apply IsS100.set_4 | apply IsS100.set_5 | apply IsS100.set_6 | apply IsS100.set_7 | apply IsS100.set_8 | apply IsS100.set_9 | refine IsS100.far ?_ NB279_267.out _) | exact HI279.out)⟩, ⟨by repeat (first | (with_reducible first | exact HB.out | apply below_alloc | apply pw_below_drewN | apply below_drew1 | refine below_set ?_ (IsS100.ge HI279.out) | refine below_set ?_ GE267.out) | exact HB.out)⟩⟩
            · rw [if_neg c17] at H
              have c17b0 : decide (1152921504606846976 < a0) = false := decide_eq_false c17
              clear c17
              by_cases c18 : a3 < a1
              · rw [if_pos c18] at H
                have c18b0 : decide (a3 < a1) = true := decide_eq_true c18
                clear c18
                have H' := Aside0.mk H
                clear H
                go_wp2
                go_meet
                case rel => exact ⟨_, (true), (by first | rfl | (simp; done) | (simp [*]; done)), H', ⟨by first | omega | exact Nat.le_refl _⟩, ⟨by (with_reducible repeat (first | refine blk_drewN ?_ _ | refine blk_drew ?_ | refine blk_alloc ?_ _)); exact BK267.out⟩, ⟨by repeat (first | (with_reducible first | exact HI279.out | apply IsS100.alloc | apply IsS100.drewN | apply IsS100.drew | apply IsS100.set_0 | apply IsS100.set_1 | apply IsS100.set_2 | apply IsS100.set_3 | apply IsS100.set_4 | apply IsS100.set_5 | apply IsS100.set_6 | apply IsS100.set_7 | apply IsS100.set_8 | apply IsS100.set_9 | refine IsS100.far ?_ NB279_267.out _) | exact HI279.out)⟩, ⟨by repeat (first | (with_reducible first | exact HB.out | apply below_alloc | apply pw_below_drewN | apply below_drew1 | refine below_set ?_ (IsS100.ge HI279.out) | refine below_set ?_ GE267.out) | exact HB.out)⟩⟩
              · rw [if_neg c18] at H
                have c18b0 : decide (a3 < a1) = false := decide_eq_false c18
                clear c18
                have H' := Aside0.mk H
                clear H
                go_wp2
                go_meet
                case rel => exact ⟨_, (decide (a3 > a2)), (by first | rfl | (simp; done) | (simp [*]; done)), H', ⟨by first | omega | exact Nat.le_refl _⟩, ⟨by (with_reducible repeat (first | refine blk_drewN ?_ _ | refine blk_drew ?_ | refine blk_alloc ?_ _)); exact BK267.out⟩, ⟨by repeat (first | (with_reducible first | exact HI279.out | apply IsS100.alloc | apply IsS100.drewN | apply IsS100.drew | apply IsS100.set_0 | apply IsS100.set_1 | apply IsS100.set_2 | apply IsS100.set_3 | apply IsS100.set_4 | apply IsS100.set_5 | apply IsS100.set_6 | apply IsS100.set_7 | apply IsS100.set_8 | apply IsS100.set_9 | refine IsS100.far ?_ NB279_267.out _) | exact HI279.out)⟩, ⟨by repeat (first | (with_reducible first | exact HB.out | apply below_alloc | apply pw_below_drewN | apply below_drew1 | refine below_set ?_ (IsS100.ge HI279.out) | refine below_set ?_ GE267.out) | exact HB.out)⟩⟩
    case rest =>
      clear HC10
      try clear c1
      try clear p2
      try clear c5
      try clear c8
      try clear c12
      try clear c13
      try clear c14
      try clear c14b0
      try clear c14b1
      try clear c15
      try clear c15b0
      try clear c16
      try clear c16b0
      try clear c17
      try clear c17b0
      try clear c18
      try clear c18b0
      obtain ⟨kq, x49_9, rfl, HA, HJ9, BK267, HI279, HB⟩ := hcut
      cases kq with
      | zero => exact absurd HA.out (by simp [tiklaw23_DeckStands.j0])
      | succ kj9 =>
        have H := HA.out
        clear HA
        simp only [tiklaw23_DeckStands.j0] at H
        by_cases c19 : x49_9 = true
        · subst c19
          have H1 : (if true = true then ((tiklaw23_first.f kj9).bind fun t280 => (some t280)) else (some false)) = some r := by rw [if_pos rfl] at H; exact H
          clear H
          have H := H1
          clear H1
          have H1 : ((tiklaw23_first.f kj9).bind fun t280 => (some t280)) = some r := by first | (rw [if_pos rfl] at H; exact H) | exact (if_pos trivial).symm.trans H
          clear H
          have H := H1
          clear H1
          replace H := Option.bind_eq_some_iff.mp H
          obtain ⟨t280, A200, H⟩ := H
          replace H : (some t280) = some r := H
          have A20 := Aside0.mk A200
          clear A200
          obtain rfl := Option.some.inj H
          go_wp2_with (first | (go_at_call 12; (with_reducible refine (tiklaw23_first.calls kj9  t280 _ ?side1 A20.out).mono ?_); (case side1 => first | (with_reducible exact HT.out) | exact tabAt HT.out (by repeat (first | (with_reducible first | exact HB.out | apply below_alloc | apply pw_below_drewN | apply below_drew1 | refine below_set ?_ (IsS100.ge HI279.out) | refine below_set ?_ GE267.out) | exact HB.out))); rintro e w21 ⟨rfl, hb⟩; have n0_ := Aside0.mk (blk_below (g := gb267) (o := .cells #[.int .i64 a4_0, .int .u64 a4_1, .int .u64 a4_2, .int .u64 a4_3, .int .u64 a4_4, .float .f64 a4_5] 36 (0, 0)) (by (with_reducible repeat (first | refine blk_drewN ?_ _ | refine blk_drew ?_ | refine blk_alloc ?_ _)); exact BK267.out) hb); have n1_ := Aside0.mk (IsS100.below (by repeat (first | (with_reducible first | exact HI279.out | apply IsS100.alloc | apply IsS100.drewN | apply IsS100.drew | apply IsS100.set_0 | apply IsS100.set_1 | apply IsS100.set_2 | apply IsS100.set_3 | apply IsS100.set_4 | apply IsS100.set_5 | apply IsS100.set_6 | apply IsS100.set_7 | apply IsS100.set_8 | apply IsS100.set_9 | refine IsS100.far ?_ NB279_267.out _) | exact HI279.out)) hb); have n2_ := Aside0.mk (below_step (by repeat (first | (with_reducible first | exact HB.out | apply below_alloc | apply pw_below_drewN | apply below_drew1 | refine below_set ?_ (IsS100.ge HI279.out) | refine below_set ?_ GE267.out) | exact HB.out)) hb); clear BK267; clear HI279; clear HB; have BK267 := n0_; have HI279 := n1_; have HB := n2_; clear n0_ n1_ n2_; (try clear hb); (try clear hb2); (try clear hk); (try clear hi)))
          go_ret
          exact ⟨by first | rfl | (simp [errW_none, errW_some] <;> rfl) | (simp [*, errW_none, errW_some] <;> rfl), by repeat (first | (with_reducible first | exact HB.out | apply below_alloc | apply pw_below_drewN | apply below_drew1 | refine below_set ?_ (IsS100.ge HI279.out) | refine below_set ?_ GE267.out) | exact HB.out)⟩
        · replace c19 := Bool.eq_false_iff.mpr c19
          subst c19
          have H1 : ((deck_Deck_Seek.f t269 t270 t271 t272 t273 t274 t275 t276 t277 t278 a0 a1 a2 a3).bind fun bt281 => (if bt281.1 = 0 then (tiklaw23_DeckStands.l0 kj9 a0 a2 l5 a3 0 a4_0 a4_1 a4_2 a4_3 a4_4 a4_5 bt281.2.1 bt281.2.2.1 bt281.2.2.2.1 bt281.2.2.2.2.1 bt281.2.2.2.2.2.1 bt281.2.2.2.2.2.2.1 bt281.2.2.2.2.2.2.2.1 bt281.2.2.2.2.2.2.2.2.1 bt281.2.2.2.2.2.2.2.2.2.1 bt281.2.2.2.2.2.2.2.2.2.2) else (some false))) = some r := by rw [if_neg (show ¬ (false = true) by decide)] at H; exact H
          clear H
          have H := H1
          clear H1
          replace H := Option.bind_eq_some_iff.mp H
          obtain ⟨⟨t281, t282, t283, t284, t285, t286, t287, t288, t289, t290, t291⟩, A220, H⟩ := H
          replace H : (if t281 = 0 then (tiklaw23_DeckStands.l0 kj9 a0 a2 l5 a3 0 a4_0 a4_1 a4_2 a4_3 a4_4 a4_5 t282 t283 t284 t285 t286 t287 t288 t289 t290 t291) else (some false)) = some r := H
          have A22 := Aside0.mk A220
          clear A220
          by_cases c23 : t281 = 0
          · rw [if_pos c23] at H
            have c23b0 : (t281 == 0) = true := beq_iff_eq.mpr c23
            have c23b1 : (t281 != 0) = false := bne_eq_false_iff_eq.mpr c23
            clear c23
            have H' := Aside0.mk H
            clear H
            go_wp2_with (first | ((with_reducible refine gate_callee (f := 23) rfl ?_); refine goesL_ (some 60) rfl rfl Tryd.func23 (by kernel_rfl) rfl #[.pointer (some ⟨g279, 0, none⟩), .int .u64 a0, .int .u64 a1, .int .u64 a2, .int .u64 a3] rfl (by (try simp only [List.map_toArray, List.map_cons, List.map_nil]); first | done | rfl | (simp only [List.length_drop, List.length_take]; rfl)) ?_; (with_reducible refine (deck_Deck_Seek.calls g279 t269 t270 t271 t272 t273 t274 t275 t276 t277 t278 a0 a1 a2 a3 t281 t282 t283 t284 t285 t286 t287 t288 t289 t290 t291 w _ ?side1 ?side2 A22.out).mono ?_); (case side1 => repeat (first | (with_reducible first | exact HI279.out | apply IsS100.alloc | apply IsS100.drewN | apply IsS100.drew | apply IsS100.set_0 | apply IsS100.set_1 | apply IsS100.set_2 | apply IsS100.set_3 | apply IsS100.set_4 | apply IsS100.set_5 | apply IsS100.set_6 | apply IsS100.set_7 | apply IsS100.set_8 | apply IsS100.set_9 | refine IsS100.far ?_ NB279_267.out _) | exact HI279.out)); (case side2 => repeat (first | (with_reducible first | exact HB.out | apply below_alloc | apply pw_below_drewN | apply below_drew1 | refine below_set ?_ (IsS100.ge HI279.out) | refine below_set ?_ GE267.out) | exact HB.out)); rintro e w24 ⟨rfl, hi, hb, hk⟩; refine ⟨_, rfl, ?_⟩; have n0_ := Aside0.mk (KeepBut.blk hk (g' := gb267) (o := .cells #[.int .i64 a4_0, .int .u64 a4_1, .int .u64 a4_2, .int .u64 a4_3, .int .u64 a4_4, .float .f64 a4_5] 36 (0, 0)) (by (with_reducible repeat (first | refine blk_drewN ?_ _ | refine blk_drew ?_ | refine blk_alloc ?_ _)); exact BK267.out) NB267_279.out (by simp)); have n1_ := Aside0.mk (hb); have n2_ := Aside0.mk (hi); clear BK267; clear HB; clear HI279; have BK267 := n0_; have HB := n1_; have HI279 := n2_; clear n0_ n1_ n2_; (try clear hb); (try clear hb2); (try clear hk); (try clear hi)))
            go_loopg [14, 15] kj9 (fun kq v14 v15 w' => ∃ (x14_2 : Int) (x15_2 : Int) (x280000_2 : Int) (x280001_2 : Int) (x280002_2 : Int) (x280003_2 : Int) (x280004_2 : Bool) (x280005_2 : Int) (x280006_2 : Int) (x280007_2 : Int) (x280008_2 : Int) (x280009_2 : Int), v14 = .int .u64 x14_2 ∧ v15 = .int .i64 x15_2 ∧ Aside0 (tiklaw23_DeckStands.l0 kq a0 a2 l5 x14_2 x15_2 a4_0 a4_1 a4_2 a4_3 a4_4 a4_5 x280000_2 x280001_2 x280002_2 x280003_2 x280004_2 x280005_2 x280006_2 x280007_2 x280008_2 x280009_2 = some r) ∧ Aside0 (kq ≤ kj9) ∧ Aside0 (w'.heap[gb267]? = some (.cells #[.int .i64 a4_0, .int .u64 a4_1, .int .u64 a4_2, .int .u64 a4_3, .int .u64 a4_4, .float .f64 a4_5] 36 (0, 0))) ∧ Aside0 (IsS100 w w' g279 x280000_2 x280001_2 x280002_2 x280003_2 x280004_2 x280005_2 x280006_2 x280007_2 x280008_2 x280009_2) ∧ Aside0 (Below w.heap.size w w'))
            case atStart => exact ⟨(a3), (0), (t282), (t283), (t284), (t285), (t286), (t287), (t288), (t289), (t290), (t291), (by first | rfl | (simp; done) | (simp [*]; done)), (by first | rfl | (simp; done) | (simp [*]; done)), H', ⟨Nat.le_refl _⟩, ⟨by (with_reducible repeat (first | refine blk_drewN ?_ _ | refine blk_drew ?_ | refine blk_alloc ?_ _)); exact BK267.out⟩, ⟨by repeat (first | (with_reducible first | exact HI279.out | apply IsS100.alloc | apply IsS100.drewN | apply IsS100.drew | apply IsS100.set_0 | apply IsS100.set_1 | apply IsS100.set_2 | apply IsS100.set_3 | apply IsS100.set_4 | apply IsS100.set_5 | apply IsS100.set_6 | apply IsS100.set_7 | apply IsS100.set_8 | apply IsS100.set_9 | refine IsS100.far ?_ NB279_267.out _) | exact HI279.out)⟩, ⟨by repeat (first | (with_reducible first | exact HB.out | apply below_alloc | apply pw_below_drewN | apply below_drew1 | refine below_set ?_ (IsS100.ge HI279.out) | refine below_set ?_ GE267.out) | exact HB.out)⟩⟩
            case round =>
              clear H'
              try clear c1
              try clear c2
              try clear p2
              try clear c5
              try clear c8
              try clear c12
              try clear c13
              try clear c14
              try clear c14b0
              try clear c14b1
              try clear c15
              try clear c15b0
              try clear c16
              try clear c16b0
              try clear c17
              try clear c17b0
              try clear c18
              try clear c18b0
              try clear c19
              try clear c23
              try clear c23b0
              try clear c23b1
              try clear p2
              obtain ⟨x14_2, x15_2, x280000_2, x280001_2, x280002_2, x280003_2, x280004_2, x280005_2, x280006_2, x280007_2, x280008_2, x280009_2, rfl, rfl, HA, HK2, BK267, HI279, HB⟩ := hrel
              cases gk with
              | zero => exact absurd HA.out (by simp [tiklaw23_DeckStands.l0])
              | succ k2 =>
                have H := HA.out
                clear HA
                simp only [tiklaw23_DeckStands.l0] at H
                by_cases c25 : x15_2 < (l5.length : Int)
                · rw [if_pos c25] at H
                  have c25b0 : decide (x15_2 < (l5.length : Int)) = true := decide_eq_true c25
                  clear c25
                  by_cases c26 : 0 ≤ x15_2
                  · rw [if_pos c26] at H
                    have c26b0 : decide (0 ≤ x15_2) = true := decide_eq_true c26
                    clear c26
                    by_cases c27 : (rd l5 x15_2) > a2
                    · rw [if_pos c27] at H
                      have c27b0 : decide (a2 < (rd l5 x15_2)) = true := decide_eq_true c27
                      clear c27
                      replace H := Option.bind_eq_some_iff.mp H
                      obtain ⟨t293, A280, H⟩ := H
                      replace H : (some t293) = some r := H
                      have A28 := Aside0.mk A280
                      clear A280
                      obtain rfl := Option.some.inj H
                      have p292 : 0 ≤ (x15_2 : Int) := of_decide_eq_true (by first | (with_reducible assumption) | assumption)
                      have q292 : x15_2 < (l5.length : Int) := of_decide_eq_true (by first | (with_reducible assumption) | assumption)
                      obtain ⟨ad292, e292, hx292_0⟩ := Kd.at_int HR5.out x15_2 p292 q292
                      cases e292
                      replace hx292_0 := (HB.out.cell (World.block_lt_of_cell? w _ hx292_0)).trans hx292_0
                      replace p292 := eq_true p292
                      replace q292 := eq_true q292
                      go_wp2_with (first | ((with_reducible refine gate_callee (f := 12) rfl ?_); refine goesL_ (some 75) rfl rfl Tryd.func12 (by kernel_rfl) rfl #[] rfl (by (try simp only [List.map_toArray, List.map_cons, List.map_nil]); first | done | rfl | (simp only [List.length_drop, List.length_take]; rfl)) ?_; (with_reducible refine (tiklaw23_first.calls k2  t293 _ ?side1 A28.out).mono ?_); (case side1 => first | (with_reducible exact HT.out) | exact tabAt HT.out (by repeat (first | (with_reducible first | exact HB.out | apply below_alloc | apply pw_below_drewN | apply below_drew1 | refine below_set ?_ (IsS100.ge HI279.out) | refine below_set ?_ GE267.out) | exact HB.out))); rintro e w29 ⟨rfl, hb⟩; refine ⟨_, rfl, ?_⟩; have n0_ := Aside0.mk (blk_below (g := gb267) (o := .cells #[.int .i64 a4_0, .int .u64 a4_1, .int .u64 a4_2, .int .u64 a4_3, .int .u64 a4_4, .float .f64 a4_5] 36 (0, 0)) (by (with_reducible repeat (first | refine blk_drewN ?_ _ | refine blk_drew ?_ | refine blk_alloc ?_ _)); exact BK267.out) hb); have n1_ := Aside0.mk (IsS100.below (by repeat (first | (with_reducible first | exact HI279.out | apply IsS100.alloc | apply IsS100.drewN | apply IsS100.drew | apply IsS100.set_0 | apply IsS100.set_1 | apply IsS100.set_2 | apply IsS100.set_3 | apply IsS100.set_4 | apply IsS100.set_5 | apply IsS100.set_6 | apply IsS100.set_7 | apply IsS100.set_8 | apply IsS100.set_9 | refine IsS100.far ?_ NB279_267.out _) | exact HI279.out)) hb); have n2_ := Aside0.mk (below_step (by repeat (first | (with_reducible first | exact HB.out | apply below_alloc | apply pw_below_drewN | apply below_drew1 | refine below_set ?_ (IsS100.ge HI279.out) | refine below_set ?_ GE267.out) | exact HB.out)) hb); clear BK267; clear HI279; clear HB; have BK267 := n0_; have HI279 := n1_; have HB := n2_; clear n0_ n1_ n2_; (try clear hb); (try clear hb2); (try clear hk); (try clear hi)))
                      go_ret
                      exact ⟨by first | rfl | (simp [errW_none, errW_some] <;> rfl) | (simp [*, errW_none, errW_some] <;> rfl), by repeat (first | (with_reducible first | exact HB.out | apply below_alloc | apply pw_below_drewN | apply below_drew1 | refine below_set ?_ (IsS100.ge HI279.out) | refine below_set ?_ GE267.out) | exact HB.out)⟩
                    · rw [if_neg c27] at H
                      have c27b0 : decide (a2 < (rd l5 x15_2)) = false := decide_eq_false c27
                      clear c27
                      obtain ⟨ji30, hji30⟩ : ∃ j_ : Int, (mx x14_2 (rd l5 x15_2)) = j_ := ⟨_, rfl⟩
                      replace H : ((deck_Deck_Tick.f x280000_2 x280001_2 x280002_2 x280003_2 x280004_2 x280005_2 x280006_2 x280007_2 x280008_2 x280009_2 (IntKind.u64.wrap (a0 + (IntKind.u64.wrap (x15_2)))) (rd l5 x15_2) a2).bind fun bt296 => ((deck_Deck_Pos.f bt296.1 bt296.2.1 bt296.2.2.1 bt296.2.2.2.1 bt296.2.2.2.2.1 bt296.2.2.2.2.2.1 bt296.2.2.2.2.2.2.1 bt296.2.2.2.2.2.2.2.1 bt296.2.2.2.2.2.2.2.2.1 bt296.2.2.2.2.2.2.2.2.2).bind fun bt306 => (if bt306.1 = (ji30) then ((deck_Deck_Mode.f bt306.2.1 bt306.2.2.1 bt306.2.2.2.1 bt306.2.2.2.2.1 bt306.2.2.2.2.2.1 bt306.2.2.2.2.2.2.1 bt306.2.2.2.2.2.2.2.1 bt306.2.2.2.2.2.2.2.2.1 bt306.2.2.2.2.2.2.2.2.2.1 bt306.2.2.2.2.2.2.2.2.2.2).bind fun bt317 => (if bt317.1 = 1 then (tiklaw23_DeckStands.l0 k2 a0 a2 l5 ji30 (wrap64 (x15_2 + 1)) a4_0 a4_1 a4_2 a4_3 a4_4 a4_5 bt317.2.1 bt317.2.2.1 bt317.2.2.2.1 bt317.2.2.2.2.1 bt317.2.2.2.2.2.1 bt317.2.2.2.2.2.2.1 bt317.2.2.2.2.2.2.2.1 bt317.2.2.2.2.2.2.2.2.1 bt317.2.2.2.2.2.2.2.2.2.1 bt317.2.2.2.2.2.2.2.2.2.2) else (some false))) else (some false)))) = some r := by first | (rw [hji30] at H; exact H) | (simp only [hji30] at H ⊢; exact H)
                      have hji30_ : (if x14_2 < (rd l5 x15_2) then (rd l5 x15_2) else x14_2) = ji30 := hji30
                      replace H := Option.bind_eq_some_iff.mp H
                      obtain ⟨⟨t296, t297, t298, t299, t300, t301, t302, t303, t304, t305⟩, A310, H⟩ := H
                      replace H : ((deck_Deck_Pos.f t296 t297 t298 t299 t300 t301 t302 t303 t304 t305).bind fun bt306 => (if bt306.1 = (ji30) then ((deck_Deck_Mode.f bt306.2.1 bt306.2.2.1 bt306.2.2.2.1 bt306.2.2.2.2.1 bt306.2.2.2.2.2.1 bt306.2.2.2.2.2.2.1 bt306.2.2.2.2.2.2.2.1 bt306.2.2.2.2.2.2.2.2.1 bt306.2.2.2.2.2.2.2.2.2.1 bt306.2.2.2.2.2.2.2.2.2.2).bind fun bt317 => (if bt317.1 = 1 then (tiklaw23_DeckStands.l0 k2 a0 a2 l5 ji30 (wrap64 (x15_2 + 1)) a4_0 a4_1 a4_2 a4_3 a4_4 a4_5 bt317.2.1 bt317.2.2.1 bt317.2.2.2.1 bt317.2.2.2.2.1 bt317.2.2.2.2.2.1 bt317.2.2.2.2.2.2.1 bt317.2.2.2.2.2.2.2.1 bt317.2.2.2.2.2.2.2.2.1 bt317.2.2.2.2.2.2.2.2.2.1 bt317.2.2.2.2.2.2.2.2.2.2) else (some false))) else (some false))) = some r := H
                      have A31 := Aside0.mk A310
                      clear A310
                      replace H := Option.bind_eq_some_iff.mp H
                      obtain ⟨⟨t306, t307, t308, t309, t310, t311, t312, t313, t314, t315, t316⟩, A320, H⟩ := H
                      replace H : (if t306 = (ji30) then ((deck_Deck_Mode.f t307 t308 t309 t310 t311 t312 t313 t314 t315 t316).bind fun bt317 => (if bt317.1 = 1 then (tiklaw23_DeckStands.l0 k2 a0 a2 l5 ji30 (wrap64 (x15_2 + 1)) a4_0 a4_1 a4_2 a4_3 a4_4 a4_5 bt317.2.1 bt317.2.2.1 bt317.2.2.2.1 bt317.2.2.2.2.1 bt317.2.2.2.2.2.1 bt317.2.2.2.2.2.2.1 bt317.2.2.2.2.2.2.2.1 bt317.2.2.2.2.2.2.2.2.1 bt317.2.2.2.2.2.2.2.2.2.1 bt317.2.2.2.2.2.2.2.2.2.2) else (some false))) else (some false)) = some r := H
                      have A32 := Aside0.mk A320
                      clear A320
                      by_cases c33 : t306 = (ji30)
                      · rw [if_pos c33] at H
                        have c33b0 : (t306 == (ji30)) = true := beq_iff_eq.mpr c33
                        have c33b1 : (t306 != (ji30)) = false := bne_eq_false_iff_eq.mpr c33
                        clear c33
                        replace H := Option.bind_eq_some_iff.mp H
                        obtain ⟨⟨t317, t318, t319, t320, t321, t322, t323, t324, t325, t326, t327⟩, A340, H⟩ := H
                        replace H : (if t317 = 1 then (tiklaw23_DeckStands.l0 k2 a0 a2 l5 ji30 (wrap64 (x15_2 + 1)) a4_0 a4_1 a4_2 a4_3 a4_4 a4_5 t318 t319 t320 t321 t322 t323 t324 t325 t326 t327) else (some false)) = some r := H
                        have A34 := Aside0.mk A340
                        clear A340
                        by_cases c35 : t317 = 1
                        · rw [if_pos c35] at H
                          have c35b0 : (t317 == 1) = true := beq_iff_eq.mpr c35
                          have c35b1 : (t317 != 1) = false := bne_eq_false_iff_eq.mpr c35
                          clear c35
                          have H' := Aside0.mk H
                          clear H
                          have p292 : 0 ≤ (x15_2 : Int) := of_decide_eq_true (by first | (with_reducible assumption) | assumption)
                          have q292 : x15_2 < (l5.length : Int) := of_decide_eq_true (by first | (with_reducible assumption) | assumption)
                          obtain ⟨ad292, e292, hx292_0⟩ := Kd.at_int HR5.out x15_2 p292 q292
                          cases e292
                          replace hx292_0 := (HB.out.cell (World.block_lt_of_cell? w _ hx292_0)).trans hx292_0
                          replace p292 := eq_true p292
                          replace q292 := eq_true q292
                          have p294 : 0 ≤ (x15_2 : Int) := of_decide_eq_true (by first | (with_reducible assumption) | assumption)
                          have q294 : x15_2 < (l5.length : Int) := of_decide_eq_true (by first | (with_reducible assumption) | assumption)
                          obtain ⟨ad294, e294, hx294_0⟩ := Kd.at_int HR5.out x15_2 p294 q294
                          obtain rfl : ad292 = ad294 := (by injection e294)
                          replace hx294_0 := (HB.out.cell (World.block_lt_of_cell? w _ hx294_0)).trans hx294_0
                          replace p294 := eq_true p294
                          replace q294 := eq_true q294
                          have p295 : 0 ≤ (x15_2 : Int) := of_decide_eq_true (by first | (with_reducible assumption) | assumption)
                          have q295 : x15_2 < (l5.length : Int) := of_decide_eq_true (by first | (with_reducible assumption) | assumption)
                          obtain ⟨ad295, e295, hx295_0⟩ := Kd.at_int HR5.out x15_2 p295 q295
                          obtain rfl : ad292 = ad295 := (by injection e295)
                          replace hx295_0 := (HB.out.cell (World.block_lt_of_cell? w _ hx295_0)).trans hx295_0
                          replace p295 := eq_true p295
                          replace q295 := eq_true q295
                          go_wp2_with (first | ((with_reducible refine gate_callee (f := 25) rfl ?_); refine goesL_ (some 92) rfl rfl Tryd.func25 (by kernel_rfl) rfl #[.pointer (some ⟨g279, 0, none⟩), .int .u64 (IntKind.u64.wrap (a0 + (IntKind.u64.wrap (x15_2)))), .int .u64 (rd l5 x15_2), .int .u64 a2] rfl (by (try simp only [List.map_toArray, List.map_cons, List.map_nil]); first | done | rfl | (simp only [List.length_drop, List.length_take]; rfl)) ?_; (with_reducible refine (deck_Deck_Tick.calls g279 x280000_2 x280001_2 x280002_2 x280003_2 x280004_2 x280005_2 x280006_2 x280007_2 x280008_2 x280009_2 (IntKind.u64.wrap (a0 + (IntKind.u64.wrap (x15_2)))) (rd l5 x15_2) a2 t296 t297 t298 t299 t300 t301 t302 t303 t304 t305 w _ ?side1 ?side2 A31.out).mono ?_); (case side1 => repeat (first | (with_reducible first | exact HI279.out | apply IsS100.alloc | apply IsS100.drewN | apply IsS100.drew | apply IsS100.set_0 | apply IsS100.set_1 | apply IsS100.set_2 | apply IsS100.set_3 | apply IsS100.set_4 | apply IsS100.set_5 | apply IsS100.set_6 | apply IsS100.set_7 | apply IsS100.set_8 | apply IsS100.set_9 | refine IsS100.far ?_ NB279_267.out _) | exact HI279.out)); (case side2 => repeat (first | (with_reducible first | exact HB.out | apply below_alloc | apply pw_below_drewN | apply below_drew1 | refine below_set ?_ (IsS100.ge HI279.out) | refine below_set ?_ GE267.out) | exact HB.out)); rintro e w36 ⟨rfl, hi, hb, hk⟩; refine ⟨_, rfl, ?_⟩; have n0_ := Aside0.mk (KeepBut.blk hk (g' := gb267) (o := .cells #[.int .i64 a4_0, .int .u64 a4_1, .int .u64 a4_2, .int .u64 a4_3, .int .u64 a4_4, .float .f64 a4_5] 36 (0, 0)) (by (with_reducible repeat (first | refine blk_drewN ?_ _ | refine blk_drew ?_ | refine blk_alloc ?_ _)); exact BK267.out) NB267_279.out (by simp)); have n1_ := Aside0.mk (hb); have n2_ := Aside0.mk (hi); clear BK267; clear HB; clear HI279; have BK267 := n0_; have HB := n1_; have HI279 := n2_; clear n0_ n1_ n2_; (try clear hb); (try clear hb2); (try clear hk); (try clear hi)) | ((with_reducible refine gate_callee (f := 19) rfl ?_); refine goesL_ (some 94) rfl rfl Tryd.func19 (by kernel_rfl) rfl #[.pointer (some ⟨g279, 0, none⟩)] rfl (by (try simp only [List.map_toArray, List.map_cons, List.map_nil]); first | done | rfl | (simp only [List.length_drop, List.length_take]; rfl)) ?_; (with_reducible refine (deck_Deck_Pos.calls g279 t296 t297 t298 t299 t300 t301 t302 t303 t304 t305 t306 t307 t308 t309 t310 t311 t312 t313 t314 t315 t316 w _ ?side1 ?side2 A32.out).mono ?_); (case side1 => repeat (first | (with_reducible first | exact HI279.out | apply IsS100.alloc | apply IsS100.drewN | apply IsS100.drew | apply IsS100.set_0 | apply IsS100.set_1 | apply IsS100.set_2 | apply IsS100.set_3 | apply IsS100.set_4 | apply IsS100.set_5 | apply IsS100.set_6 | apply IsS100.set_7 | apply IsS100.set_8 | apply IsS100.set_9 | refine IsS100.far ?_ NB279_267.out _) | exact HI279.out)); (case side2 => repeat (first | (with_reducible first | exact HB.out | apply below_alloc | apply pw_below_drewN | apply below_drew1 | refine below_set ?_ (IsS100.ge HI279.out) | refine below_set ?_ GE267.out) | exact HB.out)); rintro e w37 ⟨rfl, hi, hb, hk⟩; refine ⟨_, rfl, ?_⟩; have n0_ := Aside0.mk (KeepBut.blk hk (g' := gb267) (o := .cells #[.int .i64 a4_0, .int .u64 a4_1, .int .u64 a4_2, .int .u64 a4_3, .int .u64 a4_4, .float .f64 a4_5] 36 (0, 0)) (by (with_reducible repeat (first | refine blk_drewN ?_ _ | refine blk_drew ?_ | refine blk_alloc ?_ _)); exact BK267.out) NB267_279.out (by simp)); have n1_ := Aside0.mk (hb); have n2_ := Aside0.mk (hi); clear BK267; clear HB; clear HI279; have BK267 := n0_; have HB := n1_; have HI279 := n2_; clear n0_ n1_ n2_; (try clear hb); (try clear hb2); (try clear hk); (try clear hi)) | (go_at_call 18; (with_reducible refine (deck_Deck_Mode.calls g279 t307 t308 t309 t310 t311 t312 t313 t314 t315 t316 t317 t318 t319 t320 t321 t322 t323 t324 t325 t326 t327 w _ ?side1 ?side2 A34.out).mono ?_); (case side1 => repeat (first | (with_reducible first | exact HI279.out | apply IsS100.alloc | apply IsS100.drewN | apply IsS100.drew | apply IsS100.set_0 | apply IsS100.set_1 | apply IsS100.set_2 | apply IsS100.set_3 | apply IsS100.set_4 | apply IsS100.set_5 | apply IsS100.set_6 | apply IsS100.set_7 | apply IsS100.set_8 | apply IsS100.set_9 | refine IsS100.far ?_ NB279_267.out _) | exact HI279.out)); (case side2 => repeat (first | (with_reducible first | exact HB.out | apply below_alloc | apply pw_below_drewN | apply below_drew1 | refine below_set ?_ (IsS100.ge HI279.out) | refine below_set ?_ GE267.out) | exact HB.out)); rintro e w38 ⟨rfl, hi, hb, hk⟩; have n0_ := Aside0.mk (KeepBut.blk hk (g' := gb267) (o := .cells #[.int .i64 a4_0, .int .u64 a4_1, .int .u64 a4_2, .int .u64 a4_3, .int .u64 a4_4, .float .f64 a4_5] 36 (0, 0)) (by (with_reducible repeat (first | refine blk_drewN ?_ _ | refine blk_drew ?_ | refine blk_alloc ?_ _)); exact BK267.out) NB267_279.out (by simp)); have n1_ := Aside0.mk (hb); have n2_ := Aside0.mk (hi); clear BK267; clear HB; clear HI279; have BK267 := n0_; have HB := n1_; have HI279 := n2_; clear n0_ n1_ n2_; (try clear hb); (try clear hb2); (try clear hk); (try clear hi)))
                          go_roundg k2
                          case measure => have := HJ9.out; have := HK2.out; omega
                          case rel => exact ⟨(ji30), (wrap64 (x15_2 + 1)), (t318), (t319), (t320), (t321), (t322), (t323), (t324), (t325), (t326), (t327), (by first | rfl | (simp; done) | (simp only [← hji30] <;> (first | rfl | simp)) | (simp [*]; done)), (by first | rfl | (simp; done) | (simp [*]; done)), H', ⟨by have := HJ9.out; have := HK2.out; omega⟩, ⟨by (with_reducible repeat (first | refine blk_drewN ?_ _ | refine blk_drew ?_ | refine blk_alloc ?_ _)); exact BK267.out⟩, ⟨by repeat (first | (with_reducible first | exact HI279.out | apply IsS100.alloc | apply IsS100.drewN | apply IsS100.drew | apply IsS100.set_0 | apply IsS100.set_1 | apply IsS100.set_2 | apply IsS100.set_3 | apply IsS100.set_4 | apply IsS100.set_5 | apply IsS100.set_6 | apply IsS100.set_7 | apply IsS100.set_8 | apply IsS100.set_9 | refine IsS100.far ?_ NB279_267.out _) | exact HI279.out)⟩, ⟨by repeat (first | (with_reducible first | exact HB.out | apply below_alloc | apply pw_below_drewN | apply below_drew1 | refine below_set ?_ (IsS100.ge HI279.out) | refine below_set ?_ GE267.out) | exact HB.out)⟩⟩
                        · rw [if_neg c35] at H
                          have c35b0 : (t317 == 1) = false := beq_eq_false_iff_ne.mpr c35
                          have c35b1 : (t317 != 1) = true := bne_iff_ne.mpr c35
                          exact absurd ((Option.some.inj H).trans hr_.out) (by simp)
                      · rw [if_neg c33] at H
                        have c33b0 : (t306 == (ji30)) = false := beq_eq_false_iff_ne.mpr c33
                        have c33b1 : (t306 != (ji30)) = true := bne_iff_ne.mpr c33
                        exact absurd ((Option.some.inj H).trans hr_.out) (by simp)
                  · rw [if_neg c26] at H
                    exact absurd H (by simp)
                · rw [if_neg c25] at H
                  have c25b0 : decide (x15_2 < (l5.length : Int)) = false := decide_eq_false c25
                  clear c25
                  replace H := Option.bind_eq_some_iff.mp H
                  obtain ⟨⟨t328, t329, t330, t331, t332, t333, t334, t335, t336, t337, t338, t339⟩, A390, H⟩ := H
                  replace H : ((tiklaw23_Does.f k2 t330 t331 t332 t333 t334 t335 t336 t337 t338 t339 a4_0 a4_1 a4_2 a4_3 a4_4 a4_5).bind fun bt341 => (if bt341.1 = 0 then ((tiklaw23_first.f k2).bind fun t352 => (some t352)) else ((tiklaw23_first.f k2).bind fun t353 => (if t353 = true then ((deck_Deck_Pos.f bt341.2.1 bt341.2.2.1 bt341.2.2.2.1 bt341.2.2.2.2.1 bt341.2.2.2.2.2.1 bt341.2.2.2.2.2.2.1 bt341.2.2.2.2.2.2.2.1 bt341.2.2.2.2.2.2.2.2.1 bt341.2.2.2.2.2.2.2.2.2.1 bt341.2.2.2.2.2.2.2.2.2.2).bind fun bt354 => (if bt354.1 = x14_2 then ((deck_Deck_Mode.f bt354.2.1 bt354.2.2.1 bt354.2.2.2.1 bt354.2.2.2.2.1 bt354.2.2.2.2.2.1 bt354.2.2.2.2.2.2.1 bt354.2.2.2.2.2.2.2.1 bt354.2.2.2.2.2.2.2.2.1 bt354.2.2.2.2.2.2.2.2.2.1 bt354.2.2.2.2.2.2.2.2.2.2).bind fun bt365 => (if bt365.1 = 1 then ((deck_Deck_Rate.f bt365.2.1 bt365.2.2.1 bt365.2.2.2.1 bt365.2.2.2.2.1 bt365.2.2.2.2.2.1 bt365.2.2.2.2.2.2.1 bt365.2.2.2.2.2.2.2.1 bt365.2.2.2.2.2.2.2.2.1 bt365.2.2.2.2.2.2.2.2.2.1 bt365.2.2.2.2.2.2.2.2.2.2).bind fun bt376 => (some (bt376.1 == t328 && (bt376.2.1 == t329)))) else (some false))) else (some false))) else (some false))))) = some r := H
                  have A39 := Aside0.mk A390
                  clear A390
                  replace H := Option.bind_eq_some_iff.mp H
                  obtain ⟨⟨t341, t342, t343, t344, t345, t346, t347, t348, t349, t350, t351⟩, A400, H⟩ := H
                  replace H : (if t341 = 0 then ((tiklaw23_first.f k2).bind fun t352 => (some t352)) else ((tiklaw23_first.f k2).bind fun t353 => (if t353 = true then ((deck_Deck_Pos.f t342 t343 t344 t345 t346 t347 t348 t349 t350 t351).bind fun bt354 => (if bt354.1 = x14_2 then ((deck_Deck_Mode.f bt354.2.1 bt354.2.2.1 bt354.2.2.2.1 bt354.2.2.2.2.1 bt354.2.2.2.2.2.1 bt354.2.2.2.2.2.2.1 bt354.2.2.2.2.2.2.2.1 bt354.2.2.2.2.2.2.2.2.1 bt354.2.2.2.2.2.2.2.2.2.1 bt354.2.2.2.2.2.2.2.2.2.2).bind fun bt365 => (if bt365.1 = 1 then ((deck_Deck_Rate.f bt365.2.1 bt365.2.2.1 bt365.2.2.2.1 bt365.2.2.2.2.1 bt365.2.2.2.2.2.1 bt365.2.2.2.2.2.2.1 bt365.2.2.2.2.2.2.2.1 bt365.2.2.2.2.2.2.2.2.1 bt365.2.2.2.2.2.2.2.2.2.1 bt365.2.2.2.2.2.2.2.2.2.2).bind fun bt376 => (some (bt376.1 == t328 && (bt376.2.1 == t329)))) else (some false))) else (some false))) else (some false)))) = some r := H
                  have A40 := Aside0.mk A400
                  clear A400
                  by_cases c41 : t341 = 0
                  · rw [if_pos c41] at H
                    have c41b0 : (t341 == 0) = true := beq_iff_eq.mpr c41
                    have c41b1 : (t341 != 0) = false := bne_eq_false_iff_eq.mpr c41
                    clear c41
                    replace H := Option.bind_eq_some_iff.mp H
                    obtain ⟨t352, A420, H⟩ := H
                    replace H : (some t352) = some r := H
                    have A42 := Aside0.mk A420
                    clear A420
                    obtain rfl := Option.some.inj H
                    go_wp2_with (first | ((with_reducible refine gate_callee (f := 15) rfl ?_); refine goesL_ (some 103) rfl rfl Tryd.func15 (by kernel_rfl) rfl #[.pointer (some ⟨g279, 0, none⟩)] rfl (by (try simp only [List.map_toArray, List.map_cons, List.map_nil]); first | done | rfl | (simp only [List.length_drop, List.length_take]; rfl)) ?_; (with_reducible refine (deck_Deck_Rate.calls g279 x280000_2 x280001_2 x280002_2 x280003_2 x280004_2 x280005_2 x280006_2 x280007_2 x280008_2 x280009_2 t328 t329 t330 t331 t332 t333 t334 t335 t336 t337 t338 t339 w _ ?side1 ?side2 A39.out).mono ?_); (case side1 => repeat (first | (with_reducible first | exact HI279.out | apply IsS100.alloc | apply IsS100.drewN | apply IsS100.drew | apply IsS100.set_0 | apply IsS100.set_1 | apply IsS100.set_2 | apply IsS100.set_3 | apply IsS100.set_4 | apply IsS100.set_5 | apply IsS100.set_6 | apply IsS100.set_7 | apply IsS100.set_8 | apply IsS100.set_9 | refine IsS100.far ?_ NB279_267.out _) | exact HI279.out)); (case side2 => repeat (first | (with_reducible first | exact HB.out | apply below_alloc | apply pw_below_drewN | apply below_drew1 | refine below_set ?_ (IsS100.ge HI279.out) | refine below_set ?_ GE267.out) | exact HB.out)); rintro e w43 ⟨rfl, hi, hb, hk⟩; refine ⟨_, rfl, ?_⟩; have n0_ := Aside0.mk (KeepBut.blk hk (g' := gb267) (o := .cells #[.int .i64 a4_0, .int .u64 a4_1, .int .u64 a4_2, .int .u64 a4_3, .int .u64 a4_4, .float .f64 a4_5] 36 (0, 0)) (by (with_reducible repeat (first | refine blk_drewN ?_ _ | refine blk_drew ?_ | refine blk_alloc ?_ _)); exact BK267.out) NB267_279.out (by simp)); have n1_ := Aside0.mk (hb); have n2_ := Aside0.mk (hi); clear BK267; clear HB; clear HI279; have BK267 := n0_; have HB := n1_; have HI279 := n2_; clear n0_ n1_ n2_; (try clear hb); (try clear hb2); (try clear hk); (try clear hi)) | ((with_reducible refine gate_dst (N := 16) rfl ?_); (try (refine gate_guard (by rfl) ?_; dsimp only)); refine box_event ?hg (N := 16) ?hd (cs := #[.int .u64 0, .int .u64 0]) (t := 30) ?hr ?_; (case hd => rfl); (case hg => rfl); (case hr => first | (go_simp; done) | (go_simp; rfl)); intro gb340 hg w44 hbox hb; have n0_ := Aside0.mk (blk_below (g := gb267) (o := .cells #[.int .i64 a4_0, .int .u64 a4_1, .int .u64 a4_2, .int .u64 a4_3, .int .u64 a4_4, .float .f64 a4_5] 36 (0, 0)) (by (with_reducible repeat (first | refine blk_drewN ?_ _ | refine blk_drew ?_ | refine blk_alloc ?_ _)); exact BK267.out) hb); have n1_ := Aside0.mk (IsS100.below (by repeat (first | (with_reducible first | exact HI279.out | apply IsS100.alloc | apply IsS100.drewN | apply IsS100.drew | apply IsS100.set_0 | apply IsS100.set_1 | apply IsS100.set_2 | apply IsS100.set_3 | apply IsS100.set_4 | apply IsS100.set_5 | apply IsS100.set_6 | apply IsS100.set_7 | apply IsS100.set_8 | apply IsS100.set_9 | refine IsS100.far ?_ NB279_267.out _) | exact HI279.out)) hb); have n2_ := Aside0.mk (below_step (by repeat (first | (with_reducible first | exact HB.out | apply below_alloc | apply pw_below_drewN | apply below_drew1 | refine below_set ?_ (IsS100.ge HI279.out) | refine below_set ?_ GE267.out) | exact HB.out)) hb); have n3_ := Aside0.mk (hbox); have n4_ := Aside0.mk ((by rw [hg]; exact (below_size (by repeat (first | (with_reducible first | exact HB.out | apply below_alloc | apply pw_below_drewN | apply below_drew1 | refine below_set ?_ (IsS100.ge HI279.out) | refine below_set ?_ GE267.out) | exact HB.out))) : w.heap.size ≤ gb340)); have n5_ := Aside0.mk ((by rw [hg]; exact (below_size (by repeat (first | (with_reducible first | exact HB.out | apply below_alloc | apply pw_below_drewN | apply below_drew1 | refine below_set ?_ (IsS100.ge HI279.out) | refine below_set ?_ GE267.out) | exact HB.out))) : w.heap.size ≤ gb340)); have n6_ := Aside0.mk ((by rw [hg]; exact Nat.ne_of_lt (blk_lt (g := gb267) (o := .cells #[.int .i64 a4_0, .int .u64 a4_1, .int .u64 a4_2, .int .u64 a4_3, .int .u64 a4_4, .float .f64 a4_5] 36 (0, 0)) (by (with_reducible repeat (first | refine blk_drewN ?_ _ | refine blk_drew ?_ | refine blk_alloc ?_ _)); exact BK267.out)) : gb267 ≠ gb340)); have n7_ := Aside0.mk ((by rw [hg]; exact Nat.ne_of_gt (blk_lt (g := gb267) (o := .cells #[.int .i64 a4_0, .int .u64 a4_1, .int .u64 a4_2, .int .u64 a4_3, .int .u64 a4_4, .float .f64 a4_5] 36 (0, 0)) (by (with_reducible repeat (first | refine blk_drewN ?_ _ | refine blk_drew ?_ | refine blk_alloc ?_ _)); exact BK267.out)) : gb340 ≠ gb267)); have n8_ := Aside0.mk ((by rw [hg]; exact Nat.ne_of_lt (IsS100.lt (show IsS100 w _ g279 t330 t331 t332 t333 t334 t335 t336 t337 t338 t339 from by repeat (first | (with_reducible first | exact HI279.out | apply IsS100.alloc | apply IsS100.drewN | apply IsS100.drew | apply IsS100.set_0 | apply IsS100.set_1 | apply IsS100.set_2 | apply IsS100.set_3 | apply IsS100.set_4 | apply IsS100.set_5 | apply IsS100.set_6 | apply IsS100.set_7 | apply IsS100.set_8 | apply IsS100.set_9 | refine IsS100.far ?_ NB279_267.out _) | exact HI279.out))) : g279 ≠ gb340)); have n9_ := Aside0.mk ((by rw [hg]; exact Nat.ne_of_gt (IsS100.lt (show IsS100 w _ g279 t330 t331 t332 t333 t334 t335 t336 t337 t338 t339 from by repeat (first | (with_reducible first | exact HI279.out | apply IsS100.alloc | apply IsS100.drewN | apply IsS100.drew | apply IsS100.set_0 | apply IsS100.set_1 | apply IsS100.set_2 | apply IsS100.set_3 | apply IsS100.set_4 | apply IsS100.set_5 | apply IsS100.set_6 | apply IsS100.set_7 | apply IsS100.set_8 | apply IsS100.set_9 | refine IsS100.far ?_ NB279_267.out _) | exact HI279.out))) : gb340 ≠ g279)); clear BK267; clear HI279; clear HB; have BK267 := n0_; have HI279 := n1_; have HB := n2_; have BK340 := n3_; have GW340 := n4_; have GE340 := n5_; have NB267_340 := n6_; have NB340_267 := n7_; have NB279_340 := n8_; have NB340_279 := n9_; clear n0_ n1_ n2_ n3_ n4_ n5_ n6_ n7_ n8_ n9_; clear hb hbox hg; have hnb45 := NB340_267.out; have hnc45 := NB267_340.out; have hnb46 := NB340_279.out; have hnc46 := NB279_340.out; have hcz47_0 : w44.cell? ⟨gb340, 0, none⟩ = some (.int .u64 0) := (blk_cell BK340.out 0).trans rfl; have hcz47_1 : w44.cell? ⟨gb340, 1, none⟩ = some (.int .u64 0) := (blk_cell BK340.out 1).trans rfl; have hfz47_0 := blk_frozen BK340.out 0; have hfz47_1 := blk_frozen BK340.out 1; have hnb48 := NB267_279.out; have hnc48 := NB279_267.out; have hcz49_0 : w44.cell? ⟨gb267, 0, none⟩ = some (.int .i64 a4_0) := (blk_cell BK267.out 0).trans rfl; have hcz49_1 : w44.cell? ⟨gb267, 1, none⟩ = some (.int .u64 a4_1) := (blk_cell BK267.out 1).trans rfl; have hcz49_2 : w44.cell? ⟨gb267, 2, none⟩ = some (.int .u64 a4_2) := (blk_cell BK267.out 2).trans rfl; have hcz49_3 : w44.cell? ⟨gb267, 3, none⟩ = some (.int .u64 a4_3) := (blk_cell BK267.out 3).trans rfl; have hcz49_4 : w44.cell? ⟨gb267, 4, none⟩ = some (.int .u64 a4_4) := (blk_cell BK267.out 4).trans rfl; have hcz49_5 : w44.cell? ⟨gb267, 5, none⟩ = some (.float .f64 a4_5) := (blk_cell BK267.out 5).trans rfl; have hfz49_0 := blk_frozen BK267.out 0; have hfz49_1 := blk_frozen BK267.out 1; have hfz49_2 := blk_frozen BK267.out 2; have hfz49_3 := blk_frozen BK267.out 3; have hfz49_4 := blk_frozen BK267.out 4; have hfz49_5 := blk_frozen BK267.out 5) | ((with_reducible refine gate_callee (f := 16) rfl ?_); refine goesL_ (some 106) rfl rfl Tryd.func16 (by kernel_rfl) rfl #[.pointer (some ⟨g279, 0, none⟩), .agg #[.int .i64 a4_0, .int .u64 a4_1, .int .u64 a4_2, .int .u64 a4_3, .int .u64 a4_4, .float .f64 a4_5]] rfl (by (try simp only [List.map_toArray, List.map_cons, List.map_nil]); first | done | rfl | (simp only [List.length_drop, List.length_take]; rfl)) ?_; (with_reducible refine (tiklaw23_Does.calls k2 g279 t330 t331 t332 t333 t334 t335 t336 t337 t338 t339 a4_0 a4_1 a4_2 a4_3 a4_4 a4_5 t341 t342 t343 t344 t345 t346 t347 t348 t349 t350 t351 w _ ?side1 ?side2 ?side3 A40.out).mono ?_); (case side1 => repeat (first | (with_reducible first | exact HI279.out | apply IsS100.alloc | apply IsS100.drewN | apply IsS100.drew | apply IsS100.set_0 | apply IsS100.set_1 | apply IsS100.set_2 | apply IsS100.set_3 | apply IsS100.set_4 | apply IsS100.set_5 | apply IsS100.set_6 | apply IsS100.set_7 | apply IsS100.set_8 | apply IsS100.set_9 | refine IsS100.far ?_ NB279_267.out _ | refine IsS100.far ?_ NB279_340.out _) | exact HI279.out)); (case side2 => repeat (first | (with_reducible first | exact HB.out | apply below_alloc | apply pw_below_drewN | apply below_drew1 | refine below_set ?_ (IsS100.ge HI279.out) | refine below_set ?_ GE267.out | refine below_set ?_ GE340.out) | exact HB.out)); (case side3 => first | (with_reducible exact HT.out) | exact tabAt HT.out (by repeat (first | (with_reducible first | exact HB.out | apply below_alloc | apply pw_below_drewN | apply below_drew1 | refine below_set ?_ (IsS100.ge HI279.out) | refine below_set ?_ GE267.out | refine below_set ?_ GE340.out) | exact HB.out))); rintro e w50 ⟨rfl, hi, hb, hk⟩; refine ⟨_, rfl, ?_⟩; have n0_ := Aside0.mk (KeepBut.blk hk (g' := gb267) (o := .cells #[.int .i64 a4_0, .int .u64 a4_1, .int .u64 a4_2, .int .u64 a4_3, .int .u64 a4_4, .float .f64 a4_5] 36 (0, 0)) (by (with_reducible repeat (first | refine blk_drewN ?_ _ | refine blk_drew ?_ | refine blk_alloc ?_ _)); refine blk_far ?_ NB267_340.out _; (with_reducible repeat (first | refine blk_drewN ?_ _ | refine blk_drew ?_ | refine blk_alloc ?_ _)); refine blk_far ?_ NB267_340.out _; (with_reducible repeat (first | refine blk_drewN ?_ _ | refine blk_drew ?_ | refine blk_alloc ?_ _)); exact BK267.out) NB267_279.out (by simp)); have n1_ := Aside0.mk (KeepBut.blk hk (g' := gb340) (o := .cells #[.int .u64 t328, .int .u64 t329] 30 (0, 0)) (by (with_reducible repeat (first | refine blk_drewN ?_ _ | refine blk_drew ?_ | refine blk_alloc ?_ _)); refine blk_put (cs := #[.int .u64 t328, .int .u64 0]) ?_ 1 _ rfl; (with_reducible repeat (first | refine blk_drewN ?_ _ | refine blk_drew ?_ | refine blk_alloc ?_ _)); refine blk_put (cs := #[.int .u64 0, .int .u64 0]) ?_ 0 _ rfl; (with_reducible repeat (first | refine blk_drewN ?_ _ | refine blk_drew ?_ | refine blk_alloc ?_ _)); exact BK340.out) NB340_279.out (by simp)); have n2_ := Aside0.mk (hb); have n3_ := Aside0.mk (hi); clear BK267; clear BK340; clear HB; clear HI279; have BK267 := n0_; have BK340 := n1_; have HB := n2_; have HI279 := n3_; clear n0_ n1_ n2_ n3_; (try clear hb); (try clear hb2); (try clear hk); (try clear hi)) | ((with_reducible refine gate_callee (f := 12) rfl ?_); refine goesL_ (some 108) rfl rfl Tryd.func12 (by kernel_rfl) rfl #[] rfl (by (try simp only [List.map_toArray, List.map_cons, List.map_nil]); first | done | rfl | (simp only [List.length_drop, List.length_take]; rfl)) ?_; (with_reducible refine (tiklaw23_first.calls k2  t352 _ ?side1 A42.out).mono ?_); (case side1 => first | (with_reducible exact HT.out) | exact tabAt HT.out (by repeat (first | (with_reducible first | exact HB.out | apply below_alloc | apply pw_below_drewN | apply below_drew1 | refine below_set ?_ (IsS100.ge HI279.out) | refine below_set ?_ GE267.out | refine below_set ?_ GE340.out) | exact HB.out))); rintro e w51 ⟨rfl, hb⟩; refine ⟨_, rfl, ?_⟩; have n0_ := Aside0.mk (blk_below (g := gb267) (o := .cells #[.int .i64 a4_0, .int .u64 a4_1, .int .u64 a4_2, .int .u64 a4_3, .int .u64 a4_4, .float .f64 a4_5] 36 (0, 0)) (by (with_reducible repeat (first | refine blk_drewN ?_ _ | refine blk_drew ?_ | refine blk_alloc ?_ _)); exact BK267.out) hb); have n1_ := Aside0.mk (IsS100.below (by repeat (first | (with_reducible first | exact HI279.out | apply IsS100.alloc | apply IsS100.drewN | apply IsS100.drew | apply IsS100.set_0 | apply IsS100.set_1 | apply IsS100.set_2 | apply IsS100.set_3 | apply IsS100.set_4 | apply IsS100.set_5 | apply IsS100.set_6 | apply IsS100.set_7 | apply IsS100.set_8 | apply IsS100.set_9 | refine IsS100.far ?_ NB279_267.out _ | refine IsS100.far ?_ NB279_340.out _) | exact HI279.out)) hb); have n2_ := Aside0.mk (blk_below (g := gb340) (o := .cells #[.int .u64 t328, .int .u64 t329] 30 (0, 0)) (by (with_reducible repeat (first | refine blk_drewN ?_ _ | refine blk_drew ?_ | refine blk_alloc ?_ _)); exact BK340.out) hb); have n3_ := Aside0.mk (below_step (by repeat (first | (with_reducible first | exact HB.out | apply below_alloc | apply pw_below_drewN | apply below_drew1 | refine below_set ?_ (IsS100.ge HI279.out) | refine below_set ?_ GE267.out | refine below_set ?_ GE340.out) | exact HB.out)) hb); clear BK267; clear HI279; clear BK340; clear HB; have BK267 := n0_; have HI279 := n1_; have BK340 := n2_; have HB := n3_; clear n0_ n1_ n2_ n3_; (try clear hb); (try clear hb2); (try clear hk); (try clear hi)))
                    go_ret
                    exact ⟨by first | rfl | (simp [errW_none, errW_some] <;> rfl) | (simp [*, errW_none, errW_some] <;> rfl), by repeat (first | (with_reducible first | exact HB.out | apply below_alloc | apply pw_below_drewN | apply below_drew1 | refine below_set ?_ (IsS100.ge HI279.out) | refine below_set ?_ GE267.out | refine below_set ?_ GE340.out) | exact HB.out)⟩
                  · rw [if_neg c41] at H
                    have c41b0 : (t341 == 0) = false := beq_eq_false_iff_ne.mpr c41
                    have c41b1 : (t341 != 0) = true := bne_iff_ne.mpr c41
                    replace H := Option.bind_eq_some_iff.mp H
                    obtain ⟨t353, A520, H⟩ := H
                    replace H : (if t353 = true then ((deck_Deck_Pos.f t342 t343 t344 t345 t346 t347 t348 t349 t350 t351).bind fun bt354 => (if bt354.1 = x14_2 then ((deck_Deck_Mode.f bt354.2.1 bt354.2.2.1 bt354.2.2.2.1 bt354.2.2.2.2.1 bt354.2.2.2.2.2.1 bt354.2.2.2.2.2.2.1 bt354.2.2.2.2.2.2.2.1 bt354.2.2.2.2.2.2.2.2.1 bt354.2.2.2.2.2.2.2.2.2.1 bt354.2.2.2.2.2.2.2.2.2.2).bind fun bt365 => (if bt365.1 = 1 then ((deck_Deck_Rate.f bt365.2.1 bt365.2.2.1 bt365.2.2.2.1 bt365.2.2.2.2.1 bt365.2.2.2.2.2.1 bt365.2.2.2.2.2.2.1 bt365.2.2.2.2.2.2.2.1 bt365.2.2.2.2.2.2.2.2.1 bt365.2.2.2.2.2.2.2.2.2.1 bt365.2.2.2.2.2.2.2.2.2.2).bind fun bt376 => (some (bt376.1 == t328 && (bt376.2.1 == t329)))) else (some false))) else (some false))) else (some false)) = some r := H
                    have A52 := Aside0.mk A520
                    clear A520
                    by_cases c53 : t353 = true
                    · subst c53
                      have H1 : ((deck_Deck_Pos.f t342 t343 t344 t345 t346 t347 t348 t349 t350 t351).bind fun bt354 => (if bt354.1 = x14_2 then ((deck_Deck_Mode.f bt354.2.1 bt354.2.2.1 bt354.2.2.2.1 bt354.2.2.2.2.1 bt354.2.2.2.2.2.1 bt354.2.2.2.2.2.2.1 bt354.2.2.2.2.2.2.2.1 bt354.2.2.2.2.2.2.2.2.1 bt354.2.2.2.2.2.2.2.2.2.1 bt354.2.2.2.2.2.2.2.2.2.2).bind fun bt365 => (if bt365.1 = 1 then ((deck_Deck_Rate.f bt365.2.1 bt365.2.2.1 bt365.2.2.2.1 bt365.2.2.2.2.1 bt365.2.2.2.2.2.1 bt365.2.2.2.2.2.2.1 bt365.2.2.2.2.2.2.2.1 bt365.2.2.2.2.2.2.2.2.1 bt365.2.2.2.2.2.2.2.2.2.1 bt365.2.2.2.2.2.2.2.2.2.2).bind fun bt376 => (some (bt376.1 == t328 && (bt376.2.1 == t329)))) else (some false))) else (some false))) = some r := by rw [if_pos rfl] at H; exact H
                      clear H
                      have H := H1
                      clear H1
                      replace H := Option.bind_eq_some_iff.mp H
                      obtain ⟨⟨t354, t355, t356, t357, t358, t359, t360, t361, t362, t363, t364⟩, A540, H⟩ := H
                      replace H : (if t354 = x14_2 then ((deck_Deck_Mode.f t355 t356 t357 t358 t359 t360 t361 t362 t363 t364).bind fun bt365 => (if bt365.1 = 1 then ((deck_Deck_Rate.f bt365.2.1 bt365.2.2.1 bt365.2.2.2.1 bt365.2.2.2.2.1 bt365.2.2.2.2.2.1 bt365.2.2.2.2.2.2.1 bt365.2.2.2.2.2.2.2.1 bt365.2.2.2.2.2.2.2.2.1 bt365.2.2.2.2.2.2.2.2.2.1 bt365.2.2.2.2.2.2.2.2.2.2).bind fun bt376 => (some (bt376.1 == t328 && (bt376.2.1 == t329)))) else (some false))) else (some false)) = some r := H
                      have A54 := Aside0.mk A540
                      clear A540
                      by_cases c55 : t354 = x14_2
                      · rw [if_pos c55] at H
                        have c55b0 : (t354 == x14_2) = true := beq_iff_eq.mpr c55
                        have c55b1 : (t354 != x14_2) = false := bne_eq_false_iff_eq.mpr c55
                        clear c55
                        replace H := Option.bind_eq_some_iff.mp H
                        obtain ⟨⟨t365, t366, t367, t368, t369, t370, t371, t372, t373, t374, t375⟩, A560, H⟩ := H
                        replace H : (if t365 = 1 then ((deck_Deck_Rate.f t366 t367 t368 t369 t370 t371 t372 t373 t374 t375).bind fun bt376 => (some (bt376.1 == t328 && (bt376.2.1 == t329)))) else (some false)) = some r := H
                        have A56 := Aside0.mk A560
                        clear A560
                        by_cases c57 : t365 = 1
                        · rw [if_pos c57] at H
                          have c57b0 : (t365 == 1) = true := beq_iff_eq.mpr c57
                          have c57b1 : (t365 != 1) = false := bne_eq_false_iff_eq.mpr c57
                          clear c57
                          replace H := Option.bind_eq_some_iff.mp H
                          obtain ⟨⟨t376, t377, t378, t379, t380, t381, t382, t383, t384, t385, t386, t387⟩, A580, H⟩ := H
                          replace H : (some (t376 == t328 && (t377 == t329))) = some r := H
                          have A58 := Aside0.mk A580
                          clear A580
                          obtain rfl := Option.some.inj H
                          try go_wp2_with (first | ((with_reducible refine gate_callee (f := 15) rfl ?_); refine goesL_ (some 103) rfl rfl Tryd.func15 (by kernel_rfl) rfl #[.pointer (some ⟨g279, 0, none⟩)] rfl (by (try simp only [List.map_toArray, List.map_cons, List.map_nil]); first | done | rfl | (simp only [List.length_drop, List.length_take]; rfl)) ?_; (with_reducible refine (deck_Deck_Rate.calls g279 x280000_2 x280001_2 x280002_2 x280003_2 x280004_2 x280005_2 x280006_2 x280007_2 x280008_2 x280009_2 t328 t329 t330 t331 t332 t333 t334 t335 t336 t337 t338 t339 w _ ?side1 ?side2 A39.out).mono ?_); (case side1 => repeat (first | (with_reducible first | exact HI279.out | apply IsS100.alloc | apply IsS100.drewN | apply IsS100.drew | apply IsS100.set_0 | apply IsS100.set_1 | apply IsS100.set_2 | apply IsS100.set_3 | apply IsS100.set_4 | apply IsS100.set_5 | apply IsS100.set_6 | apply IsS100.set_7 | apply IsS100.set_8 | apply IsS100.set_9 | refine IsS100.far ?_ NB279_267.out _) | exact HI279.out)); (case side2 => repeat (first | (with_reducible first | exact HB.out | apply below_alloc | apply pw_below_drewN | apply below_drew1 | refine below_set ?_ (IsS100.ge HI279.out) | refine below_set ?_ GE267.out) | exact HB.out)); rintro e w59 ⟨rfl, hi, hb, hk⟩; refine ⟨_, rfl, ?_⟩; have n0_ := Aside0.mk (KeepBut.blk hk (g' := gb267) (o := .cells #[.int .i64 a4_0, .int .u64 a4_1, .int .u64 a4_2, .int .u64 a4_3, .int .u64 a4_4, .float .f64 a4_5] 36 (0, 0)) (by (with_reducible repeat (first | refine blk_drewN ?_ _ | refine blk_drew ?_ | refine blk_alloc ?_ _)); exact BK267.out) NB267_279.out (by simp)); have n1_ := Aside0.mk (hb); have n2_ := Aside0.mk (hi); clear BK267; clear HB; clear HI279; have BK267 := n0_; have HB := n1_; have HI279 := n2_; clear n0_ n1_ n2_; (try clear hb); (try clear hb2); (try clear hk); (try clear hi)) | ((with_reducible refine gate_dst (N := 16) rfl ?_); (try (refine gate_guard (by rfl) ?_; dsimp only)); refine box_event ?hg (N := 16) ?hd (cs := #[.int .u64 0, .int .u64 0]) (t := 30) ?hr ?_; (case hd => rfl); (case hg => rfl); (case hr => first | (go_simp; done) | (go_simp; rfl)); intro gb340 hg w60 hbox hb; have n0_ := Aside0.mk (blk_below (g := gb267) (o := .cells #[.int .i64 a4_0, .int .u64 a4_1, .int .u64 a4_2, .int .u64 a4_3, .int .u64 a4_4, .float .f64 a4_5] 36 (0, 0)) (by (with_reducible repeat (first | refine blk_drewN ?_ _ | refine blk_drew ?_ | refine blk_alloc ?_ _)); exact BK267.out) hb); have n1_ := Aside0.mk (IsS100.below (by repeat (first | (with_reducible first | exact HI279.out | apply IsS100.alloc | apply IsS100.drewN | apply IsS100.drew | apply IsS100.set_0 | apply IsS100.set_1 | apply IsS100.set_2 | apply IsS100.set_3 | apply IsS100.set_4 | apply IsS100.set_5 | apply IsS100.set_6 | apply IsS100.set_7 | apply IsS100.set_8 | apply IsS100.set_9 | refine IsS100.far ?_ NB279_267.out _) | exact HI279.out)) hb); have n2_ := Aside0.mk (below_step (by repeat (first | (with_reducible first | exact HB.out | apply below_alloc | apply pw_below_drewN | apply below_drew1 | refine below_set ?_ (IsS100.ge HI279.out) | refine below_set ?_ GE267.out) | exact HB.out)) hb); have n3_ := Aside0.mk (hbox); have n4_ := Aside0.mk ((by rw [hg]; exact (below_size (by repeat (first | (with_reducible first | exact HB.out | apply below_alloc | apply pw_below_drewN | apply below_drew1 | refine below_set ?_ (IsS100.ge HI279.out) | refine below_set ?_ GE267.out) | exact HB.out))) : w.heap.size ≤ gb340)); have n5_ := Aside0.mk ((by rw [hg]; exact (below_size (by repeat (first | (with_reducible first | exact HB.out | apply below_alloc | apply pw_below_drewN | apply below_drew1 | refine below_set ?_ (IsS100.ge HI279.out) | refine below_set ?_ GE267.out) | exact HB.out))) : w.heap.size ≤ gb340)); have n6_ := Aside0.mk ((by rw [hg]; exact Nat.ne_of_lt (blk_lt (g := gb267) (o := .cells #[.int .i64 a4_0, .int .u64 a4_1, .int .u64 a4_2, .int .u64 a4_3, .int .u64 a4_4, .float .f64 a4_5] 36 (0, 0)) (by (with_reducible repeat (first | refine blk_drewN ?_ _ | refine blk_drew ?_ | refine blk_alloc ?_ _)); exact BK267.out)) : gb267 ≠ gb340)); have n7_ := Aside0.mk ((by rw [hg]; exact Nat.ne_of_gt (blk_lt (g := gb267) (o := .cells #[.int .i64 a4_0, .int .u64 a4_1, .int .u64 a4_2, .int .u64 a4_3, .int .u64 a4_4, .float .f64 a4_5] 36 (0, 0)) (by (with_reducible repeat (first | refine blk_drewN ?_ _ | refine blk_drew ?_ | refine blk_alloc ?_ _)); exact BK267.out)) : gb340 ≠ gb267)); have n8_ := Aside0.mk ((by rw [hg]; exact Nat.ne_of_lt (IsS100.lt (show IsS100 w _ g279 t330 t331 t332 t333 t334 t335 t336 t337 t338 t339 from by repeat (first | (with_reducible first | exact HI279.out | apply IsS100.alloc | apply IsS100.drewN | apply IsS100.drew | apply IsS100.set_0 | apply IsS100.set_1 | apply IsS100.set_2 | apply IsS100.set_3 | apply IsS100.set_4 | apply IsS100.set_5 | apply IsS100.set_6 | apply IsS100.set_7 | apply IsS100.set_8 | apply IsS100.set_9 | refine IsS100.far ?_ NB279_267.out _) | exact HI279.out))) : g279 ≠ gb340)); have n9_ := Aside0.mk ((by rw [hg]; exact Nat.ne_of_gt (IsS100.lt (show IsS100 w _ g279 t330 t331 t332 t333 t334 t335 t336 t337 t338 t339 from by repeat (first | (with_reducible first | exact HI279.out | apply IsS100.alloc | apply IsS100.drewN | apply IsS100.drew | apply IsS100.set_0 | apply IsS100.set_1 | apply IsS100.set_2 | apply IsS100.set_3 | apply IsS100.set_4 | apply IsS100.set_5 | apply IsS100.set_6 | apply IsS100.set_7 | apply IsS100.set_8 | apply IsS100.set_9 | refine IsS100.far ?_ NB279_267.out _) | exact HI279.out))) : gb340 ≠ g279)); clear BK267; clear HI279; clear HB; have BK267 := n0_; have HI279 := n1_; have HB := n2_; have BK340 := n3_; have GW340 := n4_; have GE340 := n5_; have NB267_340 := n6_; have NB340_267 := n7_; have NB279_340 := n8_; have NB340_279 := n9_; clear n0_ n1_ n2_ n3_ n4_ n5_ n6_ n7_ n8_ n9_; clear hb hbox hg; have hnb61 := NB340_267.out; have hnc61 := NB267_340.out; have hnb62 := NB340_279.out; have hnc62 := NB279_340.out; have hcz63_0 : w60.cell? ⟨gb340, 0, none⟩ = some (.int .u64 0) := (blk_cell BK340.out 0).trans rfl; have hcz63_1 : w60.cell? ⟨gb340, 1, none⟩ = some (.int .u64 0) := (blk_cell BK340.out 1).trans rfl; have hfz63_0 := blk_frozen BK340.out 0; have hfz63_1 := blk_frozen BK340.out 1; have hnb64 := NB267_279.out; have hnc64 := NB279_267.out; have hcz65_0 : w60.cell? ⟨gb267, 0, none⟩ = some (.int .i64 a4_0) := (blk_cell BK267.out 0).trans rfl; have hcz65_1 : w60.cell? ⟨gb267, 1, none⟩ = some (.int .u64 a4_1) := (blk_cell BK267.out 1).trans rfl; have hcz65_2 : w60.cell? ⟨gb267, 2, none⟩ = some (.int .u64 a4_2) := (blk_cell BK267.out 2).trans rfl; have hcz65_3 : w60.cell? ⟨gb267, 3, none⟩ = some (.int .u64 a4_3) := (blk_cell BK267.out 3).trans rfl; have hcz65_4 : w60.cell? ⟨gb267, 4, none⟩ = some (.int .u64 a4_4) := (blk_cell BK267.out 4).trans rfl; have hcz65_5 : w60.cell? ⟨gb267, 5, none⟩ = some (.float .f64 a4_5) := (blk_cell BK267.out 5).trans rfl; have hfz65_0 := blk_frozen BK267.out 0; have hfz65_1 := blk_frozen BK267.out 1; have hfz65_2 := blk_frozen BK267.out 2; have hfz65_3 := blk_frozen BK267.out 3; have hfz65_4 := blk_frozen BK267.out 4; have hfz65_5 := blk_frozen BK267.out 5) | ((with_reducible refine gate_callee (f := 16) rfl ?_); refine goesL_ (some 106) rfl rfl Tryd.func16 (by kernel_rfl) rfl #[.pointer (some ⟨g279, 0, none⟩), .agg #[.int .i64 a4_0, .int .u64 a4_1, .int .u64 a4_2, .int .u64 a4_3, .int .u64 a4_4, .float .f64 a4_5]] rfl (by (try simp only [List.map_toArray, List.map_cons, List.map_nil]); first | done | rfl | (simp only [List.length_drop, List.length_take]; rfl)) ?_; (with_reducible refine (tiklaw23_Does.calls k2 g279 t330 t331 t332 t333 t334 t335 t336 t337 t338 t339 a4_0 a4_1 a4_2 a4_3 a4_4 a4_5 t341 t342 t343 t344 t345 t346 t347 t348 t349 t350 t351 w _ ?side1 ?side2 ?side3 A40.out).mono ?_); (case side1 => repeat (first | (with_reducible first | exact HI279.out | apply IsS100.alloc | apply IsS100.drewN | apply IsS100.drew | apply IsS100.set_0 | apply IsS100.set_1 | apply IsS100.set_2 | apply IsS100.set_3 | apply IsS100.set_4 | apply IsS100.set_5 | apply IsS100.set_6 | apply IsS100.set_7 | apply IsS100.set_8 | apply IsS100.set_9 | refine IsS100.far ?_ NB279_267.out _ | refine IsS100.far ?_ NB279_340.out _) | exact HI279.out)); (case side2 => repeat (first | (with_reducible first | exact HB.out | apply below_alloc | apply pw_below_drewN | apply below_drew1 | refine below_set ?_ (IsS100.ge HI279.out) | refine below_set ?_ GE267.out | refine below_set ?_ GE340.out) | exact HB.out)); (case side3 => first | (with_reducible exact HT.out) | exact tabAt HT.out (by repeat (first | (with_reducible first | exact HB.out | apply below_alloc | apply pw_below_drewN | apply below_drew1 | refine below_set ?_ (IsS100.ge HI279.out) | refine below_set ?_ GE267.out | refine below_set ?_ GE340.out) | exact HB.out))); rintro e w66 ⟨rfl, hi, hb, hk⟩; refine ⟨_, rfl, ?_⟩; have n0_ := Aside0.mk (KeepBut.blk hk (g' := gb267) (o := .cells #[.int .i64 a4_0, .int .u64 a4_1, .int .u64 a4_2, .int .u64 a4_3, .int .u64 a4_4, .float .f64 a4_5] 36 (0, 0)) (by (with_reducible repeat (first | refine blk_drewN ?_ _ | refine blk_drew ?_ | refine blk_alloc ?_ _)); refine blk_far ?_ NB267_340.out _; (with_reducible repeat (first | refine blk_drewN ?_ _ | refine blk_drew ?_ | refine blk_alloc ?_ _)); refine blk_far ?_ NB267_340.out _; (with_reducible repeat (first | refine blk_drewN ?_ _ | refine blk_drew ?_ | refine blk_alloc ?_ _)); exact BK267.out) NB267_279.out (by simp)); have n1_ := Aside0.mk (KeepBut.blk hk (g' := gb340) (o := .cells #[.int .u64 t328, .int .u64 t329] 30 (0, 0)) (by (with_reducible repeat (first | refine blk_drewN ?_ _ | refine blk_drew ?_ | refine blk_alloc ?_ _)); refine blk_put (cs := #[.int .u64 t328, .int .u64 0]) ?_ 1 _ rfl; (with_reducible repeat (first | refine blk_drewN ?_ _ | refine blk_drew ?_ | refine blk_alloc ?_ _)); refine blk_put (cs := #[.int .u64 0, .int .u64 0]) ?_ 0 _ rfl; (with_reducible repeat (first | refine blk_drewN ?_ _ | refine blk_drew ?_ | refine blk_alloc ?_ _)); exact BK340.out) NB340_279.out (by simp)); have n2_ := Aside0.mk (hb); have n3_ := Aside0.mk (hi); clear BK267; clear BK340; clear HB; clear HI279; have BK267 := n0_; have BK340 := n1_; have HB := n2_; have HI279 := n3_; clear n0_ n1_ n2_ n3_; (try clear hb); (try clear hb2); (try clear hk); (try clear hi)))
                          have n0_ := Aside0.mk (blk_drew BK267.out)
                          have n1_ := Aside0.mk (blk_drew BK340.out)
                          have n2_ := Aside0.mk (IsS100.drew HI279.out)
                          have n3_ := Aside0.mk (below_drew1 HB.out)
                          clear BK267
                          clear BK340
                          clear HI279
                          clear HB
                          have BK267 := n0_
                          have BK340 := n1_
                          have HI279 := n2_
                          have HB := n3_
                          clear n0_ n1_ n2_ n3_
                          refine start_ (n := 19) (S := fun w' => w'.cell? ⟨gb340, 0, none⟩ = some (.int .u64 t328) ∧ w'.cell? ⟨gb340, 1, none⟩ = some (.int .u64 t329)) (ds := []) #[false, false, false, false, false, false, false, false, false, false, false, false, false, false, false, false, false, false, false] (by kernel_rfl) rfl rfl ⟨(blk_cell BK340.out 0).trans rfl, (blk_cell BK340.out 1).trans rfl⟩ (fun hHeld => ?_); refine with_tabW tiklaw23_DeckStands.tab21 tiklaw23_DeckStands.bits21 (fun HT_ HW_ => ?_)
                          generalize w66.drew = w67 at BK267 BK340 HI279 HB hHeld ⊢
                          refine one_ (i := 0) (N := some 109) #[true, false, false, false, false, false, false, false, false, false, false, false, false, false, false, false, false, false, false] rfl rfl (one_of HT_.out (by kernel_rfl)) (by decide) (fun K hK => ?_)
                          refine goes_ Tryd.func12 (by kernel_rfl) rfl #[] (by rfl) rfl rfl (by (try simp only [List.map_toArray, List.map_cons, List.map_nil]); first | done | rfl | (simp only [List.length_drop, List.length_take]; rfl)) ?_
                          with_reducible refine (tiklaw23_first.calls k2  true _ ?side1 A52.out).mono ?_
                          (case side1 => first | (with_reducible exact HT.out) | exact tabAt HT.out (by repeat (first | (with_reducible first | exact HB.out | apply below_alloc | apply pw_below_drewN | apply below_drew1 | refine below_set ?_ (IsS100.ge HI279.out) | refine below_set ?_ GE267.out | refine below_set ?_ GE340.out) | exact HB.out)))
                          rintro e w68 ⟨rfl, hb⟩
                          refine ⟨_, rfl, ?_⟩
                          have n0_ := Aside0.mk (blk_below (g := gb267) (o := .cells #[.int .i64 a4_0, .int .u64 a4_1, .int .u64 a4_2, .int .u64 a4_3, .int .u64 a4_4, .float .f64 a4_5] 36 (0, 0)) (by (with_reducible repeat (first | refine blk_drewN ?_ _ | refine blk_drew ?_ | refine blk_alloc ?_ _)); exact BK267.out) hb)
                          have n1_ := Aside0.mk (IsS100.below (by repeat (first | (with_reducible first | exact HI279.out | apply IsS100.alloc | apply IsS100.drewN | apply IsS100.drew | apply IsS100.set_0 | apply IsS100.set_1 | apply IsS100.set_2 | apply IsS100.set_3 | apply IsS100.set_4 | apply IsS100.set_5 | apply IsS100.set_6 | apply IsS100.set_7 | apply IsS100.set_8 | apply IsS100.set_9 | refine IsS100.far ?_ NB279_267.out _ | refine IsS100.far ?_ NB279_340.out _) | exact HI279.out)) hb)
                          have n2_ := Aside0.mk (blk_below (g := gb340) (o := .cells #[.int .u64 t328, .int .u64 t329] 30 (0, 0)) (by (with_reducible repeat (first | refine blk_drewN ?_ _ | refine blk_drew ?_ | refine blk_alloc ?_ _)); exact BK340.out) hb)
                          have n3_ := Aside0.mk (below_step (by repeat (first | (with_reducible first | exact HB.out | apply below_alloc | apply pw_below_drewN | apply below_drew1 | refine below_set ?_ (IsS100.ge HI279.out) | refine below_set ?_ GE267.out | refine below_set ?_ GE340.out) | exact HB.out)) hb)
                          clear BK267
                          clear HI279
                          clear BK340
                          clear HB
                          have BK267 := n0_
                          have HI279 := n1_
                          have BK340 := n2_
                          have HB := n3_
                          clear n0_ n1_ n2_ n3_
                          (try clear hb)
                          (try clear hb2)
                          (try clear hk)
                          (try clear hi)
                          refine hK.out _ _ ⟨(blk_cell BK340.out 0).trans rfl, (blk_cell BK340.out 1).trans rfl⟩ (fun hHeld => ?_)
                          clear hK K
                          refine norm_ (a' := ?_) ?_ ?_
                          rotate_left
                          · show Act.put _ (some 109) _ = _
                            simp only [Act.put, List.setIfInBounds_toArray, List.set_cons_zero, List.set_cons_succ, i64_w, i32_w]
                            rfl
                          refine pure_ (i := 1) (N := some 110) (v := ?_) (a' := ?_) #[true, true, false, false, false, false, false, false, false, false, false, false, false, false, false, false, false, false, false] rfl rfl (any_of HT_.out (by kernel_rfl)) (fun _ _ _ h => h) (Or.inl ⟨by rfl, ?_⟩) ?_ ?_
                          rotate_left
                          · intro w'
                            go_simp
                            with_reducible rfl
                          rotate_left
                          · simp only [Act.put, List.setIfInBounds_toArray, List.set_cons_zero, List.set_cons_succ, i64_w, i32_w]
                            rfl
                          refine pure_ (i := 2) (N := some 111) (v := ?_) (a' := ?_) #[true, true, true, false, false, false, false, false, false, false, false, false, false, false, false, false, false, false, false] rfl rfl (any_of HT_.out (by kernel_rfl)) (fun _ _ _ h => h) (Or.inl ⟨by rfl, ?_⟩) ?_ ?_
                          rotate_left
                          · intro w'
                            go_simp
                            with_reducible rfl
                          rotate_left
                          · simp only [Act.put, List.setIfInBounds_toArray, List.set_cons_zero, List.set_cons_succ, i64_w, i32_w]
                            rfl
                          refine pure_ (i := 4) (N := some 113) (v := ?_) (a' := ?_) #[true, true, true, false, true, false, false, false, false, false, false, false, false, false, false, false, false, false, false] rfl rfl (any_of HT_.out (by kernel_rfl)) (fun _ _ _ h => h) (Or.inl ⟨by rfl, ?_⟩) ?_ ?_
                          rotate_left
                          · intro w'
                            go_simp
                            with_reducible rfl
                          rotate_left
                          · simp only [Act.put, List.setIfInBounds_toArray, List.set_cons_zero, List.set_cons_succ, i64_w, i32_w]
                            rfl
                          refine one_ (i := 3) (N := some 112) #[true, true, true, true, true, false, false, false, false, false, false, false, false, false, false, false, false, false, false] rfl rfl (one_of HT_.out (by kernel_rfl)) (by decide) (fun K hK => ?_)
                          refine goes_ Tryd.func19 (by kernel_rfl) rfl #[.pointer (some ⟨g279, 0, none⟩)] (by rfl) rfl rfl (by (try simp only [List.map_toArray, List.map_cons, List.map_nil]); first | done | rfl | (simp only [List.length_drop, List.length_take]; rfl)) ?_
                          with_reducible refine (deck_Deck_Pos.calls g279 t342 t343 t344 t345 t346 t347 t348 t349 t350 t351 t354 t355 t356 t357 t358 t359 t360 t361 t362 t363 t364 w _ ?side1 ?side2 A54.out).mono ?_
                          (case side1 => repeat (first | (with_reducible first | exact HI279.out | apply IsS100.alloc | apply IsS100.drewN | apply IsS100.drew | apply IsS100.set_0 | apply IsS100.set_1 | apply IsS100.set_2 | apply IsS100.set_3 | apply IsS100.set_4 | apply IsS100.set_5 | apply IsS100.set_6 | apply IsS100.set_7 | apply IsS100.set_8 | apply IsS100.set_9 | refine IsS100.far ?_ NB279_267.out _ | refine IsS100.far ?_ NB279_340.out _) | exact HI279.out))
                          (case side2 => repeat (first | (with_reducible first | exact HB.out | apply below_alloc | apply pw_below_drewN | apply below_drew1 | refine below_set ?_ (IsS100.ge HI279.out) | refine below_set ?_ GE267.out | refine below_set ?_ GE340.out) | exact HB.out))
                          rintro e w69 ⟨rfl, hi, hb, hk⟩
                          refine ⟨_, rfl, ?_⟩
                          have n0_ := Aside0.mk (KeepBut.blk hk (g' := gb267) (o := .cells #[.int .i64 a4_0, .int .u64 a4_1, .int .u64 a4_2, .int .u64 a4_3, .int .u64 a4_4, .float .f64 a4_5] 36 (0, 0)) (by (with_reducible repeat (first | refine blk_drewN ?_ _ | refine blk_drew ?_ | refine blk_alloc ?_ _)); exact BK267.out) NB267_279.out (by simp))
                          have n1_ := Aside0.mk (KeepBut.blk hk (g' := gb340) (o := .cells #[.int .u64 t328, .int .u64 t329] 30 (0, 0)) (by (with_reducible repeat (first | refine blk_drewN ?_ _ | refine blk_drew ?_ | refine blk_alloc ?_ _)); exact BK340.out) NB340_279.out (by simp))
                          have n2_ := Aside0.mk (hb)
                          have n3_ := Aside0.mk (hi)
                          clear BK267
                          clear BK340
                          clear HB
                          clear HI279
                          have BK267 := n0_
                          have BK340 := n1_
                          have HB := n2_
                          have HI279 := n3_
                          clear n0_ n1_ n2_ n3_
                          (try clear hb)
                          (try clear hb2)
                          (try clear hk)
                          (try clear hi)
                          refine hK.out _ _ ⟨(blk_cell BK340.out 0).trans rfl, (blk_cell BK340.out 1).trans rfl⟩ (fun hHeld => ?_)
                          clear hK K
                          refine norm_ (a' := ?_) ?_ ?_
                          rotate_left
                          · show Act.put _ (some 112) _ = _
                            simp only [Act.put, List.setIfInBounds_toArray, List.set_cons_zero, List.set_cons_succ, i64_w, i32_w]
                            rfl
                          refine pure_ (i := 5) (N := some 114) (v := ?_) (a' := ?_) #[true, true, true, true, true, true, false, false, false, false, false, false, false, false, false, false, false, false, false] rfl rfl (any_of HT_.out (by kernel_rfl)) (fun _ _ _ h => h) (Or.inl ⟨by rfl, ?_⟩) ?_ ?_
                          rotate_left
                          · intro w'
                            go_simp
                            with_reducible rfl
                          rotate_left
                          · simp only [Act.put, List.setIfInBounds_toArray, List.set_cons_zero, List.set_cons_succ, i64_w, i32_w]
                            rfl
                          refine pure_ (i := 6) (N := some 115) (v := ?_) (a' := ?_) #[true, true, true, true, true, true, true, false, false, false, false, false, false, false, false, false, false, false, false] rfl rfl (any_of HT_.out (by kernel_rfl)) (fun _ _ _ h => h) (Or.inl ⟨by rfl, ?_⟩) ?_ ?_
                          rotate_left
                          · intro w'
                            go_simp
                            with_reducible rfl
                          rotate_left
                          · simp only [Act.put, List.setIfInBounds_toArray, List.set_cons_zero, List.set_cons_succ, i64_w, i32_w]
                            rfl
                          refine pure_ (i := 7) (N := some 116) (v := ?_) (a' := ?_) #[true, true, true, true, true, true, true, true, false, false, false, false, false, false, false, false, false, false, false] rfl rfl (any_of HT_.out (by kernel_rfl)) (fun _ _ _ h => h) (Or.inl ⟨by rfl, ?_⟩) ?_ ?_
                          rotate_left
                          · intro w'
                            go_simp
                            with_reducible rfl
                          rotate_left
                          · simp only [Act.put, List.setIfInBounds_toArray, List.set_cons_zero, List.set_cons_succ, i64_w, i32_w]
                            rfl
                          refine pure_ (i := 8) (N := some 117) (v := ?_) (a' := ?_) #[true, true, true, true, true, true, true, true, true, false, false, false, false, false, false, false, false, false, false] rfl rfl (any_of HT_.out (by kernel_rfl)) (fun _ _ _ h => h) (Or.inl ⟨by rfl, ?_⟩) ?_ ?_
                          rotate_left
                          · intro w'
                            go_simp
                            with_reducible rfl
                          rotate_left
                          · simp only [Act.put, List.setIfInBounds_toArray, List.set_cons_zero, List.set_cons_succ, i64_w, i32_w]
                            rfl
                          refine one_ (i := 9) (N := some 118) #[true, true, true, true, true, true, true, true, true, true, false, false, false, false, false, false, false, false, false] rfl rfl (one_of HT_.out (by kernel_rfl)) (by decide) (fun K hK => ?_)
                          refine goes_ Tryd.func18 (by kernel_rfl) rfl #[.pointer (some ⟨g279, 0, none⟩)] (by rfl) rfl rfl (by (try simp only [List.map_toArray, List.map_cons, List.map_nil]); first | done | rfl | (simp only [List.length_drop, List.length_take]; rfl)) ?_
                          with_reducible refine (deck_Deck_Mode.calls g279 t355 t356 t357 t358 t359 t360 t361 t362 t363 t364 t365 t366 t367 t368 t369 t370 t371 t372 t373 t374 t375 w _ ?side1 ?side2 A56.out).mono ?_
                          (case side1 => repeat (first | (with_reducible first | exact HI279.out | apply IsS100.alloc | apply IsS100.drewN | apply IsS100.drew | apply IsS100.set_0 | apply IsS100.set_1 | apply IsS100.set_2 | apply IsS100.set_3 | apply IsS100.set_4 | apply IsS100.set_5 | apply IsS100.set_6 | apply IsS100.set_7 | apply IsS100.set_8 | apply IsS100.set_9 | refine IsS100.far ?_ NB279_267.out _ | refine IsS100.far ?_ NB279_340.out _) | exact HI279.out))
                          (case side2 => repeat (first | (with_reducible first | exact HB.out | apply below_alloc | apply pw_below_drewN | apply below_drew1 | refine below_set ?_ (IsS100.ge HI279.out) | refine below_set ?_ GE267.out | refine below_set ?_ GE340.out) | exact HB.out))
                          rintro e w70 ⟨rfl, hi, hb, hk⟩
                          refine ⟨_, rfl, ?_⟩
                          have n0_ := Aside0.mk (KeepBut.blk hk (g' := gb267) (o := .cells #[.int .i64 a4_0, .int .u64 a4_1, .int .u64 a4_2, .int .u64 a4_3, .int .u64 a4_4, .float .f64 a4_5] 36 (0, 0)) (by (with_reducible repeat (first | refine blk_drewN ?_ _ | refine blk_drew ?_ | refine blk_alloc ?_ _)); exact BK267.out) NB267_279.out (by simp))
                          have n1_ := Aside0.mk (KeepBut.blk hk (g' := gb340) (o := .cells #[.int .u64 t328, .int .u64 t329] 30 (0, 0)) (by (with_reducible repeat (first | refine blk_drewN ?_ _ | refine blk_drew ?_ | refine blk_alloc ?_ _)); exact BK340.out) NB340_279.out (by simp))
                          have n2_ := Aside0.mk (hb)
                          have n3_ := Aside0.mk (hi)
                          clear BK267
                          clear BK340
                          clear HB
                          clear HI279
                          have BK267 := n0_
                          have BK340 := n1_
                          have HB := n2_
                          have HI279 := n3_
                          clear n0_ n1_ n2_ n3_
                          (try clear hb)
                          (try clear hb2)
                          (try clear hk)
                          (try clear hi)
                          refine hK.out _ _ ⟨(blk_cell BK340.out 0).trans rfl, (blk_cell BK340.out 1).trans rfl⟩ (fun hHeld => ?_)
                          clear hK K
                          refine norm_ (a' := ?_) ?_ ?_
                          rotate_left
                          · show Act.put _ (some 118) _ = _
                            simp only [Act.put, List.setIfInBounds_toArray, List.set_cons_zero, List.set_cons_succ, i64_w, i32_w]
                            rfl
                          refine pure_ (i := 10) (N := some 119) (v := ?_) (a' := ?_) #[true, true, true, true, true, true, true, true, true, true, true, false, false, false, false, false, false, false, false] rfl rfl (any_of HT_.out (by kernel_rfl)) (fun _ _ _ h => h) (Or.inl ⟨by rfl, ?_⟩) ?_ ?_
                          rotate_left
                          · intro w'
                            go_simp
                            with_reducible rfl
                          rotate_left
                          · simp only [Act.put, List.setIfInBounds_toArray, List.set_cons_zero, List.set_cons_succ, i64_w, i32_w]
                            rfl
                          refine pure_ (i := 11) (N := some 120) (v := ?_) (a' := ?_) #[true, true, true, true, true, true, true, true, true, true, true, true, false, false, false, false, false, false, false] rfl rfl (any_of HT_.out (by kernel_rfl)) (fun _ _ _ h => h) (Or.inl ⟨by rfl, ?_⟩) ?_ ?_
                          rotate_left
                          · intro w'
                            go_simp
                            with_reducible rfl
                          rotate_left
                          · simp only [Act.put, List.setIfInBounds_toArray, List.set_cons_zero, List.set_cons_succ, i64_w, i32_w]
                            rfl
                          refine pure_ (i := 12) (N := some 121) (v := ?_) (a' := ?_) #[true, true, true, true, true, true, true, true, true, true, true, true, true, false, false, false, false, false, false] rfl rfl (any_of HT_.out (by kernel_rfl)) (fun _ _ _ h => h) (Or.inl ⟨by rfl, ?_⟩) ?_ ?_
                          rotate_left
                          · intro w'
                            go_simp
                            with_reducible rfl
                          rotate_left
                          · simp only [Act.put, List.setIfInBounds_toArray, List.set_cons_zero, List.set_cons_succ, i64_w, i32_w]
                            rfl
                          refine pure_ (i := 13) (N := some 122) (v := ?_) (a' := ?_) #[true, true, true, true, true, true, true, true, true, true, true, true, true, true, false, false, false, false, false] rfl rfl (any_of HT_.out (by kernel_rfl)) (fun _ _ _ h => h) (Or.inl ⟨by rfl, ?_⟩) ?_ ?_
                          rotate_left
                          · intro w'
                            go_simp
                            with_reducible rfl
                          rotate_left
                          · simp only [Act.put, List.setIfInBounds_toArray, List.set_cons_zero, List.set_cons_succ, i64_w, i32_w]
                            rfl
                          refine take_ (i := 15) (N := some 124) (v := ?_) (a' := ?_) #[true, true, true, true, true, true, true, true, true, true, true, true, true, true, false, true, false, false, false] rfl rfl (take_ofW HT_.out HW_.out (by kernel_rfl)) (fun _ _ _ h => h) (Or.inl ⟨by rfl, ?_⟩) hHeld ?_ ?_
                          rotate_left
                          · rintro w' ⟨s0, s1⟩
                            go_simp
                            with_reducible rfl
                          rotate_left
                          · simp only [Act.put, List.setIfInBounds_toArray, List.set_cons_zero, List.set_cons_succ, i64_w, i32_w]
                            rfl
                          refine one_ (i := 14) (N := some 123) #[true, true, true, true, true, true, true, true, true, true, true, true, true, true, true, true, false, false, false] rfl rfl (one_of HT_.out (by kernel_rfl)) (by decide) (fun K hK => ?_)
                          refine goes_ Tryd.func15 (by kernel_rfl) rfl #[.pointer (some ⟨g279, 0, none⟩)] (by rfl) rfl rfl (by (try simp only [List.map_toArray, List.map_cons, List.map_nil]); first | done | rfl | (simp only [List.length_drop, List.length_take]; rfl)) ?_
                          with_reducible refine (deck_Deck_Rate.calls g279 t366 t367 t368 t369 t370 t371 t372 t373 t374 t375 t376 t377 t378 t379 t380 t381 t382 t383 t384 t385 t386 t387 w _ ?side1 ?side2 A58.out).mono ?_
                          (case side1 => repeat (first | (with_reducible first | exact HI279.out | apply IsS100.alloc | apply IsS100.drewN | apply IsS100.drew | apply IsS100.set_0 | apply IsS100.set_1 | apply IsS100.set_2 | apply IsS100.set_3 | apply IsS100.set_4 | apply IsS100.set_5 | apply IsS100.set_6 | apply IsS100.set_7 | apply IsS100.set_8 | apply IsS100.set_9 | refine IsS100.far ?_ NB279_267.out _ | refine IsS100.far ?_ NB279_340.out _) | exact HI279.out))
                          (case side2 => repeat (first | (with_reducible first | exact HB.out | apply below_alloc | apply pw_below_drewN | apply below_drew1 | refine below_set ?_ (IsS100.ge HI279.out) | refine below_set ?_ GE267.out | refine below_set ?_ GE340.out) | exact HB.out))
                          rintro e w71 ⟨rfl, hi, hb, hk⟩
                          refine ⟨_, rfl, ?_⟩
                          have n0_ := Aside0.mk (KeepBut.blk hk (g' := gb267) (o := .cells #[.int .i64 a4_0, .int .u64 a4_1, .int .u64 a4_2, .int .u64 a4_3, .int .u64 a4_4, .float .f64 a4_5] 36 (0, 0)) (by (with_reducible repeat (first | refine blk_drewN ?_ _ | refine blk_drew ?_ | refine blk_alloc ?_ _)); exact BK267.out) NB267_279.out (by simp))
                          have n1_ := Aside0.mk (KeepBut.blk hk (g' := gb340) (o := .cells #[.int .u64 t328, .int .u64 t329] 30 (0, 0)) (by (with_reducible repeat (first | refine blk_drewN ?_ _ | refine blk_drew ?_ | refine blk_alloc ?_ _)); exact BK340.out) NB340_279.out (by simp))
                          have n2_ := Aside0.mk (hb)
                          have n3_ := Aside0.mk (hi)
                          clear BK267
                          clear BK340
                          clear HB
                          clear HI279
                          have BK267 := n0_
                          have BK340 := n1_
                          have HB := n2_
                          have HI279 := n3_
                          clear n0_ n1_ n2_ n3_
                          (try clear hb)
                          (try clear hb2)
                          (try clear hk)
                          (try clear hi)
                          refine hK.out _ _ ⟨(blk_cell BK340.out 0).trans rfl, (blk_cell BK340.out 1).trans rfl⟩ (fun hHeld => ?_)
                          clear hK K
                          refine norm_ (a' := ?_) ?_ ?_
                          rotate_left
                          · show Act.put _ (some 123) _ = _
                            simp only [Act.put, List.setIfInBounds_toArray, List.set_cons_zero, List.set_cons_succ, i64_w, i32_w]
                            rfl
                          refine pure_ (i := 16) (N := some 125) (v := ?_) (a' := ?_) #[true, true, true, true, true, true, true, true, true, true, true, true, true, true, true, true, true, false, false] rfl rfl (any_of HT_.out (by kernel_rfl)) (fun _ _ _ h => h) (Or.inl ⟨by rfl, ?_⟩) ?_ ?_
                          rotate_left
                          · intro w'
                            go_simp
                            with_reducible rfl
                          rotate_left
                          · simp only [Act.put, List.setIfInBounds_toArray, List.set_cons_zero, List.set_cons_succ, i64_w, i32_w]
                            rfl
                          refine pure_ (i := 17) (N := some 126) (v := ?_) (a' := ?_) #[true, true, true, true, true, true, true, true, true, true, true, true, true, true, true, true, true, true, false] rfl rfl (any_of HT_.out (by kernel_rfl)) (fun _ _ _ h => h) (Or.inl ⟨by rfl, ?_⟩) ?_ ?_
                          rotate_left
                          · intro w'
                            go_simp
                            with_reducible rfl
                          rotate_left
                          · simp only [Act.put, List.setIfInBounds_toArray, List.set_cons_zero, List.set_cons_succ, i64_w, i32_w]
                            rfl
                          refine pure_ (i := 18) (N := some 12) (v := ?_) (a' := ?_) #[true, true, true, true, true, true, true, true, true, true, true, true, true, true, true, true, true, true, true] rfl rfl (any_of HT_.out (by kernel_rfl)) (fun _ _ _ h => h) (Or.inl ⟨by rfl, ?_⟩) ?_ ?_
                          rotate_left
                          · intro w'
                            go_simp
                            with_reducible rfl
                          rotate_left
                          · simp only [Act.put, List.setIfInBounds_toArray, List.set_cons_zero, List.set_cons_succ, i64_w, i32_w]
                            rfl
                          refine done_ (done_of HT_.out (by kernel_rfl)) ?_
                          try go_wp2
                          go_ret
                          exact ⟨by first | rfl | (simp [errW_none, errW_some] <;> rfl) | (simp [*, errW_none, errW_some] <;> rfl), by repeat (first | (with_reducible first | exact HB.out | apply below_alloc | apply pw_below_drewN | apply below_drew1 | refine below_set ?_ (IsS100.ge HI279.out) | refine below_set ?_ GE267.out | refine below_set ?_ GE340.out) | exact HB.out)⟩
                        · rw [if_neg c57] at H
                          have c57b0 : (t365 == 1) = false := beq_eq_false_iff_ne.mpr c57
                          have c57b1 : (t365 != 1) = true := bne_iff_ne.mpr c57
                          exact absurd ((Option.some.inj H).trans hr_.out) (by simp)
                      · rw [if_neg c55] at H
                        have c55b0 : (t354 == x14_2) = false := beq_eq_false_iff_ne.mpr c55
                        have c55b1 : (t354 != x14_2) = true := bne_iff_ne.mpr c55
                        exact absurd ((Option.some.inj H).trans hr_.out) (by simp)
                    · replace c53 := Bool.eq_false_iff.mpr c53
                      subst c53
                      have H1 : (some false) = some r := by rw [if_neg (show ¬ (false = true) by decide)] at H; exact H
                      clear H
                      have H := H1
                      clear H1
                      exact absurd ((Option.some.inj H).trans hr_.out) (by simp)
          · rw [if_neg c23] at H
            have c23b0 : (t281 == 0) = false := beq_eq_false_iff_ne.mpr c23
            have c23b1 : (t281 != 0) = true := bne_iff_ne.mpr c23
            exact absurd ((Option.some.inj H).trans hr_.out) (by simp)
  · replace c8 := Bool.eq_false_iff.mpr c8
    subst c8
    have H1 : (some false) = some r := by rw [if_neg (show ¬ (false = true) by decide)] at H; exact H
    clear H
    have H := H1
    clear H1
    exact absurd ((Option.some.inj H).trans hr_.out) (by simp)

end Go.Proofs.YtlgfmmkabnbllaaDoor.PT
/-
  DeckStands: the plain law, whole. No program.
-/
namespace Go.Proofs.YtlgfmmkabnbllaaDoor.Hand
open Go.RowKit Go.Proofs.YtlgfmmkabnbllaaDoorW.PrintWords Go.Proofs.YtlgfmmkabnbllaaDoorW.PrintLast Go.Proofs.YtlgfmmkabnbllaaDoorW.PrintMore Go.Proofs.YtlgfmmkabnbllaaDoor.PA Go.Proofs.YtlgfmmkabnbllaaDoor.PB Go.Proofs.YtlgfmmkabnbllaaDoor.PC Go.Proofs.YtlgfmmkabnbllaaDoor.PT
set_option linter.unusedSimpArgs false
set_option linter.unusedVariables false

theorem mx_max (a b : Int) : mx a b = max a b := by unfold mx; split <;> omega
theorem mn_min (a b : Int) : mn a b = min a b := by unfold mn; split <;> omega
theorem stands_l0 (K : Nat) {now hi : Int} {l : List Int} {k0 bn bl bh bt : Int} {x : Nat} (hx : x < 18446744073709551616) (h0 : 0 ≤ now) (h1 : now ≤ 1152921504606846976) (hh : hi ≤ 1152921504606846976) (hl : l.length ≤ 200) :
    ∀ (m i : Nat) (p : Int), i + m = l.length → tiklaw23_DeckStands.l0 (K + m + 2) now hi l p (i : Int) k0 bn bl bh bt x 1 p 1 1 false 0 0 0 0 0 = some true := by
  intro m
  induction m with
  | zero =>
    intro i p hi'
    rw [tiklaw23_DeckStands.l0, if_neg (by omega), drate_f, Option.bind_some]
    obtain ⟨r, s, e, hs⟩ := does_stands (K + 1) (p := p) (k0 := k0) (now := bn) (lo := bl) (hi := bh) (t := bt) hx
    dsimp only
    rw [e, Option.bind_some]
    by_cases hr : r = 0
    · rw [if_pos hr, dfirst_true, Option.bind_some]
    · obtain rfl := hs hr
      rw [if_neg hr, dfirst_true, Option.bind_some, if_pos rfl, pos_f, Option.bind_some, if_pos rfl, mode_f, Option.bind_some, if_pos rfl, drate_f, Option.bind_some]
      rfl
  | succ m ih =>
    intro i p hi'
    rw [show K + (m + 1) + 2 = (K + m + 2) + 1 by omega, tiklaw23_DeckStands.l0, if_pos (by omega), if_pos (by omega)]
    by_cases hb : rd l (i : Int) > hi
    · rw [if_pos hb, dfirst_true, Option.bind_some]
    · rw [if_neg hb]
      have w : IntKind.u64.wrap (now + IntKind.u64.wrap (i : Int)) = now + i := by
        rw [IntWalk.u64_in (i : Int) (by omega)]
        exact IntWalk.u64_in _ (by omega)
      rw [w, tick_stands (mayV_yes (by omega) (by omega) (by omega)), Option.bind_some]
      dsimp only
      rw [pos_f, Option.bind_some]
      dsimp only
      rw [if_pos (mx_max _ _).symm, mode_f, Option.bind_some]
      dsimp only
      have w2 : wrap64 ((i : Int) + 1) = ((i + 1 : Nat) : Int) := by
        rw [IntWalk.wrap64_in _ (by omega)]
        omega
      rw [if_pos rfl, mx_max, w2]
      exact ih (i + 1) _ (by omega)
theorem stands_any (K : Nat) {now lo hi at_ : Int} {l : List Int} {k0 bn bl bh bt : Int} {x : Nat} (hx : x < 18446744073709551616) (h0 : 0 ≤ now) (hl0 : l.length = K) :
    tiklaw23_DeckStands.f (K + 3) now lo hi at_ k0 bn bl bh bt x l = some true := by
  have bad : ∀ s0 s1 s2 s3 s4 s5 s6 s7 s8 s9, tiklaw23_DeckStands.j0 (K + 3) now lo hi at_ l true k0 bn bl bh bt x s0 s1 s2 s3 s4 s5 s6 s7 s8 s9 = some true := by
    intro s0 s1 s2 s3 s4 s5 s6 s7 s8 s9
    rw [tiklaw23_DeckStands.j0, if_pos rfl, if_pos rfl, dfirst_true, Option.bind_some]
  unfold tiklaw23_DeckStands.f
  rw [dfirst_true, Option.bind_some, if_pos rfl, new_f, Option.bind_some, if_neg (by decide)]
  by_cases q1 : (l.length : Int) > 200
  · rw [if_pos q1, bad]
  rw [if_neg q1]
  by_cases q2 : lo > hi
  · rw [if_pos q2, bad]
  rw [if_neg q2]
  by_cases q3 : hi > 1152921504606846976
  · rw [if_pos q3, bad]
  rw [if_neg q3]
  by_cases q4 : now > 1152921504606846976
  · rw [if_pos q4, bad]
  rw [if_neg q4]
  by_cases q5 : at_ < lo
  · rw [if_pos q5, bad]
  rw [if_neg q5]
  by_cases q6 : at_ > hi
  · rw [decide_eq_true q6, bad]
  rw [decide_eq_false q6, tiklaw23_DeckStands.j0, if_neg (by decide)]
  dsimp only
  rw [seek_stands (mayV_yes (by omega) (by omega) (by omega)) q5 (by decide), Option.bind_some]
  dsimp only
  rw [if_pos rfl, show min at_ hi = at_ by omega]
  have := stands_l0 (now := now) (hi := hi) (l := l) (k0 := k0) (bn := bn) (bl := bl) (bh := bh) (bt := bt) 0 hx h0 (by omega) (by omega) (by omega) K 0 at_ (by omega)
  rw [Nat.zero_add] at this
  exact this
end Go.Proofs.YtlgfmmkabnbllaaDoor.Hand
namespace Go.Proofs.YtlgfmmkabnbllaaDoor.RowDeckStands
open Go.ChangeShapes Go.WideShapes Go.ChangeAt Go.RowKit
open Go.ChangeMaps (open_string shut_string)
open Go.Proofs.YtlgfmmkabnbllaaDoorW.PrintWords Go.Proofs.YtlgfmmkabnbllaaDoor.Opens
open Go.Proofs.YtlgfmmkabnbllaaDoor.Hand
open Go.Proofs.YtlgfmmkabnbllaaDoor.PT
set_option linter.unusedVariables false
set_option linter.unusedSimpArgs false
theorem ownK : ownKnob Tryd.prog.godebug = none := by kernel_rfl
theorem laidOut : laidOutB Tryd.prog = true := by kernel_rfl
abbrev laid2 : List (String × DataW Unit) := [("math/bits.deBruijn64tab", Rows.laid_math_bits_deBruijn64tab)]
set_option maxRecDepth 100000 in
theorem door_met (os : Os) (args : Array Value) : laidMetH Tryd.prog laid2 ((World.doorLaid Tryd.prog 400 os).forCall (fun _ _ => 0) ⟨#[], args, []⟩).memory :=
  laidMetH_of_parts3 (fuel := 8) (laidMet_of_run' 8 (by kernel_rfl) (by kernel_rfl)) (by kernel_rfl) (by kernel_rfl)
set_option maxRecDepth 100000 in
theorem lifted (os : Os) (started : os.Started) (H : Type) (enc : TypeId × Value → H) :
    ReturnsInHanded {} Tryd.checked os 5 .any (fun w args => (Rows.deckStandsSpec.pre enc Tryd.prog Tryd.f5 [] false w args ∧ laidMetH Tryd.prog laid2 w) ∧ sizedMet enc Tryd.prog Tryd.f5 (OpenSpec.ofChange Rows.deckStandsSpec) false w args)
      (Rows.deckStandsSpec.post enc Tryd.prog Tryd.f5 false true false false) := by
  refine returnsInHanded_of_change_and (C := Tryd.checked) (X := fun w _ => laidMetH Tryd.prog laid2 w) (fun _ _ _ hh h => h.of_heap hh) ownK started (by kernel_rfl) Tryd.func5
    (ChangeSpec.witness_shaped (enc := enc) (C := Tryd.checked) (os := os) (X := fun w _ => laidMetH Tryd.prog laid2 w) false (World.doorLaid Tryd.prog 400 os) #[.int .u64 0, .int .u64 0, .int .u64 0, .int .u64 0, .agg #[.int .i64 0, .int .u64 0, .int .u64 0, .int .u64 0, .int .u64 0, .float .f64 0], .slice none 0 0] 8 rfl (World.shaped_of_RefB (by kernel_rfl) (by kernel_rfl)) (by kernel_rfl) (by kernel_rfl) (by kernel_rfl) (door_met os _)) ?_
  intro W base args ds gs before hval0 hW _ hsz0 hT _
  have hsz : (DataW.weightsEach Tryd.prog (Tryd.f5.params.toList ++ Rows.deckStandsSpec.plain.varTypes Tryd.prog) (ds ++ gs)).all (· ≤ reachBytes) = true := hsz0
  have hval : ∀ (j : Nat) t v, Tryd.f5.params[j]? = some t → args[j]? = some v → Value.okWide Tryd.prog W .any base t v := hval0
  have hW' := hW
  obtain ⟨p, q, hA0, hV, rfl, hfz, hnd⟩ := hW
  have hA : DataW.TrodAll enc Tryd.prog W 0 (fun _ => true) true Tryd.f5.params.toList args.toList ds p := hA0
  rw [Tryd.params5] at hA hval hsz
  obtain ⟨v0, vs0, d0, ds0, p0, q0, hargs, rfl, rfl, h0, r0⟩ := trodAll_cons hA
  obtain ⟨v1, vs1, d1, ds1, p1, q1, rfl, rfl, rfl, h1, r1⟩ := trodAll_cons r0
  obtain ⟨v2, vs2, d2, ds2, p2, q2, rfl, rfl, rfl, h2, r2⟩ := trodAll_cons r1
  obtain ⟨v3, vs3, d3, ds3, p3, q3, rfl, rfl, rfl, h3, r3⟩ := trodAll_cons r2
  obtain ⟨v4, vs4, d4, ds4, p4, q4, rfl, rfl, rfl, h4, r4⟩ := trodAll_cons r3
  obtain ⟨v5, vs5, d5, ds5, p5, q5, rfl, rfl, rfl, h5, r5⟩ := trodAll_cons r4
  obtain ⟨rfl, rfl, rfl⟩ := trodAll_nil r5
  obtain rfl : args = #[v0, v1, v2, v3, v4, v5] := by cases args; simp_all
  obtain ⟨rfl, rfl⟩ := trodVars_none hV
  obtain ⟨a0, rfl, rfl, rfl, w0⟩ := open_int Tryd.underlying28 (hval 0 28 v0 rfl rfl) h0
  obtain ⟨a1, rfl, rfl, rfl, w1⟩ := open_int Tryd.underlying28 (hval 1 28 v1 rfl rfl) h1
  obtain ⟨a2, rfl, rfl, rfl, w2⟩ := open_int Tryd.underlying28 (hval 2 28 v2 rfl rfl) h2
  obtain ⟨a3, rfl, rfl, rfl, w3⟩ := open_int Tryd.underlying28 (hval 3 28 v3 rfl rfl) h3
  have k4 := h4
  have lt4 : ∀ x ∈ p4, x.block < W.heap.size := by obtain ⟨m, hm⟩ := k4; exact DataW.trod_lt m _ _ _ hm
  obtain ⟨⟨c4_0, ⟨c4_1, ⟨c4_2, ⟨c4_3, ⟨c4_4, c4_5⟩⟩⟩⟩⟩, ⟨_, _, gc4_4, fc4_0, ⟨_, _, gc4_3, fc4_1, ⟨_, _, gc4_2, fc4_2, ⟨_, _, gc4_1, fc4_3, ⟨_, _, gc4_0, fc4_4, fc4_5⟩⟩⟩⟩⟩, u4⟩ := open_arg (o_struct Tryd.underlying36 (by kernel_rfl) (f_cons rfl (by kernel_rfl) (o_int Tryd.underlying3) (f_cons rfl (by kernel_rfl) (o_int Tryd.underlying28) (f_cons rfl (by kernel_rfl) (o_int Tryd.underlying28) (f_cons rfl (by kernel_rfl) (o_int Tryd.underlying28) (f_cons rfl (by kernel_rfl) (o_int Tryd.underlying28) (f_last rfl (by kernel_rfl) (o_float Tryd.underlying34)))))))) h4
  have e4 : v4.cells.toList = _ := gc4_4
  simp only [Kd.int, Kd.bool, Kd.string, kFloat, Kd.scalar] at fc4_0 fc4_1 fc4_2 fc4_3 fc4_4 fc4_5
  simp only [gc4_0, gc4_1, gc4_2, gc4_3, fc4_0, fc4_1, fc4_2, fc4_3, fc4_4, fc4_5, List.cons_append, List.nil_append] at e4
  have e4' := agg_of Tryd.underlying36 (hval 4 36 v4 rfl rfl) e4
  subst e4'
  have k5 := h5
  have lt5 : ∀ x ∈ p5, x.block < W.heap.size := by obtain ⟨m, hm⟩ := k5; exact DataW.trod_lt m _ _ _ hm
  obtain ⟨l5, ⟨A5, c5, e5, hc5, hC5⟩, q5⟩ := open_arg (o_slice Tryd.underlying47 (by kernel_rfl) (o_int Tryd.underlying28)) h5
  obtain ⟨_, _, _, z5⟩ := okWide_slice Tryd.underlying47 (hval 5 47 v5 rfl rfl)
  obtain rfl : v5 = .slice A5 l5.length c5 := by subst z5; simpa [Value.cells] using e5
  have y5 := sized_any hsz (j := 5) (t := 47) rfl rfl Tryd.underlying47 h5
  clear hA0 hval0
  refine (tiklaw23_DeckStands.calls (l5.length + 3) a0 a1 a2 a3 c4_0 c4_1 c4_2 c4_3 c4_4 c4_5 A5 c5 l5 true W hC5 hc5 (tabW_of hT) ⟨rfl⟩ (stands_any l5.length (f64_lt (by simpa using u4.2.2.2.2.2)) (by have := bounds_u64 w0; omega) rfl)).mono fun e W' ⟨he, bel⟩ => ?_
  subst he
  exact ⟨_, rfl, _, _, _, [], _, [], hW', trodAll_mk1 (shut_bool Tryd.underlying4 _), (trodAll_cons_mk (shut_int Tryd.underlying28 w0) (trodAll_cons_mk (shut_int Tryd.underlying28 w1) (trodAll_cons_mk (shut_int Tryd.underlying28 w2) (trodAll_cons_mk (shut_int Tryd.underlying28 w3) (trodAll_cons_mk (Below.trod laidOut (by kernel_rfl) (of_decide_eq_true (by kernel_rfl)) k4 bel lt4) (trodAll_cons_mk (Below.trod laidOut (by kernel_rfl) (of_decide_eq_true (by kernel_rfl)) k5 bel lt5) trodAll_mk0)))))), rfl, bel.frame _, fun h => by cases h⟩
theorem over : Rows.deckStandsRow.holds Tryd.pinned (OpenSpec.ofChange Rows.deckStandsSpec) :=
  OpenClaim.holds_of_wide 5 Tryd.f5 rfl rfl rfl rfl rfl rfl rfl ⟨rfl, rfl, rfl, rfl, rfl⟩ rfl rfl rfl rfl rfl (by kernel_rfl) Tryd.func5 (by kernel_rfl)
    (of_decide_eq_true (by kernel_rfl)) (by unfold Func.isWrapper; first | (rw [if_pos (by decide +kernel)]; kernel_rfl) | (rw [if_neg (by decide +kernel)]; exact ⟨rfl, rfl⟩))
    (fun os started H enc _ => lifted os started H enc)
theorem card : Rows.DeckStandsCardSaid :=
  Claim7.holds_tied_plain_at .later [] [.data] true (true, "f4cce56c052b8147ed0d96dfe40f3886e39b5e64f551fd0da9ae368612f96104") true
    over (fun _ h => by cases h) (by kernel_rfl) (fun _ h => by cases h) deckStands_row_tie rfl ⟨rfl, rfl⟩ (by kernel_rfl) rfl
    (fun f fn hf hfn => by
      obtain rfl : f = 5 := Option.some.inj ((show Tryd.prog.funcNamed "tickertape/tiklaw23.DeckStands" = some 5 by kernel_rfl).symm.trans hf) |>.symm
      obtain rfl : fn = Tryd.f5 := (Option.some.inj (Tryd.func5.symm.trans hfn)).symm
      exact ⟨by kernel_rfl, fun j t ht => by
        rw [Tryd.params5] at ht
        have hm : t ∈ [28, 28, 28, 28, 36, 47] := by simpa using Array.mem_of_getElem? ht
        have hall : ([28, 28, 28, 28, 36, 47].all fun u => !Tryd.prog.wantsStandIn u) = true := by kernel_rfl
        exact (show Tryd.prog.wantsStandIn t = false by simpa using List.all_eq_true.1 hall t hm)⟩)
    (by kernel_rfl)
#print axioms card
end Go.Proofs.YtlgfmmkabnbllaaDoor.RowDeckStands
namespace Go.Proofs.YtlgfmmkabnbllaaDoor
theorem deckStands_holds : Rows.DeckStandsCardSaid := RowDeckStands.card
end Go.Proofs.YtlgfmmkabnbllaaDoor
