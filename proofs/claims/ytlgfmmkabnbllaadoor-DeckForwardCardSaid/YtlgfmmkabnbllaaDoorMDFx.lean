/- DeckForward: who plays never goes back, stays within the ends, and comes to the end, if its speed is not 0: then it is on air; who is paused stands: the call returns true and leaves its arguments as they were. No condition; the table of the library is tied to the program's text. -/
import Derived.Test.YtlgfmmkabnbllaaDoorMDFb
import Derived.Test.YtlgfmmkabnbllaaDoorMDFc
import Derived.Test.YtlgfmmkabnbllaaDoorRows
import Derived.Test.YtlgfmmkabnbllaaDoorMDFa
import Derived.Test.YtlgfmmkabnbllaaDoorTie
import Derived.Test.YtlgfmmkabnbllaaDoorCards
import Derived.WalkKit
import Derived.ProofKit
import Derived.OpenShut
import Derived.ShutString
import Derived.ChangeOld
import Derived.Below
import Derived.SizedLaws
import Derived.LaidMore
import Derived.Stop.Joined
import Derived.SevenTiedAt
set_option linter.unusedVariables false
set_option linter.unusedSimpArgs false
namespace Go.Proofs.YtlgfmmkabnbllaaDoor.PT
open Go.RowKit Go.Proofs.YtlgfmmkabnbllaaDoorW.PrintWords Go.Proofs.YtlgfmmkabnbllaaDoorW.PrintLast Go.Proofs.YtlgfmmkabnbllaaDoorW.PrintMore
attribute [local go_sem] max2_int min2_int max_two min_two max_three min_three max_four min_four   -- for this text's walks alone
open Go.Proofs.YtlgfmmkabnbllaaDoor.Hand
open Go.Proofs.YtlgfmmkabnbllaaDoor.PA
open Go.Proofs.YtlgfmmkabnbllaaDoor.PB
open Go.Proofs.YtlgfmmkabnbllaaDoor.PC
open Go.Proofs.YtlgfmmkabnbllaaDoor.PM
set_option linter.unusedVariables false
set_option linter.unusedSimpArgs false

/-! ### tiklaw23_DeckForward: function 4 -/
mutual
def tiklaw23_DeckForward.j0 : Nat → Int → Int → Int → Int → Nat → List Int → Bool → Int → Int → Int → Int → Bool → Int → Int → Int → Int → Int → Option (Bool)
 | 0, _, _, _, _, _, _, _, _, _, _, _, _, _, _, _, _, _ => none
 | k + 1, x0, x1, x2, x3, x4, x5, x47, x582000, x582001, x582002, x582003, x582004, x582005, x582006, x582007, x582008, x582009 => if x47 = true then (if true = true then ((tiklaw23_first.f k).bind fun t582 => (some t582)) else (some false)) else ((deck_Deck_Speed.f k x582000 x582001 x582002 x582003 x582004 x582005 x582006 x582007 x582008 x582009 x0 x4).bind fun bt583 => ((rate_Of.f x4).bind fun bt594 => (if bt583.1 = bt594.2.2 then ((deck_Deck_Seek.f bt583.2.1 bt583.2.2.1 bt583.2.2.2.1 bt583.2.2.2.2.1 bt583.2.2.2.2.2.1 bt583.2.2.2.2.2.2.1 bt583.2.2.2.2.2.2.2.1 bt583.2.2.2.2.2.2.2.2.1 bt583.2.2.2.2.2.2.2.2.2.1 bt583.2.2.2.2.2.2.2.2.2.2 x0 x1 x2 x3).bind fun bt598 => (if bt598.1 = 0 then ((deck_Deck_Mode.f bt598.2.1 bt598.2.2.1 bt598.2.2.2.1 bt598.2.2.2.2.1 bt598.2.2.2.2.2.1 bt598.2.2.2.2.2.2.1 bt598.2.2.2.2.2.2.2.1 bt598.2.2.2.2.2.2.2.2.1 bt598.2.2.2.2.2.2.2.2.2.1 bt598.2.2.2.2.2.2.2.2.2.2).bind fun bt609 => (if bt609.1 = 1 then ((deck_Deck_Pos.f bt609.2.1 bt609.2.2.1 bt609.2.2.2.1 bt609.2.2.2.2.1 bt609.2.2.2.2.2.1 bt609.2.2.2.2.2.2.1 bt609.2.2.2.2.2.2.2.1 bt609.2.2.2.2.2.2.2.2.1 bt609.2.2.2.2.2.2.2.2.2.1 bt609.2.2.2.2.2.2.2.2.2.2).bind fun bt620 => (if bt620.1 = (mn x3 x2) then ((deck_Deck_Play.f bt620.2.1 bt620.2.2.1 bt620.2.2.2.1 bt620.2.2.2.2.1 bt620.2.2.2.2.2.1 bt620.2.2.2.2.2.2.1 bt620.2.2.2.2.2.2.2.1 bt620.2.2.2.2.2.2.2.2.1 bt620.2.2.2.2.2.2.2.2.2.1 bt620.2.2.2.2.2.2.2.2.2.2 x0 x1 x2).bind fun bt631 => (if bt631.1 = 0 then ((deck_Deck_Mode.f bt631.2.1 bt631.2.2.1 bt631.2.2.2.1 bt631.2.2.2.2.1 bt631.2.2.2.2.2.1 bt631.2.2.2.2.2.2.1 bt631.2.2.2.2.2.2.2.1 bt631.2.2.2.2.2.2.2.2.1 bt631.2.2.2.2.2.2.2.2.2.1 bt631.2.2.2.2.2.2.2.2.2.2).bind fun bt642 => (tiklaw23_DeckForward.j1 k x0 x1 x2 x5 bt594.2.2 (bt642.1 != 2) bt642.2.1 bt642.2.2.1 bt642.2.2.2.1 bt642.2.2.2.2.1 bt642.2.2.2.2.2.1 bt642.2.2.2.2.2.2.1 bt642.2.2.2.2.2.2.2.1 bt642.2.2.2.2.2.2.2.2.1 bt642.2.2.2.2.2.2.2.2.2.1 bt642.2.2.2.2.2.2.2.2.2.2 bt594.1 bt594.2.1)) else (tiklaw23_DeckForward.j1 k x0 x1 x2 x5 bt594.2.2 true bt631.2.1 bt631.2.2.1 bt631.2.2.2.1 bt631.2.2.2.2.1 bt631.2.2.2.2.2.1 bt631.2.2.2.2.2.2.1 bt631.2.2.2.2.2.2.2.1 bt631.2.2.2.2.2.2.2.2.1 bt631.2.2.2.2.2.2.2.2.2.1 bt631.2.2.2.2.2.2.2.2.2.2 bt594.1 bt594.2.1))) else (tiklaw23_DeckForward.j1 k x0 x1 x2 x5 bt594.2.2 true bt620.2.1 bt620.2.2.1 bt620.2.2.2.1 bt620.2.2.2.2.1 bt620.2.2.2.2.2.1 bt620.2.2.2.2.2.2.1 bt620.2.2.2.2.2.2.2.1 bt620.2.2.2.2.2.2.2.2.1 bt620.2.2.2.2.2.2.2.2.2.1 bt620.2.2.2.2.2.2.2.2.2.2 bt594.1 bt594.2.1))) else (tiklaw23_DeckForward.j1 k x0 x1 x2 x5 bt594.2.2 true bt609.2.1 bt609.2.2.1 bt609.2.2.2.1 bt609.2.2.2.2.1 bt609.2.2.2.2.2.1 bt609.2.2.2.2.2.2.1 bt609.2.2.2.2.2.2.2.1 bt609.2.2.2.2.2.2.2.2.1 bt609.2.2.2.2.2.2.2.2.2.1 bt609.2.2.2.2.2.2.2.2.2.2 bt594.1 bt594.2.1))) else (tiklaw23_DeckForward.j1 k x0 x1 x2 x5 bt594.2.2 true bt598.2.1 bt598.2.2.1 bt598.2.2.2.1 bt598.2.2.2.2.1 bt598.2.2.2.2.2.1 bt598.2.2.2.2.2.2.1 bt598.2.2.2.2.2.2.2.1 bt598.2.2.2.2.2.2.2.2.1 bt598.2.2.2.2.2.2.2.2.2.1 bt598.2.2.2.2.2.2.2.2.2.2 bt594.1 bt594.2.1))) else (tiklaw23_DeckForward.j1 k x0 x1 x2 x5 bt594.2.2 true bt583.2.1 bt583.2.2.1 bt583.2.2.2.1 bt583.2.2.2.2.1 bt583.2.2.2.2.2.1 bt583.2.2.2.2.2.2.1 bt583.2.2.2.2.2.2.2.1 bt583.2.2.2.2.2.2.2.2.1 bt583.2.2.2.2.2.2.2.2.2.1 bt583.2.2.2.2.2.2.2.2.2.2 bt594.1 bt594.2.1))))
def tiklaw23_DeckForward.j1 : Nat → Int → Int → Int → List Int → Int → Bool → Int → Int → Int → Int → Bool → Int → Int → Int → Int → Int → Int → Int → Option (Bool)
 | 0, _, _, _, _, _, _, _, _, _, _, _, _, _, _, _, _, _, _ => none
 | k + 1, x0, x1, x2, x5, x16, x99, x582000, x582001, x582002, x582003, x582004, x582005, x582006, x582007, x582008, x582009, x598000, x598001 => if x99 = true then (some false) else (if x16 = 0 then (tiklaw23_DeckForward.j2 k x0 x1 x2 x5 x582000 x582001 x582002 x582003 x582004 x582005 x582006 x582007 x582008 x582009 x598000 x598001) else (tiklaw23_DeckForward.j2 k x0 x1 x2 x5 x582000 x582001 x582002 x582003 x582004 x582005 x582006 x582007 x582008 x582009 1 1))
def tiklaw23_DeckForward.j2 : Nat → Int → Int → Int → List Int → Int → Int → Int → Int → Bool → Int → Int → Int → Int → Int → Int → Int → Option (Bool)
 | 0, _, _, _, _, _, _, _, _, _, _, _, _, _, _, _, _ => none
 | k + 1, x0, x1, x2, x5, x582000, x582001, x582002, x582003, x582004, x582005, x582006, x582007, x582008, x582009, x598000, x598001 => (deck_Deck_Pos.f x582000 x582001 x582002 x582003 x582004 x582005 x582006 x582007 x582008 x582009).bind fun bt653 => (tiklaw23_DeckForward.l0 k x1 x2 x5 x0 bt653.1 0 bt653.2.1 bt653.2.2.1 bt653.2.2.2.1 bt653.2.2.2.2.1 bt653.2.2.2.2.2.1 bt653.2.2.2.2.2.2.1 bt653.2.2.2.2.2.2.2.1 bt653.2.2.2.2.2.2.2.2.1 bt653.2.2.2.2.2.2.2.2.2.1 bt653.2.2.2.2.2.2.2.2.2.2 x598000 x598001)
def tiklaw23_DeckForward.l0 : Nat → Int → Int → List Int → Int → Int → Int → Int → Int → Int → Int → Bool → Int → Int → Int → Int → Int → Int → Int → Option (Bool)
 | 0, _, _, _, _, _, _, _, _, _, _, _, _, _, _, _, _, _, _ => none
 | k + 1, x1, x2, x5, x17, x18, x19, x582000, x582001, x582002, x582003, x582004, x582005, x582006, x582007, x582008, x582009, x598000, x598001 => if x19 < (x5.length : Int) then (if 0 ≤ x19 then (if (rd x5 x19) > 1073741824 then ((tiklaw23_first.f k).bind fun t665 => (some t665)) else ((deck_Deck_Tick.f x582000 x582001 x582002 x582003 x582004 x582005 x582006 x582007 x582008 x582009 (IntKind.u64.wrap (x17 + (rd x5 x19))) x1 x2).bind fun bt667 => ((deck_Deck_Pos.f bt667.1 bt667.2.1 bt667.2.2.1 bt667.2.2.2.1 bt667.2.2.2.2.1 bt667.2.2.2.2.2.1 bt667.2.2.2.2.2.2.1 bt667.2.2.2.2.2.2.2.1 bt667.2.2.2.2.2.2.2.2.1 bt667.2.2.2.2.2.2.2.2.2).bind fun bt677 => (if bt677.1 < x18 then (tiklaw23_DeckForward.j4 k x1 x2 x5 (IntKind.u64.wrap (x17 + (rd x5 x19))) x19 true bt677.2.1 bt677.2.2.1 bt677.2.2.2.1 bt677.2.2.2.2.1 bt677.2.2.2.2.2.1 bt677.2.2.2.2.2.2.1 bt677.2.2.2.2.2.2.2.1 bt677.2.2.2.2.2.2.2.2.1 bt677.2.2.2.2.2.2.2.2.2.1 bt677.2.2.2.2.2.2.2.2.2.2 x598000 x598001) else ((deck_Deck_Pos.f bt677.2.1 bt677.2.2.1 bt677.2.2.2.1 bt677.2.2.2.2.1 bt677.2.2.2.2.2.1 bt677.2.2.2.2.2.2.1 bt677.2.2.2.2.2.2.2.1 bt677.2.2.2.2.2.2.2.2.1 bt677.2.2.2.2.2.2.2.2.2.1 bt677.2.2.2.2.2.2.2.2.2.2).bind fun bt688 => (if bt688.1 > x2 then (tiklaw23_DeckForward.j4 k x1 x2 x5 (IntKind.u64.wrap (x17 + (rd x5 x19))) x19 true bt688.2.1 bt688.2.2.1 bt688.2.2.2.1 bt688.2.2.2.2.1 bt688.2.2.2.2.2.1 bt688.2.2.2.2.2.2.1 bt688.2.2.2.2.2.2.2.1 bt688.2.2.2.2.2.2.2.2.1 bt688.2.2.2.2.2.2.2.2.2.1 bt688.2.2.2.2.2.2.2.2.2.2 x598000 x598001) else ((deck_Deck_Mode.f bt688.2.1 bt688.2.2.1 bt688.2.2.2.1 bt688.2.2.2.2.1 bt688.2.2.2.2.2.1 bt688.2.2.2.2.2.2.1 bt688.2.2.2.2.2.2.2.1 bt688.2.2.2.2.2.2.2.2.1 bt688.2.2.2.2.2.2.2.2.2.1 bt688.2.2.2.2.2.2.2.2.2.2).bind fun bt699 => (if bt699.1 = 1 then (tiklaw23_DeckForward.j4 k x1 x2 x5 (IntKind.u64.wrap (x17 + (rd x5 x19))) x19 true bt699.2.1 bt699.2.2.1 bt699.2.2.2.1 bt699.2.2.2.2.1 bt699.2.2.2.2.2.1 bt699.2.2.2.2.2.2.1 bt699.2.2.2.2.2.2.2.1 bt699.2.2.2.2.2.2.2.2.1 bt699.2.2.2.2.2.2.2.2.2.1 bt699.2.2.2.2.2.2.2.2.2.2 x598000 x598001) else ((deck_Deck_Mode.f bt699.2.1 bt699.2.2.1 bt699.2.2.2.1 bt699.2.2.2.2.1 bt699.2.2.2.2.2.1 bt699.2.2.2.2.2.2.1 bt699.2.2.2.2.2.2.2.1 bt699.2.2.2.2.2.2.2.2.1 bt699.2.2.2.2.2.2.2.2.2.1 bt699.2.2.2.2.2.2.2.2.2.2).bind fun bt710 => ((deck_Deck_Pos.f bt710.2.1 bt710.2.2.1 bt710.2.2.2.1 bt710.2.2.2.2.1 bt710.2.2.2.2.2.1 bt710.2.2.2.2.2.2.1 bt710.2.2.2.2.2.2.2.1 bt710.2.2.2.2.2.2.2.2.1 bt710.2.2.2.2.2.2.2.2.2.1 bt710.2.2.2.2.2.2.2.2.2.2).bind fun bt721 => (tiklaw23_DeckForward.j4 k x1 x2 x5 (IntKind.u64.wrap (x17 + (rd x5 x19))) x19 ((bt710.1 == 0) != (bt721.1 == x2)) bt721.2.1 bt721.2.2.1 bt721.2.2.2.1 bt721.2.2.2.2.1 bt721.2.2.2.2.2.1 bt721.2.2.2.2.2.2.1 bt721.2.2.2.2.2.2.2.1 bt721.2.2.2.2.2.2.2.2.1 bt721.2.2.2.2.2.2.2.2.2.1 bt721.2.2.2.2.2.2.2.2.2.2 x598000 x598001))))))))))) else (none)) else (if x598000 = 0 then (tiklaw23_DeckForward.j5 k x1 x2 x17 x18 true x582000 x582001 x582002 x582003 x582004 x582005 x582006 x582007 x582008 x582009) else (tiklaw23_DeckForward.j5 k x1 x2 x17 x18 (decide ((IntKind.u64.wrap (x2 - x18)) > 1073741824)) x582000 x582001 x582002 x582003 x582004 x582005 x582006 x582007 x582008 x582009))
def tiklaw23_DeckForward.j4 : Nat → Int → Int → List Int → Int → Int → Bool → Int → Int → Int → Int → Bool → Int → Int → Int → Int → Int → Int → Int → Option (Bool)
 | 0, _, _, _, _, _, _, _, _, _, _, _, _, _, _, _, _, _, _ => none
 | k + 1, x1, x2, x5, x17, x19, x153, x582000, x582001, x582002, x582003, x582004, x582005, x582006, x582007, x582008, x582009, x598000, x598001 => if x153 = true then (some false) else ((deck_Deck_Pos.f x582000 x582001 x582002 x582003 x582004 x582005 x582006 x582007 x582008 x582009).bind fun bt732 => ((deck_Deck_Mode.f bt732.2.1 bt732.2.2.1 bt732.2.2.2.1 bt732.2.2.2.2.1 bt732.2.2.2.2.2.1 bt732.2.2.2.2.2.2.1 bt732.2.2.2.2.2.2.2.1 bt732.2.2.2.2.2.2.2.2.1 bt732.2.2.2.2.2.2.2.2.2.1 bt732.2.2.2.2.2.2.2.2.2.2).bind fun bt743 => (if bt743.1 = 0 then ((tiklaw23_first.f k).bind fun t754 => (some t754)) else (tiklaw23_DeckForward.l0 k x1 x2 x5 x17 bt732.1 (wrap64 (x19 + 1)) bt743.2.1 bt743.2.2.1 bt743.2.2.2.1 bt743.2.2.2.2.1 bt743.2.2.2.2.2.1 bt743.2.2.2.2.2.2.1 bt743.2.2.2.2.2.2.2.1 bt743.2.2.2.2.2.2.2.2.1 bt743.2.2.2.2.2.2.2.2.2.1 bt743.2.2.2.2.2.2.2.2.2.2 x598000 x598001))))
def tiklaw23_DeckForward.j5 : Nat → Int → Int → Int → Int → Bool → Int → Int → Int → Int → Bool → Int → Int → Int → Int → Int → Option (Bool)
 | 0, _, _, _, _, _, _, _, _, _, _, _, _, _, _, _ => none
 | k + 1, x1, x2, x17, x18, x168, x582000, x582001, x582002, x582003, x582004, x582005, x582006, x582007, x582008, x582009 => if x168 = true then ((tiklaw23_first.f k).bind fun t755 => (some t755)) else ((deck_Deck_Tick.f x582000 x582001 x582002 x582003 x582004 x582005 x582006 x582007 x582008 x582009 (IntKind.u64.wrap (x17 + (IntKind.u64.wrap ((IntKind.u64.wrap ((IntKind.u64.wrap (x2 - x18)) + 1)) * 1048576)))) x1 x2).bind fun bt756 => ((tiklaw23_first.f k).bind fun t766 => (if t766 = true then ((deck_Deck_Mode.f bt756.1 bt756.2.1 bt756.2.2.1 bt756.2.2.2.1 bt756.2.2.2.2.1 bt756.2.2.2.2.2.1 bt756.2.2.2.2.2.2.1 bt756.2.2.2.2.2.2.2.1 bt756.2.2.2.2.2.2.2.2.1 bt756.2.2.2.2.2.2.2.2.2).bind fun bt767 => (if bt767.1 = 0 then ((deck_Deck_Pos.f bt767.2.1 bt767.2.2.1 bt767.2.2.2.1 bt767.2.2.2.2.1 bt767.2.2.2.2.2.1 bt767.2.2.2.2.2.2.1 bt767.2.2.2.2.2.2.2.1 bt767.2.2.2.2.2.2.2.2.1 bt767.2.2.2.2.2.2.2.2.2.1 bt767.2.2.2.2.2.2.2.2.2.2).bind fun bt778 => (some (bt778.1 == x2))) else (some false))) else (some false))))
end
def tiklaw23_DeckForward.f (k : Nat) (a0 : Int) (a1 : Int) (a2 : Int) (a3 : Int) (a4 : Nat) (l5 : List Int) : Option (Bool) := (tiklaw23_first.f k).bind fun t570 => (if t570 = true then ((deck_New.f).bind fun bt571 => (if false = true then (tiklaw23_DeckForward.j0 k a0 a1 a2 a3 a4 l5 true bt571.1 bt571.2.1 bt571.2.2.1 bt571.2.2.2.1 bt571.2.2.2.2.1 bt571.2.2.2.2.2.1 bt571.2.2.2.2.2.2.1 bt571.2.2.2.2.2.2.2.1 bt571.2.2.2.2.2.2.2.2.1 bt571.2.2.2.2.2.2.2.2.2) else (if (l5.length : Int) > 200 then (tiklaw23_DeckForward.j0 k a0 a1 a2 a3 a4 l5 true bt571.1 bt571.2.1 bt571.2.2.1 bt571.2.2.2.1 bt571.2.2.2.2.1 bt571.2.2.2.2.2.1 bt571.2.2.2.2.2.2.1 bt571.2.2.2.2.2.2.2.1 bt571.2.2.2.2.2.2.2.2.1 bt571.2.2.2.2.2.2.2.2.2) else (if a1 > a2 then (tiklaw23_DeckForward.j0 k a0 a1 a2 a3 a4 l5 true bt571.1 bt571.2.1 bt571.2.2.1 bt571.2.2.2.1 bt571.2.2.2.2.1 bt571.2.2.2.2.2.1 bt571.2.2.2.2.2.2.1 bt571.2.2.2.2.2.2.2.1 bt571.2.2.2.2.2.2.2.2.1 bt571.2.2.2.2.2.2.2.2.2) else (if a2 > 1152921504606846976 then (tiklaw23_DeckForward.j0 k a0 a1 a2 a3 a4 l5 true bt571.1 bt571.2.1 bt571.2.2.1 bt571.2.2.2.1 bt571.2.2.2.2.1 bt571.2.2.2.2.2.1 bt571.2.2.2.2.2.2.1 bt571.2.2.2.2.2.2.2.1 bt571.2.2.2.2.2.2.2.2.1 bt571.2.2.2.2.2.2.2.2.2) else (if a0 > 1152921504606846976 then (tiklaw23_DeckForward.j0 k a0 a1 a2 a3 a4 l5 true bt571.1 bt571.2.1 bt571.2.2.1 bt571.2.2.2.1 bt571.2.2.2.2.1 bt571.2.2.2.2.2.1 bt571.2.2.2.2.2.2.1 bt571.2.2.2.2.2.2.2.1 bt571.2.2.2.2.2.2.2.2.1 bt571.2.2.2.2.2.2.2.2.2) else (tiklaw23_DeckForward.j0 k a0 a1 a2 a3 a4 l5 (decide (a3 < a1)) bt571.1 bt571.2.1 bt571.2.2.1 bt571.2.2.2.1 bt571.2.2.2.2.1 bt571.2.2.2.2.2.1 bt571.2.2.2.2.2.2.1 bt571.2.2.2.2.2.2.2.1 bt571.2.2.2.2.2.2.2.2.1 bt571.2.2.2.2.2.2.2.2.2))))))) else (some false))
theorem tiklaw23_DeckForward.mono_l : ∀ k, (∀ y0 y1 y2 y3 y4 y5 y6 y7 y8 y9 y10 y11 y12 y13 y14 y15 y16, LeO (tiklaw23_DeckForward.j0 k y0 y1 y2 y3 y4 y5 y6 y7 y8 y9 y10 y11 y12 y13 y14 y15 y16) (tiklaw23_DeckForward.j0 (k + 1) y0 y1 y2 y3 y4 y5 y6 y7 y8 y9 y10 y11 y12 y13 y14 y15 y16)) ∧ (∀ y0 y1 y2 y3 y4 y5 y6 y7 y8 y9 y10 y11 y12 y13 y14 y15 y16 y17, LeO (tiklaw23_DeckForward.j1 k y0 y1 y2 y3 y4 y5 y6 y7 y8 y9 y10 y11 y12 y13 y14 y15 y16 y17) (tiklaw23_DeckForward.j1 (k + 1) y0 y1 y2 y3 y4 y5 y6 y7 y8 y9 y10 y11 y12 y13 y14 y15 y16 y17)) ∧ (∀ y0 y1 y2 y3 y4 y5 y6 y7 y8 y9 y10 y11 y12 y13 y14 y15, LeO (tiklaw23_DeckForward.j2 k y0 y1 y2 y3 y4 y5 y6 y7 y8 y9 y10 y11 y12 y13 y14 y15) (tiklaw23_DeckForward.j2 (k + 1) y0 y1 y2 y3 y4 y5 y6 y7 y8 y9 y10 y11 y12 y13 y14 y15)) ∧ (∀ y0 y1 y2 y3 y4 y5 y6 y7 y8 y9 y10 y11 y12 y13 y14 y15 y16 y17, LeO (tiklaw23_DeckForward.l0 k y0 y1 y2 y3 y4 y5 y6 y7 y8 y9 y10 y11 y12 y13 y14 y15 y16 y17) (tiklaw23_DeckForward.l0 (k + 1) y0 y1 y2 y3 y4 y5 y6 y7 y8 y9 y10 y11 y12 y13 y14 y15 y16 y17)) ∧ (∀ y0 y1 y2 y3 y4 y5 y6 y7 y8 y9 y10 y11 y12 y13 y14 y15 y16 y17, LeO (tiklaw23_DeckForward.j4 k y0 y1 y2 y3 y4 y5 y6 y7 y8 y9 y10 y11 y12 y13 y14 y15 y16 y17) (tiklaw23_DeckForward.j4 (k + 1) y0 y1 y2 y3 y4 y5 y6 y7 y8 y9 y10 y11 y12 y13 y14 y15 y16 y17)) ∧ (∀ y0 y1 y2 y3 y4 y5 y6 y7 y8 y9 y10 y11 y12 y13 y14, LeO (tiklaw23_DeckForward.j5 k y0 y1 y2 y3 y4 y5 y6 y7 y8 y9 y10 y11 y12 y13 y14) (tiklaw23_DeckForward.j5 (k + 1) y0 y1 y2 y3 y4 y5 y6 y7 y8 y9 y10 y11 y12 y13 y14))
 | 0 => ⟨fun _ _ _ _ _ _ _ _ _ _ _ _ _ _ _ _ _ r h => by simp [tiklaw23_DeckForward.j0] at h, fun _ _ _ _ _ _ _ _ _ _ _ _ _ _ _ _ _ _ r h => by simp [tiklaw23_DeckForward.j1] at h, fun _ _ _ _ _ _ _ _ _ _ _ _ _ _ _ _ r h => by simp [tiklaw23_DeckForward.j2] at h, fun _ _ _ _ _ _ _ _ _ _ _ _ _ _ _ _ _ _ r h => by simp [tiklaw23_DeckForward.l0] at h, fun _ _ _ _ _ _ _ _ _ _ _ _ _ _ _ _ _ _ r h => by simp [tiklaw23_DeckForward.j4] at h, fun _ _ _ _ _ _ _ _ _ _ _ _ _ _ _ r h => by simp [tiklaw23_DeckForward.j5] at h⟩
 | k + 1 => by
  obtain ⟨ih0, ih1, ih2, ih3, ih4, ih5⟩ := tiklaw23_DeckForward.mono_l k
  refine ⟨?_, ?_, ?_, ?_, ?_, ?_⟩
  ·intro y0 y1 y2 y3 y4 y5 y6 y7 y8 y9 y10 y11 y12 y13 y14 y15 y16
   unfold tiklaw23_DeckForward.j0
   repeat' first
   | (with_reducible exact ih0 _ _ _ _ _ _ _ _ _ _ _ _ _ _ _ _ _)
   | (with_reducible exact ih1 _ _ _ _ _ _ _ _ _ _ _ _ _ _ _ _ _ _)
   | (with_reducible exact ih2 _ _ _ _ _ _ _ _ _ _ _ _ _ _ _ _)
   | (with_reducible exact ih3 _ _ _ _ _ _ _ _ _ _ _ _ _ _ _ _ _ _)
   | (with_reducible exact ih4 _ _ _ _ _ _ _ _ _ _ _ _ _ _ _ _ _ _)
   | (with_reducible exact ih5 _ _ _ _ _ _ _ _ _ _ _ _ _ _ _)
   | (with_reducible exact deck_Deck_Speed.mono _ _ _ _ _ _ _ _ _ _ _ _ _)
   | (with_reducible exact tiklaw23_first.mono _)
   | (with_reducible exact LeO.refl _)
   | (with_reducible exact LeO.none _)
   | (with_reducible refine LeO.ite ?_ ?_)
   | (with_reducible refine LeO.bind ?_ (fun _ => ?_))
   | exact ih0 _ _ _ _ _ _ _ _ _ _ _ _ _ _ _ _ _
   | exact ih1 _ _ _ _ _ _ _ _ _ _ _ _ _ _ _ _ _ _
   | exact ih2 _ _ _ _ _ _ _ _ _ _ _ _ _ _ _ _
   | exact ih3 _ _ _ _ _ _ _ _ _ _ _ _ _ _ _ _ _ _
   | exact ih4 _ _ _ _ _ _ _ _ _ _ _ _ _ _ _ _ _ _
   | exact ih5 _ _ _ _ _ _ _ _ _ _ _ _ _ _ _
   | exact deck_Deck_Speed.mono _ _ _ _ _ _ _ _ _ _ _ _ _
   | exact tiklaw23_first.mono _
   | exact LeO.none _
   | refine LeO.ite ?_ ?_
   | refine LeO.bind ?_ (fun _ => ?_)
  ·intro y0 y1 y2 y3 y4 y5 y6 y7 y8 y9 y10 y11 y12 y13 y14 y15 y16 y17
   unfold tiklaw23_DeckForward.j1
   repeat' first
   | (with_reducible exact ih0 _ _ _ _ _ _ _ _ _ _ _ _ _ _ _ _ _)
   | (with_reducible exact ih1 _ _ _ _ _ _ _ _ _ _ _ _ _ _ _ _ _ _)
   | (with_reducible exact ih2 _ _ _ _ _ _ _ _ _ _ _ _ _ _ _ _)
   | (with_reducible exact ih3 _ _ _ _ _ _ _ _ _ _ _ _ _ _ _ _ _ _)
   | (with_reducible exact ih4 _ _ _ _ _ _ _ _ _ _ _ _ _ _ _ _ _ _)
   | (with_reducible exact ih5 _ _ _ _ _ _ _ _ _ _ _ _ _ _ _)
   | (with_reducible exact deck_Deck_Speed.mono _ _ _ _ _ _ _ _ _ _ _ _ _)
   | (with_reducible exact tiklaw23_first.mono _)
   | (with_reducible exact LeO.refl _)
   | (with_reducible exact LeO.none _)
   | (with_reducible refine LeO.ite ?_ ?_)
   | (with_reducible refine LeO.bind ?_ (fun _ => ?_))
   | exact ih0 _ _ _ _ _ _ _ _ _ _ _ _ _ _ _ _ _
   | exact ih1 _ _ _ _ _ _ _ _ _ _ _ _ _ _ _ _ _ _
   | exact ih2 _ _ _ _ _ _ _ _ _ _ _ _ _ _ _ _
   | exact ih3 _ _ _ _ _ _ _ _ _ _ _ _ _ _ _ _ _ _
   | exact ih4 _ _ _ _ _ _ _ _ _ _ _ _ _ _ _ _ _ _
   | exact ih5 _ _ _ _ _ _ _ _ _ _ _ _ _ _ _
   | exact deck_Deck_Speed.mono _ _ _ _ _ _ _ _ _ _ _ _ _
   | exact tiklaw23_first.mono _
   | exact LeO.none _
   | refine LeO.ite ?_ ?_
   | refine LeO.bind ?_ (fun _ => ?_)
  ·intro y0 y1 y2 y3 y4 y5 y6 y7 y8 y9 y10 y11 y12 y13 y14 y15
   unfold tiklaw23_DeckForward.j2
   repeat' first
   | (with_reducible exact ih0 _ _ _ _ _ _ _ _ _ _ _ _ _ _ _ _ _)
   | (with_reducible exact ih1 _ _ _ _ _ _ _ _ _ _ _ _ _ _ _ _ _ _)
   | (with_reducible exact ih2 _ _ _ _ _ _ _ _ _ _ _ _ _ _ _ _)
   | (with_reducible exact ih3 _ _ _ _ _ _ _ _ _ _ _ _ _ _ _ _ _ _)
   | (with_reducible exact ih4 _ _ _ _ _ _ _ _ _ _ _ _ _ _ _ _ _ _)
   | (with_reducible exact ih5 _ _ _ _ _ _ _ _ _ _ _ _ _ _ _)
   | (with_reducible exact deck_Deck_Speed.mono _ _ _ _ _ _ _ _ _ _ _ _ _)
   | (with_reducible exact tiklaw23_first.mono _)
   | (with_reducible exact LeO.refl _)
   | (with_reducible exact LeO.none _)
   | (with_reducible refine LeO.ite ?_ ?_)
   | (with_reducible refine LeO.bind ?_ (fun _ => ?_))
   | exact ih0 _ _ _ _ _ _ _ _ _ _ _ _ _ _ _ _ _
   | exact ih1 _ _ _ _ _ _ _ _ _ _ _ _ _ _ _ _ _ _
   | exact ih2 _ _ _ _ _ _ _ _ _ _ _ _ _ _ _ _
   | exact ih3 _ _ _ _ _ _ _ _ _ _ _ _ _ _ _ _ _ _
   | exact ih4 _ _ _ _ _ _ _ _ _ _ _ _ _ _ _ _ _ _
   | exact ih5 _ _ _ _ _ _ _ _ _ _ _ _ _ _ _
   | exact deck_Deck_Speed.mono _ _ _ _ _ _ _ _ _ _ _ _ _
   | exact tiklaw23_first.mono _
   | exact LeO.none _
   | refine LeO.ite ?_ ?_
   | refine LeO.bind ?_ (fun _ => ?_)
  ·intro y0 y1 y2 y3 y4 y5 y6 y7 y8 y9 y10 y11 y12 y13 y14 y15 y16 y17
   unfold tiklaw23_DeckForward.l0
   repeat' first
   | (with_reducible exact ih0 _ _ _ _ _ _ _ _ _ _ _ _ _ _ _ _ _)
   | (with_reducible exact ih1 _ _ _ _ _ _ _ _ _ _ _ _ _ _ _ _ _ _)
   | (with_reducible exact ih2 _ _ _ _ _ _ _ _ _ _ _ _ _ _ _ _)
   | (with_reducible exact ih3 _ _ _ _ _ _ _ _ _ _ _ _ _ _ _ _ _ _)
   | (with_reducible exact ih4 _ _ _ _ _ _ _ _ _ _ _ _ _ _ _ _ _ _)
   | (with_reducible exact ih5 _ _ _ _ _ _ _ _ _ _ _ _ _ _ _)
   | (with_reducible exact deck_Deck_Speed.mono _ _ _ _ _ _ _ _ _ _ _ _ _)
   | (with_reducible exact tiklaw23_first.mono _)
   | (with_reducible exact LeO.refl _)
   | (with_reducible exact LeO.none _)
   | (with_reducible refine LeO.ite ?_ ?_)
   | (with_reducible refine LeO.bind ?_ (fun _ => ?_))
   | exact ih0 _ _ _ _ _ _ _ _ _ _ _ _ _ _ _ _ _
   | exact ih1 _ _ _ _ _ _ _ _ _ _ _ _ _ _ _ _ _ _
   | exact ih2 _ _ _ _ _ _ _ _ _ _ _ _ _ _ _ _
   | exact ih3 _ _ _ _ _ _ _ _ _ _ _ _ _ _ _ _ _ _
   | exact ih4 _ _ _ _ _ _ _ _ _ _ _ _ _ _ _ _ _ _
   | exact ih5 _ _ _ _ _ _ _ _ _ _ _ _ _ _ _
   | exact deck_Deck_Speed.mono _ _ _ _ _ _ _ _ _ _ _ _ _
   | exact tiklaw23_first.mono _
   | exact LeO.none _
   | refine LeO.ite ?_ ?_
   | refine LeO.bind ?_ (fun _ => ?_)
  ·intro y0 y1 y2 y3 y4 y5 y6 y7 y8 y9 y10 y11 y12 y13 y14 y15 y16 y17
   unfold tiklaw23_DeckForward.j4
   repeat' first
   | (with_reducible exact ih0 _ _ _ _ _ _ _ _ _ _ _ _ _ _ _ _ _)
   | (with_reducible exact ih1 _ _ _ _ _ _ _ _ _ _ _ _ _ _ _ _ _ _)
   | (with_reducible exact ih2 _ _ _ _ _ _ _ _ _ _ _ _ _ _ _ _)
   | (with_reducible exact ih3 _ _ _ _ _ _ _ _ _ _ _ _ _ _ _ _ _ _)
   | (with_reducible exact ih4 _ _ _ _ _ _ _ _ _ _ _ _ _ _ _ _ _ _)
   | (with_reducible exact ih5 _ _ _ _ _ _ _ _ _ _ _ _ _ _ _)
   | (with_reducible exact deck_Deck_Speed.mono _ _ _ _ _ _ _ _ _ _ _ _ _)
   | (with_reducible exact tiklaw23_first.mono _)
   | (with_reducible exact LeO.refl _)
   | (with_reducible exact LeO.none _)
   | (with_reducible refine LeO.ite ?_ ?_)
   | (with_reducible refine LeO.bind ?_ (fun _ => ?_))
   | exact ih0 _ _ _ _ _ _ _ _ _ _ _ _ _ _ _ _ _
   | exact ih1 _ _ _ _ _ _ _ _ _ _ _ _ _ _ _ _ _ _
   | exact ih2 _ _ _ _ _ _ _ _ _ _ _ _ _ _ _ _
   | exact ih3 _ _ _ _ _ _ _ _ _ _ _ _ _ _ _ _ _ _
   | exact ih4 _ _ _ _ _ _ _ _ _ _ _ _ _ _ _ _ _ _
   | exact ih5 _ _ _ _ _ _ _ _ _ _ _ _ _ _ _
   | exact deck_Deck_Speed.mono _ _ _ _ _ _ _ _ _ _ _ _ _
   | exact tiklaw23_first.mono _
   | exact LeO.none _
   | refine LeO.ite ?_ ?_
   | refine LeO.bind ?_ (fun _ => ?_)
  ·intro y0 y1 y2 y3 y4 y5 y6 y7 y8 y9 y10 y11 y12 y13 y14
   unfold tiklaw23_DeckForward.j5
   repeat' first
   | (with_reducible exact ih0 _ _ _ _ _ _ _ _ _ _ _ _ _ _ _ _ _)
   | (with_reducible exact ih1 _ _ _ _ _ _ _ _ _ _ _ _ _ _ _ _ _ _)
   | (with_reducible exact ih2 _ _ _ _ _ _ _ _ _ _ _ _ _ _ _ _)
   | (with_reducible exact ih3 _ _ _ _ _ _ _ _ _ _ _ _ _ _ _ _ _ _)
   | (with_reducible exact ih4 _ _ _ _ _ _ _ _ _ _ _ _ _ _ _ _ _ _)
   | (with_reducible exact ih5 _ _ _ _ _ _ _ _ _ _ _ _ _ _ _)
   | (with_reducible exact deck_Deck_Speed.mono _ _ _ _ _ _ _ _ _ _ _ _ _)
   | (with_reducible exact tiklaw23_first.mono _)
   | (with_reducible exact LeO.refl _)
   | (with_reducible exact LeO.none _)
   | (with_reducible refine LeO.ite ?_ ?_)
   | (with_reducible refine LeO.bind ?_ (fun _ => ?_))
   | exact ih0 _ _ _ _ _ _ _ _ _ _ _ _ _ _ _ _ _
   | exact ih1 _ _ _ _ _ _ _ _ _ _ _ _ _ _ _ _ _ _
   | exact ih2 _ _ _ _ _ _ _ _ _ _ _ _ _ _ _ _
   | exact ih3 _ _ _ _ _ _ _ _ _ _ _ _ _ _ _ _ _ _
   | exact ih4 _ _ _ _ _ _ _ _ _ _ _ _ _ _ _ _ _ _
   | exact ih5 _ _ _ _ _ _ _ _ _ _ _ _ _ _ _
   | exact deck_Deck_Speed.mono _ _ _ _ _ _ _ _ _ _ _ _ _
   | exact tiklaw23_first.mono _
   | exact LeO.none _
   | refine LeO.ite ?_ ?_
   | refine LeO.bind ?_ (fun _ => ?_)
theorem tiklaw23_DeckForward.mono : ∀ a0 a1 a2 a3 a4 a5 k, LeO (tiklaw23_DeckForward.f k a0 a1 a2 a3 a4 a5) (tiklaw23_DeckForward.f (k + 1) a0 a1 a2 a3 a4 a5) := by
 intro a0 a1 a2 a3 a4 a5 k
 obtain ⟨ih0, ih1, ih2, ih3, ih4, ih5⟩ := tiklaw23_DeckForward.mono_l k
 unfold tiklaw23_DeckForward.f
 repeat' first
   | (with_reducible exact ih0 _ _ _ _ _ _ _ _ _ _ _ _ _ _ _ _ _)
   | (with_reducible exact ih1 _ _ _ _ _ _ _ _ _ _ _ _ _ _ _ _ _ _)
   | (with_reducible exact ih2 _ _ _ _ _ _ _ _ _ _ _ _ _ _ _ _)
   | (with_reducible exact ih3 _ _ _ _ _ _ _ _ _ _ _ _ _ _ _ _ _ _)
   | (with_reducible exact ih4 _ _ _ _ _ _ _ _ _ _ _ _ _ _ _ _ _ _)
   | (with_reducible exact ih5 _ _ _ _ _ _ _ _ _ _ _ _ _ _ _)
   | (with_reducible exact deck_Deck_Speed.mono _ _ _ _ _ _ _ _ _ _ _ _ _)
   | (with_reducible exact tiklaw23_first.mono _)
   | (with_reducible exact LeO.refl _)
   | (with_reducible exact LeO.none _)
   | (with_reducible refine LeO.ite ?_ ?_)
   | (with_reducible refine LeO.bind ?_ (fun _ => ?_))
   | exact ih0 _ _ _ _ _ _ _ _ _ _ _ _ _ _ _ _ _
   | exact ih1 _ _ _ _ _ _ _ _ _ _ _ _ _ _ _ _ _ _
   | exact ih2 _ _ _ _ _ _ _ _ _ _ _ _ _ _ _ _
   | exact ih3 _ _ _ _ _ _ _ _ _ _ _ _ _ _ _ _ _ _
   | exact ih4 _ _ _ _ _ _ _ _ _ _ _ _ _ _ _ _ _ _
   | exact ih5 _ _ _ _ _ _ _ _ _ _ _ _ _ _ _
   | exact deck_Deck_Speed.mono _ _ _ _ _ _ _ _ _ _ _ _ _
   | exact tiklaw23_first.mono _
   | exact LeO.none _
   | refine LeO.ite ?_ ?_
   | refine LeO.bind ?_ (fun _ => ?_)
set_option maxHeartbeats 8000000 in
set_option maxRecDepth 100000 in
theorem tiklaw23_DeckForward.calls (k : Nat) (a0 : Int) (a1 : Int) (a2 : Int) (a3 : Int) (a4 : Nat) (A5 : Option Addr) (c5 : Nat) (l5 : List Int) (r : Bool) (w : World) (hr5 : Kd.C (Kd.int .u64) w A5 l5.length l5) (hc5 : l5.length ≤ c5) (hT : TabW w) (hr_ : Aside0 (r = true)) (h : tiklaw23_DeckForward.f k a0 a1 a2 a3 a4 l5 = some r) :
  Calls Tryd.prog 4 #[.int .u64 a0, .int .u64 a1, .int .u64 a2, .int .u64 a3, .float .f64 a4, .slice A5 l5.length c5] w fun e w' => e = .returned (.bool r) ∧ Below w.heap.size w w' := by
 have HT := Aside0.mk hT
 clear hT
 have hu30 := Tryd.underlying30
 have HR5 := Aside0.mk hr5
 have HC5 := Aside0.mk hc5
 clear hr5 hc5
 have HB := Aside0.mk (Below.refl w.heap.size w)
 have H : ((tiklaw23_first.f k).bind fun t570 => (if t570 = true then ((deck_New.f).bind fun bt571 => (if false = true then (tiklaw23_DeckForward.j0 k a0 a1 a2 a3 a4 l5 true bt571.1 bt571.2.1 bt571.2.2.1 bt571.2.2.2.1 bt571.2.2.2.2.1 bt571.2.2.2.2.2.1 bt571.2.2.2.2.2.2.1 bt571.2.2.2.2.2.2.2.1 bt571.2.2.2.2.2.2.2.2.1 bt571.2.2.2.2.2.2.2.2.2) else (if (l5.length : Int) > 200 then (tiklaw23_DeckForward.j0 k a0 a1 a2 a3 a4 l5 true bt571.1 bt571.2.1 bt571.2.2.1 bt571.2.2.2.1 bt571.2.2.2.2.1 bt571.2.2.2.2.2.1 bt571.2.2.2.2.2.2.1 bt571.2.2.2.2.2.2.2.1 bt571.2.2.2.2.2.2.2.2.1 bt571.2.2.2.2.2.2.2.2.2) else (if a1 > a2 then (tiklaw23_DeckForward.j0 k a0 a1 a2 a3 a4 l5 true bt571.1 bt571.2.1 bt571.2.2.1 bt571.2.2.2.1 bt571.2.2.2.2.1 bt571.2.2.2.2.2.1 bt571.2.2.2.2.2.2.1 bt571.2.2.2.2.2.2.2.1 bt571.2.2.2.2.2.2.2.2.1 bt571.2.2.2.2.2.2.2.2.2) else (if a2 > 1152921504606846976 then (tiklaw23_DeckForward.j0 k a0 a1 a2 a3 a4 l5 true bt571.1 bt571.2.1 bt571.2.2.1 bt571.2.2.2.1 bt571.2.2.2.2.1 bt571.2.2.2.2.2.1 bt571.2.2.2.2.2.2.1 bt571.2.2.2.2.2.2.2.1 bt571.2.2.2.2.2.2.2.2.1 bt571.2.2.2.2.2.2.2.2.2) else (if a0 > 1152921504606846976 then (tiklaw23_DeckForward.j0 k a0 a1 a2 a3 a4 l5 true bt571.1 bt571.2.1 bt571.2.2.1 bt571.2.2.2.1 bt571.2.2.2.2.1 bt571.2.2.2.2.2.1 bt571.2.2.2.2.2.2.1 bt571.2.2.2.2.2.2.2.1 bt571.2.2.2.2.2.2.2.2.1 bt571.2.2.2.2.2.2.2.2.2) else (tiklaw23_DeckForward.j0 k a0 a1 a2 a3 a4 l5 (decide (a3 < a1)) bt571.1 bt571.2.1 bt571.2.2.1 bt571.2.2.2.1 bt571.2.2.2.2.1 bt571.2.2.2.2.2.1 bt571.2.2.2.2.2.2.1 bt571.2.2.2.2.2.2.2.1 bt571.2.2.2.2.2.2.2.2.1 bt571.2.2.2.2.2.2.2.2.2))))))) else (some false))) = some r := h
 clear h
 replace H := Option.bind_eq_some_iff.mp H
 obtain ⟨t570, A70, H⟩ := H
 replace H : (if t570 = true then ((deck_New.f).bind fun bt571 => (if false = true then (tiklaw23_DeckForward.j0 k a0 a1 a2 a3 a4 l5 true bt571.1 bt571.2.1 bt571.2.2.1 bt571.2.2.2.1 bt571.2.2.2.2.1 bt571.2.2.2.2.2.1 bt571.2.2.2.2.2.2.1 bt571.2.2.2.2.2.2.2.1 bt571.2.2.2.2.2.2.2.2.1 bt571.2.2.2.2.2.2.2.2.2) else (if (l5.length : Int) > 200 then (tiklaw23_DeckForward.j0 k a0 a1 a2 a3 a4 l5 true bt571.1 bt571.2.1 bt571.2.2.1 bt571.2.2.2.1 bt571.2.2.2.2.1 bt571.2.2.2.2.2.1 bt571.2.2.2.2.2.2.1 bt571.2.2.2.2.2.2.2.1 bt571.2.2.2.2.2.2.2.2.1 bt571.2.2.2.2.2.2.2.2.2) else (if a1 > a2 then (tiklaw23_DeckForward.j0 k a0 a1 a2 a3 a4 l5 true bt571.1 bt571.2.1 bt571.2.2.1 bt571.2.2.2.1 bt571.2.2.2.2.1 bt571.2.2.2.2.2.1 bt571.2.2.2.2.2.2.1 bt571.2.2.2.2.2.2.2.1 bt571.2.2.2.2.2.2.2.2.1 bt571.2.2.2.2.2.2.2.2.2) else (if a2 > 1152921504606846976 then (tiklaw23_DeckForward.j0 k a0 a1 a2 a3 a4 l5 true bt571.1 bt571.2.1 bt571.2.2.1 bt571.2.2.2.1 bt571.2.2.2.2.1 bt571.2.2.2.2.2.1 bt571.2.2.2.2.2.2.1 bt571.2.2.2.2.2.2.2.1 bt571.2.2.2.2.2.2.2.2.1 bt571.2.2.2.2.2.2.2.2.2) else (if a0 > 1152921504606846976 then (tiklaw23_DeckForward.j0 k a0 a1 a2 a3 a4 l5 true bt571.1 bt571.2.1 bt571.2.2.1 bt571.2.2.2.1 bt571.2.2.2.2.1 bt571.2.2.2.2.2.1 bt571.2.2.2.2.2.2.1 bt571.2.2.2.2.2.2.2.1 bt571.2.2.2.2.2.2.2.2.1 bt571.2.2.2.2.2.2.2.2.2) else (tiklaw23_DeckForward.j0 k a0 a1 a2 a3 a4 l5 (decide (a3 < a1)) bt571.1 bt571.2.1 bt571.2.2.1 bt571.2.2.2.1 bt571.2.2.2.2.1 bt571.2.2.2.2.2.1 bt571.2.2.2.2.2.2.1 bt571.2.2.2.2.2.2.2.1 bt571.2.2.2.2.2.2.2.2.1 bt571.2.2.2.2.2.2.2.2.2))))))) else (some false)) = some r := H
 have A7 := Aside0.mk A70
 clear A70
 by_cases c8 : t570 = true
 ·subst c8
  have H1 : ((deck_New.f).bind fun bt571 => (if false = true then (tiklaw23_DeckForward.j0 k a0 a1 a2 a3 a4 l5 true bt571.1 bt571.2.1 bt571.2.2.1 bt571.2.2.2.1 bt571.2.2.2.2.1 bt571.2.2.2.2.2.1 bt571.2.2.2.2.2.2.1 bt571.2.2.2.2.2.2.2.1 bt571.2.2.2.2.2.2.2.2.1 bt571.2.2.2.2.2.2.2.2.2) else (if (l5.length : Int) > 200 then (tiklaw23_DeckForward.j0 k a0 a1 a2 a3 a4 l5 true bt571.1 bt571.2.1 bt571.2.2.1 bt571.2.2.2.1 bt571.2.2.2.2.1 bt571.2.2.2.2.2.1 bt571.2.2.2.2.2.2.1 bt571.2.2.2.2.2.2.2.1 bt571.2.2.2.2.2.2.2.2.1 bt571.2.2.2.2.2.2.2.2.2) else (if a1 > a2 then (tiklaw23_DeckForward.j0 k a0 a1 a2 a3 a4 l5 true bt571.1 bt571.2.1 bt571.2.2.1 bt571.2.2.2.1 bt571.2.2.2.2.1 bt571.2.2.2.2.2.1 bt571.2.2.2.2.2.2.1 bt571.2.2.2.2.2.2.2.1 bt571.2.2.2.2.2.2.2.2.1 bt571.2.2.2.2.2.2.2.2.2) else (if a2 > 1152921504606846976 then (tiklaw23_DeckForward.j0 k a0 a1 a2 a3 a4 l5 true bt571.1 bt571.2.1 bt571.2.2.1 bt571.2.2.2.1 bt571.2.2.2.2.1 bt571.2.2.2.2.2.1 bt571.2.2.2.2.2.2.1 bt571.2.2.2.2.2.2.2.1 bt571.2.2.2.2.2.2.2.2.1 bt571.2.2.2.2.2.2.2.2.2) else (if a0 > 1152921504606846976 then (tiklaw23_DeckForward.j0 k a0 a1 a2 a3 a4 l5 true bt571.1 bt571.2.1 bt571.2.2.1 bt571.2.2.2.1 bt571.2.2.2.2.1 bt571.2.2.2.2.2.1 bt571.2.2.2.2.2.2.1 bt571.2.2.2.2.2.2.2.1 bt571.2.2.2.2.2.2.2.2.1 bt571.2.2.2.2.2.2.2.2.2) else (tiklaw23_DeckForward.j0 k a0 a1 a2 a3 a4 l5 (decide (a3 < a1)) bt571.1 bt571.2.1 bt571.2.2.1 bt571.2.2.2.1 bt571.2.2.2.2.1 bt571.2.2.2.2.2.1 bt571.2.2.2.2.2.2.1 bt571.2.2.2.2.2.2.2.1 bt571.2.2.2.2.2.2.2.2.1 bt571.2.2.2.2.2.2.2.2.2))))))) = some r := by rw [if_pos rfl] at H; exact H
  clear H
  have H := H1
  clear H1
  replace H := Option.bind_eq_some_iff.mp H
  obtain ⟨⟨t571, t572, t573, t574, t575, t576, t577, t578, t579, t580⟩, A90, H⟩ := H
  replace H : (if false = true then (tiklaw23_DeckForward.j0 k a0 a1 a2 a3 a4 l5 true t571 t572 t573 t574 t575 t576 t577 t578 t579 t580) else (if (l5.length : Int) > 200 then (tiklaw23_DeckForward.j0 k a0 a1 a2 a3 a4 l5 true t571 t572 t573 t574 t575 t576 t577 t578 t579 t580) else (if a1 > a2 then (tiklaw23_DeckForward.j0 k a0 a1 a2 a3 a4 l5 true t571 t572 t573 t574 t575 t576 t577 t578 t579 t580) else (if a2 > 1152921504606846976 then (tiklaw23_DeckForward.j0 k a0 a1 a2 a3 a4 l5 true t571 t572 t573 t574 t575 t576 t577 t578 t579 t580) else (if a0 > 1152921504606846976 then (tiklaw23_DeckForward.j0 k a0 a1 a2 a3 a4 l5 true t571 t572 t573 t574 t575 t576 t577 t578 t579 t580) else (tiklaw23_DeckForward.j0 k a0 a1 a2 a3 a4 l5 (decide (a3 < a1)) t571 t572 t573 t574 t575 t576 t577 t578 t579 t580)))))) = some r := H
  have A9 := Aside0.mk A90
  clear A90
  have HC10 := Aside0.mk H
  clear H
  go_enter Tryd.func4, Tryd.ntmps4
  go_upto_region 4 with (first | ((with_reducible refine gate_callee (f := 12) rfl ?_); refine goesL_ (some 20) rfl rfl Tryd.func12 (by kernel_rfl) rfl #[] rfl (by (try simp only [List.map_toArray, List.map_cons, List.map_nil]); first | done | rfl | (simp only [List.length_drop, List.length_take]; rfl)) ?_; (with_reducible refine (tiklaw23_first.calls k  true _ ?side1 A7.out).mono ?_); (case side1 => first | (with_reducible exact HT.out) | exact tabAt HT.out (by repeat (first | (with_reducible first | exact HB.out | apply below_alloc | apply pw_below_drewN | apply below_drew1) | exact HB.out))); rintro e w11 ⟨rfl, hb⟩; refine ⟨_, rfl, ?_⟩; have n0_ := Aside0.mk (below_step (by repeat (first | (with_reducible first | exact HB.out | apply below_alloc | apply pw_below_drewN | apply below_drew1) | exact HB.out)) hb); clear HB; have HB := n0_; clear n0_; (try clear hb); (try clear hb2); (try clear hk); (try clear hi)) | ((with_reducible refine gate_callee (f := 13) rfl ?_); refine goesL_ (some 22) rfl rfl Tryd.func13 (by kernel_rfl) rfl #[] rfl (by (try simp only [List.map_toArray, List.map_cons, List.map_nil]); first | done | rfl | (simp only [List.length_drop, List.length_take]; rfl)) ?_; (with_reducible refine (deck_New.calls  t571 t572 t573 t574 t575 t576 t577 t578 t579 t580 w _ ?side1 A9.out).mono ?_); (case side1 => repeat (first | (with_reducible first | exact HB.out | apply below_alloc | apply pw_below_drewN | apply below_drew1) | exact HB.out)); rintro e w12 ⟨g581, rfl, hi, hb, hb2, hnew⟩; refine ⟨_, rfl, ?_⟩; have n0_ := Aside0.mk (hb); have n1_ := Aside0.mk (hi); clear HB; have HB := n0_; have HI581 := n1_; clear n0_ n1_; (try clear hb); (try clear hb2); (try clear hk); (try clear hi)))
  (try simp only [Act.put, List.setIfInBounds_toArray, List.set_cons_zero, List.set_cons_succ])
  go_cut [47] (fun v47 wc => ∃ (kq : Nat) (x47_9 : Bool), v47 = .bool x47_9 ∧ Aside0 (tiklaw23_DeckForward.j0 kq a0 a1 a2 a3 a4 l5 x47_9 t571 t572 t573 t574 t575 t576 t577 t578 t579 t580 = some r) ∧ Aside0 (kq ≤ k) ∧ Aside0 (IsS100 w wc g581 t571 t572 t573 t574 t575 t576 t577 t578 t579 t580) ∧ Aside0 (Below w.heap.size w wc))
  case first =>
   have H := HC10.out
   clear HC10
   have H1 : (if (l5.length : Int) > 200 then (tiklaw23_DeckForward.j0 k a0 a1 a2 a3 a4 l5 true t571 t572 t573 t574 t575 t576 t577 t578 t579 t580) else (if a1 > a2 then (tiklaw23_DeckForward.j0 k a0 a1 a2 a3 a4 l5 true t571 t572 t573 t574 t575 t576 t577 t578 t579 t580) else (if a2 > 1152921504606846976 then (tiklaw23_DeckForward.j0 k a0 a1 a2 a3 a4 l5 true t571 t572 t573 t574 t575 t576 t577 t578 t579 t580) else (if a0 > 1152921504606846976 then (tiklaw23_DeckForward.j0 k a0 a1 a2 a3 a4 l5 true t571 t572 t573 t574 t575 t576 t577 t578 t579 t580) else (tiklaw23_DeckForward.j0 k a0 a1 a2 a3 a4 l5 (decide (a3 < a1)) t571 t572 t573 t574 t575 t576 t577 t578 t579 t580))))) = some r := by first | (rw [if_neg (show ¬ (false = true) by decide)] at H; exact H) | exact (if_neg not_false).symm.trans H
   clear H
   have H := H1
   clear H1
   by_cases c13 : (l5.length : Int) > 200
   ·rw [if_pos c13] at H
    have c13b0 : decide (200 < (l5.length : Int)) = true := decide_eq_true c13
    have c13b1 : decide (200 < l5.length) = true := decide_eq_true (by omega)
    clear c13
    (first | rw [c13b0] | (simp only [i64_w, i32_w]; rw [c13b0]) | skip)
    have H' := Aside0.mk H
    clear H
    go_wp2
    go_meet
    case rel => exact ⟨_, (true), (by first | rfl | (simp; done) | (simp [*]; done)), H', ⟨by first | omega | exact Nat.le_refl _⟩, ⟨by repeat (first | (with_reducible first | exact HI581.out | apply IsS100.alloc | apply IsS100.drewN | apply IsS100.drew) | exact HI581.out)⟩, ⟨by repeat (first | (with_reducible first | exact HB.out | apply below_alloc | apply pw_below_drewN | apply below_drew1 | refine below_set ?_ (IsS100.ge HI581.out)) | exact HB.out)⟩⟩
   ·rw [if_neg c13] at H
    have c13b0 : decide (200 < (l5.length : Int)) = false := decide_eq_false c13
    have c13b1 : decide (200 < l5.length) = false := decide_eq_false (by omega)
    clear c13
    (first | rw [c13b0] | (simp only [i64_w, i32_w]; rw [c13b0]) | skip)
    by_cases c14 : a1 > a2
    ·rw [if_pos c14] at H
     have c14b0 : decide (a2 < a1) = true := decide_eq_true c14
     clear c14
     have H' := Aside0.mk H
     clear H
     go_wp2
     go_meet
     case rel => exact ⟨_, (true), (by first | rfl | (simp; done) | (simp [*]; done)), H', ⟨by first | omega | exact Nat.le_refl _⟩, ⟨by repeat (first | (with_reducible first | exact HI581.out | apply IsS100.alloc | apply IsS100.drewN | apply IsS100.drew) | exact HI581.out)⟩, ⟨by repeat (first | (with_reducible first | exact HB.out | apply below_alloc | apply pw_below_drewN | apply below_drew1 | refine below_set ?_ (IsS100.ge HI581.out)) | exact HB.out)⟩⟩
    ·rw [if_neg c14] at H
     have c14b0 : decide (a2 < a1) = false := decide_eq_false c14
     clear c14
     by_cases c15 : a2 > 1152921504606846976
     ·rw [if_pos c15] at H
      have c15b0 : decide (1152921504606846976 < a2) = true := decide_eq_true c15
      clear c15
      have H' := Aside0.mk H
      clear H
      go_wp2
      go_meet
      case rel => exact ⟨_, (true), (by first | rfl | (simp; done) | (simp [*]; done)), H', ⟨by first | omega | exact Nat.le_refl _⟩, ⟨by repeat (first | (with_reducible first | exact HI581.out | apply IsS100.alloc | apply IsS100.drewN | apply IsS100.drew) | exact HI581.out)⟩, ⟨by repeat (first | (with_reducible first | exact HB.out | apply below_alloc | apply pw_below_drewN | apply below_drew1 | refine below_set ?_ (IsS100.ge HI581.out)) | exact HB.out)⟩⟩
     ·rw [if_neg c15] at H
      have c15b0 : decide (1152921504606846976 < a2) = false := decide_eq_false c15
      clear c15
      by_cases c16 : a0 > 1152921504606846976
      ·rw [if_pos c16] at H
       have c16b0 : decide (1152921504606846976 < a0) = true := decide_eq_true c16
       clear c16
       have H' := Aside0.mk H
       clear H
       go_wp2
       go_meet
       case rel => exact ⟨_, (true), (by first | rfl | (simp; done) | (simp [*]; done)), H', ⟨by first | omega | exact Nat.le_refl _⟩, ⟨by repeat (first | (with_reducible first | exact HI581.out | apply IsS100.alloc | apply IsS100.drewN | apply IsS100.drew) | exact HI581.out)⟩, ⟨by repeat (first | (with_reducible first | exact HB.out | apply below_alloc | apply pw_below_drewN | apply below_drew1 | refine below_set ?_ (IsS100.ge HI581.out)) | exact HB.out)⟩⟩
      ·rw [if_neg c16] at H
       have c16b0 : decide (1152921504606846976 < a0) = false := decide_eq_false c16
       clear c16
       have H' := Aside0.mk H
       clear H
       go_wp2
       go_meet
       case rel => exact ⟨_, (decide (a3 < a1)), (by first | rfl | (simp; done) | (simp [*]; done)), H', ⟨by first | omega | exact Nat.le_refl _⟩, ⟨by repeat (first | (with_reducible first | exact HI581.out | apply IsS100.alloc | apply IsS100.drewN | apply IsS100.drew) | exact HI581.out)⟩, ⟨by repeat (first | (with_reducible first | exact HB.out | apply below_alloc | apply pw_below_drewN | apply below_drew1 | refine below_set ?_ (IsS100.ge HI581.out)) | exact HB.out)⟩⟩
  case rest =>
   as_aux_lemma =>
    clear HC10
    try clear c1
    try clear p2
    try clear c4
    try clear c5
    try clear c8
    try clear c12
    try clear c13
    try clear c13b0
    try clear c13b1
    try clear c14
    try clear c14b0
    try clear c15
    try clear c15b0
    try clear c16
    try clear c16b0
    obtain ⟨kq, x47_9, rfl, HA, HJ9, HI581, HB⟩ := hcut
    cases kq with
    | zero => exact absurd HA.out (by simp [tiklaw23_DeckForward.j0])
    | succ kj9 =>
     have H := HA.out
     clear HA
     simp only [tiklaw23_DeckForward.j0] at H
     by_cases c17 : x47_9 = true
     ·subst c17
      have H1 : (if true = true then ((tiklaw23_first.f kj9).bind fun t582 => (some t582)) else (some false)) = some r := by rw [if_pos rfl] at H; exact H
      clear H
      have H := H1
      clear H1
      have H1 : ((tiklaw23_first.f kj9).bind fun t582 => (some t582)) = some r := by first | (rw [if_pos rfl] at H; exact H) | exact (if_pos trivial).symm.trans H
      clear H
      have H := H1
      clear H1
      replace H := Option.bind_eq_some_iff.mp H
      obtain ⟨t582, A180, H⟩ := H
      replace H : (some t582) = some r := H
      have A18 := Aside0.mk A180
      clear A180
      obtain rfl := Option.some.inj H
      go_wp2_with (first | (go_at_call 12; (with_reducible refine (tiklaw23_first.calls kj9  t582 _ ?side1 A18.out).mono ?_); (case side1 => first | (with_reducible exact HT.out) | exact tabAt HT.out (by repeat (first | (with_reducible first | exact HB.out | apply below_alloc | apply pw_below_drewN | apply below_drew1 | refine below_set ?_ (IsS100.ge HI581.out)) | exact HB.out))); rintro e w19 ⟨rfl, hb⟩; have n0_ := Aside0.mk (IsS100.below (by repeat (first | (with_reducible first | exact HI581.out | apply IsS100.alloc | apply IsS100.drewN | apply IsS100.drew) | exact HI581.out)) hb); have n1_ := Aside0.mk (below_step (by repeat (first | (with_reducible first | exact HB.out | apply below_alloc | apply pw_below_drewN | apply below_drew1 | refine below_set ?_ (IsS100.ge HI581.out)) | exact HB.out)) hb); clear HI581; clear HB; have HI581 := n0_; have HB := n1_; clear n0_ n1_; (try clear hb); (try clear hb2); (try clear hk); (try clear hi)))
      go_ret
      exact ⟨by first | rfl | (simp [errW_none, errW_some] <;> rfl) | (simp [*, errW_none, errW_some] <;> rfl), by repeat (first | (with_reducible first | exact HB.out | apply below_alloc | apply pw_below_drewN | apply below_drew1 | refine below_set ?_ (IsS100.ge HI581.out)) | exact HB.out)⟩
     ·replace c17 := Bool.eq_false_iff.mpr c17
      subst c17
      have H1 : ((deck_Deck_Speed.f kj9 t571 t572 t573 t574 t575 t576 t577 t578 t579 t580 a0 a4).bind fun bt583 => ((rate_Of.f a4).bind fun bt594 => (if bt583.1 = bt594.2.2 then ((deck_Deck_Seek.f bt583.2.1 bt583.2.2.1 bt583.2.2.2.1 bt583.2.2.2.2.1 bt583.2.2.2.2.2.1 bt583.2.2.2.2.2.2.1 bt583.2.2.2.2.2.2.2.1 bt583.2.2.2.2.2.2.2.2.1 bt583.2.2.2.2.2.2.2.2.2.1 bt583.2.2.2.2.2.2.2.2.2.2 a0 a1 a2 a3).bind fun bt598 => (if bt598.1 = 0 then ((deck_Deck_Mode.f bt598.2.1 bt598.2.2.1 bt598.2.2.2.1 bt598.2.2.2.2.1 bt598.2.2.2.2.2.1 bt598.2.2.2.2.2.2.1 bt598.2.2.2.2.2.2.2.1 bt598.2.2.2.2.2.2.2.2.1 bt598.2.2.2.2.2.2.2.2.2.1 bt598.2.2.2.2.2.2.2.2.2.2).bind fun bt609 => (if bt609.1 = 1 then ((deck_Deck_Pos.f bt609.2.1 bt609.2.2.1 bt609.2.2.2.1 bt609.2.2.2.2.1 bt609.2.2.2.2.2.1 bt609.2.2.2.2.2.2.1 bt609.2.2.2.2.2.2.2.1 bt609.2.2.2.2.2.2.2.2.1 bt609.2.2.2.2.2.2.2.2.2.1 bt609.2.2.2.2.2.2.2.2.2.2).bind fun bt620 => (if bt620.1 = (mn a3 a2) then ((deck_Deck_Play.f bt620.2.1 bt620.2.2.1 bt620.2.2.2.1 bt620.2.2.2.2.1 bt620.2.2.2.2.2.1 bt620.2.2.2.2.2.2.1 bt620.2.2.2.2.2.2.2.1 bt620.2.2.2.2.2.2.2.2.1 bt620.2.2.2.2.2.2.2.2.2.1 bt620.2.2.2.2.2.2.2.2.2.2 a0 a1 a2).bind fun bt631 => (if bt631.1 = 0 then ((deck_Deck_Mode.f bt631.2.1 bt631.2.2.1 bt631.2.2.2.1 bt631.2.2.2.2.1 bt631.2.2.2.2.2.1 bt631.2.2.2.2.2.2.1 bt631.2.2.2.2.2.2.2.1 bt631.2.2.2.2.2.2.2.2.1 bt631.2.2.2.2.2.2.2.2.2.1 bt631.2.2.2.2.2.2.2.2.2.2).bind fun bt642 => (tiklaw23_DeckForward.j1 kj9 a0 a1 a2 l5 bt594.2.2 (bt642.1 != 2) bt642.2.1 bt642.2.2.1 bt642.2.2.2.1 bt642.2.2.2.2.1 bt642.2.2.2.2.2.1 bt642.2.2.2.2.2.2.1 bt642.2.2.2.2.2.2.2.1 bt642.2.2.2.2.2.2.2.2.1 bt642.2.2.2.2.2.2.2.2.2.1 bt642.2.2.2.2.2.2.2.2.2.2 bt594.1 bt594.2.1)) else (tiklaw23_DeckForward.j1 kj9 a0 a1 a2 l5 bt594.2.2 true bt631.2.1 bt631.2.2.1 bt631.2.2.2.1 bt631.2.2.2.2.1 bt631.2.2.2.2.2.1 bt631.2.2.2.2.2.2.1 bt631.2.2.2.2.2.2.2.1 bt631.2.2.2.2.2.2.2.2.1 bt631.2.2.2.2.2.2.2.2.2.1 bt631.2.2.2.2.2.2.2.2.2.2 bt594.1 bt594.2.1))) else (tiklaw23_DeckForward.j1 kj9 a0 a1 a2 l5 bt594.2.2 true bt620.2.1 bt620.2.2.1 bt620.2.2.2.1 bt620.2.2.2.2.1 bt620.2.2.2.2.2.1 bt620.2.2.2.2.2.2.1 bt620.2.2.2.2.2.2.2.1 bt620.2.2.2.2.2.2.2.2.1 bt620.2.2.2.2.2.2.2.2.2.1 bt620.2.2.2.2.2.2.2.2.2.2 bt594.1 bt594.2.1))) else (tiklaw23_DeckForward.j1 kj9 a0 a1 a2 l5 bt594.2.2 true bt609.2.1 bt609.2.2.1 bt609.2.2.2.1 bt609.2.2.2.2.1 bt609.2.2.2.2.2.1 bt609.2.2.2.2.2.2.1 bt609.2.2.2.2.2.2.2.1 bt609.2.2.2.2.2.2.2.2.1 bt609.2.2.2.2.2.2.2.2.2.1 bt609.2.2.2.2.2.2.2.2.2.2 bt594.1 bt594.2.1))) else (tiklaw23_DeckForward.j1 kj9 a0 a1 a2 l5 bt594.2.2 true bt598.2.1 bt598.2.2.1 bt598.2.2.2.1 bt598.2.2.2.2.1 bt598.2.2.2.2.2.1 bt598.2.2.2.2.2.2.1 bt598.2.2.2.2.2.2.2.1 bt598.2.2.2.2.2.2.2.2.1 bt598.2.2.2.2.2.2.2.2.2.1 bt598.2.2.2.2.2.2.2.2.2.2 bt594.1 bt594.2.1))) else (tiklaw23_DeckForward.j1 kj9 a0 a1 a2 l5 bt594.2.2 true bt583.2.1 bt583.2.2.1 bt583.2.2.2.1 bt583.2.2.2.2.1 bt583.2.2.2.2.2.1 bt583.2.2.2.2.2.2.1 bt583.2.2.2.2.2.2.2.1 bt583.2.2.2.2.2.2.2.2.1 bt583.2.2.2.2.2.2.2.2.2.1 bt583.2.2.2.2.2.2.2.2.2.2 bt594.1 bt594.2.1)))) = some r := by rw [if_neg (show ¬ (false = true) by decide)] at H; exact H
      clear H
      have H := H1
      clear H1
      replace H := Option.bind_eq_some_iff.mp H
      obtain ⟨⟨t583, t584, t585, t586, t587, t588, t589, t590, t591, t592, t593⟩, A200, H⟩ := H
      replace H : ((rate_Of.f a4).bind fun bt594 => (if t583 = bt594.2.2 then ((deck_Deck_Seek.f t584 t585 t586 t587 t588 t589 t590 t591 t592 t593 a0 a1 a2 a3).bind fun bt598 => (if bt598.1 = 0 then ((deck_Deck_Mode.f bt598.2.1 bt598.2.2.1 bt598.2.2.2.1 bt598.2.2.2.2.1 bt598.2.2.2.2.2.1 bt598.2.2.2.2.2.2.1 bt598.2.2.2.2.2.2.2.1 bt598.2.2.2.2.2.2.2.2.1 bt598.2.2.2.2.2.2.2.2.2.1 bt598.2.2.2.2.2.2.2.2.2.2).bind fun bt609 => (if bt609.1 = 1 then ((deck_Deck_Pos.f bt609.2.1 bt609.2.2.1 bt609.2.2.2.1 bt609.2.2.2.2.1 bt609.2.2.2.2.2.1 bt609.2.2.2.2.2.2.1 bt609.2.2.2.2.2.2.2.1 bt609.2.2.2.2.2.2.2.2.1 bt609.2.2.2.2.2.2.2.2.2.1 bt609.2.2.2.2.2.2.2.2.2.2).bind fun bt620 => (if bt620.1 = (mn a3 a2) then ((deck_Deck_Play.f bt620.2.1 bt620.2.2.1 bt620.2.2.2.1 bt620.2.2.2.2.1 bt620.2.2.2.2.2.1 bt620.2.2.2.2.2.2.1 bt620.2.2.2.2.2.2.2.1 bt620.2.2.2.2.2.2.2.2.1 bt620.2.2.2.2.2.2.2.2.2.1 bt620.2.2.2.2.2.2.2.2.2.2 a0 a1 a2).bind fun bt631 => (if bt631.1 = 0 then ((deck_Deck_Mode.f bt631.2.1 bt631.2.2.1 bt631.2.2.2.1 bt631.2.2.2.2.1 bt631.2.2.2.2.2.1 bt631.2.2.2.2.2.2.1 bt631.2.2.2.2.2.2.2.1 bt631.2.2.2.2.2.2.2.2.1 bt631.2.2.2.2.2.2.2.2.2.1 bt631.2.2.2.2.2.2.2.2.2.2).bind fun bt642 => (tiklaw23_DeckForward.j1 kj9 a0 a1 a2 l5 bt594.2.2 (bt642.1 != 2) bt642.2.1 bt642.2.2.1 bt642.2.2.2.1 bt642.2.2.2.2.1 bt642.2.2.2.2.2.1 bt642.2.2.2.2.2.2.1 bt642.2.2.2.2.2.2.2.1 bt642.2.2.2.2.2.2.2.2.1 bt642.2.2.2.2.2.2.2.2.2.1 bt642.2.2.2.2.2.2.2.2.2.2 bt594.1 bt594.2.1)) else (tiklaw23_DeckForward.j1 kj9 a0 a1 a2 l5 bt594.2.2 true bt631.2.1 bt631.2.2.1 bt631.2.2.2.1 bt631.2.2.2.2.1 bt631.2.2.2.2.2.1 bt631.2.2.2.2.2.2.1 bt631.2.2.2.2.2.2.2.1 bt631.2.2.2.2.2.2.2.2.1 bt631.2.2.2.2.2.2.2.2.2.1 bt631.2.2.2.2.2.2.2.2.2.2 bt594.1 bt594.2.1))) else (tiklaw23_DeckForward.j1 kj9 a0 a1 a2 l5 bt594.2.2 true bt620.2.1 bt620.2.2.1 bt620.2.2.2.1 bt620.2.2.2.2.1 bt620.2.2.2.2.2.1 bt620.2.2.2.2.2.2.1 bt620.2.2.2.2.2.2.2.1 bt620.2.2.2.2.2.2.2.2.1 bt620.2.2.2.2.2.2.2.2.2.1 bt620.2.2.2.2.2.2.2.2.2.2 bt594.1 bt594.2.1))) else (tiklaw23_DeckForward.j1 kj9 a0 a1 a2 l5 bt594.2.2 true bt609.2.1 bt609.2.2.1 bt609.2.2.2.1 bt609.2.2.2.2.1 bt609.2.2.2.2.2.1 bt609.2.2.2.2.2.2.1 bt609.2.2.2.2.2.2.2.1 bt609.2.2.2.2.2.2.2.2.1 bt609.2.2.2.2.2.2.2.2.2.1 bt609.2.2.2.2.2.2.2.2.2.2 bt594.1 bt594.2.1))) else (tiklaw23_DeckForward.j1 kj9 a0 a1 a2 l5 bt594.2.2 true bt598.2.1 bt598.2.2.1 bt598.2.2.2.1 bt598.2.2.2.2.1 bt598.2.2.2.2.2.1 bt598.2.2.2.2.2.2.1 bt598.2.2.2.2.2.2.2.1 bt598.2.2.2.2.2.2.2.2.1 bt598.2.2.2.2.2.2.2.2.2.1 bt598.2.2.2.2.2.2.2.2.2.2 bt594.1 bt594.2.1))) else (tiklaw23_DeckForward.j1 kj9 a0 a1 a2 l5 bt594.2.2 true t584 t585 t586 t587 t588 t589 t590 t591 t592 t593 bt594.1 bt594.2.1))) = some r := H
      have A20 := Aside0.mk A200
      clear A200
      replace H := Option.bind_eq_some_iff.mp H
      obtain ⟨⟨t594, t595, t596⟩, A210, H⟩ := H
      replace H : (if t583 = t596 then ((deck_Deck_Seek.f t584 t585 t586 t587 t588 t589 t590 t591 t592 t593 a0 a1 a2 a3).bind fun bt598 => (if bt598.1 = 0 then ((deck_Deck_Mode.f bt598.2.1 bt598.2.2.1 bt598.2.2.2.1 bt598.2.2.2.2.1 bt598.2.2.2.2.2.1 bt598.2.2.2.2.2.2.1 bt598.2.2.2.2.2.2.2.1 bt598.2.2.2.2.2.2.2.2.1 bt598.2.2.2.2.2.2.2.2.2.1 bt598.2.2.2.2.2.2.2.2.2.2).bind fun bt609 => (if bt609.1 = 1 then ((deck_Deck_Pos.f bt609.2.1 bt609.2.2.1 bt609.2.2.2.1 bt609.2.2.2.2.1 bt609.2.2.2.2.2.1 bt609.2.2.2.2.2.2.1 bt609.2.2.2.2.2.2.2.1 bt609.2.2.2.2.2.2.2.2.1 bt609.2.2.2.2.2.2.2.2.2.1 bt609.2.2.2.2.2.2.2.2.2.2).bind fun bt620 => (if bt620.1 = (mn a3 a2) then ((deck_Deck_Play.f bt620.2.1 bt620.2.2.1 bt620.2.2.2.1 bt620.2.2.2.2.1 bt620.2.2.2.2.2.1 bt620.2.2.2.2.2.2.1 bt620.2.2.2.2.2.2.2.1 bt620.2.2.2.2.2.2.2.2.1 bt620.2.2.2.2.2.2.2.2.2.1 bt620.2.2.2.2.2.2.2.2.2.2 a0 a1 a2).bind fun bt631 => (if bt631.1 = 0 then ((deck_Deck_Mode.f bt631.2.1 bt631.2.2.1 bt631.2.2.2.1 bt631.2.2.2.2.1 bt631.2.2.2.2.2.1 bt631.2.2.2.2.2.2.1 bt631.2.2.2.2.2.2.2.1 bt631.2.2.2.2.2.2.2.2.1 bt631.2.2.2.2.2.2.2.2.2.1 bt631.2.2.2.2.2.2.2.2.2.2).bind fun bt642 => (tiklaw23_DeckForward.j1 kj9 a0 a1 a2 l5 t596 (bt642.1 != 2) bt642.2.1 bt642.2.2.1 bt642.2.2.2.1 bt642.2.2.2.2.1 bt642.2.2.2.2.2.1 bt642.2.2.2.2.2.2.1 bt642.2.2.2.2.2.2.2.1 bt642.2.2.2.2.2.2.2.2.1 bt642.2.2.2.2.2.2.2.2.2.1 bt642.2.2.2.2.2.2.2.2.2.2 t594 t595)) else (tiklaw23_DeckForward.j1 kj9 a0 a1 a2 l5 t596 true bt631.2.1 bt631.2.2.1 bt631.2.2.2.1 bt631.2.2.2.2.1 bt631.2.2.2.2.2.1 bt631.2.2.2.2.2.2.1 bt631.2.2.2.2.2.2.2.1 bt631.2.2.2.2.2.2.2.2.1 bt631.2.2.2.2.2.2.2.2.2.1 bt631.2.2.2.2.2.2.2.2.2.2 t594 t595))) else (tiklaw23_DeckForward.j1 kj9 a0 a1 a2 l5 t596 true bt620.2.1 bt620.2.2.1 bt620.2.2.2.1 bt620.2.2.2.2.1 bt620.2.2.2.2.2.1 bt620.2.2.2.2.2.2.1 bt620.2.2.2.2.2.2.2.1 bt620.2.2.2.2.2.2.2.2.1 bt620.2.2.2.2.2.2.2.2.2.1 bt620.2.2.2.2.2.2.2.2.2.2 t594 t595))) else (tiklaw23_DeckForward.j1 kj9 a0 a1 a2 l5 t596 true bt609.2.1 bt609.2.2.1 bt609.2.2.2.1 bt609.2.2.2.2.1 bt609.2.2.2.2.2.1 bt609.2.2.2.2.2.2.1 bt609.2.2.2.2.2.2.2.1 bt609.2.2.2.2.2.2.2.2.1 bt609.2.2.2.2.2.2.2.2.2.1 bt609.2.2.2.2.2.2.2.2.2.2 t594 t595))) else (tiklaw23_DeckForward.j1 kj9 a0 a1 a2 l5 t596 true bt598.2.1 bt598.2.2.1 bt598.2.2.2.1 bt598.2.2.2.2.1 bt598.2.2.2.2.2.1 bt598.2.2.2.2.2.2.1 bt598.2.2.2.2.2.2.2.1 bt598.2.2.2.2.2.2.2.2.1 bt598.2.2.2.2.2.2.2.2.2.1 bt598.2.2.2.2.2.2.2.2.2.2 t594 t595))) else (tiklaw23_DeckForward.j1 kj9 a0 a1 a2 l5 t596 true t584 t585 t586 t587 t588 t589 t590 t591 t592 t593 t594 t595)) = some r := H
      have A21 := Aside0.mk A210
      clear A210
      have HC22 := Aside0.mk H
      clear H
      go_upto_region 8 with (first | ((with_reducible refine gate_callee (f := 21) rfl ?_); refine goesL_ (some 56) rfl rfl Tryd.func21 (by kernel_rfl) rfl #[.pointer (some ⟨g581, 0, none⟩), .int .u64 a0, .float .f64 a4] rfl (by (try simp only [List.map_toArray, List.map_cons, List.map_nil]); first | done | rfl | (simp only [List.length_drop, List.length_take]; rfl)) ?_; (with_reducible refine (deck_Deck_Speed.calls kj9 g581 t571 t572 t573 t574 t575 t576 t577 t578 t579 t580 a0 a4 t583 t584 t585 t586 t587 t588 t589 t590 t591 t592 t593 w _ ?side1 ?side2 ?side3 A20.out).mono ?_); (case side1 => repeat (first | (with_reducible first | exact HI581.out | apply IsS100.alloc | apply IsS100.drewN | apply IsS100.drew) | exact HI581.out)); (case side2 => repeat (first | (with_reducible first | exact HB.out | apply below_alloc | apply pw_below_drewN | apply below_drew1 | refine below_set ?_ (IsS100.ge HI581.out)) | exact HB.out)); (case side3 => first | (with_reducible exact HT.out) | exact tabAt HT.out (by repeat (first | (with_reducible first | exact HB.out | apply below_alloc | apply pw_below_drewN | apply below_drew1 | refine below_set ?_ (IsS100.ge HI581.out)) | exact HB.out))); rintro e w23 ⟨rfl, hi, hb, hk⟩; refine ⟨_, rfl, ?_⟩; have n0_ := Aside0.mk (hb); have n1_ := Aside0.mk (hi); clear HB; clear HI581; have HB := n0_; have HI581 := n1_; clear n0_ n1_; (try clear hb); (try clear hb2); (try clear hk); (try clear hi)) | ((with_reducible refine gate_callee (f := 22) rfl ?_); refine goesL_ (some 59) rfl rfl Tryd.func22 (by kernel_rfl) rfl #[.float .f64 a4] rfl (by (try simp only [List.map_toArray, List.map_cons, List.map_nil]); first | done | rfl | (simp only [List.length_drop, List.length_take]; rfl)) ?_; (with_reducible refine (rate_Of.calls a4 t594 t595 t596 _ ?side1 A21.out).mono ?_); (case side1 => first | (with_reducible exact HT.out) | exact tabAt HT.out (by repeat (first | (with_reducible first | exact HB.out | apply below_alloc | apply pw_below_drewN | apply below_drew1 | refine below_set ?_ (IsS100.ge HI581.out)) | exact HB.out))); rintro e w24 ⟨rfl, hb⟩; refine ⟨_, rfl, ?_⟩; have n0_ := Aside0.mk (IsS100.below (by repeat (first | (with_reducible first | exact HI581.out | apply IsS100.alloc | apply IsS100.drewN | apply IsS100.drew) | exact HI581.out)) hb); have n1_ := Aside0.mk (below_step (by repeat (first | (with_reducible first | exact HB.out | apply below_alloc | apply pw_below_drewN | apply below_drew1 | refine below_set ?_ (IsS100.ge HI581.out)) | exact HB.out)) hb); clear HI581; clear HB; have HI581 := n0_; have HB := n1_; clear n0_ n1_; (try clear hb); (try clear hb2); (try clear hk); (try clear hi)) | ((with_reducible refine gate_dst (N := 15) rfl ?_); (try (refine gate_guard (by rfl) ?_; dsimp only)); refine box_event ?hg (N := 15) ?hd (cs := #[.int .u64 0, .int .u64 0]) (t := 30) ?hr ?_; (case hd => rfl); (case hg => rfl); (case hr => first | (go_simp; done) | (go_simp; rfl)); intro gb597 hg w25 hbox hb; have n0_ := Aside0.mk (IsS100.below (by repeat (first | (with_reducible first | exact HI581.out | apply IsS100.alloc | apply IsS100.drewN | apply IsS100.drew) | exact HI581.out)) hb); have n1_ := Aside0.mk (below_step (by repeat (first | (with_reducible first | exact HB.out | apply below_alloc | apply pw_below_drewN | apply below_drew1 | refine below_set ?_ (IsS100.ge HI581.out)) | exact HB.out)) hb); have n2_ := Aside0.mk (hbox); have n3_ := Aside0.mk ((by rw [hg]; exact (below_size (by repeat (first | (with_reducible first | exact HB.out | apply below_alloc | apply pw_below_drewN | apply below_drew1 | refine below_set ?_ (IsS100.ge HI581.out)) | exact HB.out))) : w.heap.size ≤ gb597)); have n4_ := Aside0.mk ((by rw [hg]; exact (below_size (by repeat (first | (with_reducible first | exact HB.out | apply below_alloc | apply pw_below_drewN | apply below_drew1 | refine below_set ?_ (IsS100.ge HI581.out)) | exact HB.out))) : w.heap.size ≤ gb597)); have n5_ := Aside0.mk ((by rw [hg]; exact Nat.ne_of_lt (IsS100.lt (show IsS100 w _ g581 t584 t585 t586 t587 t588 t589 t590 t591 t592 t593 from by repeat (first | (with_reducible first | exact HI581.out | apply IsS100.alloc | apply IsS100.drewN | apply IsS100.drew) | exact HI581.out))) : g581 ≠ gb597)); have n6_ := Aside0.mk ((by rw [hg]; exact Nat.ne_of_gt (IsS100.lt (show IsS100 w _ g581 t584 t585 t586 t587 t588 t589 t590 t591 t592 t593 from by repeat (first | (with_reducible first | exact HI581.out | apply IsS100.alloc | apply IsS100.drewN | apply IsS100.drew) | exact HI581.out))) : gb597 ≠ g581)); clear HI581; clear HB; have HI581 := n0_; have HB := n1_; have BK597 := n2_; have GW597 := n3_; have GE597 := n4_; have NB581_597 := n5_; have NB597_581 := n6_; clear n0_ n1_ n2_ n3_ n4_ n5_ n6_; clear hb hbox hg; have hnb26 := NB597_581.out; have hnc26 := NB581_597.out; have hcz27_0 : w25.cell? ⟨gb597, 0, none⟩ = some (.int .u64 0) := (blk_cell BK597.out 0).trans rfl; have hcz27_1 : w25.cell? ⟨gb597, 1, none⟩ = some (.int .u64 0) := (blk_cell BK597.out 1).trans rfl; have hfz27_0 := blk_frozen BK597.out 0; have hfz27_1 := blk_frozen BK597.out 1))
      (try simp only [Act.put, List.setIfInBounds_toArray, List.set_cons_zero, List.set_cons_succ])
      go_cut [99] (fun v99 wc => ∃ (kq : Nat) (x99_21 : Bool) (x582000_21 : Int) (x582001_21 : Int) (x582002_21 : Int) (x582003_21 : Int) (x582004_21 : Bool) (x582005_21 : Int) (x582006_21 : Int) (x582007_21 : Int) (x582008_21 : Int) (x582009_21 : Int), v99 = .bool x99_21 ∧ Aside0 (tiklaw23_DeckForward.j1 kq a0 a1 a2 l5 t596 x99_21 x582000_21 x582001_21 x582002_21 x582003_21 x582004_21 x582005_21 x582006_21 x582007_21 x582008_21 x582009_21 t594 t595 = some r) ∧ Aside0 (kq ≤ kj9) ∧ Aside0 (wc.heap[gb597]? = some (.cells #[.int .u64 t594, .int .u64 t595] 30 (0, 0))) ∧ Aside0 (IsS100 w wc g581 x582000_21 x582001_21 x582002_21 x582003_21 x582004_21 x582005_21 x582006_21 x582007_21 x582008_21 x582009_21) ∧ Aside0 (Below w.heap.size w wc))
      case first =>
       have H := HC22.out
       clear HC22
       by_cases c28 : t583 = t596
       ·rw [if_pos c28] at H
        have c28b0 : (t583 == t596) = true := beq_iff_eq.mpr c28
        have c28b1 : (t583 != t596) = false := bne_eq_false_iff_eq.mpr c28
        clear c28
        (first | rw [c28b0] | (simp only [i64_w, i32_w]; rw [c28b0]) | skip)
        replace H := Option.bind_eq_some_iff.mp H
        obtain ⟨⟨t598, t599, t600, t601, t602, t603, t604, t605, t606, t607, t608⟩, A290, H⟩ := H
        replace H : (if t598 = 0 then ((deck_Deck_Mode.f t599 t600 t601 t602 t603 t604 t605 t606 t607 t608).bind fun bt609 => (if bt609.1 = 1 then ((deck_Deck_Pos.f bt609.2.1 bt609.2.2.1 bt609.2.2.2.1 bt609.2.2.2.2.1 bt609.2.2.2.2.2.1 bt609.2.2.2.2.2.2.1 bt609.2.2.2.2.2.2.2.1 bt609.2.2.2.2.2.2.2.2.1 bt609.2.2.2.2.2.2.2.2.2.1 bt609.2.2.2.2.2.2.2.2.2.2).bind fun bt620 => (if bt620.1 = (mn a3 a2) then ((deck_Deck_Play.f bt620.2.1 bt620.2.2.1 bt620.2.2.2.1 bt620.2.2.2.2.1 bt620.2.2.2.2.2.1 bt620.2.2.2.2.2.2.1 bt620.2.2.2.2.2.2.2.1 bt620.2.2.2.2.2.2.2.2.1 bt620.2.2.2.2.2.2.2.2.2.1 bt620.2.2.2.2.2.2.2.2.2.2 a0 a1 a2).bind fun bt631 => (if bt631.1 = 0 then ((deck_Deck_Mode.f bt631.2.1 bt631.2.2.1 bt631.2.2.2.1 bt631.2.2.2.2.1 bt631.2.2.2.2.2.1 bt631.2.2.2.2.2.2.1 bt631.2.2.2.2.2.2.2.1 bt631.2.2.2.2.2.2.2.2.1 bt631.2.2.2.2.2.2.2.2.2.1 bt631.2.2.2.2.2.2.2.2.2.2).bind fun bt642 => (tiklaw23_DeckForward.j1 kj9 a0 a1 a2 l5 t596 (bt642.1 != 2) bt642.2.1 bt642.2.2.1 bt642.2.2.2.1 bt642.2.2.2.2.1 bt642.2.2.2.2.2.1 bt642.2.2.2.2.2.2.1 bt642.2.2.2.2.2.2.2.1 bt642.2.2.2.2.2.2.2.2.1 bt642.2.2.2.2.2.2.2.2.2.1 bt642.2.2.2.2.2.2.2.2.2.2 t594 t595)) else (tiklaw23_DeckForward.j1 kj9 a0 a1 a2 l5 t596 true bt631.2.1 bt631.2.2.1 bt631.2.2.2.1 bt631.2.2.2.2.1 bt631.2.2.2.2.2.1 bt631.2.2.2.2.2.2.1 bt631.2.2.2.2.2.2.2.1 bt631.2.2.2.2.2.2.2.2.1 bt631.2.2.2.2.2.2.2.2.2.1 bt631.2.2.2.2.2.2.2.2.2.2 t594 t595))) else (tiklaw23_DeckForward.j1 kj9 a0 a1 a2 l5 t596 true bt620.2.1 bt620.2.2.1 bt620.2.2.2.1 bt620.2.2.2.2.1 bt620.2.2.2.2.2.1 bt620.2.2.2.2.2.2.1 bt620.2.2.2.2.2.2.2.1 bt620.2.2.2.2.2.2.2.2.1 bt620.2.2.2.2.2.2.2.2.2.1 bt620.2.2.2.2.2.2.2.2.2.2 t594 t595))) else (tiklaw23_DeckForward.j1 kj9 a0 a1 a2 l5 t596 true bt609.2.1 bt609.2.2.1 bt609.2.2.2.1 bt609.2.2.2.2.1 bt609.2.2.2.2.2.1 bt609.2.2.2.2.2.2.1 bt609.2.2.2.2.2.2.2.1 bt609.2.2.2.2.2.2.2.2.1 bt609.2.2.2.2.2.2.2.2.2.1 bt609.2.2.2.2.2.2.2.2.2.2 t594 t595))) else (tiklaw23_DeckForward.j1 kj9 a0 a1 a2 l5 t596 true t599 t600 t601 t602 t603 t604 t605 t606 t607 t608 t594 t595)) = some r := H
        have A29 := Aside0.mk A290
        clear A290
        by_cases c30 : t598 = 0
        ·rw [if_pos c30] at H
         have c30b0 : (t598 == 0) = true := beq_iff_eq.mpr c30
         have c30b1 : (t598 != 0) = false := bne_eq_false_iff_eq.mpr c30
         clear c30
         replace H := Option.bind_eq_some_iff.mp H
         obtain ⟨⟨t609, t610, t611, t612, t613, t614, t615, t616, t617, t618, t619⟩, A310, H⟩ := H
         replace H : (if t609 = 1 then ((deck_Deck_Pos.f t610 t611 t612 t613 t614 t615 t616 t617 t618 t619).bind fun bt620 => (if bt620.1 = (mn a3 a2) then ((deck_Deck_Play.f bt620.2.1 bt620.2.2.1 bt620.2.2.2.1 bt620.2.2.2.2.1 bt620.2.2.2.2.2.1 bt620.2.2.2.2.2.2.1 bt620.2.2.2.2.2.2.2.1 bt620.2.2.2.2.2.2.2.2.1 bt620.2.2.2.2.2.2.2.2.2.1 bt620.2.2.2.2.2.2.2.2.2.2 a0 a1 a2).bind fun bt631 => (if bt631.1 = 0 then ((deck_Deck_Mode.f bt631.2.1 bt631.2.2.1 bt631.2.2.2.1 bt631.2.2.2.2.1 bt631.2.2.2.2.2.1 bt631.2.2.2.2.2.2.1 bt631.2.2.2.2.2.2.2.1 bt631.2.2.2.2.2.2.2.2.1 bt631.2.2.2.2.2.2.2.2.2.1 bt631.2.2.2.2.2.2.2.2.2.2).bind fun bt642 => (tiklaw23_DeckForward.j1 kj9 a0 a1 a2 l5 t596 (bt642.1 != 2) bt642.2.1 bt642.2.2.1 bt642.2.2.2.1 bt642.2.2.2.2.1 bt642.2.2.2.2.2.1 bt642.2.2.2.2.2.2.1 bt642.2.2.2.2.2.2.2.1 bt642.2.2.2.2.2.2.2.2.1 bt642.2.2.2.2.2.2.2.2.2.1 bt642.2.2.2.2.2.2.2.2.2.2 t594 t595)) else (tiklaw23_DeckForward.j1 kj9 a0 a1 a2 l5 t596 true bt631.2.1 bt631.2.2.1 bt631.2.2.2.1 bt631.2.2.2.2.1 bt631.2.2.2.2.2.1 bt631.2.2.2.2.2.2.1 bt631.2.2.2.2.2.2.2.1 bt631.2.2.2.2.2.2.2.2.1 bt631.2.2.2.2.2.2.2.2.2.1 bt631.2.2.2.2.2.2.2.2.2.2 t594 t595))) else (tiklaw23_DeckForward.j1 kj9 a0 a1 a2 l5 t596 true bt620.2.1 bt620.2.2.1 bt620.2.2.2.1 bt620.2.2.2.2.1 bt620.2.2.2.2.2.1 bt620.2.2.2.2.2.2.1 bt620.2.2.2.2.2.2.2.1 bt620.2.2.2.2.2.2.2.2.1 bt620.2.2.2.2.2.2.2.2.2.1 bt620.2.2.2.2.2.2.2.2.2.2 t594 t595))) else (tiklaw23_DeckForward.j1 kj9 a0 a1 a2 l5 t596 true t610 t611 t612 t613 t614 t615 t616 t617 t618 t619 t594 t595)) = some r := H
         have A31 := Aside0.mk A310
         clear A310
         by_cases c32 : t609 = 1
         ·rw [if_pos c32] at H
          have c32b0 : (t609 == 1) = true := beq_iff_eq.mpr c32
          have c32b1 : (t609 != 1) = false := bne_eq_false_iff_eq.mpr c32
          clear c32
          replace H := Option.bind_eq_some_iff.mp H
          obtain ⟨⟨t620, t621, t622, t623, t624, t625, t626, t627, t628, t629, t630⟩, A330, H⟩ := H
          replace H : (if t620 = (mn a3 a2) then ((deck_Deck_Play.f t621 t622 t623 t624 t625 t626 t627 t628 t629 t630 a0 a1 a2).bind fun bt631 => (if bt631.1 = 0 then ((deck_Deck_Mode.f bt631.2.1 bt631.2.2.1 bt631.2.2.2.1 bt631.2.2.2.2.1 bt631.2.2.2.2.2.1 bt631.2.2.2.2.2.2.1 bt631.2.2.2.2.2.2.2.1 bt631.2.2.2.2.2.2.2.2.1 bt631.2.2.2.2.2.2.2.2.2.1 bt631.2.2.2.2.2.2.2.2.2.2).bind fun bt642 => (tiklaw23_DeckForward.j1 kj9 a0 a1 a2 l5 t596 (bt642.1 != 2) bt642.2.1 bt642.2.2.1 bt642.2.2.2.1 bt642.2.2.2.2.1 bt642.2.2.2.2.2.1 bt642.2.2.2.2.2.2.1 bt642.2.2.2.2.2.2.2.1 bt642.2.2.2.2.2.2.2.2.1 bt642.2.2.2.2.2.2.2.2.2.1 bt642.2.2.2.2.2.2.2.2.2.2 t594 t595)) else (tiklaw23_DeckForward.j1 kj9 a0 a1 a2 l5 t596 true bt631.2.1 bt631.2.2.1 bt631.2.2.2.1 bt631.2.2.2.2.1 bt631.2.2.2.2.2.1 bt631.2.2.2.2.2.2.1 bt631.2.2.2.2.2.2.2.1 bt631.2.2.2.2.2.2.2.2.1 bt631.2.2.2.2.2.2.2.2.2.1 bt631.2.2.2.2.2.2.2.2.2.2 t594 t595))) else (tiklaw23_DeckForward.j1 kj9 a0 a1 a2 l5 t596 true t621 t622 t623 t624 t625 t626 t627 t628 t629 t630 t594 t595)) = some r := H
          have A33 := Aside0.mk A330
          clear A330
          obtain ⟨ji34, hji34⟩ : ∃ j_ : Int, (mn a3 a2) = j_ := ⟨_, rfl⟩
          replace H : (if t620 = (ji34) then ((deck_Deck_Play.f t621 t622 t623 t624 t625 t626 t627 t628 t629 t630 a0 a1 a2).bind fun bt631 => (if bt631.1 = 0 then ((deck_Deck_Mode.f bt631.2.1 bt631.2.2.1 bt631.2.2.2.1 bt631.2.2.2.2.1 bt631.2.2.2.2.2.1 bt631.2.2.2.2.2.2.1 bt631.2.2.2.2.2.2.2.1 bt631.2.2.2.2.2.2.2.2.1 bt631.2.2.2.2.2.2.2.2.2.1 bt631.2.2.2.2.2.2.2.2.2.2).bind fun bt642 => (tiklaw23_DeckForward.j1 kj9 a0 a1 a2 l5 t596 (bt642.1 != 2) bt642.2.1 bt642.2.2.1 bt642.2.2.2.1 bt642.2.2.2.2.1 bt642.2.2.2.2.2.1 bt642.2.2.2.2.2.2.1 bt642.2.2.2.2.2.2.2.1 bt642.2.2.2.2.2.2.2.2.1 bt642.2.2.2.2.2.2.2.2.2.1 bt642.2.2.2.2.2.2.2.2.2.2 t594 t595)) else (tiklaw23_DeckForward.j1 kj9 a0 a1 a2 l5 t596 true bt631.2.1 bt631.2.2.1 bt631.2.2.2.1 bt631.2.2.2.2.1 bt631.2.2.2.2.2.1 bt631.2.2.2.2.2.2.1 bt631.2.2.2.2.2.2.2.1 bt631.2.2.2.2.2.2.2.2.1 bt631.2.2.2.2.2.2.2.2.2.1 bt631.2.2.2.2.2.2.2.2.2.2 t594 t595))) else (tiklaw23_DeckForward.j1 kj9 a0 a1 a2 l5 t596 true t621 t622 t623 t624 t625 t626 t627 t628 t629 t630 t594 t595)) = some r := by first | (rw [hji34] at H; exact H) | (simp only [hji34] at H ⊢; exact H)
          (try rw [hji34] at A29)
          (try rw [hji34] at A31)
          (try rw [hji34] at A33)
          have hji34_ : (if a2 < a3 then a2 else a3) = ji34 := hji34
          by_cases c35 : t620 = (ji34)
          ·rw [if_pos c35] at H
           have c35b0 : (t620 == (ji34)) = true := beq_iff_eq.mpr c35
           have c35b1 : (t620 != (ji34)) = false := bne_eq_false_iff_eq.mpr c35
           clear c35
           replace H := Option.bind_eq_some_iff.mp H
           obtain ⟨⟨t631, t632, t633, t634, t635, t636, t637, t638, t639, t640, t641⟩, A360, H⟩ := H
           replace H : (if t631 = 0 then ((deck_Deck_Mode.f t632 t633 t634 t635 t636 t637 t638 t639 t640 t641).bind fun bt642 => (tiklaw23_DeckForward.j1 kj9 a0 a1 a2 l5 t596 (bt642.1 != 2) bt642.2.1 bt642.2.2.1 bt642.2.2.2.1 bt642.2.2.2.2.1 bt642.2.2.2.2.2.1 bt642.2.2.2.2.2.2.1 bt642.2.2.2.2.2.2.2.1 bt642.2.2.2.2.2.2.2.2.1 bt642.2.2.2.2.2.2.2.2.2.1 bt642.2.2.2.2.2.2.2.2.2.2 t594 t595)) else (tiklaw23_DeckForward.j1 kj9 a0 a1 a2 l5 t596 true t632 t633 t634 t635 t636 t637 t638 t639 t640 t641 t594 t595)) = some r := H
           have A36 := Aside0.mk A360
           clear A360
           by_cases c37 : t631 = 0
           ·rw [if_pos c37] at H
            have c37b0 : (t631 == 0) = true := beq_iff_eq.mpr c37
            have c37b1 : (t631 != 0) = false := bne_eq_false_iff_eq.mpr c37
            clear c37
            replace H := Option.bind_eq_some_iff.mp H
            obtain ⟨⟨t642, t643, t644, t645, t646, t647, t648, t649, t650, t651, t652⟩, A380, H⟩ := H
            replace H : (tiklaw23_DeckForward.j1 kj9 a0 a1 a2 l5 t596 (t642 != 2) t643 t644 t645 t646 t647 t648 t649 t650 t651 t652 t594 t595) = some r := H
            have A38 := Aside0.mk A380
            clear A380
            have H' := Aside0.mk H
            clear H
            go_wp2_with (first | (go_at_call 23; (with_reducible refine (deck_Deck_Seek.calls g581 t584 t585 t586 t587 t588 t589 t590 t591 t592 t593 a0 a1 a2 a3 t598 t599 t600 t601 t602 t603 t604 t605 t606 t607 t608 w _ ?side1 ?side2 A29.out).mono ?_); (case side1 => repeat (first | (with_reducible first | exact HI581.out | apply IsS100.alloc | apply IsS100.drewN | apply IsS100.drew | refine IsS100.far ?_ NB581_597.out _ ?_ | exact typ_of BK597 (by decide) (by decide) | refine typ_set ?_ _ _ _ | refine typ_alloc ?_ _ | refine typ_drewN ?_ _ | refine typ_drew ?_) | exact HI581.out)); (case side2 => repeat (first | (with_reducible first | exact HB.out | apply below_alloc | apply pw_below_drewN | apply below_drew1 | refine below_set ?_ (IsS100.ge HI581.out) | refine below_set ?_ GE597.out) | exact HB.out)); rintro e w39 ⟨rfl, hi, hb, hk⟩; have n0_ := Aside0.mk (KeepBut.blk hk (g' := gb597) (o := .cells #[.int .u64 t594, .int .u64 t595] 30 (0, 0)) (by (with_reducible repeat (first | refine blk_drewN ?_ _ | refine blk_drew ?_ | refine blk_alloc ?_ _)); refine blk_put (cs := #[.int .u64 t594, .int .u64 0]) ?_ 1 _ rfl; (with_reducible repeat (first | refine blk_drewN ?_ _ | refine blk_drew ?_ | refine blk_alloc ?_ _)); refine blk_put (cs := #[.int .u64 0, .int .u64 0]) ?_ 0 _ rfl; (with_reducible repeat (first | refine blk_drewN ?_ _ | refine blk_drew ?_ | refine blk_alloc ?_ _)); exact BK597.out) NB597_581.out (by simp)); have n1_ := Aside0.mk (hb); have n2_ := Aside0.mk (hi); clear BK597; clear HB; clear HI581; have BK597 := n0_; have HB := n1_; have HI581 := n2_; clear n0_ n1_ n2_; (try clear hb); (try clear hb2); (try clear hk); (try clear hi)) | (go_at_call 18; (with_reducible refine (deck_Deck_Mode.calls g581 t599 t600 t601 t602 t603 t604 t605 t606 t607 t608 t609 t610 t611 t612 t613 t614 t615 t616 t617 t618 t619 w _ ?side1 ?side2 A31.out).mono ?_); (case side1 => repeat (first | (with_reducible first | exact HI581.out | apply IsS100.alloc | apply IsS100.drewN | apply IsS100.drew | refine IsS100.far ?_ NB581_597.out _ ?_ | exact typ_of BK597 (by decide) (by decide) | refine typ_set ?_ _ _ _ | refine typ_alloc ?_ _ | refine typ_drewN ?_ _ | refine typ_drew ?_) | exact HI581.out)); (case side2 => repeat (first | (with_reducible first | exact HB.out | apply below_alloc | apply pw_below_drewN | apply below_drew1 | refine below_set ?_ (IsS100.ge HI581.out) | refine below_set ?_ GE597.out) | exact HB.out)); rintro e w40 ⟨rfl, hi, hb, hk⟩; have n0_ := Aside0.mk (KeepBut.blk hk (g' := gb597) (o := .cells #[.int .u64 t594, .int .u64 t595] 30 (0, 0)) (by (with_reducible repeat (first | refine blk_drewN ?_ _ | refine blk_drew ?_ | refine blk_alloc ?_ _)); exact BK597.out) NB597_581.out (by simp)); have n1_ := Aside0.mk (hb); have n2_ := Aside0.mk (hi); clear BK597; clear HB; clear HI581; have BK597 := n0_; have HB := n1_; have HI581 := n2_; clear n0_ n1_ n2_; (try clear hb); (try clear hb2); (try clear hk); (try clear hi)) | (go_at_call 19; (with_reducible refine (deck_Deck_Pos.calls g581 t610 t611 t612 t613 t614 t615 t616 t617 t618 t619 t620 t621 t622 t623 t624 t625 t626 t627 t628 t629 t630 w _ ?side1 ?side2 A33.out).mono ?_); (case side1 => repeat (first | (with_reducible first | exact HI581.out | apply IsS100.alloc | apply IsS100.drewN | apply IsS100.drew | refine IsS100.far ?_ NB581_597.out _ ?_ | exact typ_of BK597 (by decide) (by decide) | refine typ_set ?_ _ _ _ | refine typ_alloc ?_ _ | refine typ_drewN ?_ _ | refine typ_drew ?_) | exact HI581.out)); (case side2 => repeat (first | (with_reducible first | exact HB.out | apply below_alloc | apply pw_below_drewN | apply below_drew1 | refine below_set ?_ (IsS100.ge HI581.out) | refine below_set ?_ GE597.out) | exact HB.out)); rintro e w41 ⟨rfl, hi, hb, hk⟩; have n0_ := Aside0.mk (KeepBut.blk hk (g' := gb597) (o := .cells #[.int .u64 t594, .int .u64 t595] 30 (0, 0)) (by (with_reducible repeat (first | refine blk_drewN ?_ _ | refine blk_drew ?_ | refine blk_alloc ?_ _)); exact BK597.out) NB597_581.out (by simp)); have n1_ := Aside0.mk (hb); have n2_ := Aside0.mk (hi); clear BK597; clear HB; clear HI581; have BK597 := n0_; have HB := n1_; have HI581 := n2_; clear n0_ n1_ n2_; (try clear hb); (try clear hb2); (try clear hk); (try clear hi)) | (go_at_call 24; (with_reducible refine (deck_Deck_Play.calls g581 t621 t622 t623 t624 t625 t626 t627 t628 t629 t630 a0 a1 a2 t631 t632 t633 t634 t635 t636 t637 t638 t639 t640 t641 w _ ?side1 ?side2 A36.out).mono ?_); (case side1 => repeat (first | (with_reducible first | exact HI581.out | apply IsS100.alloc | apply IsS100.drewN | apply IsS100.drew | refine IsS100.far ?_ NB581_597.out _ ?_ | exact typ_of BK597 (by decide) (by decide) | refine typ_set ?_ _ _ _ | refine typ_alloc ?_ _ | refine typ_drewN ?_ _ | refine typ_drew ?_) | exact HI581.out)); (case side2 => repeat (first | (with_reducible first | exact HB.out | apply below_alloc | apply pw_below_drewN | apply below_drew1 | refine below_set ?_ (IsS100.ge HI581.out) | refine below_set ?_ GE597.out) | exact HB.out)); rintro e w42 ⟨rfl, hi, hb, hk⟩; have n0_ := Aside0.mk (KeepBut.blk hk (g' := gb597) (o := .cells #[.int .u64 t594, .int .u64 t595] 30 (0, 0)) (by (with_reducible repeat (first | refine blk_drewN ?_ _ | refine blk_drew ?_ | refine blk_alloc ?_ _)); exact BK597.out) NB597_581.out (by simp)); have n1_ := Aside0.mk (hb); have n2_ := Aside0.mk (hi); clear BK597; clear HB; clear HI581; have BK597 := n0_; have HB := n1_; have HI581 := n2_; clear n0_ n1_ n2_; (try clear hb); (try clear hb2); (try clear hk); (try clear hi)) | (go_at_call 18; (with_reducible refine (deck_Deck_Mode.calls g581 t632 t633 t634 t635 t636 t637 t638 t639 t640 t641 t642 t643 t644 t645 t646 t647 t648 t649 t650 t651 t652 w _ ?side1 ?side2 A38.out).mono ?_); (case side1 => repeat (first | (with_reducible first | exact HI581.out | apply IsS100.alloc | apply IsS100.drewN | apply IsS100.drew | refine IsS100.far ?_ NB581_597.out _ ?_ | exact typ_of BK597 (by decide) (by decide) | refine typ_set ?_ _ _ _ | refine typ_alloc ?_ _ | refine typ_drewN ?_ _ | refine typ_drew ?_) | exact HI581.out)); (case side2 => repeat (first | (with_reducible first | exact HB.out | apply below_alloc | apply pw_below_drewN | apply below_drew1 | refine below_set ?_ (IsS100.ge HI581.out) | refine below_set ?_ GE597.out) | exact HB.out)); rintro e w43 ⟨rfl, hi, hb, hk⟩; have n0_ := Aside0.mk (KeepBut.blk hk (g' := gb597) (o := .cells #[.int .u64 t594, .int .u64 t595] 30 (0, 0)) (by (with_reducible repeat (first | refine blk_drewN ?_ _ | refine blk_drew ?_ | refine blk_alloc ?_ _)); exact BK597.out) NB597_581.out (by simp)); have n1_ := Aside0.mk (hb); have n2_ := Aside0.mk (hi); clear BK597; clear HB; clear HI581; have BK597 := n0_; have HB := n1_; have HI581 := n2_; clear n0_ n1_ n2_; (try clear hb); (try clear hb2); (try clear hk); (try clear hi)))
            go_meet
            case rel => exact ⟨_, ((t642 != 2)), (t643), (t644), (t645), (t646), (t647), (t648), (t649), (t650), (t651), (t652), (by first | rfl | (simp; done) | (simp [*]; done)), H', ⟨by have := HJ9.out; first | omega | exact Nat.le_refl _⟩, ⟨by (with_reducible repeat (first | refine blk_drewN ?_ _ | refine blk_drew ?_ | refine blk_alloc ?_ _)); exact BK597.out⟩, ⟨by repeat (first | (with_reducible first | exact HI581.out | apply IsS100.alloc | apply IsS100.drewN | apply IsS100.drew | refine IsS100.far ?_ NB581_597.out _ ?_ | exact typ_of BK597 (by decide) (by decide) | refine typ_set ?_ _ _ _ | refine typ_alloc ?_ _ | refine typ_drewN ?_ _ | refine typ_drew ?_) | exact HI581.out)⟩, ⟨by repeat (first | (with_reducible first | exact HB.out | apply below_alloc | apply pw_below_drewN | apply below_drew1 | refine below_set ?_ (IsS100.ge HI581.out) | refine below_set ?_ GE597.out) | exact HB.out)⟩⟩
           ·rw [if_neg c37] at H
            have c37b0 : (t631 == 0) = false := beq_eq_false_iff_ne.mpr c37
            have c37b1 : (t631 != 0) = true := bne_iff_ne.mpr c37
            have H' := Aside0.mk H
            clear H
            go_wp2_with (first | (go_at_call 23; (with_reducible refine (deck_Deck_Seek.calls g581 t584 t585 t586 t587 t588 t589 t590 t591 t592 t593 a0 a1 a2 a3 t598 t599 t600 t601 t602 t603 t604 t605 t606 t607 t608 w _ ?side1 ?side2 A29.out).mono ?_); (case side1 => repeat (first | (with_reducible first | exact HI581.out | apply IsS100.alloc | apply IsS100.drewN | apply IsS100.drew | refine IsS100.far ?_ NB581_597.out _ ?_ | exact typ_of BK597 (by decide) (by decide) | refine typ_set ?_ _ _ _ | refine typ_alloc ?_ _ | refine typ_drewN ?_ _ | refine typ_drew ?_) | exact HI581.out)); (case side2 => repeat (first | (with_reducible first | exact HB.out | apply below_alloc | apply pw_below_drewN | apply below_drew1 | refine below_set ?_ (IsS100.ge HI581.out) | refine below_set ?_ GE597.out) | exact HB.out)); rintro e w44 ⟨rfl, hi, hb, hk⟩; have n0_ := Aside0.mk (KeepBut.blk hk (g' := gb597) (o := .cells #[.int .u64 t594, .int .u64 t595] 30 (0, 0)) (by (with_reducible repeat (first | refine blk_drewN ?_ _ | refine blk_drew ?_ | refine blk_alloc ?_ _)); refine blk_put (cs := #[.int .u64 t594, .int .u64 0]) ?_ 1 _ rfl; (with_reducible repeat (first | refine blk_drewN ?_ _ | refine blk_drew ?_ | refine blk_alloc ?_ _)); refine blk_put (cs := #[.int .u64 0, .int .u64 0]) ?_ 0 _ rfl; (with_reducible repeat (first | refine blk_drewN ?_ _ | refine blk_drew ?_ | refine blk_alloc ?_ _)); exact BK597.out) NB597_581.out (by simp)); have n1_ := Aside0.mk (hb); have n2_ := Aside0.mk (hi); clear BK597; clear HB; clear HI581; have BK597 := n0_; have HB := n1_; have HI581 := n2_; clear n0_ n1_ n2_; (try clear hb); (try clear hb2); (try clear hk); (try clear hi)) | (go_at_call 18; (with_reducible refine (deck_Deck_Mode.calls g581 t599 t600 t601 t602 t603 t604 t605 t606 t607 t608 t609 t610 t611 t612 t613 t614 t615 t616 t617 t618 t619 w _ ?side1 ?side2 A31.out).mono ?_); (case side1 => repeat (first | (with_reducible first | exact HI581.out | apply IsS100.alloc | apply IsS100.drewN | apply IsS100.drew | refine IsS100.far ?_ NB581_597.out _ ?_ | exact typ_of BK597 (by decide) (by decide) | refine typ_set ?_ _ _ _ | refine typ_alloc ?_ _ | refine typ_drewN ?_ _ | refine typ_drew ?_) | exact HI581.out)); (case side2 => repeat (first | (with_reducible first | exact HB.out | apply below_alloc | apply pw_below_drewN | apply below_drew1 | refine below_set ?_ (IsS100.ge HI581.out) | refine below_set ?_ GE597.out) | exact HB.out)); rintro e w45 ⟨rfl, hi, hb, hk⟩; have n0_ := Aside0.mk (KeepBut.blk hk (g' := gb597) (o := .cells #[.int .u64 t594, .int .u64 t595] 30 (0, 0)) (by (with_reducible repeat (first | refine blk_drewN ?_ _ | refine blk_drew ?_ | refine blk_alloc ?_ _)); exact BK597.out) NB597_581.out (by simp)); have n1_ := Aside0.mk (hb); have n2_ := Aside0.mk (hi); clear BK597; clear HB; clear HI581; have BK597 := n0_; have HB := n1_; have HI581 := n2_; clear n0_ n1_ n2_; (try clear hb); (try clear hb2); (try clear hk); (try clear hi)) | (go_at_call 19; (with_reducible refine (deck_Deck_Pos.calls g581 t610 t611 t612 t613 t614 t615 t616 t617 t618 t619 t620 t621 t622 t623 t624 t625 t626 t627 t628 t629 t630 w _ ?side1 ?side2 A33.out).mono ?_); (case side1 => repeat (first | (with_reducible first | exact HI581.out | apply IsS100.alloc | apply IsS100.drewN | apply IsS100.drew | refine IsS100.far ?_ NB581_597.out _ ?_ | exact typ_of BK597 (by decide) (by decide) | refine typ_set ?_ _ _ _ | refine typ_alloc ?_ _ | refine typ_drewN ?_ _ | refine typ_drew ?_) | exact HI581.out)); (case side2 => repeat (first | (with_reducible first | exact HB.out | apply below_alloc | apply pw_below_drewN | apply below_drew1 | refine below_set ?_ (IsS100.ge HI581.out) | refine below_set ?_ GE597.out) | exact HB.out)); rintro e w46 ⟨rfl, hi, hb, hk⟩; have n0_ := Aside0.mk (KeepBut.blk hk (g' := gb597) (o := .cells #[.int .u64 t594, .int .u64 t595] 30 (0, 0)) (by (with_reducible repeat (first | refine blk_drewN ?_ _ | refine blk_drew ?_ | refine blk_alloc ?_ _)); exact BK597.out) NB597_581.out (by simp)); have n1_ := Aside0.mk (hb); have n2_ := Aside0.mk (hi); clear BK597; clear HB; clear HI581; have BK597 := n0_; have HB := n1_; have HI581 := n2_; clear n0_ n1_ n2_; (try clear hb); (try clear hb2); (try clear hk); (try clear hi)) | (go_at_call 24; (with_reducible refine (deck_Deck_Play.calls g581 t621 t622 t623 t624 t625 t626 t627 t628 t629 t630 a0 a1 a2 t631 t632 t633 t634 t635 t636 t637 t638 t639 t640 t641 w _ ?side1 ?side2 A36.out).mono ?_); (case side1 => repeat (first | (with_reducible first | exact HI581.out | apply IsS100.alloc | apply IsS100.drewN | apply IsS100.drew | refine IsS100.far ?_ NB581_597.out _ ?_ | exact typ_of BK597 (by decide) (by decide) | refine typ_set ?_ _ _ _ | refine typ_alloc ?_ _ | refine typ_drewN ?_ _ | refine typ_drew ?_) | exact HI581.out)); (case side2 => repeat (first | (with_reducible first | exact HB.out | apply below_alloc | apply pw_below_drewN | apply below_drew1 | refine below_set ?_ (IsS100.ge HI581.out) | refine below_set ?_ GE597.out) | exact HB.out)); rintro e w47 ⟨rfl, hi, hb, hk⟩; have n0_ := Aside0.mk (KeepBut.blk hk (g' := gb597) (o := .cells #[.int .u64 t594, .int .u64 t595] 30 (0, 0)) (by (with_reducible repeat (first | refine blk_drewN ?_ _ | refine blk_drew ?_ | refine blk_alloc ?_ _)); exact BK597.out) NB597_581.out (by simp)); have n1_ := Aside0.mk (hb); have n2_ := Aside0.mk (hi); clear BK597; clear HB; clear HI581; have BK597 := n0_; have HB := n1_; have HI581 := n2_; clear n0_ n1_ n2_; (try clear hb); (try clear hb2); (try clear hk); (try clear hi)))
            go_meet
            case rel => exact ⟨_, (true), (t632), (t633), (t634), (t635), (t636), (t637), (t638), (t639), (t640), (t641), (by first | rfl | (simp; done) | (simp [*]; done)), H', ⟨by have := HJ9.out; first | omega | exact Nat.le_refl _⟩, ⟨by (with_reducible repeat (first | refine blk_drewN ?_ _ | refine blk_drew ?_ | refine blk_alloc ?_ _)); exact BK597.out⟩, ⟨by repeat (first | (with_reducible first | exact HI581.out | apply IsS100.alloc | apply IsS100.drewN | apply IsS100.drew | refine IsS100.far ?_ NB581_597.out _ ?_ | exact typ_of BK597 (by decide) (by decide) | refine typ_set ?_ _ _ _ | refine typ_alloc ?_ _ | refine typ_drewN ?_ _ | refine typ_drew ?_) | exact HI581.out)⟩, ⟨by repeat (first | (with_reducible first | exact HB.out | apply below_alloc | apply pw_below_drewN | apply below_drew1 | refine below_set ?_ (IsS100.ge HI581.out) | refine below_set ?_ GE597.out) | exact HB.out)⟩⟩
          ·rw [if_neg c35] at H
           have c35b0 : (t620 == (ji34)) = false := beq_eq_false_iff_ne.mpr c35
           have c35b1 : (t620 != (ji34)) = true := bne_iff_ne.mpr c35
           have H' := Aside0.mk H
           clear H
           go_wp2_with (first | (go_at_call 23; (with_reducible refine (deck_Deck_Seek.calls g581 t584 t585 t586 t587 t588 t589 t590 t591 t592 t593 a0 a1 a2 a3 t598 t599 t600 t601 t602 t603 t604 t605 t606 t607 t608 w _ ?side1 ?side2 A29.out).mono ?_); (case side1 => repeat (first | (with_reducible first | exact HI581.out | apply IsS100.alloc | apply IsS100.drewN | apply IsS100.drew | refine IsS100.far ?_ NB581_597.out _ ?_ | exact typ_of BK597 (by decide) (by decide) | refine typ_set ?_ _ _ _ | refine typ_alloc ?_ _ | refine typ_drewN ?_ _ | refine typ_drew ?_) | exact HI581.out)); (case side2 => repeat (first | (with_reducible first | exact HB.out | apply below_alloc | apply pw_below_drewN | apply below_drew1 | refine below_set ?_ (IsS100.ge HI581.out) | refine below_set ?_ GE597.out) | exact HB.out)); rintro e w48 ⟨rfl, hi, hb, hk⟩; have n0_ := Aside0.mk (KeepBut.blk hk (g' := gb597) (o := .cells #[.int .u64 t594, .int .u64 t595] 30 (0, 0)) (by (with_reducible repeat (first | refine blk_drewN ?_ _ | refine blk_drew ?_ | refine blk_alloc ?_ _)); refine blk_put (cs := #[.int .u64 t594, .int .u64 0]) ?_ 1 _ rfl; (with_reducible repeat (first | refine blk_drewN ?_ _ | refine blk_drew ?_ | refine blk_alloc ?_ _)); refine blk_put (cs := #[.int .u64 0, .int .u64 0]) ?_ 0 _ rfl; (with_reducible repeat (first | refine blk_drewN ?_ _ | refine blk_drew ?_ | refine blk_alloc ?_ _)); exact BK597.out) NB597_581.out (by simp)); have n1_ := Aside0.mk (hb); have n2_ := Aside0.mk (hi); clear BK597; clear HB; clear HI581; have BK597 := n0_; have HB := n1_; have HI581 := n2_; clear n0_ n1_ n2_; (try clear hb); (try clear hb2); (try clear hk); (try clear hi)) | (go_at_call 18; (with_reducible refine (deck_Deck_Mode.calls g581 t599 t600 t601 t602 t603 t604 t605 t606 t607 t608 t609 t610 t611 t612 t613 t614 t615 t616 t617 t618 t619 w _ ?side1 ?side2 A31.out).mono ?_); (case side1 => repeat (first | (with_reducible first | exact HI581.out | apply IsS100.alloc | apply IsS100.drewN | apply IsS100.drew | refine IsS100.far ?_ NB581_597.out _ ?_ | exact typ_of BK597 (by decide) (by decide) | refine typ_set ?_ _ _ _ | refine typ_alloc ?_ _ | refine typ_drewN ?_ _ | refine typ_drew ?_) | exact HI581.out)); (case side2 => repeat (first | (with_reducible first | exact HB.out | apply below_alloc | apply pw_below_drewN | apply below_drew1 | refine below_set ?_ (IsS100.ge HI581.out) | refine below_set ?_ GE597.out) | exact HB.out)); rintro e w49 ⟨rfl, hi, hb, hk⟩; have n0_ := Aside0.mk (KeepBut.blk hk (g' := gb597) (o := .cells #[.int .u64 t594, .int .u64 t595] 30 (0, 0)) (by (with_reducible repeat (first | refine blk_drewN ?_ _ | refine blk_drew ?_ | refine blk_alloc ?_ _)); exact BK597.out) NB597_581.out (by simp)); have n1_ := Aside0.mk (hb); have n2_ := Aside0.mk (hi); clear BK597; clear HB; clear HI581; have BK597 := n0_; have HB := n1_; have HI581 := n2_; clear n0_ n1_ n2_; (try clear hb); (try clear hb2); (try clear hk); (try clear hi)) | (go_at_call 19; (with_reducible refine (deck_Deck_Pos.calls g581 t610 t611 t612 t613 t614 t615 t616 t617 t618 t619 t620 t621 t622 t623 t624 t625 t626 t627 t628 t629 t630 w _ ?side1 ?side2 A33.out).mono ?_); (case side1 => repeat (first | (with_reducible first | exact HI581.out | apply IsS100.alloc | apply IsS100.drewN | apply IsS100.drew | refine IsS100.far ?_ NB581_597.out _ ?_ | exact typ_of BK597 (by decide) (by decide) | refine typ_set ?_ _ _ _ | refine typ_alloc ?_ _ | refine typ_drewN ?_ _ | refine typ_drew ?_) | exact HI581.out)); (case side2 => repeat (first | (with_reducible first | exact HB.out | apply below_alloc | apply pw_below_drewN | apply below_drew1 | refine below_set ?_ (IsS100.ge HI581.out) | refine below_set ?_ GE597.out) | exact HB.out)); rintro e w50 ⟨rfl, hi, hb, hk⟩; have n0_ := Aside0.mk (KeepBut.blk hk (g' := gb597) (o := .cells #[.int .u64 t594, .int .u64 t595] 30 (0, 0)) (by (with_reducible repeat (first | refine blk_drewN ?_ _ | refine blk_drew ?_ | refine blk_alloc ?_ _)); exact BK597.out) NB597_581.out (by simp)); have n1_ := Aside0.mk (hb); have n2_ := Aside0.mk (hi); clear BK597; clear HB; clear HI581; have BK597 := n0_; have HB := n1_; have HI581 := n2_; clear n0_ n1_ n2_; (try clear hb); (try clear hb2); (try clear hk); (try clear hi)))
           go_meet
           case rel => exact ⟨_, (true), (t621), (t622), (t623), (t624), (t625), (t626), (t627), (t628), (t629), (t630), (by first | rfl | (simp; done) | (simp [*]; done)), H', ⟨by have := HJ9.out; first | omega | exact Nat.le_refl _⟩, ⟨by (with_reducible repeat (first | refine blk_drewN ?_ _ | refine blk_drew ?_ | refine blk_alloc ?_ _)); exact BK597.out⟩, ⟨by repeat (first | (with_reducible first | exact HI581.out | apply IsS100.alloc | apply IsS100.drewN | apply IsS100.drew | refine IsS100.far ?_ NB581_597.out _ ?_ | exact typ_of BK597 (by decide) (by decide) | refine typ_set ?_ _ _ _ | refine typ_alloc ?_ _ | refine typ_drewN ?_ _ | refine typ_drew ?_) | exact HI581.out)⟩, ⟨by repeat (first | (with_reducible first | exact HB.out | apply below_alloc | apply pw_below_drewN | apply below_drew1 | refine below_set ?_ (IsS100.ge HI581.out) | refine below_set ?_ GE597.out) | exact HB.out)⟩⟩
         ·rw [if_neg c32] at H
          have c32b0 : (t609 == 1) = false := beq_eq_false_iff_ne.mpr c32
          have c32b1 : (t609 != 1) = true := bne_iff_ne.mpr c32
          have H' := Aside0.mk H
          clear H
          go_wp2_with (first | (go_at_call 23; (with_reducible refine (deck_Deck_Seek.calls g581 t584 t585 t586 t587 t588 t589 t590 t591 t592 t593 a0 a1 a2 a3 t598 t599 t600 t601 t602 t603 t604 t605 t606 t607 t608 w _ ?side1 ?side2 A29.out).mono ?_); (case side1 => repeat (first | (with_reducible first | exact HI581.out | apply IsS100.alloc | apply IsS100.drewN | apply IsS100.drew | refine IsS100.far ?_ NB581_597.out _ ?_ | exact typ_of BK597 (by decide) (by decide) | refine typ_set ?_ _ _ _ | refine typ_alloc ?_ _ | refine typ_drewN ?_ _ | refine typ_drew ?_) | exact HI581.out)); (case side2 => repeat (first | (with_reducible first | exact HB.out | apply below_alloc | apply pw_below_drewN | apply below_drew1 | refine below_set ?_ (IsS100.ge HI581.out) | refine below_set ?_ GE597.out) | exact HB.out)); rintro e w51 ⟨rfl, hi, hb, hk⟩; have n0_ := Aside0.mk (KeepBut.blk hk (g' := gb597) (o := .cells #[.int .u64 t594, .int .u64 t595] 30 (0, 0)) (by (with_reducible repeat (first | refine blk_drewN ?_ _ | refine blk_drew ?_ | refine blk_alloc ?_ _)); refine blk_put (cs := #[.int .u64 t594, .int .u64 0]) ?_ 1 _ rfl; (with_reducible repeat (first | refine blk_drewN ?_ _ | refine blk_drew ?_ | refine blk_alloc ?_ _)); refine blk_put (cs := #[.int .u64 0, .int .u64 0]) ?_ 0 _ rfl; (with_reducible repeat (first | refine blk_drewN ?_ _ | refine blk_drew ?_ | refine blk_alloc ?_ _)); exact BK597.out) NB597_581.out (by simp)); have n1_ := Aside0.mk (hb); have n2_ := Aside0.mk (hi); clear BK597; clear HB; clear HI581; have BK597 := n0_; have HB := n1_; have HI581 := n2_; clear n0_ n1_ n2_; (try clear hb); (try clear hb2); (try clear hk); (try clear hi)) | (go_at_call 18; (with_reducible refine (deck_Deck_Mode.calls g581 t599 t600 t601 t602 t603 t604 t605 t606 t607 t608 t609 t610 t611 t612 t613 t614 t615 t616 t617 t618 t619 w _ ?side1 ?side2 A31.out).mono ?_); (case side1 => repeat (first | (with_reducible first | exact HI581.out | apply IsS100.alloc | apply IsS100.drewN | apply IsS100.drew | refine IsS100.far ?_ NB581_597.out _ ?_ | exact typ_of BK597 (by decide) (by decide) | refine typ_set ?_ _ _ _ | refine typ_alloc ?_ _ | refine typ_drewN ?_ _ | refine typ_drew ?_) | exact HI581.out)); (case side2 => repeat (first | (with_reducible first | exact HB.out | apply below_alloc | apply pw_below_drewN | apply below_drew1 | refine below_set ?_ (IsS100.ge HI581.out) | refine below_set ?_ GE597.out) | exact HB.out)); rintro e w52 ⟨rfl, hi, hb, hk⟩; have n0_ := Aside0.mk (KeepBut.blk hk (g' := gb597) (o := .cells #[.int .u64 t594, .int .u64 t595] 30 (0, 0)) (by (with_reducible repeat (first | refine blk_drewN ?_ _ | refine blk_drew ?_ | refine blk_alloc ?_ _)); exact BK597.out) NB597_581.out (by simp)); have n1_ := Aside0.mk (hb); have n2_ := Aside0.mk (hi); clear BK597; clear HB; clear HI581; have BK597 := n0_; have HB := n1_; have HI581 := n2_; clear n0_ n1_ n2_; (try clear hb); (try clear hb2); (try clear hk); (try clear hi)))
          go_meet
          case rel => exact ⟨_, (true), (t610), (t611), (t612), (t613), (t614), (t615), (t616), (t617), (t618), (t619), (by first | rfl | (simp; done) | (simp [*]; done)), H', ⟨by have := HJ9.out; first | omega | exact Nat.le_refl _⟩, ⟨by (with_reducible repeat (first | refine blk_drewN ?_ _ | refine blk_drew ?_ | refine blk_alloc ?_ _)); exact BK597.out⟩, ⟨by repeat (first | (with_reducible first | exact HI581.out | apply IsS100.alloc | apply IsS100.drewN | apply IsS100.drew | refine IsS100.far ?_ NB581_597.out _ ?_ | exact typ_of BK597 (by decide) (by decide) | refine typ_set ?_ _ _ _ | refine typ_alloc ?_ _ | refine typ_drewN ?_ _ | refine typ_drew ?_) | exact HI581.out)⟩, ⟨by repeat (first | (with_reducible first | exact HB.out | apply below_alloc | apply pw_below_drewN | apply below_drew1 | refine below_set ?_ (IsS100.ge HI581.out) | refine below_set ?_ GE597.out) | exact HB.out)⟩⟩
        ·rw [if_neg c30] at H
         have c30b0 : (t598 == 0) = false := beq_eq_false_iff_ne.mpr c30
         have c30b1 : (t598 != 0) = true := bne_iff_ne.mpr c30
         have H' := Aside0.mk H
         clear H
         go_wp2_with (first | (go_at_call 23; (with_reducible refine (deck_Deck_Seek.calls g581 t584 t585 t586 t587 t588 t589 t590 t591 t592 t593 a0 a1 a2 a3 t598 t599 t600 t601 t602 t603 t604 t605 t606 t607 t608 w _ ?side1 ?side2 A29.out).mono ?_); (case side1 => repeat (first | (with_reducible first | exact HI581.out | apply IsS100.alloc | apply IsS100.drewN | apply IsS100.drew | refine IsS100.far ?_ NB581_597.out _ ?_ | exact typ_of BK597 (by decide) (by decide) | refine typ_set ?_ _ _ _ | refine typ_alloc ?_ _ | refine typ_drewN ?_ _ | refine typ_drew ?_) | exact HI581.out)); (case side2 => repeat (first | (with_reducible first | exact HB.out | apply below_alloc | apply pw_below_drewN | apply below_drew1 | refine below_set ?_ (IsS100.ge HI581.out) | refine below_set ?_ GE597.out) | exact HB.out)); rintro e w53 ⟨rfl, hi, hb, hk⟩; have n0_ := Aside0.mk (KeepBut.blk hk (g' := gb597) (o := .cells #[.int .u64 t594, .int .u64 t595] 30 (0, 0)) (by (with_reducible repeat (first | refine blk_drewN ?_ _ | refine blk_drew ?_ | refine blk_alloc ?_ _)); refine blk_put (cs := #[.int .u64 t594, .int .u64 0]) ?_ 1 _ rfl; (with_reducible repeat (first | refine blk_drewN ?_ _ | refine blk_drew ?_ | refine blk_alloc ?_ _)); refine blk_put (cs := #[.int .u64 0, .int .u64 0]) ?_ 0 _ rfl; (with_reducible repeat (first | refine blk_drewN ?_ _ | refine blk_drew ?_ | refine blk_alloc ?_ _)); exact BK597.out) NB597_581.out (by simp)); have n1_ := Aside0.mk (hb); have n2_ := Aside0.mk (hi); clear BK597; clear HB; clear HI581; have BK597 := n0_; have HB := n1_; have HI581 := n2_; clear n0_ n1_ n2_; (try clear hb); (try clear hb2); (try clear hk); (try clear hi)))
         go_meet
         case rel => exact ⟨_, (true), (t599), (t600), (t601), (t602), (t603), (t604), (t605), (t606), (t607), (t608), (by first | rfl | (simp; done) | (simp [*]; done)), H', ⟨by have := HJ9.out; first | omega | exact Nat.le_refl _⟩, ⟨by (with_reducible repeat (first | refine blk_drewN ?_ _ | refine blk_drew ?_ | refine blk_alloc ?_ _)); exact BK597.out⟩, ⟨by repeat (first | (with_reducible first | exact HI581.out | apply IsS100.alloc | apply IsS100.drewN | apply IsS100.drew | refine IsS100.far ?_ NB581_597.out _ ?_ | exact typ_of BK597 (by decide) (by decide) | refine typ_set ?_ _ _ _ | refine typ_alloc ?_ _ | refine typ_drewN ?_ _ | refine typ_drew ?_) | exact HI581.out)⟩, ⟨by repeat (first | (with_reducible first | exact HB.out | apply below_alloc | apply pw_below_drewN | apply below_drew1 | refine below_set ?_ (IsS100.ge HI581.out) | refine below_set ?_ GE597.out) | exact HB.out)⟩⟩
       ·rw [if_neg c28] at H
        have c28b0 : (t583 == t596) = false := beq_eq_false_iff_ne.mpr c28
        have c28b1 : (t583 != t596) = true := bne_iff_ne.mpr c28
        (first | rw [c28b0] | (simp only [i64_w, i32_w]; rw [c28b0]) | skip)
        have H' := Aside0.mk H
        clear H
        go_wp2
        go_meet
        case rel => exact ⟨_, (true), (t584), (t585), (t586), (t587), (t588), (t589), (t590), (t591), (t592), (t593), (by first | rfl | (simp; done) | (simp [*]; done)), H', ⟨by have := HJ9.out; first | omega | exact Nat.le_refl _⟩, ⟨by (with_reducible repeat (first | refine blk_drewN ?_ _ | refine blk_drew ?_ | refine blk_alloc ?_ _)); refine blk_put (cs := #[.int .u64 t594, .int .u64 0]) ?_ 1 _ rfl; (with_reducible repeat (first | refine blk_drewN ?_ _ | refine blk_drew ?_ | refine blk_alloc ?_ _)); refine blk_put (cs := #[.int .u64 0, .int .u64 0]) ?_ 0 _ rfl; (with_reducible repeat (first | refine blk_drewN ?_ _ | refine blk_drew ?_ | refine blk_alloc ?_ _)); exact BK597.out⟩, ⟨by repeat (first | (with_reducible first | exact HI581.out | apply IsS100.alloc | apply IsS100.drewN | apply IsS100.drew | refine IsS100.far ?_ NB581_597.out _ ?_ | exact typ_of BK597 (by decide) (by decide) | refine typ_set ?_ _ _ _ | refine typ_alloc ?_ _ | refine typ_drewN ?_ _ | refine typ_drew ?_) | exact HI581.out)⟩, ⟨by repeat (first | (with_reducible first | exact HB.out | apply below_alloc | apply pw_below_drewN | apply below_drew1 | refine below_set ?_ (IsS100.ge HI581.out) | refine below_set ?_ GE597.out) | exact HB.out)⟩⟩
      case rest =>
       as_aux_lemma =>
        clear HC22
        try clear c1
        try clear c2
        try clear p2
        try clear c3
        try clear c4
        try clear c5
        try clear c8
        try clear c12
        try clear c13
        try clear c13b0
        try clear c13b1
        try clear c14
        try clear c14b0
        try clear c15
        try clear c15b0
        try clear c16
        try clear c16b0
        try clear c17
        try clear c21
        try clear c22
        try clear c26
        try clear c28
        try clear c28b0
        try clear c28b1
        try clear c30
        try clear c30b0
        try clear c30b1
        try clear c32
        try clear c32b0
        try clear c32b1
        try clear c35
        try clear c35b0
        try clear c35b1
        try clear c37
        try clear c37b0
        try clear c37b1
        try clear hcz27_0
        try clear hcz27_1
        try clear hfz27_0
        try clear hfz27_1
        try clear p2
        obtain ⟨kq, x99_21, x582000_21, x582001_21, x582002_21, x582003_21, x582004_21, x582005_21, x582006_21, x582007_21, x582008_21, x582009_21, rfl, HA, HJ21, BK597, HI581, HB⟩ := hcut
        cases kq with
        | zero => exact absurd HA.out (by simp [tiklaw23_DeckForward.j1])
        | succ kj21 =>
         have H := HA.out
         clear HA
         simp only [tiklaw23_DeckForward.j1] at H
         by_cases c54 : x99_21 = true
         ·subst c54
          have H1 : (some false) = some r := by rw [if_pos rfl] at H; exact H
          clear H
          have H := H1
          clear H1
          exact absurd ((Option.some.inj H).trans hr_.out) (by simp)
         ·replace c54 := Bool.eq_false_iff.mpr c54
          subst c54
          have H1 : (if t596 = 0 then (tiklaw23_DeckForward.j2 kj21 a0 a1 a2 l5 x582000_21 x582001_21 x582002_21 x582003_21 x582004_21 x582005_21 x582006_21 x582007_21 x582008_21 x582009_21 t594 t595) else (tiklaw23_DeckForward.j2 kj21 a0 a1 a2 l5 x582000_21 x582001_21 x582002_21 x582003_21 x582004_21 x582005_21 x582006_21 x582007_21 x582008_21 x582009_21 1 1)) = some r := by rw [if_neg (show ¬ (false = true) by decide)] at H; exact H
          clear H
          have H := H1
          clear H1
          have HC55 := Aside0.mk H
          clear H
          go_upto_if 101 with (fail)
          go_cut [] (fun wc => ∃ (kq : Nat) (x598000_54 : Int) (x598001_54 : Int), Aside0 (tiklaw23_DeckForward.j2 kq a0 a1 a2 l5 x582000_21 x582001_21 x582002_21 x582003_21 x582004_21 x582005_21 x582006_21 x582007_21 x582008_21 x582009_21 x598000_54 x598001_54 = some r) ∧ Aside0 (kq ≤ kj21) ∧ Aside0 (wc.heap[gb597]? = some (.cells #[.int .u64 x598000_54, .int .u64 x598001_54] 30 (0, 0))) ∧ Aside0 (IsS100 w wc g581 x582000_21 x582001_21 x582002_21 x582003_21 x582004_21 x582005_21 x582006_21 x582007_21 x582008_21 x582009_21) ∧ Aside0 (Below w.heap.size w wc))
          case first =>
           have H := HC55.out
           clear HC55
           by_cases c56 : t596 = 0
           ·rw [if_pos c56] at H
            have c56b0 : (t596 == 0) = true := beq_iff_eq.mpr c56
            have c56b1 : (t596 != 0) = false := bne_eq_false_iff_eq.mpr c56
            clear c56
            (first | rw [c56b0] | (simp only [i64_w, i32_w]; rw [c56b0]) | skip)
            have H' := Aside0.mk H
            clear H
            go_wp2
            go_meet
            case rel => exact ⟨_, (t594), (t595), H', ⟨by have := HJ9.out; have := HJ21.out; first | omega | exact Nat.le_refl _⟩, ⟨by (with_reducible repeat (first | refine blk_drewN ?_ _ | refine blk_drew ?_ | refine blk_alloc ?_ _)); exact BK597.out⟩, ⟨by repeat (first | (with_reducible first | exact HI581.out | apply IsS100.alloc | apply IsS100.drewN | apply IsS100.drew | refine IsS100.far ?_ NB581_597.out _ ?_ | exact typ_of BK597 (by decide) (by decide) | refine typ_set ?_ _ _ _ | refine typ_alloc ?_ _ | refine typ_drewN ?_ _ | refine typ_drew ?_) | exact HI581.out)⟩, ⟨by repeat (first | (with_reducible first | exact HB.out | apply below_alloc | apply pw_below_drewN | apply below_drew1 | refine below_set ?_ (IsS100.ge HI581.out) | refine below_set ?_ GE597.out) | exact HB.out)⟩⟩
           ·rw [if_neg c56] at H
            have c56b0 : (t596 == 0) = false := beq_eq_false_iff_ne.mpr c56
            have c56b1 : (t596 != 0) = true := bne_iff_ne.mpr c56
            (first | rw [c56b0] | (simp only [i64_w, i32_w]; rw [c56b0]) | skip)
            have H' := Aside0.mk H
            clear H
            have hnb57 := NB597_581.out
            have hnc57 := NB581_597.out
            have hcz58_0 : wc.cell? ⟨gb597, 0, none⟩ = some (.int .u64 t594) := (blk_cell BK597.out 0).trans rfl
            have hcz58_1 : wc.cell? ⟨gb597, 1, none⟩ = some (.int .u64 t595) := (blk_cell BK597.out 1).trans rfl
            have hfz58_0 := blk_frozen BK597.out 0
            have hfz58_1 := blk_frozen BK597.out 1
            go_wp2
            go_meet
            case rel => exact ⟨_, (1), (1), H', ⟨by have := HJ9.out; have := HJ21.out; first | omega | exact Nat.le_refl _⟩, ⟨by (with_reducible repeat (first | refine blk_drewN ?_ _ | refine blk_drew ?_ | refine blk_alloc ?_ _)); refine blk_put (cs := #[.int .u64 1, .int .u64 t595]) ?_ 1 _ rfl; (with_reducible repeat (first | refine blk_drewN ?_ _ | refine blk_drew ?_ | refine blk_alloc ?_ _)); refine blk_put (cs := #[.int .u64 t594, .int .u64 t595]) ?_ 0 _ rfl; (with_reducible repeat (first | refine blk_drewN ?_ _ | refine blk_drew ?_ | refine blk_alloc ?_ _)); exact BK597.out⟩, ⟨by repeat (first | (with_reducible first | exact HI581.out | apply IsS100.alloc | apply IsS100.drewN | apply IsS100.drew | refine IsS100.far ?_ NB581_597.out _ ?_ | exact typ_of BK597 (by decide) (by decide) | refine typ_set ?_ _ _ _ | refine typ_alloc ?_ _ | refine typ_drewN ?_ _ | refine typ_drew ?_) | exact HI581.out)⟩, ⟨by repeat (first | (with_reducible first | exact HB.out | apply below_alloc | apply pw_below_drewN | apply below_drew1 | refine below_set ?_ (IsS100.ge HI581.out) | refine below_set ?_ GE597.out) | exact HB.out)⟩⟩
          case rest =>
           as_aux_lemma =>
            clear HC55
            try clear c1
            try clear c2
            try clear p2
            try clear c3
            try clear c4
            try clear c5
            try clear c8
            try clear c12
            try clear c13
            try clear c13b0
            try clear c13b1
            try clear c14
            try clear c14b0
            try clear c15
            try clear c15b0
            try clear c16
            try clear c16b0
            try clear c17
            try clear c21
            try clear c22
            try clear c26
            try clear c28
            try clear c28b0
            try clear c28b1
            try clear c30
            try clear c30b0
            try clear c30b1
            try clear c32
            try clear c32b0
            try clear c32b1
            try clear c35
            try clear c35b0
            try clear c35b1
            try clear c37
            try clear c37b0
            try clear c37b1
            try clear c54
            try clear c56
            try clear c56b0
            try clear c56b1
            try clear c57
            try clear hcz27_0
            try clear hcz27_1
            try clear hcz58_0
            try clear hcz58_1
            try clear hfz27_0
            try clear hfz27_1
            try clear hfz58_0
            try clear hfz58_1
            try clear p2
            obtain ⟨kq, x598000_54, x598001_54, HA, HJ54, BK597, HI581, HB⟩ := hcut
            cases kq with
            | zero => exact absurd HA.out (by simp [tiklaw23_DeckForward.j2])
            | succ kj54 =>
             have H := HA.out
             clear HA
             simp only [tiklaw23_DeckForward.j2] at H
             replace H := Option.bind_eq_some_iff.mp H
             obtain ⟨⟨t653, t654, t655, t656, t657, t658, t659, t660, t661, t662, t663⟩, A590, H⟩ := H
             replace H : (tiklaw23_DeckForward.l0 kj54 a1 a2 l5 a0 t653 0 t654 t655 t656 t657 t658 t659 t660 t661 t662 t663 x598000_54 x598001_54) = some r := H
             have A59 := Aside0.mk A590
             clear A590
             have H' := Aside0.mk H
             clear H
             go_wp2_with (first | ((with_reducible refine gate_callee (f := 19) rfl ?_); refine goesL_ (some 105) rfl rfl Tryd.func19 (by kernel_rfl) rfl #[.pointer (some ⟨g581, 0, none⟩)] rfl (by (try simp only [List.map_toArray, List.map_cons, List.map_nil]); first | done | rfl | (simp only [List.length_drop, List.length_take]; rfl)) ?_; (with_reducible refine (deck_Deck_Pos.calls g581 x582000_21 x582001_21 x582002_21 x582003_21 x582004_21 x582005_21 x582006_21 x582007_21 x582008_21 x582009_21 t653 t654 t655 t656 t657 t658 t659 t660 t661 t662 t663 w _ ?side1 ?side2 A59.out).mono ?_); (case side1 => repeat (first | (with_reducible first | exact HI581.out | apply IsS100.alloc | apply IsS100.drewN | apply IsS100.drew | refine IsS100.far ?_ NB581_597.out _ ?_ | exact typ_of BK597 (by decide) (by decide) | refine typ_set ?_ _ _ _ | refine typ_alloc ?_ _ | refine typ_drewN ?_ _ | refine typ_drew ?_) | exact HI581.out)); (case side2 => repeat (first | (with_reducible first | exact HB.out | apply below_alloc | apply pw_below_drewN | apply below_drew1 | refine below_set ?_ (IsS100.ge HI581.out) | refine below_set ?_ GE597.out) | exact HB.out)); rintro e w60 ⟨rfl, hi, hb, hk⟩; refine ⟨_, rfl, ?_⟩; have n0_ := Aside0.mk (KeepBut.blk hk (g' := gb597) (o := .cells #[.int .u64 x598000_54, .int .u64 x598001_54] 30 (0, 0)) (by (with_reducible repeat (first | refine blk_drewN ?_ _ | refine blk_drew ?_ | refine blk_alloc ?_ _)); exact BK597.out) NB597_581.out (by simp)); have n1_ := Aside0.mk (hb); have n2_ := Aside0.mk (hi); clear BK597; clear HB; clear HI581; have BK597 := n0_; have HB := n1_; have HI581 := n2_; clear n0_ n1_ n2_; (try clear hb); (try clear hb2); (try clear hk); (try clear hi)))
             go_loopg [17, 18, 19] kj54 (fun kq v17 v18 v19 w' => ∃ (x17_4 : Int) (x18_4 : Int) (x19_4 : Int) (x582000_4 : Int) (x582001_4 : Int) (x582002_4 : Int) (x582003_4 : Int) (x582004_4 : Bool) (x582005_4 : Int) (x582006_4 : Int) (x582007_4 : Int) (x582008_4 : Int) (x582009_4 : Int), v17 = .int .u64 x17_4 ∧ v18 = .int .u64 x18_4 ∧ v19 = .int .i64 x19_4 ∧ Aside0 (tiklaw23_DeckForward.l0 kq a1 a2 l5 x17_4 x18_4 x19_4 x582000_4 x582001_4 x582002_4 x582003_4 x582004_4 x582005_4 x582006_4 x582007_4 x582008_4 x582009_4 x598000_54 x598001_54 = some r) ∧ Aside0 (kq ≤ kj54) ∧ Aside0 (w'.heap[gb597]? = some (.cells #[.int .u64 x598000_54, .int .u64 x598001_54] 30 (0, 0))) ∧ Aside0 (IsS100 w w' g581 x582000_4 x582001_4 x582002_4 x582003_4 x582004_4 x582005_4 x582006_4 x582007_4 x582008_4 x582009_4) ∧ Aside0 (Below w.heap.size w w'))
             case atStart => exact ⟨(a0), (t653), (0), (t654), (t655), (t656), (t657), (t658), (t659), (t660), (t661), (t662), (t663), (by first | rfl | (simp; done) | (simp [*]; done)), (by first | rfl | (simp; done) | (simp [*]; done)), (by first | rfl | (simp; done) | (simp [*]; done)), H', ⟨Nat.le_refl _⟩, ⟨by (with_reducible repeat (first | refine blk_drewN ?_ _ | refine blk_drew ?_ | refine blk_alloc ?_ _)); exact BK597.out⟩, ⟨by repeat (first | (with_reducible first | exact HI581.out | apply IsS100.alloc | apply IsS100.drewN | apply IsS100.drew | refine IsS100.far ?_ NB581_597.out _ ?_ | exact typ_of BK597 (by decide) (by decide) | refine typ_set ?_ _ _ _ | refine typ_alloc ?_ _ | refine typ_drewN ?_ _ | refine typ_drew ?_) | exact HI581.out)⟩, ⟨by repeat (first | (with_reducible first | exact HB.out | apply below_alloc | apply pw_below_drewN | apply below_drew1 | refine below_set ?_ (IsS100.ge HI581.out) | refine below_set ?_ GE597.out) | exact HB.out)⟩⟩
             case round =>
              as_aux_lemma =>
               clear H'
               try clear c1
               try clear c2
               try clear p2
               try clear c3
               try clear c4
               try clear c5
               try clear c8
               try clear c12
               try clear c13
               try clear c13b0
               try clear c13b1
               try clear c14
               try clear c14b0
               try clear c15
               try clear c15b0
               try clear c16
               try clear c16b0
               try clear c17
               try clear c19
               try clear c21
               try clear c22
               try clear c26
               try clear c28
               try clear c28b0
               try clear c28b1
               try clear c30
               try clear c30b0
               try clear c30b1
               try clear c32
               try clear c32b0
               try clear c32b1
               try clear c35
               try clear c35b0
               try clear c35b1
               try clear c37
               try clear c37b0
               try clear c37b1
               try clear c54
               try clear c56
               try clear c56b0
               try clear c56b1
               try clear c57
               try clear hcz27_0
               try clear hcz27_1
               try clear hcz58_0
               try clear hcz58_1
               try clear hfz27_0
               try clear hfz27_1
               try clear hfz58_0
               try clear hfz58_1
               try clear p2
               obtain ⟨x17_4, x18_4, x19_4, x582000_4, x582001_4, x582002_4, x582003_4, x582004_4, x582005_4, x582006_4, x582007_4, x582008_4, x582009_4, rfl, rfl, rfl, HA, HK4, BK597, HI581, HB⟩ := hrel
               cases gk with
               | zero => exact absurd HA.out (by simp [tiklaw23_DeckForward.l0])
               | succ k4 =>
                have H := HA.out
                clear HA
                simp only [tiklaw23_DeckForward.l0] at H
                by_cases c61 : x19_4 < (l5.length : Int)
                ·rw [if_pos c61] at H
                 have c61b0 : decide (x19_4 < (l5.length : Int)) = true := decide_eq_true c61
                 clear c61
                 by_cases c62 : 0 ≤ x19_4
                 ·rw [if_pos c62] at H
                  have c62b0 : decide (0 ≤ x19_4) = true := decide_eq_true c62
                  clear c62
                  by_cases c63 : (rd l5 x19_4) > 1073741824
                  ·rw [if_pos c63] at H
                   have c63b0 : decide (1073741824 < (rd l5 x19_4)) = true := decide_eq_true c63
                   clear c63
                   replace H := Option.bind_eq_some_iff.mp H
                   obtain ⟨t665, A640, H⟩ := H
                   replace H : (some t665) = some r := H
                   have A64 := Aside0.mk A640
                   clear A640
                   obtain rfl := Option.some.inj H
                   have p664 : 0 ≤ (x19_4 : Int) := of_decide_eq_true (by first | (with_reducible assumption) | assumption)
                   have q664 : x19_4 < (l5.length : Int) := of_decide_eq_true (by first | (with_reducible assumption) | assumption)
                   obtain ⟨ad664, e664, hx664_0⟩ := Kd.at_int HR5.out x19_4 p664 q664
                   cases e664
                   replace hx664_0 := (HB.out.cell (World.block_lt_of_cell? w _ hx664_0)).trans hx664_0
                   replace p664 := eq_true p664
                   replace q664 := eq_true q664
                   go_wp2_with (first | ((with_reducible refine gate_callee (f := 12) rfl ?_); refine goesL_ (some 117) rfl rfl Tryd.func12 (by kernel_rfl) rfl #[] rfl (by (try simp only [List.map_toArray, List.map_cons, List.map_nil]); first | done | rfl | (simp only [List.length_drop, List.length_take]; rfl)) ?_; (with_reducible refine (tiklaw23_first.calls k4  t665 _ ?side1 A64.out).mono ?_); (case side1 => first | (with_reducible exact HT.out) | exact tabAt HT.out (by repeat (first | (with_reducible first | exact HB.out | apply below_alloc | apply pw_below_drewN | apply below_drew1 | refine below_set ?_ (IsS100.ge HI581.out) | refine below_set ?_ GE597.out) | exact HB.out))); rintro e w65 ⟨rfl, hb⟩; refine ⟨_, rfl, ?_⟩; have n0_ := Aside0.mk (blk_below (g := gb597) (o := .cells #[.int .u64 x598000_54, .int .u64 x598001_54] 30 (0, 0)) (by (with_reducible repeat (first | refine blk_drewN ?_ _ | refine blk_drew ?_ | refine blk_alloc ?_ _)); exact BK597.out) hb); have n1_ := Aside0.mk (IsS100.below (by repeat (first | (with_reducible first | exact HI581.out | apply IsS100.alloc | apply IsS100.drewN | apply IsS100.drew | refine IsS100.far ?_ NB581_597.out _ ?_ | exact typ_of BK597 (by decide) (by decide) | refine typ_set ?_ _ _ _ | refine typ_alloc ?_ _ | refine typ_drewN ?_ _ | refine typ_drew ?_) | exact HI581.out)) hb); have n2_ := Aside0.mk (below_step (by repeat (first | (with_reducible first | exact HB.out | apply below_alloc | apply pw_below_drewN | apply below_drew1 | refine below_set ?_ (IsS100.ge HI581.out) | refine below_set ?_ GE597.out) | exact HB.out)) hb); clear BK597; clear HI581; clear HB; have BK597 := n0_; have HI581 := n1_; have HB := n2_; clear n0_ n1_ n2_; (try clear hb); (try clear hb2); (try clear hk); (try clear hi)))
                   go_ret
                   exact ⟨by first | rfl | (simp [errW_none, errW_some] <;> rfl) | (simp [*, errW_none, errW_some] <;> rfl), by repeat (first | (with_reducible first | exact HB.out | apply below_alloc | apply pw_below_drewN | apply below_drew1 | refine below_set ?_ (IsS100.ge HI581.out) | refine below_set ?_ GE597.out) | exact HB.out)⟩
                  ·rw [if_neg c63] at H
                   have c63b0 : decide (1073741824 < (rd l5 x19_4)) = false := decide_eq_false c63
                   clear c63
                   replace H := Option.bind_eq_some_iff.mp H
                   obtain ⟨⟨t667, t668, t669, t670, t671, t672, t673, t674, t675, t676⟩, A660, H⟩ := H
                   replace H : ((deck_Deck_Pos.f t667 t668 t669 t670 t671 t672 t673 t674 t675 t676).bind fun bt677 => (if bt677.1 < x18_4 then (tiklaw23_DeckForward.j4 k4 a1 a2 l5 (IntKind.u64.wrap (x17_4 + (rd l5 x19_4))) x19_4 true bt677.2.1 bt677.2.2.1 bt677.2.2.2.1 bt677.2.2.2.2.1 bt677.2.2.2.2.2.1 bt677.2.2.2.2.2.2.1 bt677.2.2.2.2.2.2.2.1 bt677.2.2.2.2.2.2.2.2.1 bt677.2.2.2.2.2.2.2.2.2.1 bt677.2.2.2.2.2.2.2.2.2.2 x598000_54 x598001_54) else ((deck_Deck_Pos.f bt677.2.1 bt677.2.2.1 bt677.2.2.2.1 bt677.2.2.2.2.1 bt677.2.2.2.2.2.1 bt677.2.2.2.2.2.2.1 bt677.2.2.2.2.2.2.2.1 bt677.2.2.2.2.2.2.2.2.1 bt677.2.2.2.2.2.2.2.2.2.1 bt677.2.2.2.2.2.2.2.2.2.2).bind fun bt688 => (if bt688.1 > a2 then (tiklaw23_DeckForward.j4 k4 a1 a2 l5 (IntKind.u64.wrap (x17_4 + (rd l5 x19_4))) x19_4 true bt688.2.1 bt688.2.2.1 bt688.2.2.2.1 bt688.2.2.2.2.1 bt688.2.2.2.2.2.1 bt688.2.2.2.2.2.2.1 bt688.2.2.2.2.2.2.2.1 bt688.2.2.2.2.2.2.2.2.1 bt688.2.2.2.2.2.2.2.2.2.1 bt688.2.2.2.2.2.2.2.2.2.2 x598000_54 x598001_54) else ((deck_Deck_Mode.f bt688.2.1 bt688.2.2.1 bt688.2.2.2.1 bt688.2.2.2.2.1 bt688.2.2.2.2.2.1 bt688.2.2.2.2.2.2.1 bt688.2.2.2.2.2.2.2.1 bt688.2.2.2.2.2.2.2.2.1 bt688.2.2.2.2.2.2.2.2.2.1 bt688.2.2.2.2.2.2.2.2.2.2).bind fun bt699 => (if bt699.1 = 1 then (tiklaw23_DeckForward.j4 k4 a1 a2 l5 (IntKind.u64.wrap (x17_4 + (rd l5 x19_4))) x19_4 true bt699.2.1 bt699.2.2.1 bt699.2.2.2.1 bt699.2.2.2.2.1 bt699.2.2.2.2.2.1 bt699.2.2.2.2.2.2.1 bt699.2.2.2.2.2.2.2.1 bt699.2.2.2.2.2.2.2.2.1 bt699.2.2.2.2.2.2.2.2.2.1 bt699.2.2.2.2.2.2.2.2.2.2 x598000_54 x598001_54) else ((deck_Deck_Mode.f bt699.2.1 bt699.2.2.1 bt699.2.2.2.1 bt699.2.2.2.2.1 bt699.2.2.2.2.2.1 bt699.2.2.2.2.2.2.1 bt699.2.2.2.2.2.2.2.1 bt699.2.2.2.2.2.2.2.2.1 bt699.2.2.2.2.2.2.2.2.2.1 bt699.2.2.2.2.2.2.2.2.2.2).bind fun bt710 => ((deck_Deck_Pos.f bt710.2.1 bt710.2.2.1 bt710.2.2.2.1 bt710.2.2.2.2.1 bt710.2.2.2.2.2.1 bt710.2.2.2.2.2.2.1 bt710.2.2.2.2.2.2.2.1 bt710.2.2.2.2.2.2.2.2.1 bt710.2.2.2.2.2.2.2.2.2.1 bt710.2.2.2.2.2.2.2.2.2.2).bind fun bt721 => (tiklaw23_DeckForward.j4 k4 a1 a2 l5 (IntKind.u64.wrap (x17_4 + (rd l5 x19_4))) x19_4 ((bt710.1 == 0) != (bt721.1 == a2)) bt721.2.1 bt721.2.2.1 bt721.2.2.2.1 bt721.2.2.2.2.1 bt721.2.2.2.2.2.1 bt721.2.2.2.2.2.2.1 bt721.2.2.2.2.2.2.2.1 bt721.2.2.2.2.2.2.2.2.1 bt721.2.2.2.2.2.2.2.2.2.1 bt721.2.2.2.2.2.2.2.2.2.2 x598000_54 x598001_54))))))))) = some r := H
                   have A66 := Aside0.mk A660
                   clear A660
                   have HC67 := Aside0.mk H
                   clear H
                   have p664 : 0 ≤ (x19_4 : Int) := of_decide_eq_true (by first | (with_reducible assumption) | assumption)
                   have q664 : x19_4 < (l5.length : Int) := of_decide_eq_true (by first | (with_reducible assumption) | assumption)
                   obtain ⟨ad664, e664, hx664_0⟩ := Kd.at_int HR5.out x19_4 p664 q664
                   cases e664
                   replace hx664_0 := (HB.out.cell (World.block_lt_of_cell? w _ hx664_0)).trans hx664_0
                   replace p664 := eq_true p664
                   replace q664 := eq_true q664
                   have p666 : 0 ≤ (x19_4 : Int) := of_decide_eq_true (by first | (with_reducible assumption) | assumption)
                   have q666 : x19_4 < (l5.length : Int) := of_decide_eq_true (by first | (with_reducible assumption) | assumption)
                   obtain ⟨ad666, e666, hx666_0⟩ := Kd.at_int HR5.out x19_4 p666 q666
                   obtain rfl : ad664 = ad666 := (by injection e666)
                   replace hx666_0 := (HB.out.cell (World.block_lt_of_cell? w _ hx666_0)).trans hx666_0
                   replace p666 := eq_true p666
                   replace q666 := eq_true q666
                   go_upto_region 20 with (first | ((with_reducible refine gate_callee (f := 25) rfl ?_); refine goesL_ (some 128) rfl rfl Tryd.func25 (by kernel_rfl) rfl #[.pointer (some ⟨g581, 0, none⟩), .int .u64 (IntKind.u64.wrap (x17_4 + (rd l5 x19_4))), .int .u64 a1, .int .u64 a2] rfl (by (try simp only [List.map_toArray, List.map_cons, List.map_nil]); first | done | rfl | (simp only [List.length_drop, List.length_take]; rfl)) ?_; (with_reducible refine (deck_Deck_Tick.calls g581 x582000_4 x582001_4 x582002_4 x582003_4 x582004_4 x582005_4 x582006_4 x582007_4 x582008_4 x582009_4 (IntKind.u64.wrap (x17_4 + (rd l5 x19_4))) a1 a2 t667 t668 t669 t670 t671 t672 t673 t674 t675 t676 w _ ?side1 ?side2 A66.out).mono ?_); (case side1 => repeat (first | (with_reducible first | exact HI581.out | apply IsS100.alloc | apply IsS100.drewN | apply IsS100.drew | refine IsS100.far ?_ NB581_597.out _ ?_ | exact typ_of BK597 (by decide) (by decide) | refine typ_set ?_ _ _ _ | refine typ_alloc ?_ _ | refine typ_drewN ?_ _ | refine typ_drew ?_) | exact HI581.out)); (case side2 => repeat (first | (with_reducible first | exact HB.out | apply below_alloc | apply pw_below_drewN | apply below_drew1 | refine below_set ?_ (IsS100.ge HI581.out) | refine below_set ?_ GE597.out) | exact HB.out)); rintro e w68 ⟨rfl, hi, hb, hk⟩; refine ⟨_, rfl, ?_⟩; have n0_ := Aside0.mk (KeepBut.blk hk (g' := gb597) (o := .cells #[.int .u64 x598000_54, .int .u64 x598001_54] 30 (0, 0)) (by (with_reducible repeat (first | refine blk_drewN ?_ _ | refine blk_drew ?_ | refine blk_alloc ?_ _)); exact BK597.out) NB597_581.out (by simp)); have n1_ := Aside0.mk (hb); have n2_ := Aside0.mk (hi); clear BK597; clear HB; clear HI581; have BK597 := n0_; have HB := n1_; have HI581 := n2_; clear n0_ n1_ n2_; (try clear hb); (try clear hb2); (try clear hk); (try clear hi)))
                   (try simp only [Act.put, List.setIfInBounds_toArray, List.set_cons_zero, List.set_cons_succ])
                   go_cut [153] (fun v153 wc => ∃ (kq : Nat) (x153_66 : Bool) (x582000_66 : Int) (x582001_66 : Int) (x582002_66 : Int) (x582003_66 : Int) (x582004_66 : Bool) (x582005_66 : Int) (x582006_66 : Int) (x582007_66 : Int) (x582008_66 : Int) (x582009_66 : Int), v153 = .bool x153_66 ∧ Aside0 (tiklaw23_DeckForward.j4 kq a1 a2 l5 (IntKind.u64.wrap (x17_4 + (rd l5 x19_4))) x19_4 x153_66 x582000_66 x582001_66 x582002_66 x582003_66 x582004_66 x582005_66 x582006_66 x582007_66 x582008_66 x582009_66 x598000_54 x598001_54 = some r) ∧ Aside0 (kq ≤ k4) ∧ Aside0 (wc.heap[gb597]? = some (.cells #[.int .u64 x598000_54, .int .u64 x598001_54] 30 (0, 0))) ∧ Aside0 (IsS100 w wc g581 x582000_66 x582001_66 x582002_66 x582003_66 x582004_66 x582005_66 x582006_66 x582007_66 x582008_66 x582009_66) ∧ Aside0 (Below w.heap.size w wc))
                   case first =>
                    have H := HC67.out
                    clear HC67
                    replace H := Option.bind_eq_some_iff.mp H
                    obtain ⟨⟨t677, t678, t679, t680, t681, t682, t683, t684, t685, t686, t687⟩, A690, H⟩ := H
                    replace H : (if t677 < x18_4 then (tiklaw23_DeckForward.j4 k4 a1 a2 l5 (IntKind.u64.wrap (x17_4 + (rd l5 x19_4))) x19_4 true t678 t679 t680 t681 t682 t683 t684 t685 t686 t687 x598000_54 x598001_54) else ((deck_Deck_Pos.f t678 t679 t680 t681 t682 t683 t684 t685 t686 t687).bind fun bt688 => (if bt688.1 > a2 then (tiklaw23_DeckForward.j4 k4 a1 a2 l5 (IntKind.u64.wrap (x17_4 + (rd l5 x19_4))) x19_4 true bt688.2.1 bt688.2.2.1 bt688.2.2.2.1 bt688.2.2.2.2.1 bt688.2.2.2.2.2.1 bt688.2.2.2.2.2.2.1 bt688.2.2.2.2.2.2.2.1 bt688.2.2.2.2.2.2.2.2.1 bt688.2.2.2.2.2.2.2.2.2.1 bt688.2.2.2.2.2.2.2.2.2.2 x598000_54 x598001_54) else ((deck_Deck_Mode.f bt688.2.1 bt688.2.2.1 bt688.2.2.2.1 bt688.2.2.2.2.1 bt688.2.2.2.2.2.1 bt688.2.2.2.2.2.2.1 bt688.2.2.2.2.2.2.2.1 bt688.2.2.2.2.2.2.2.2.1 bt688.2.2.2.2.2.2.2.2.2.1 bt688.2.2.2.2.2.2.2.2.2.2).bind fun bt699 => (if bt699.1 = 1 then (tiklaw23_DeckForward.j4 k4 a1 a2 l5 (IntKind.u64.wrap (x17_4 + (rd l5 x19_4))) x19_4 true bt699.2.1 bt699.2.2.1 bt699.2.2.2.1 bt699.2.2.2.2.1 bt699.2.2.2.2.2.1 bt699.2.2.2.2.2.2.1 bt699.2.2.2.2.2.2.2.1 bt699.2.2.2.2.2.2.2.2.1 bt699.2.2.2.2.2.2.2.2.2.1 bt699.2.2.2.2.2.2.2.2.2.2 x598000_54 x598001_54) else ((deck_Deck_Mode.f bt699.2.1 bt699.2.2.1 bt699.2.2.2.1 bt699.2.2.2.2.1 bt699.2.2.2.2.2.1 bt699.2.2.2.2.2.2.1 bt699.2.2.2.2.2.2.2.1 bt699.2.2.2.2.2.2.2.2.1 bt699.2.2.2.2.2.2.2.2.2.1 bt699.2.2.2.2.2.2.2.2.2.2).bind fun bt710 => ((deck_Deck_Pos.f bt710.2.1 bt710.2.2.1 bt710.2.2.2.1 bt710.2.2.2.2.1 bt710.2.2.2.2.2.1 bt710.2.2.2.2.2.2.1 bt710.2.2.2.2.2.2.2.1 bt710.2.2.2.2.2.2.2.2.1 bt710.2.2.2.2.2.2.2.2.2.1 bt710.2.2.2.2.2.2.2.2.2.2).bind fun bt721 => (tiklaw23_DeckForward.j4 k4 a1 a2 l5 (IntKind.u64.wrap (x17_4 + (rd l5 x19_4))) x19_4 ((bt710.1 == 0) != (bt721.1 == a2)) bt721.2.1 bt721.2.2.1 bt721.2.2.2.1 bt721.2.2.2.2.1 bt721.2.2.2.2.2.1 bt721.2.2.2.2.2.2.1 bt721.2.2.2.2.2.2.2.1 bt721.2.2.2.2.2.2.2.2.1 bt721.2.2.2.2.2.2.2.2.2.1 bt721.2.2.2.2.2.2.2.2.2.2 x598000_54 x598001_54)))))))) = some r := H
                    have A69 := Aside0.mk A690
                    clear A690
                    by_cases c70 : t677 < x18_4
                    ·rw [if_pos c70] at H
                     have c70b0 : decide (t677 < x18_4) = true := decide_eq_true c70
                     clear c70
                     (first | rw [c70b0] | (simp only [i64_w, i32_w]; rw [c70b0]) | skip)
                     have H' := Aside0.mk H
                     clear H
                     go_wp2_with (first | ((with_reducible refine gate_callee (f := 19) rfl ?_); refine goesL_ (some 130) rfl rfl Tryd.func19 (by kernel_rfl) rfl #[.pointer (some ⟨g581, 0, none⟩)] rfl (by (try simp only [List.map_toArray, List.map_cons, List.map_nil]); first | done | rfl | (simp only [List.length_drop, List.length_take]; rfl)) ?_; (with_reducible refine (deck_Deck_Pos.calls g581 t667 t668 t669 t670 t671 t672 t673 t674 t675 t676 t677 t678 t679 t680 t681 t682 t683 t684 t685 t686 t687 w _ ?side1 ?side2 A69.out).mono ?_); (case side1 => repeat (first | (with_reducible first | exact HI581.out | apply IsS100.alloc | apply IsS100.drewN | apply IsS100.drew | refine IsS100.far ?_ NB581_597.out _ ?_ | exact typ_of BK597 (by decide) (by decide) | refine typ_set ?_ _ _ _ | refine typ_alloc ?_ _ | refine typ_drewN ?_ _ | refine typ_drew ?_) | exact HI581.out)); (case side2 => repeat (first | (with_reducible first | exact HB.out | apply below_alloc | apply pw_below_drewN | apply below_drew1 | refine below_set ?_ (IsS100.ge HI581.out) | refine below_set ?_ GE597.out) | exact HB.out)); rintro e w71 ⟨rfl, hi, hb, hk⟩; refine ⟨_, rfl, ?_⟩; have n0_ := Aside0.mk (KeepBut.blk hk (g' := gb597) (o := .cells #[.int .u64 x598000_54, .int .u64 x598001_54] 30 (0, 0)) (by (with_reducible repeat (first | refine blk_drewN ?_ _ | refine blk_drew ?_ | refine blk_alloc ?_ _)); exact BK597.out) NB597_581.out (by simp)); have n1_ := Aside0.mk (hb); have n2_ := Aside0.mk (hi); clear BK597; clear HB; clear HI581; have BK597 := n0_; have HB := n1_; have HI581 := n2_; clear n0_ n1_ n2_; (try clear hb); (try clear hb2); (try clear hk); (try clear hi)))
                     go_meet
                     case rel => exact ⟨_, (true), (t678), (t679), (t680), (t681), (t682), (t683), (t684), (t685), (t686), (t687), (by first | rfl | (simp; done) | (simp [*]; done)), H', ⟨by have := HJ9.out; have := HJ21.out; have := HJ54.out; have := HK4.out; first | omega | exact Nat.le_refl _⟩, ⟨by (with_reducible repeat (first | refine blk_drewN ?_ _ | refine blk_drew ?_ | refine blk_alloc ?_ _)); exact BK597.out⟩, ⟨by repeat (first | (with_reducible first | exact HI581.out | apply IsS100.alloc | apply IsS100.drewN | apply IsS100.drew | refine IsS100.far ?_ NB581_597.out _ ?_ | exact typ_of BK597 (by decide) (by decide) | refine typ_set ?_ _ _ _ | refine typ_alloc ?_ _ | refine typ_drewN ?_ _ | refine typ_drew ?_) | exact HI581.out)⟩, ⟨by repeat (first | (with_reducible first | exact HB.out | apply below_alloc | apply pw_below_drewN | apply below_drew1 | refine below_set ?_ (IsS100.ge HI581.out) | refine below_set ?_ GE597.out) | exact HB.out)⟩⟩
                    ·rw [if_neg c70] at H
                     have c70b0 : decide (t677 < x18_4) = false := decide_eq_false c70
                     clear c70
                     (first | rw [c70b0] | (simp only [i64_w, i32_w]; rw [c70b0]) | skip)
                     replace H := Option.bind_eq_some_iff.mp H
                     obtain ⟨⟨t688, t689, t690, t691, t692, t693, t694, t695, t696, t697, t698⟩, A720, H⟩ := H
                     replace H : (if t688 > a2 then (tiklaw23_DeckForward.j4 k4 a1 a2 l5 (IntKind.u64.wrap (x17_4 + (rd l5 x19_4))) x19_4 true t689 t690 t691 t692 t693 t694 t695 t696 t697 t698 x598000_54 x598001_54) else ((deck_Deck_Mode.f t689 t690 t691 t692 t693 t694 t695 t696 t697 t698).bind fun bt699 => (if bt699.1 = 1 then (tiklaw23_DeckForward.j4 k4 a1 a2 l5 (IntKind.u64.wrap (x17_4 + (rd l5 x19_4))) x19_4 true bt699.2.1 bt699.2.2.1 bt699.2.2.2.1 bt699.2.2.2.2.1 bt699.2.2.2.2.2.1 bt699.2.2.2.2.2.2.1 bt699.2.2.2.2.2.2.2.1 bt699.2.2.2.2.2.2.2.2.1 bt699.2.2.2.2.2.2.2.2.2.1 bt699.2.2.2.2.2.2.2.2.2.2 x598000_54 x598001_54) else ((deck_Deck_Mode.f bt699.2.1 bt699.2.2.1 bt699.2.2.2.1 bt699.2.2.2.2.1 bt699.2.2.2.2.2.1 bt699.2.2.2.2.2.2.1 bt699.2.2.2.2.2.2.2.1 bt699.2.2.2.2.2.2.2.2.1 bt699.2.2.2.2.2.2.2.2.2.1 bt699.2.2.2.2.2.2.2.2.2.2).bind fun bt710 => ((deck_Deck_Pos.f bt710.2.1 bt710.2.2.1 bt710.2.2.2.1 bt710.2.2.2.2.1 bt710.2.2.2.2.2.1 bt710.2.2.2.2.2.2.1 bt710.2.2.2.2.2.2.2.1 bt710.2.2.2.2.2.2.2.2.1 bt710.2.2.2.2.2.2.2.2.2.1 bt710.2.2.2.2.2.2.2.2.2.2).bind fun bt721 => (tiklaw23_DeckForward.j4 k4 a1 a2 l5 (IntKind.u64.wrap (x17_4 + (rd l5 x19_4))) x19_4 ((bt710.1 == 0) != (bt721.1 == a2)) bt721.2.1 bt721.2.2.1 bt721.2.2.2.1 bt721.2.2.2.2.1 bt721.2.2.2.2.2.1 bt721.2.2.2.2.2.2.1 bt721.2.2.2.2.2.2.2.1 bt721.2.2.2.2.2.2.2.2.1 bt721.2.2.2.2.2.2.2.2.2.1 bt721.2.2.2.2.2.2.2.2.2.2 x598000_54 x598001_54)))))) = some r := H
                     have A72 := Aside0.mk A720
                     clear A720
                     by_cases c73 : t688 > a2
                     ·rw [if_pos c73] at H
                      have c73b0 : decide (a2 < t688) = true := decide_eq_true c73
                      clear c73
                      have H' := Aside0.mk H
                      clear H
                      go_wp2_with (first | ((with_reducible refine gate_callee (f := 19) rfl ?_); refine goesL_ (some 130) rfl rfl Tryd.func19 (by kernel_rfl) rfl #[.pointer (some ⟨g581, 0, none⟩)] rfl (by (try simp only [List.map_toArray, List.map_cons, List.map_nil]); first | done | rfl | (simp only [List.length_drop, List.length_take]; rfl)) ?_; (with_reducible refine (deck_Deck_Pos.calls g581 t667 t668 t669 t670 t671 t672 t673 t674 t675 t676 t677 t678 t679 t680 t681 t682 t683 t684 t685 t686 t687 w _ ?side1 ?side2 A69.out).mono ?_); (case side1 => repeat (first | (with_reducible first | exact HI581.out | apply IsS100.alloc | apply IsS100.drewN | apply IsS100.drew | refine IsS100.far ?_ NB581_597.out _ ?_ | exact typ_of BK597 (by decide) (by decide) | refine typ_set ?_ _ _ _ | refine typ_alloc ?_ _ | refine typ_drewN ?_ _ | refine typ_drew ?_) | exact HI581.out)); (case side2 => repeat (first | (with_reducible first | exact HB.out | apply below_alloc | apply pw_below_drewN | apply below_drew1 | refine below_set ?_ (IsS100.ge HI581.out) | refine below_set ?_ GE597.out) | exact HB.out)); rintro e w74 ⟨rfl, hi, hb, hk⟩; refine ⟨_, rfl, ?_⟩; have n0_ := Aside0.mk (KeepBut.blk hk (g' := gb597) (o := .cells #[.int .u64 x598000_54, .int .u64 x598001_54] 30 (0, 0)) (by (with_reducible repeat (first | refine blk_drewN ?_ _ | refine blk_drew ?_ | refine blk_alloc ?_ _)); exact BK597.out) NB597_581.out (by simp)); have n1_ := Aside0.mk (hb); have n2_ := Aside0.mk (hi); clear BK597; clear HB; clear HI581; have BK597 := n0_; have HB := n1_; have HI581 := n2_; clear n0_ n1_ n2_; (try clear hb); (try clear hb2); (try clear hk); (try clear hi)) | (go_at_call 19; (with_reducible refine (deck_Deck_Pos.calls g581 t678 t679 t680 t681 t682 t683 t684 t685 t686 t687 t688 t689 t690 t691 t692 t693 t694 t695 t696 t697 t698 w _ ?side1 ?side2 A72.out).mono ?_); (case side1 => repeat (first | (with_reducible first | exact HI581.out | apply IsS100.alloc | apply IsS100.drewN | apply IsS100.drew | refine IsS100.far ?_ NB581_597.out _ ?_ | exact typ_of BK597 (by decide) (by decide) | refine typ_set ?_ _ _ _ | refine typ_alloc ?_ _ | refine typ_drewN ?_ _ | refine typ_drew ?_) | exact HI581.out)); (case side2 => repeat (first | (with_reducible first | exact HB.out | apply below_alloc | apply pw_below_drewN | apply below_drew1 | refine below_set ?_ (IsS100.ge HI581.out) | refine below_set ?_ GE597.out) | exact HB.out)); rintro e w75 ⟨rfl, hi, hb, hk⟩; have n0_ := Aside0.mk (KeepBut.blk hk (g' := gb597) (o := .cells #[.int .u64 x598000_54, .int .u64 x598001_54] 30 (0, 0)) (by (with_reducible repeat (first | refine blk_drewN ?_ _ | refine blk_drew ?_ | refine blk_alloc ?_ _)); exact BK597.out) NB597_581.out (by simp)); have n1_ := Aside0.mk (hb); have n2_ := Aside0.mk (hi); clear BK597; clear HB; clear HI581; have BK597 := n0_; have HB := n1_; have HI581 := n2_; clear n0_ n1_ n2_; (try clear hb); (try clear hb2); (try clear hk); (try clear hi)))
                      go_meet
                      case rel => exact ⟨_, (true), (t689), (t690), (t691), (t692), (t693), (t694), (t695), (t696), (t697), (t698), (by first | rfl | (simp; done) | (simp [*]; done)), H', ⟨by have := HJ9.out; have := HJ21.out; have := HJ54.out; have := HK4.out; first | omega | exact Nat.le_refl _⟩, ⟨by (with_reducible repeat (first | refine blk_drewN ?_ _ | refine blk_drew ?_ | refine blk_alloc ?_ _)); exact BK597.out⟩, ⟨by repeat (first | (with_reducible first | exact HI581.out | apply IsS100.alloc | apply IsS100.drewN | apply IsS100.drew | refine IsS100.far ?_ NB581_597.out _ ?_ | exact typ_of BK597 (by decide) (by decide) | refine typ_set ?_ _ _ _ | refine typ_alloc ?_ _ | refine typ_drewN ?_ _ | refine typ_drew ?_) | exact HI581.out)⟩, ⟨by repeat (first | (with_reducible first | exact HB.out | apply below_alloc | apply pw_below_drewN | apply below_drew1 | refine below_set ?_ (IsS100.ge HI581.out) | refine below_set ?_ GE597.out) | exact HB.out)⟩⟩
                     ·rw [if_neg c73] at H
                      have c73b0 : decide (a2 < t688) = false := decide_eq_false c73
                      clear c73
                      replace H := Option.bind_eq_some_iff.mp H
                      obtain ⟨⟨t699, t700, t701, t702, t703, t704, t705, t706, t707, t708, t709⟩, A760, H⟩ := H
                      replace H : (if t699 = 1 then (tiklaw23_DeckForward.j4 k4 a1 a2 l5 (IntKind.u64.wrap (x17_4 + (rd l5 x19_4))) x19_4 true t700 t701 t702 t703 t704 t705 t706 t707 t708 t709 x598000_54 x598001_54) else ((deck_Deck_Mode.f t700 t701 t702 t703 t704 t705 t706 t707 t708 t709).bind fun bt710 => ((deck_Deck_Pos.f bt710.2.1 bt710.2.2.1 bt710.2.2.2.1 bt710.2.2.2.2.1 bt710.2.2.2.2.2.1 bt710.2.2.2.2.2.2.1 bt710.2.2.2.2.2.2.2.1 bt710.2.2.2.2.2.2.2.2.1 bt710.2.2.2.2.2.2.2.2.2.1 bt710.2.2.2.2.2.2.2.2.2.2).bind fun bt721 => (tiklaw23_DeckForward.j4 k4 a1 a2 l5 (IntKind.u64.wrap (x17_4 + (rd l5 x19_4))) x19_4 ((bt710.1 == 0) != (bt721.1 == a2)) bt721.2.1 bt721.2.2.1 bt721.2.2.2.1 bt721.2.2.2.2.1 bt721.2.2.2.2.2.1 bt721.2.2.2.2.2.2.1 bt721.2.2.2.2.2.2.2.1 bt721.2.2.2.2.2.2.2.2.1 bt721.2.2.2.2.2.2.2.2.2.1 bt721.2.2.2.2.2.2.2.2.2.2 x598000_54 x598001_54)))) = some r := H
                      have A76 := Aside0.mk A760
                      clear A760
                      by_cases c77 : t699 = 1
                      ·rw [if_pos c77] at H
                       have c77b0 : (t699 == 1) = true := beq_iff_eq.mpr c77
                       have c77b1 : (t699 != 1) = false := bne_eq_false_iff_eq.mpr c77
                       clear c77
                       have H' := Aside0.mk H
                       clear H
                       go_wp2_with (first | ((with_reducible refine gate_callee (f := 19) rfl ?_); refine goesL_ (some 130) rfl rfl Tryd.func19 (by kernel_rfl) rfl #[.pointer (some ⟨g581, 0, none⟩)] rfl (by (try simp only [List.map_toArray, List.map_cons, List.map_nil]); first | done | rfl | (simp only [List.length_drop, List.length_take]; rfl)) ?_; (with_reducible refine (deck_Deck_Pos.calls g581 t667 t668 t669 t670 t671 t672 t673 t674 t675 t676 t677 t678 t679 t680 t681 t682 t683 t684 t685 t686 t687 w _ ?side1 ?side2 A69.out).mono ?_); (case side1 => repeat (first | (with_reducible first | exact HI581.out | apply IsS100.alloc | apply IsS100.drewN | apply IsS100.drew | refine IsS100.far ?_ NB581_597.out _ ?_ | exact typ_of BK597 (by decide) (by decide) | refine typ_set ?_ _ _ _ | refine typ_alloc ?_ _ | refine typ_drewN ?_ _ | refine typ_drew ?_) | exact HI581.out)); (case side2 => repeat (first | (with_reducible first | exact HB.out | apply below_alloc | apply pw_below_drewN | apply below_drew1 | refine below_set ?_ (IsS100.ge HI581.out) | refine below_set ?_ GE597.out) | exact HB.out)); rintro e w78 ⟨rfl, hi, hb, hk⟩; refine ⟨_, rfl, ?_⟩; have n0_ := Aside0.mk (KeepBut.blk hk (g' := gb597) (o := .cells #[.int .u64 x598000_54, .int .u64 x598001_54] 30 (0, 0)) (by (with_reducible repeat (first | refine blk_drewN ?_ _ | refine blk_drew ?_ | refine blk_alloc ?_ _)); exact BK597.out) NB597_581.out (by simp)); have n1_ := Aside0.mk (hb); have n2_ := Aside0.mk (hi); clear BK597; clear HB; clear HI581; have BK597 := n0_; have HB := n1_; have HI581 := n2_; clear n0_ n1_ n2_; (try clear hb); (try clear hb2); (try clear hk); (try clear hi)) | (go_at_call 19; (with_reducible refine (deck_Deck_Pos.calls g581 t678 t679 t680 t681 t682 t683 t684 t685 t686 t687 t688 t689 t690 t691 t692 t693 t694 t695 t696 t697 t698 w _ ?side1 ?side2 A72.out).mono ?_); (case side1 => repeat (first | (with_reducible first | exact HI581.out | apply IsS100.alloc | apply IsS100.drewN | apply IsS100.drew | refine IsS100.far ?_ NB581_597.out _ ?_ | exact typ_of BK597 (by decide) (by decide) | refine typ_set ?_ _ _ _ | refine typ_alloc ?_ _ | refine typ_drewN ?_ _ | refine typ_drew ?_) | exact HI581.out)); (case side2 => repeat (first | (with_reducible first | exact HB.out | apply below_alloc | apply pw_below_drewN | apply below_drew1 | refine below_set ?_ (IsS100.ge HI581.out) | refine below_set ?_ GE597.out) | exact HB.out)); rintro e w79 ⟨rfl, hi, hb, hk⟩; have n0_ := Aside0.mk (KeepBut.blk hk (g' := gb597) (o := .cells #[.int .u64 x598000_54, .int .u64 x598001_54] 30 (0, 0)) (by (with_reducible repeat (first | refine blk_drewN ?_ _ | refine blk_drew ?_ | refine blk_alloc ?_ _)); exact BK597.out) NB597_581.out (by simp)); have n1_ := Aside0.mk (hb); have n2_ := Aside0.mk (hi); clear BK597; clear HB; clear HI581; have BK597 := n0_; have HB := n1_; have HI581 := n2_; clear n0_ n1_ n2_; (try clear hb); (try clear hb2); (try clear hk); (try clear hi)) | (go_at_call 18; (with_reducible refine (deck_Deck_Mode.calls g581 t689 t690 t691 t692 t693 t694 t695 t696 t697 t698 t699 t700 t701 t702 t703 t704 t705 t706 t707 t708 t709 w _ ?side1 ?side2 A76.out).mono ?_); (case side1 => repeat (first | (with_reducible first | exact HI581.out | apply IsS100.alloc | apply IsS100.drewN | apply IsS100.drew | refine IsS100.far ?_ NB581_597.out _ ?_ | exact typ_of BK597 (by decide) (by decide) | refine typ_set ?_ _ _ _ | refine typ_alloc ?_ _ | refine typ_drewN ?_ _ | refine typ_drew ?_) | exact HI581.out)); (case side2 => repeat (first | (with_reducible first | exact HB.out | apply below_alloc | apply pw_below_drewN | apply below_drew1 | refine below_set ?_ (IsS100.ge HI581.out) | refine below_set ?_ GE597.out) | exact HB.out)); rintro e w80 ⟨rfl, hi, hb, hk⟩; have n0_ := Aside0.mk (KeepBut.blk hk (g' := gb597) (o := .cells #[.int .u64 x598000_54, .int .u64 x598001_54] 30 (0, 0)) (by (with_reducible repeat (first | refine blk_drewN ?_ _ | refine blk_drew ?_ | refine blk_alloc ?_ _)); exact BK597.out) NB597_581.out (by simp)); have n1_ := Aside0.mk (hb); have n2_ := Aside0.mk (hi); clear BK597; clear HB; clear HI581; have BK597 := n0_; have HB := n1_; have HI581 := n2_; clear n0_ n1_ n2_; (try clear hb); (try clear hb2); (try clear hk); (try clear hi)))
                       go_meet
                       case rel => exact ⟨_, (true), (t700), (t701), (t702), (t703), (t704), (t705), (t706), (t707), (t708), (t709), (by first | rfl | (simp; done) | (simp [*]; done)), H', ⟨by have := HJ9.out; have := HJ21.out; have := HJ54.out; have := HK4.out; first | omega | exact Nat.le_refl _⟩, ⟨by (with_reducible repeat (first | refine blk_drewN ?_ _ | refine blk_drew ?_ | refine blk_alloc ?_ _)); exact BK597.out⟩, ⟨by repeat (first | (with_reducible first | exact HI581.out | apply IsS100.alloc | apply IsS100.drewN | apply IsS100.drew | refine IsS100.far ?_ NB581_597.out _ ?_ | exact typ_of BK597 (by decide) (by decide) | refine typ_set ?_ _ _ _ | refine typ_alloc ?_ _ | refine typ_drewN ?_ _ | refine typ_drew ?_) | exact HI581.out)⟩, ⟨by repeat (first | (with_reducible first | exact HB.out | apply below_alloc | apply pw_below_drewN | apply below_drew1 | refine below_set ?_ (IsS100.ge HI581.out) | refine below_set ?_ GE597.out) | exact HB.out)⟩⟩
                      ·rw [if_neg c77] at H
                       have c77b0 : (t699 == 1) = false := beq_eq_false_iff_ne.mpr c77
                       have c77b1 : (t699 != 1) = true := bne_iff_ne.mpr c77
                       replace H := Option.bind_eq_some_iff.mp H
                       obtain ⟨⟨t710, t711, t712, t713, t714, t715, t716, t717, t718, t719, t720⟩, A810, H⟩ := H
                       replace H : ((deck_Deck_Pos.f t711 t712 t713 t714 t715 t716 t717 t718 t719 t720).bind fun bt721 => (tiklaw23_DeckForward.j4 k4 a1 a2 l5 (IntKind.u64.wrap (x17_4 + (rd l5 x19_4))) x19_4 ((t710 == 0) != (bt721.1 == a2)) bt721.2.1 bt721.2.2.1 bt721.2.2.2.1 bt721.2.2.2.2.1 bt721.2.2.2.2.2.1 bt721.2.2.2.2.2.2.1 bt721.2.2.2.2.2.2.2.1 bt721.2.2.2.2.2.2.2.2.1 bt721.2.2.2.2.2.2.2.2.2.1 bt721.2.2.2.2.2.2.2.2.2.2 x598000_54 x598001_54)) = some r := H
                       have A81 := Aside0.mk A810
                       clear A810
                       replace H := Option.bind_eq_some_iff.mp H
                       obtain ⟨⟨t721, t722, t723, t724, t725, t726, t727, t728, t729, t730, t731⟩, A820, H⟩ := H
                       replace H : (tiklaw23_DeckForward.j4 k4 a1 a2 l5 (IntKind.u64.wrap (x17_4 + (rd l5 x19_4))) x19_4 ((t710 == 0) != (t721 == a2)) t722 t723 t724 t725 t726 t727 t728 t729 t730 t731 x598000_54 x598001_54) = some r := H
                       have A82 := Aside0.mk A820
                       clear A820
                       have H' := Aside0.mk H
                       clear H
                       go_wp2_with (first | ((with_reducible refine gate_callee (f := 19) rfl ?_); refine goesL_ (some 130) rfl rfl Tryd.func19 (by kernel_rfl) rfl #[.pointer (some ⟨g581, 0, none⟩)] rfl (by (try simp only [List.map_toArray, List.map_cons, List.map_nil]); first | done | rfl | (simp only [List.length_drop, List.length_take]; rfl)) ?_; (with_reducible refine (deck_Deck_Pos.calls g581 t667 t668 t669 t670 t671 t672 t673 t674 t675 t676 t677 t678 t679 t680 t681 t682 t683 t684 t685 t686 t687 w _ ?side1 ?side2 A69.out).mono ?_); (case side1 => repeat (first | (with_reducible first | exact HI581.out | apply IsS100.alloc | apply IsS100.drewN | apply IsS100.drew | refine IsS100.far ?_ NB581_597.out _ ?_ | exact typ_of BK597 (by decide) (by decide) | refine typ_set ?_ _ _ _ | refine typ_alloc ?_ _ | refine typ_drewN ?_ _ | refine typ_drew ?_) | exact HI581.out)); (case side2 => repeat (first | (with_reducible first | exact HB.out | apply below_alloc | apply pw_below_drewN | apply below_drew1 | refine below_set ?_ (IsS100.ge HI581.out) | refine below_set ?_ GE597.out) | exact HB.out)); rintro e w83 ⟨rfl, hi, hb, hk⟩; refine ⟨_, rfl, ?_⟩; have n0_ := Aside0.mk (KeepBut.blk hk (g' := gb597) (o := .cells #[.int .u64 x598000_54, .int .u64 x598001_54] 30 (0, 0)) (by (with_reducible repeat (first | refine blk_drewN ?_ _ | refine blk_drew ?_ | refine blk_alloc ?_ _)); exact BK597.out) NB597_581.out (by simp)); have n1_ := Aside0.mk (hb); have n2_ := Aside0.mk (hi); clear BK597; clear HB; clear HI581; have BK597 := n0_; have HB := n1_; have HI581 := n2_; clear n0_ n1_ n2_; (try clear hb); (try clear hb2); (try clear hk); (try clear hi)) | (go_at_call 19; (with_reducible refine (deck_Deck_Pos.calls g581 t678 t679 t680 t681 t682 t683 t684 t685 t686 t687 t688 t689 t690 t691 t692 t693 t694 t695 t696 t697 t698 w _ ?side1 ?side2 A72.out).mono ?_); (case side1 => repeat (first | (with_reducible first | exact HI581.out | apply IsS100.alloc | apply IsS100.drewN | apply IsS100.drew | refine IsS100.far ?_ NB581_597.out _ ?_ | exact typ_of BK597 (by decide) (by decide) | refine typ_set ?_ _ _ _ | refine typ_alloc ?_ _ | refine typ_drewN ?_ _ | refine typ_drew ?_) | exact HI581.out)); (case side2 => repeat (first | (with_reducible first | exact HB.out | apply below_alloc | apply pw_below_drewN | apply below_drew1 | refine below_set ?_ (IsS100.ge HI581.out) | refine below_set ?_ GE597.out) | exact HB.out)); rintro e w84 ⟨rfl, hi, hb, hk⟩; have n0_ := Aside0.mk (KeepBut.blk hk (g' := gb597) (o := .cells #[.int .u64 x598000_54, .int .u64 x598001_54] 30 (0, 0)) (by (with_reducible repeat (first | refine blk_drewN ?_ _ | refine blk_drew ?_ | refine blk_alloc ?_ _)); exact BK597.out) NB597_581.out (by simp)); have n1_ := Aside0.mk (hb); have n2_ := Aside0.mk (hi); clear BK597; clear HB; clear HI581; have BK597 := n0_; have HB := n1_; have HI581 := n2_; clear n0_ n1_ n2_; (try clear hb); (try clear hb2); (try clear hk); (try clear hi)) | (go_at_call 18; (with_reducible refine (deck_Deck_Mode.calls g581 t689 t690 t691 t692 t693 t694 t695 t696 t697 t698 t699 t700 t701 t702 t703 t704 t705 t706 t707 t708 t709 w _ ?side1 ?side2 A76.out).mono ?_); (case side1 => repeat (first | (with_reducible first | exact HI581.out | apply IsS100.alloc | apply IsS100.drewN | apply IsS100.drew | refine IsS100.far ?_ NB581_597.out _ ?_ | exact typ_of BK597 (by decide) (by decide) | refine typ_set ?_ _ _ _ | refine typ_alloc ?_ _ | refine typ_drewN ?_ _ | refine typ_drew ?_) | exact HI581.out)); (case side2 => repeat (first | (with_reducible first | exact HB.out | apply below_alloc | apply pw_below_drewN | apply below_drew1 | refine below_set ?_ (IsS100.ge HI581.out) | refine below_set ?_ GE597.out) | exact HB.out)); rintro e w85 ⟨rfl, hi, hb, hk⟩; have n0_ := Aside0.mk (KeepBut.blk hk (g' := gb597) (o := .cells #[.int .u64 x598000_54, .int .u64 x598001_54] 30 (0, 0)) (by (with_reducible repeat (first | refine blk_drewN ?_ _ | refine blk_drew ?_ | refine blk_alloc ?_ _)); exact BK597.out) NB597_581.out (by simp)); have n1_ := Aside0.mk (hb); have n2_ := Aside0.mk (hi); clear BK597; clear HB; clear HI581; have BK597 := n0_; have HB := n1_; have HI581 := n2_; clear n0_ n1_ n2_; (try clear hb); (try clear hb2); (try clear hk); (try clear hi)) | (go_at_call 18; (with_reducible refine (deck_Deck_Mode.calls g581 t700 t701 t702 t703 t704 t705 t706 t707 t708 t709 t710 t711 t712 t713 t714 t715 t716 t717 t718 t719 t720 w _ ?side1 ?side2 A81.out).mono ?_); (case side1 => repeat (first | (with_reducible first | exact HI581.out | apply IsS100.alloc | apply IsS100.drewN | apply IsS100.drew | refine IsS100.far ?_ NB581_597.out _ ?_ | exact typ_of BK597 (by decide) (by decide) | refine typ_set ?_ _ _ _ | refine typ_alloc ?_ _ | refine typ_drewN ?_ _ | refine typ_drew ?_) | exact HI581.out)); (case side2 => repeat (first | (with_reducible first | exact HB.out | apply below_alloc | apply pw_below_drewN | apply below_drew1 | refine below_set ?_ (IsS100.ge HI581.out) | refine below_set ?_ GE597.out) | exact HB.out)); rintro e w86 ⟨rfl, hi, hb, hk⟩; have n0_ := Aside0.mk (KeepBut.blk hk (g' := gb597) (o := .cells #[.int .u64 x598000_54, .int .u64 x598001_54] 30 (0, 0)) (by (with_reducible repeat (first | refine blk_drewN ?_ _ | refine blk_drew ?_ | refine blk_alloc ?_ _)); exact BK597.out) NB597_581.out (by simp)); have n1_ := Aside0.mk (hb); have n2_ := Aside0.mk (hi); clear BK597; clear HB; clear HI581; have BK597 := n0_; have HB := n1_; have HI581 := n2_; clear n0_ n1_ n2_; (try clear hb); (try clear hb2); (try clear hk); (try clear hi)) | (go_at_call 19; (with_reducible refine (deck_Deck_Pos.calls g581 t711 t712 t713 t714 t715 t716 t717 t718 t719 t720 t721 t722 t723 t724 t725 t726 t727 t728 t729 t730 t731 w _ ?side1 ?side2 A82.out).mono ?_); (case side1 => repeat (first | (with_reducible first | exact HI581.out | apply IsS100.alloc | apply IsS100.drewN | apply IsS100.drew | refine IsS100.far ?_ NB581_597.out _ ?_ | exact typ_of BK597 (by decide) (by decide) | refine typ_set ?_ _ _ _ | refine typ_alloc ?_ _ | refine typ_drewN ?_ _ | refine typ_drew ?_) | exact HI581.out)); (case side2 => repeat (first | (with_reducible first | exact HB.out | apply below_alloc | apply pw_below_drewN | apply below_drew1 | refine below_set ?_ (IsS100.ge HI581.out) | refine below_set ?_ GE597.out) | exact HB.out)); rintro e w87 ⟨rfl, hi, hb, hk⟩; have n0_ := Aside0.mk (KeepBut.blk hk (g' := gb597) (o := .cells #[.int .u64 x598000_54, .int .u64 x598001_54] 30 (0, 0)) (by (with_reducible repeat (first | refine blk_drewN ?_ _ | refine blk_drew ?_ | refine blk_alloc ?_ _)); exact BK597.out) NB597_581.out (by simp)); have n1_ := Aside0.mk (hb); have n2_ := Aside0.mk (hi); clear BK597; clear HB; clear HI581; have BK597 := n0_; have HB := n1_; have HI581 := n2_; clear n0_ n1_ n2_; (try clear hb); (try clear hb2); (try clear hk); (try clear hi)))
                       go_meet
                       case rel => exact ⟨_, (((t710 == 0) != (t721 == a2))), (t722), (t723), (t724), (t725), (t726), (t727), (t728), (t729), (t730), (t731), (by first | rfl | (simp; done) | (simp [*]; done)), H', ⟨by have := HJ9.out; have := HJ21.out; have := HJ54.out; have := HK4.out; first | omega | exact Nat.le_refl _⟩, ⟨by (with_reducible repeat (first | refine blk_drewN ?_ _ | refine blk_drew ?_ | refine blk_alloc ?_ _)); exact BK597.out⟩, ⟨by repeat (first | (with_reducible first | exact HI581.out | apply IsS100.alloc | apply IsS100.drewN | apply IsS100.drew | refine IsS100.far ?_ NB581_597.out _ ?_ | exact typ_of BK597 (by decide) (by decide) | refine typ_set ?_ _ _ _ | refine typ_alloc ?_ _ | refine typ_drewN ?_ _ | refine typ_drew ?_) | exact HI581.out)⟩, ⟨by repeat (first | (with_reducible first | exact HB.out | apply below_alloc | apply pw_below_drewN | apply below_drew1 | refine below_set ?_ (IsS100.ge HI581.out) | refine below_set ?_ GE597.out) | exact HB.out)⟩⟩
                   case rest =>
                    as_aux_lemma =>
                     clear HC67
                     try clear c1
                     try clear c2
                     try clear p2
                     try clear c3
                     try clear c4
                     try clear c5
                     try clear c6
                     try clear p6
                     try clear q6
                     try clear hx6
                     try clear c7
                     try clear c8
                     try clear c12
                     try clear c13
                     try clear c13b0
                     try clear c13b1
                     try clear c14
                     try clear c14b0
                     try clear c15
                     try clear c15b0
                     try clear c16
                     try clear c16b0
                     try clear c17
                     try clear c19
                     try clear c21
                     try clear c22
                     try clear c25
                     try clear c26
                     try clear c28
                     try clear c28b0
                     try clear c28b1
                     try clear c30
                     try clear c30b0
                     try clear c30b1
                     try clear c32
                     try clear c32b0
                     try clear c32b1
                     try clear c35
                     try clear c35b0
                     try clear c35b1
                     try clear c37
                     try clear c37b0
                     try clear c37b1
                     try clear c54
                     try clear c56
                     try clear c56b0
                     try clear c56b1
                     try clear c57
                     try clear c61
                     try clear c61b0
                     try clear c62
                     try clear c62b0
                     try clear c63
                     try clear c63b0
                     try clear p66
                     try clear q66
                     try clear hx66
                     try clear c70
                     try clear c70b0
                     try clear c73
                     try clear c73b0
                     try clear c77
                     try clear c77b0
                     try clear c77b1
                     try clear hcz27_0
                     try clear hcz27_1
                     try clear hcz58_0
                     try clear hcz58_1
                     try clear hfz27_0
                     try clear hfz27_1
                     try clear hfz58_0
                     try clear hfz58_1
                     try clear hx664_0
                     try clear hx666_0
                     try clear p2
                     try clear p664
                     try clear p666
                     try clear q664
                     try clear q666
                     obtain ⟨kq, x153_66, x582000_66, x582001_66, x582002_66, x582003_66, x582004_66, x582005_66, x582006_66, x582007_66, x582008_66, x582009_66, rfl, HA, HJ66, BK597, HI581, HB⟩ := hcut
                     cases kq with
                     | zero => exact absurd HA.out (by simp [tiklaw23_DeckForward.j4])
                     | succ kj66 =>
                      have H := HA.out
                      clear HA
                      simp only [tiklaw23_DeckForward.j4] at H
                      by_cases c88 : x153_66 = true
                      ·subst c88
                       have H1 : (some false) = some r := by rw [if_pos rfl] at H; exact H
                       clear H
                       have H := H1
                       clear H1
                       exact absurd ((Option.some.inj H).trans hr_.out) (by simp)
                      ·replace c88 := Bool.eq_false_iff.mpr c88
                       subst c88
                       have H1 : ((deck_Deck_Pos.f x582000_66 x582001_66 x582002_66 x582003_66 x582004_66 x582005_66 x582006_66 x582007_66 x582008_66 x582009_66).bind fun bt732 => ((deck_Deck_Mode.f bt732.2.1 bt732.2.2.1 bt732.2.2.2.1 bt732.2.2.2.2.1 bt732.2.2.2.2.2.1 bt732.2.2.2.2.2.2.1 bt732.2.2.2.2.2.2.2.1 bt732.2.2.2.2.2.2.2.2.1 bt732.2.2.2.2.2.2.2.2.2.1 bt732.2.2.2.2.2.2.2.2.2.2).bind fun bt743 => (if bt743.1 = 0 then ((tiklaw23_first.f kj66).bind fun t754 => (some t754)) else (tiklaw23_DeckForward.l0 kj66 a1 a2 l5 (IntKind.u64.wrap (x17_4 + (rd l5 x19_4))) bt732.1 (wrap64 (x19_4 + 1)) bt743.2.1 bt743.2.2.1 bt743.2.2.2.1 bt743.2.2.2.2.1 bt743.2.2.2.2.2.1 bt743.2.2.2.2.2.2.1 bt743.2.2.2.2.2.2.2.1 bt743.2.2.2.2.2.2.2.2.1 bt743.2.2.2.2.2.2.2.2.2.1 bt743.2.2.2.2.2.2.2.2.2.2 x598000_54 x598001_54)))) = some r := by rw [if_neg (show ¬ (false = true) by decide)] at H; exact H
                       clear H
                       have H := H1
                       clear H1
                       replace H := Option.bind_eq_some_iff.mp H
                       obtain ⟨⟨t732, t733, t734, t735, t736, t737, t738, t739, t740, t741, t742⟩, A890, H⟩ := H
                       replace H : ((deck_Deck_Mode.f t733 t734 t735 t736 t737 t738 t739 t740 t741 t742).bind fun bt743 => (if bt743.1 = 0 then ((tiklaw23_first.f kj66).bind fun t754 => (some t754)) else (tiklaw23_DeckForward.l0 kj66 a1 a2 l5 (IntKind.u64.wrap (x17_4 + (rd l5 x19_4))) t732 (wrap64 (x19_4 + 1)) bt743.2.1 bt743.2.2.1 bt743.2.2.2.1 bt743.2.2.2.2.1 bt743.2.2.2.2.2.1 bt743.2.2.2.2.2.2.1 bt743.2.2.2.2.2.2.2.1 bt743.2.2.2.2.2.2.2.2.1 bt743.2.2.2.2.2.2.2.2.2.1 bt743.2.2.2.2.2.2.2.2.2.2 x598000_54 x598001_54))) = some r := H
                       have A89 := Aside0.mk A890
                       clear A890
                       replace H := Option.bind_eq_some_iff.mp H
                       obtain ⟨⟨t743, t744, t745, t746, t747, t748, t749, t750, t751, t752, t753⟩, A900, H⟩ := H
                       replace H : (if t743 = 0 then ((tiklaw23_first.f kj66).bind fun t754 => (some t754)) else (tiklaw23_DeckForward.l0 kj66 a1 a2 l5 (IntKind.u64.wrap (x17_4 + (rd l5 x19_4))) t732 (wrap64 (x19_4 + 1)) t744 t745 t746 t747 t748 t749 t750 t751 t752 t753 x598000_54 x598001_54)) = some r := H
                       have A90 := Aside0.mk A900
                       clear A900
                       by_cases c91 : t743 = 0
                       ·rw [if_pos c91] at H
                        have c91b0 : (t743 == 0) = true := beq_iff_eq.mpr c91
                        have c91b1 : (t743 != 0) = false := bne_eq_false_iff_eq.mpr c91
                        clear c91
                        replace H := Option.bind_eq_some_iff.mp H
                        obtain ⟨t754, A920, H⟩ := H
                        replace H : (some t754) = some r := H
                        have A92 := Aside0.mk A920
                        clear A920
                        obtain rfl := Option.some.inj H
                        go_wp2_with (first | ((with_reducible refine gate_callee (f := 19) rfl ?_); refine goesL_ (some 155) rfl rfl Tryd.func19 (by kernel_rfl) rfl #[.pointer (some ⟨g581, 0, none⟩)] rfl (by (try simp only [List.map_toArray, List.map_cons, List.map_nil]); first | done | rfl | (simp only [List.length_drop, List.length_take]; rfl)) ?_; (with_reducible refine (deck_Deck_Pos.calls g581 x582000_66 x582001_66 x582002_66 x582003_66 x582004_66 x582005_66 x582006_66 x582007_66 x582008_66 x582009_66 t732 t733 t734 t735 t736 t737 t738 t739 t740 t741 t742 w _ ?side1 ?side2 A89.out).mono ?_); (case side1 => repeat (first | (with_reducible first | exact HI581.out | apply IsS100.alloc | apply IsS100.drewN | apply IsS100.drew | refine IsS100.far ?_ NB581_597.out _ ?_ | exact typ_of BK597 (by decide) (by decide) | refine typ_set ?_ _ _ _ | refine typ_alloc ?_ _ | refine typ_drewN ?_ _ | refine typ_drew ?_) | exact HI581.out)); (case side2 => repeat (first | (with_reducible first | exact HB.out | apply below_alloc | apply pw_below_drewN | apply below_drew1 | refine below_set ?_ (IsS100.ge HI581.out) | refine below_set ?_ GE597.out) | exact HB.out)); rintro e w93 ⟨rfl, hi, hb, hk⟩; refine ⟨_, rfl, ?_⟩; have n0_ := Aside0.mk (KeepBut.blk hk (g' := gb597) (o := .cells #[.int .u64 x598000_54, .int .u64 x598001_54] 30 (0, 0)) (by (with_reducible repeat (first | refine blk_drewN ?_ _ | refine blk_drew ?_ | refine blk_alloc ?_ _)); exact BK597.out) NB597_581.out (by simp)); have n1_ := Aside0.mk (hb); have n2_ := Aside0.mk (hi); clear BK597; clear HB; clear HI581; have BK597 := n0_; have HB := n1_; have HI581 := n2_; clear n0_ n1_ n2_; (try clear hb); (try clear hb2); (try clear hk); (try clear hi)) | ((with_reducible refine gate_callee (f := 18) rfl ?_); refine goesL_ (some 157) rfl rfl Tryd.func18 (by kernel_rfl) rfl #[.pointer (some ⟨g581, 0, none⟩)] rfl (by (try simp only [List.map_toArray, List.map_cons, List.map_nil]); first | done | rfl | (simp only [List.length_drop, List.length_take]; rfl)) ?_; (with_reducible refine (deck_Deck_Mode.calls g581 t733 t734 t735 t736 t737 t738 t739 t740 t741 t742 t743 t744 t745 t746 t747 t748 t749 t750 t751 t752 t753 w _ ?side1 ?side2 A90.out).mono ?_); (case side1 => repeat (first | (with_reducible first | exact HI581.out | apply IsS100.alloc | apply IsS100.drewN | apply IsS100.drew | refine IsS100.far ?_ NB581_597.out _ ?_ | exact typ_of BK597 (by decide) (by decide) | refine typ_set ?_ _ _ _ | refine typ_alloc ?_ _ | refine typ_drewN ?_ _ | refine typ_drew ?_) | exact HI581.out)); (case side2 => repeat (first | (with_reducible first | exact HB.out | apply below_alloc | apply pw_below_drewN | apply below_drew1 | refine below_set ?_ (IsS100.ge HI581.out) | refine below_set ?_ GE597.out) | exact HB.out)); rintro e w94 ⟨rfl, hi, hb, hk⟩; refine ⟨_, rfl, ?_⟩; have n0_ := Aside0.mk (KeepBut.blk hk (g' := gb597) (o := .cells #[.int .u64 x598000_54, .int .u64 x598001_54] 30 (0, 0)) (by (with_reducible repeat (first | refine blk_drewN ?_ _ | refine blk_drew ?_ | refine blk_alloc ?_ _)); exact BK597.out) NB597_581.out (by simp)); have n1_ := Aside0.mk (hb); have n2_ := Aside0.mk (hi); clear BK597; clear HB; clear HI581; have BK597 := n0_; have HB := n1_; have HI581 := n2_; clear n0_ n1_ n2_; (try clear hb); (try clear hb2); (try clear hk); (try clear hi)) | ((with_reducible refine gate_callee (f := 12) rfl ?_); refine goesL_ (some 159) rfl rfl Tryd.func12 (by kernel_rfl) rfl #[] rfl (by (try simp only [List.map_toArray, List.map_cons, List.map_nil]); first | done | rfl | (simp only [List.length_drop, List.length_take]; rfl)) ?_; (with_reducible refine (tiklaw23_first.calls kj66  t754 _ ?side1 A92.out).mono ?_); (case side1 => first | (with_reducible exact HT.out) | exact tabAt HT.out (by repeat (first | (with_reducible first | exact HB.out | apply below_alloc | apply pw_below_drewN | apply below_drew1 | refine below_set ?_ (IsS100.ge HI581.out) | refine below_set ?_ GE597.out) | exact HB.out))); rintro e w95 ⟨rfl, hb⟩; refine ⟨_, rfl, ?_⟩; have n0_ := Aside0.mk (blk_below (g := gb597) (o := .cells #[.int .u64 x598000_54, .int .u64 x598001_54] 30 (0, 0)) (by (with_reducible repeat (first | refine blk_drewN ?_ _ | refine blk_drew ?_ | refine blk_alloc ?_ _)); exact BK597.out) hb); have n1_ := Aside0.mk (IsS100.below (by repeat (first | (with_reducible first | exact HI581.out | apply IsS100.alloc | apply IsS100.drewN | apply IsS100.drew | refine IsS100.far ?_ NB581_597.out _ ?_ | exact typ_of BK597 (by decide) (by decide) | refine typ_set ?_ _ _ _ | refine typ_alloc ?_ _ | refine typ_drewN ?_ _ | refine typ_drew ?_) | exact HI581.out)) hb); have n2_ := Aside0.mk (below_step (by repeat (first | (with_reducible first | exact HB.out | apply below_alloc | apply pw_below_drewN | apply below_drew1 | refine below_set ?_ (IsS100.ge HI581.out) | refine below_set ?_ GE597.out) | exact HB.out)) hb); clear BK597; clear HI581; clear HB; have BK597 := n0_; have HI581 := n1_; have HB := n2_; clear n0_ n1_ n2_; (try clear hb); (try clear hb2); (try clear hk); (try clear hi)))
                        go_ret
                        exact ⟨by first | rfl | (simp [errW_none, errW_some] <;> rfl) | (simp [*, errW_none, errW_some] <;> rfl), by repeat (first | (with_reducible first | exact HB.out | apply below_alloc | apply pw_below_drewN | apply below_drew1 | refine below_set ?_ (IsS100.ge HI581.out) | refine below_set ?_ GE597.out) | exact HB.out)⟩
                       ·rw [if_neg c91] at H
                        have c91b0 : (t743 == 0) = false := beq_eq_false_iff_ne.mpr c91
                        have c91b1 : (t743 != 0) = true := bne_iff_ne.mpr c91
                        have H' := Aside0.mk H
                        clear H
                        go_wp2_with (first | ((with_reducible refine gate_callee (f := 19) rfl ?_); refine goesL_ (some 155) rfl rfl Tryd.func19 (by kernel_rfl) rfl #[.pointer (some ⟨g581, 0, none⟩)] rfl (by (try simp only [List.map_toArray, List.map_cons, List.map_nil]); first | done | rfl | (simp only [List.length_drop, List.length_take]; rfl)) ?_; (with_reducible refine (deck_Deck_Pos.calls g581 x582000_66 x582001_66 x582002_66 x582003_66 x582004_66 x582005_66 x582006_66 x582007_66 x582008_66 x582009_66 t732 t733 t734 t735 t736 t737 t738 t739 t740 t741 t742 w _ ?side1 ?side2 A89.out).mono ?_); (case side1 => repeat (first | (with_reducible first | exact HI581.out | apply IsS100.alloc | apply IsS100.drewN | apply IsS100.drew | refine IsS100.far ?_ NB581_597.out _ ?_ | exact typ_of BK597 (by decide) (by decide) | refine typ_set ?_ _ _ _ | refine typ_alloc ?_ _ | refine typ_drewN ?_ _ | refine typ_drew ?_) | exact HI581.out)); (case side2 => repeat (first | (with_reducible first | exact HB.out | apply below_alloc | apply pw_below_drewN | apply below_drew1 | refine below_set ?_ (IsS100.ge HI581.out) | refine below_set ?_ GE597.out) | exact HB.out)); rintro e w96 ⟨rfl, hi, hb, hk⟩; refine ⟨_, rfl, ?_⟩; have n0_ := Aside0.mk (KeepBut.blk hk (g' := gb597) (o := .cells #[.int .u64 x598000_54, .int .u64 x598001_54] 30 (0, 0)) (by (with_reducible repeat (first | refine blk_drewN ?_ _ | refine blk_drew ?_ | refine blk_alloc ?_ _)); exact BK597.out) NB597_581.out (by simp)); have n1_ := Aside0.mk (hb); have n2_ := Aside0.mk (hi); clear BK597; clear HB; clear HI581; have BK597 := n0_; have HB := n1_; have HI581 := n2_; clear n0_ n1_ n2_; (try clear hb); (try clear hb2); (try clear hk); (try clear hi)) | ((with_reducible refine gate_callee (f := 18) rfl ?_); refine goesL_ (some 157) rfl rfl Tryd.func18 (by kernel_rfl) rfl #[.pointer (some ⟨g581, 0, none⟩)] rfl (by (try simp only [List.map_toArray, List.map_cons, List.map_nil]); first | done | rfl | (simp only [List.length_drop, List.length_take]; rfl)) ?_; (with_reducible refine (deck_Deck_Mode.calls g581 t733 t734 t735 t736 t737 t738 t739 t740 t741 t742 t743 t744 t745 t746 t747 t748 t749 t750 t751 t752 t753 w _ ?side1 ?side2 A90.out).mono ?_); (case side1 => repeat (first | (with_reducible first | exact HI581.out | apply IsS100.alloc | apply IsS100.drewN | apply IsS100.drew | refine IsS100.far ?_ NB581_597.out _ ?_ | exact typ_of BK597 (by decide) (by decide) | refine typ_set ?_ _ _ _ | refine typ_alloc ?_ _ | refine typ_drewN ?_ _ | refine typ_drew ?_) | exact HI581.out)); (case side2 => repeat (first | (with_reducible first | exact HB.out | apply below_alloc | apply pw_below_drewN | apply below_drew1 | refine below_set ?_ (IsS100.ge HI581.out) | refine below_set ?_ GE597.out) | exact HB.out)); rintro e w97 ⟨rfl, hi, hb, hk⟩; refine ⟨_, rfl, ?_⟩; have n0_ := Aside0.mk (KeepBut.blk hk (g' := gb597) (o := .cells #[.int .u64 x598000_54, .int .u64 x598001_54] 30 (0, 0)) (by (with_reducible repeat (first | refine blk_drewN ?_ _ | refine blk_drew ?_ | refine blk_alloc ?_ _)); exact BK597.out) NB597_581.out (by simp)); have n1_ := Aside0.mk (hb); have n2_ := Aside0.mk (hi); clear BK597; clear HB; clear HI581; have BK597 := n0_; have HB := n1_; have HI581 := n2_; clear n0_ n1_ n2_; (try clear hb); (try clear hb2); (try clear hk); (try clear hi)))
                        go_roundg kj66
                        case measure => have := HJ9.out; have := HJ21.out; have := HJ54.out; have := HK4.out; have := HJ66.out; omega
                        case rel => exact ⟨((IntKind.u64.wrap (x17_4 + (rd l5 x19_4)))), (t732), (wrap64 (x19_4 + 1)), (t744), (t745), (t746), (t747), (t748), (t749), (t750), (t751), (t752), (t753), (by first | rfl | (simp; done) | (simp [*]; done)), (by first | rfl | (simp; done) | (simp [*]; done)), (by first | rfl | (simp; done) | (simp [*]; done)), H', ⟨by have := HJ9.out; have := HJ21.out; have := HJ54.out; have := HK4.out; have := HJ66.out; omega⟩, ⟨by (with_reducible repeat (first | refine blk_drewN ?_ _ | refine blk_drew ?_ | refine blk_alloc ?_ _)); exact BK597.out⟩, ⟨by repeat (first | (with_reducible first | exact HI581.out | apply IsS100.alloc | apply IsS100.drewN | apply IsS100.drew | refine IsS100.far ?_ NB581_597.out _ ?_ | exact typ_of BK597 (by decide) (by decide) | refine typ_set ?_ _ _ _ | refine typ_alloc ?_ _ | refine typ_drewN ?_ _ | refine typ_drew ?_) | exact HI581.out)⟩, ⟨by repeat (first | (with_reducible first | exact HB.out | apply below_alloc | apply pw_below_drewN | apply below_drew1 | refine below_set ?_ (IsS100.ge HI581.out) | refine below_set ?_ GE597.out) | exact HB.out)⟩⟩
                 ·rw [if_neg c62] at H
                  exact absurd H (by simp)
                ·rw [if_neg c61] at H
                 have c61b0 : decide (x19_4 < (l5.length : Int)) = false := decide_eq_false c61
                 clear c61
                 have HC98 := Aside0.mk H
                 clear H
                 go_upto_region 25 with (fail)
                 go_cut [168] (fun v168 wc => ∃ (kq : Nat) (x168_97 : Bool), v168 = .bool x168_97 ∧ Aside0 (tiklaw23_DeckForward.j5 kq a1 a2 x17_4 x18_4 x168_97 x582000_4 x582001_4 x582002_4 x582003_4 x582004_4 x582005_4 x582006_4 x582007_4 x582008_4 x582009_4 = some r) ∧ Aside0 (kq ≤ k4) ∧ Aside0 (wc.heap[gb597]? = some (.cells #[.int .u64 x598000_54, .int .u64 x598001_54] 30 (0, 0))) ∧ Aside0 (IsS100 w wc g581 x582000_4 x582001_4 x582002_4 x582003_4 x582004_4 x582005_4 x582006_4 x582007_4 x582008_4 x582009_4) ∧ Aside0 (Below w.heap.size w wc))
                 case first =>
                  have H := HC98.out
                  clear HC98
                  by_cases c99 : x598000_54 = 0
                  ·rw [if_pos c99] at H
                   have c99b0 : (x598000_54 == 0) = true := beq_iff_eq.mpr c99
                   have c99b1 : (x598000_54 != 0) = false := bne_eq_false_iff_eq.mpr c99
                   clear c99
                   (first | rw [c99b0] | (simp only [i64_w, i32_w]; rw [c99b0]) | skip)
                   have H' := Aside0.mk H
                   clear H
                   have hnb100 := NB597_581.out
                   have hnc100 := NB581_597.out
                   have hcz101_0 : wr.cell? ⟨gb597, 0, none⟩ = some (.int .u64 x598000_54) := (blk_cell BK597.out 0).trans rfl
                   have hcz101_1 : wr.cell? ⟨gb597, 1, none⟩ = some (.int .u64 x598001_54) := (blk_cell BK597.out 1).trans rfl
                   have hfz101_0 := blk_frozen BK597.out 0
                   have hfz101_1 := blk_frozen BK597.out 1
                   go_wp2
                   go_meet
                   case rel => exact ⟨_, (true), (by first | rfl | (simp; done) | (simp [*]; done)), H', ⟨by have := HJ9.out; have := HJ21.out; have := HJ54.out; have := HK4.out; first | omega | exact Nat.le_refl _⟩, ⟨by (with_reducible repeat (first | refine blk_drewN ?_ _ | refine blk_drew ?_ | refine blk_alloc ?_ _)); exact BK597.out⟩, ⟨by repeat (first | (with_reducible first | exact HI581.out | apply IsS100.alloc | apply IsS100.drewN | apply IsS100.drew | refine IsS100.far ?_ NB581_597.out _ ?_ | exact typ_of BK597 (by decide) (by decide) | refine typ_set ?_ _ _ _ | refine typ_alloc ?_ _ | refine typ_drewN ?_ _ | refine typ_drew ?_) | exact HI581.out)⟩, ⟨by repeat (first | (with_reducible first | exact HB.out | apply below_alloc | apply pw_below_drewN | apply below_drew1 | refine below_set ?_ (IsS100.ge HI581.out) | refine below_set ?_ GE597.out) | exact HB.out)⟩⟩
                  ·rw [if_neg c99] at H
                   have c99b0 : (x598000_54 == 0) = false := beq_eq_false_iff_ne.mpr c99
                   have c99b1 : (x598000_54 != 0) = true := bne_iff_ne.mpr c99
                   (first | rw [c99b0] | (simp only [i64_w, i32_w]; rw [c99b0]) | skip)
                   have H' := Aside0.mk H
                   clear H
                   have hnb102 := NB597_581.out
                   have hnc102 := NB581_597.out
                   have hcz103_0 : wr.cell? ⟨gb597, 0, none⟩ = some (.int .u64 x598000_54) := (blk_cell BK597.out 0).trans rfl
                   have hcz103_1 : wr.cell? ⟨gb597, 1, none⟩ = some (.int .u64 x598001_54) := (blk_cell BK597.out 1).trans rfl
                   have hfz103_0 := blk_frozen BK597.out 0
                   have hfz103_1 := blk_frozen BK597.out 1
                   go_wp2
                   go_meet
                   case rel => exact ⟨_, (decide ((IntKind.u64.wrap (a2 - x18_4)) > 1073741824)), (by first | rfl | (simp; done) | (simp [*]; done)), H', ⟨by have := HJ9.out; have := HJ21.out; have := HJ54.out; have := HK4.out; first | omega | exact Nat.le_refl _⟩, ⟨by (with_reducible repeat (first | refine blk_drewN ?_ _ | refine blk_drew ?_ | refine blk_alloc ?_ _)); exact BK597.out⟩, ⟨by repeat (first | (with_reducible first | exact HI581.out | apply IsS100.alloc | apply IsS100.drewN | apply IsS100.drew | refine IsS100.far ?_ NB581_597.out _ ?_ | exact typ_of BK597 (by decide) (by decide) | refine typ_set ?_ _ _ _ | refine typ_alloc ?_ _ | refine typ_drewN ?_ _ | refine typ_drew ?_) | exact HI581.out)⟩, ⟨by repeat (first | (with_reducible first | exact HB.out | apply below_alloc | apply pw_below_drewN | apply below_drew1 | refine below_set ?_ (IsS100.ge HI581.out) | refine below_set ?_ GE597.out) | exact HB.out)⟩⟩
                 case rest =>
                  as_aux_lemma =>
                   clear HC98
                   try clear c1
                   try clear c2
                   try clear p2
                   try clear c3
                   try clear c4
                   try clear c5
                   try clear c6
                   try clear p6
                   try clear q6
                   try clear hx6
                   try clear c7
                   try clear c8
                   try clear c9
                   try clear c10
                   try clear c12
                   try clear c13
                   try clear c13b0
                   try clear c13b1
                   try clear c14
                   try clear c14b0
                   try clear c15
                   try clear c15b0
                   try clear c16
                   try clear c16b0
                   try clear c17
                   try clear c18
                   try clear c19
                   try clear c21
                   try clear c22
                   try clear c25
                   try clear c26
                   try clear c28
                   try clear c28b0
                   try clear c28b1
                   try clear c30
                   try clear c30b0
                   try clear c30b1
                   try clear c32
                   try clear c32b0
                   try clear c32b1
                   try clear c35
                   try clear c35b0
                   try clear c35b1
                   try clear c37
                   try clear c37b0
                   try clear c37b1
                   try clear c54
                   try clear c56
                   try clear c56b0
                   try clear c56b1
                   try clear c57
                   try clear c61
                   try clear c61b0
                   try clear c62
                   try clear c62b0
                   try clear c63
                   try clear c63b0
                   try clear p64
                   try clear p66
                   try clear q66
                   try clear hx66
                   try clear c70
                   try clear c70b0
                   try clear c73
                   try clear c73b0
                   try clear c77
                   try clear c77b0
                   try clear c77b1
                   try clear c88
                   try clear c91
                   try clear c91b0
                   try clear c91b1
                   try clear c99
                   try clear c99b0
                   try clear c99b1
                   try clear c100
                   try clear c102
                   try clear hcz101_0
                   try clear hcz101_1
                   try clear hcz103_0
                   try clear hcz103_1
                   try clear hcz27_0
                   try clear hcz27_1
                   try clear hcz58_0
                   try clear hcz58_1
                   try clear hfz101_0
                   try clear hfz101_1
                   try clear hfz103_0
                   try clear hfz103_1
                   try clear hfz27_0
                   try clear hfz27_1
                   try clear hfz58_0
                   try clear hfz58_1
                   try clear hx664_0
                   try clear hx666_0
                   try clear p2
                   try clear p6
                   try clear p66
                   try clear p664
                   try clear p666
                   try clear q6
                   try clear q66
                   try clear q664
                   try clear q666
                   obtain ⟨kq, x168_97, rfl, HA, HJ97, BK597, HI581, HB⟩ := hcut
                   cases kq with
                   | zero => exact absurd HA.out (by simp [tiklaw23_DeckForward.j5])
                   | succ kj97 =>
                    have H := HA.out
                    clear HA
                    simp only [tiklaw23_DeckForward.j5] at H
                    by_cases c104 : x168_97 = true
                    ·subst c104
                     have H1 : ((tiklaw23_first.f kj97).bind fun t755 => (some t755)) = some r := by rw [if_pos rfl] at H; exact H
                     clear H
                     have H := H1
                     clear H1
                     replace H := Option.bind_eq_some_iff.mp H
                     obtain ⟨t755, A1050, H⟩ := H
                     replace H : (some t755) = some r := H
                     have A105 := Aside0.mk A1050
                     clear A1050
                     obtain rfl := Option.some.inj H
                     go_wp2_with (first | ((with_reducible refine gate_callee (f := 12) rfl ?_); refine goesL_ (some 169) rfl rfl Tryd.func12 (by kernel_rfl) rfl #[] rfl (by (try simp only [List.map_toArray, List.map_cons, List.map_nil]); first | done | rfl | (simp only [List.length_drop, List.length_take]; rfl)) ?_; (with_reducible refine (tiklaw23_first.calls kj97  t755 _ ?side1 A105.out).mono ?_); (case side1 => first | (with_reducible exact HT.out) | exact tabAt HT.out (by repeat (first | (with_reducible first | exact HB.out | apply below_alloc | apply pw_below_drewN | apply below_drew1 | refine below_set ?_ (IsS100.ge HI581.out) | refine below_set ?_ GE597.out) | exact HB.out))); rintro e w106 ⟨rfl, hb⟩; refine ⟨_, rfl, ?_⟩; have n0_ := Aside0.mk (blk_below (g := gb597) (o := .cells #[.int .u64 x598000_54, .int .u64 x598001_54] 30 (0, 0)) (by (with_reducible repeat (first | refine blk_drewN ?_ _ | refine blk_drew ?_ | refine blk_alloc ?_ _)); exact BK597.out) hb); have n1_ := Aside0.mk (IsS100.below (by repeat (first | (with_reducible first | exact HI581.out | apply IsS100.alloc | apply IsS100.drewN | apply IsS100.drew | refine IsS100.far ?_ NB581_597.out _ ?_ | exact typ_of BK597 (by decide) (by decide) | refine typ_set ?_ _ _ _ | refine typ_alloc ?_ _ | refine typ_drewN ?_ _ | refine typ_drew ?_) | exact HI581.out)) hb); have n2_ := Aside0.mk (below_step (by repeat (first | (with_reducible first | exact HB.out | apply below_alloc | apply pw_below_drewN | apply below_drew1 | refine below_set ?_ (IsS100.ge HI581.out) | refine below_set ?_ GE597.out) | exact HB.out)) hb); clear BK597; clear HI581; clear HB; have BK597 := n0_; have HI581 := n1_; have HB := n2_; clear n0_ n1_ n2_; (try clear hb); (try clear hb2); (try clear hk); (try clear hi)))
                     go_ret
                     exact ⟨by first | rfl | (simp [errW_none, errW_some] <;> rfl) | (simp [*, errW_none, errW_some] <;> rfl), by repeat (first | (with_reducible first | exact HB.out | apply below_alloc | apply pw_below_drewN | apply below_drew1 | refine below_set ?_ (IsS100.ge HI581.out) | refine below_set ?_ GE597.out) | exact HB.out)⟩
                    ·replace c104 := Bool.eq_false_iff.mpr c104
                     subst c104
                     have H1 : ((deck_Deck_Tick.f x582000_4 x582001_4 x582002_4 x582003_4 x582004_4 x582005_4 x582006_4 x582007_4 x582008_4 x582009_4 (IntKind.u64.wrap (x17_4 + (IntKind.u64.wrap ((IntKind.u64.wrap ((IntKind.u64.wrap (a2 - x18_4)) + 1)) * 1048576)))) a1 a2).bind fun bt756 => ((tiklaw23_first.f kj97).bind fun t766 => (if t766 = true then ((deck_Deck_Mode.f bt756.1 bt756.2.1 bt756.2.2.1 bt756.2.2.2.1 bt756.2.2.2.2.1 bt756.2.2.2.2.2.1 bt756.2.2.2.2.2.2.1 bt756.2.2.2.2.2.2.2.1 bt756.2.2.2.2.2.2.2.2.1 bt756.2.2.2.2.2.2.2.2.2).bind fun bt767 => (if bt767.1 = 0 then ((deck_Deck_Pos.f bt767.2.1 bt767.2.2.1 bt767.2.2.2.1 bt767.2.2.2.2.1 bt767.2.2.2.2.2.1 bt767.2.2.2.2.2.2.1 bt767.2.2.2.2.2.2.2.1 bt767.2.2.2.2.2.2.2.2.1 bt767.2.2.2.2.2.2.2.2.2.1 bt767.2.2.2.2.2.2.2.2.2.2).bind fun bt778 => (some (bt778.1 == a2))) else (some false))) else (some false)))) = some r := by rw [if_neg (show ¬ (false = true) by decide)] at H; exact H
                     clear H
                     have H := H1
                     clear H1
                     replace H := Option.bind_eq_some_iff.mp H
                     obtain ⟨⟨t756, t757, t758, t759, t760, t761, t762, t763, t764, t765⟩, A1070, H⟩ := H
                     replace H : ((tiklaw23_first.f kj97).bind fun t766 => (if t766 = true then ((deck_Deck_Mode.f t756 t757 t758 t759 t760 t761 t762 t763 t764 t765).bind fun bt767 => (if bt767.1 = 0 then ((deck_Deck_Pos.f bt767.2.1 bt767.2.2.1 bt767.2.2.2.1 bt767.2.2.2.2.1 bt767.2.2.2.2.2.1 bt767.2.2.2.2.2.2.1 bt767.2.2.2.2.2.2.2.1 bt767.2.2.2.2.2.2.2.2.1 bt767.2.2.2.2.2.2.2.2.2.1 bt767.2.2.2.2.2.2.2.2.2.2).bind fun bt778 => (some (bt778.1 == a2))) else (some false))) else (some false))) = some r := H
                     have A107 := Aside0.mk A1070
                     clear A1070
                     replace H := Option.bind_eq_some_iff.mp H
                     obtain ⟨t766, A1080, H⟩ := H
                     replace H : (if t766 = true then ((deck_Deck_Mode.f t756 t757 t758 t759 t760 t761 t762 t763 t764 t765).bind fun bt767 => (if bt767.1 = 0 then ((deck_Deck_Pos.f bt767.2.1 bt767.2.2.1 bt767.2.2.2.1 bt767.2.2.2.2.1 bt767.2.2.2.2.2.1 bt767.2.2.2.2.2.2.1 bt767.2.2.2.2.2.2.2.1 bt767.2.2.2.2.2.2.2.2.1 bt767.2.2.2.2.2.2.2.2.2.1 bt767.2.2.2.2.2.2.2.2.2.2).bind fun bt778 => (some (bt778.1 == a2))) else (some false))) else (some false)) = some r := H
                     have A108 := Aside0.mk A1080
                     clear A1080
                     by_cases c109 : t766 = true
                     ·subst c109
                      have H1 : ((deck_Deck_Mode.f t756 t757 t758 t759 t760 t761 t762 t763 t764 t765).bind fun bt767 => (if bt767.1 = 0 then ((deck_Deck_Pos.f bt767.2.1 bt767.2.2.1 bt767.2.2.2.1 bt767.2.2.2.2.1 bt767.2.2.2.2.2.1 bt767.2.2.2.2.2.2.1 bt767.2.2.2.2.2.2.2.1 bt767.2.2.2.2.2.2.2.2.1 bt767.2.2.2.2.2.2.2.2.2.1 bt767.2.2.2.2.2.2.2.2.2.2).bind fun bt778 => (some (bt778.1 == a2))) else (some false))) = some r := by rw [if_pos rfl] at H; exact H
                      clear H
                      have H := H1
                      clear H1
                      replace H := Option.bind_eq_some_iff.mp H
                      obtain ⟨⟨t767, t768, t769, t770, t771, t772, t773, t774, t775, t776, t777⟩, A1100, H⟩ := H
                      replace H : (if t767 = 0 then ((deck_Deck_Pos.f t768 t769 t770 t771 t772 t773 t774 t775 t776 t777).bind fun bt778 => (some (bt778.1 == a2))) else (some false)) = some r := H
                      have A110 := Aside0.mk A1100
                      clear A1100
                      by_cases c111 : t767 = 0
                      ·rw [if_pos c111] at H
                       have c111b0 : (t767 == 0) = true := beq_iff_eq.mpr c111
                       have c111b1 : (t767 != 0) = false := bne_eq_false_iff_eq.mpr c111
                       clear c111
                       replace H := Option.bind_eq_some_iff.mp H
                       obtain ⟨⟨t778, t779, t780, t781, t782, t783, t784, t785, t786, t787, t788⟩, A1120, H⟩ := H
                       replace H : (some (t778 == a2)) = some r := H
                       have A112 := Aside0.mk A1120
                       clear A1120
                       obtain rfl := Option.some.inj H
                       go_wp2_with (first | ((with_reducible refine gate_callee (f := 25) rfl ?_); refine goesL_ (some 180) rfl rfl Tryd.func25 (by kernel_rfl) rfl #[.pointer (some ⟨g581, 0, none⟩), .int .u64 (IntKind.u64.wrap (x17_4 + (IntKind.u64.wrap ((IntKind.u64.wrap ((IntKind.u64.wrap (a2 - x18_4)) + 1)) * 1048576)))), .int .u64 a1, .int .u64 a2] rfl (by (try simp only [List.map_toArray, List.map_cons, List.map_nil]); first | done | rfl | (simp only [List.length_drop, List.length_take]; rfl)) ?_; (with_reducible refine (deck_Deck_Tick.calls g581 x582000_4 x582001_4 x582002_4 x582003_4 x582004_4 x582005_4 x582006_4 x582007_4 x582008_4 x582009_4 (IntKind.u64.wrap (x17_4 + (IntKind.u64.wrap ((IntKind.u64.wrap ((IntKind.u64.wrap (a2 - x18_4)) + 1)) * 1048576)))) a1 a2 t756 t757 t758 t759 t760 t761 t762 t763 t764 t765 w _ ?side1 ?side2 A107.out).mono ?_); (case side1 => repeat (first | (with_reducible first | exact HI581.out | apply IsS100.alloc | apply IsS100.drewN | apply IsS100.drew | refine IsS100.far ?_ NB581_597.out _ ?_ | exact typ_of BK597 (by decide) (by decide) | refine typ_set ?_ _ _ _ | refine typ_alloc ?_ _ | refine typ_drewN ?_ _ | refine typ_drew ?_) | exact HI581.out)); (case side2 => repeat (first | (with_reducible first | exact HB.out | apply below_alloc | apply pw_below_drewN | apply below_drew1 | refine below_set ?_ (IsS100.ge HI581.out) | refine below_set ?_ GE597.out) | exact HB.out)); rintro e w113 ⟨rfl, hi, hb, hk⟩; refine ⟨_, rfl, ?_⟩; have n0_ := Aside0.mk (KeepBut.blk hk (g' := gb597) (o := .cells #[.int .u64 x598000_54, .int .u64 x598001_54] 30 (0, 0)) (by (with_reducible repeat (first | refine blk_drewN ?_ _ | refine blk_drew ?_ | refine blk_alloc ?_ _)); exact BK597.out) NB597_581.out (by simp)); have n1_ := Aside0.mk (hb); have n2_ := Aside0.mk (hi); clear BK597; clear HB; clear HI581; have BK597 := n0_; have HB := n1_; have HI581 := n2_; clear n0_ n1_ n2_; (try clear hb); (try clear hb2); (try clear hk); (try clear hi)) | ((with_reducible refine gate_callee (f := 12) rfl ?_); refine goesL_ (some 181) rfl rfl Tryd.func12 (by kernel_rfl) rfl #[] rfl (by (try simp only [List.map_toArray, List.map_cons, List.map_nil]); first | done | rfl | (simp only [List.length_drop, List.length_take]; rfl)) ?_; (with_reducible refine (tiklaw23_first.calls kj97  true _ ?side1 A108.out).mono ?_); (case side1 => first | (with_reducible exact HT.out) | exact tabAt HT.out (by repeat (first | (with_reducible first | exact HB.out | apply below_alloc | apply pw_below_drewN | apply below_drew1 | refine below_set ?_ (IsS100.ge HI581.out) | refine below_set ?_ GE597.out) | exact HB.out))); rintro e w114 ⟨rfl, hb⟩; refine ⟨_, rfl, ?_⟩; have n0_ := Aside0.mk (blk_below (g := gb597) (o := .cells #[.int .u64 x598000_54, .int .u64 x598001_54] 30 (0, 0)) (by (with_reducible repeat (first | refine blk_drewN ?_ _ | refine blk_drew ?_ | refine blk_alloc ?_ _)); exact BK597.out) hb); have n1_ := Aside0.mk (IsS100.below (by repeat (first | (with_reducible first | exact HI581.out | apply IsS100.alloc | apply IsS100.drewN | apply IsS100.drew | refine IsS100.far ?_ NB581_597.out _ ?_ | exact typ_of BK597 (by decide) (by decide) | refine typ_set ?_ _ _ _ | refine typ_alloc ?_ _ | refine typ_drewN ?_ _ | refine typ_drew ?_) | exact HI581.out)) hb); have n2_ := Aside0.mk (below_step (by repeat (first | (with_reducible first | exact HB.out | apply below_alloc | apply pw_below_drewN | apply below_drew1 | refine below_set ?_ (IsS100.ge HI581.out) | refine below_set ?_ GE597.out) | exact HB.out)) hb); clear BK597; clear HI581; clear HB; have BK597 := n0_; have HI581 := n1_; have HB := n2_; clear n0_ n1_ n2_; (try clear hb); (try clear hb2); (try clear hk); (try clear hi)) | (go_at_call 18; (with_reducible refine (deck_Deck_Mode.calls g581 t756 t757 t758 t759 t760 t761 t762 t763 t764 t765 t767 t768 t769 t770 t771 t772 t773 t774 t775 t776 t777 w _ ?side1 ?side2 A110.out).mono ?_); (case side1 => repeat (first | (with_reducible first | exact HI581.out | apply IsS100.alloc | apply IsS100.drewN | apply IsS100.drew | refine IsS100.far ?_ NB581_597.out _ ?_ | exact typ_of BK597 (by decide) (by decide) | refine typ_set ?_ _ _ _ | refine typ_alloc ?_ _ | refine typ_drewN ?_ _ | refine typ_drew ?_) | exact HI581.out)); (case side2 => repeat (first | (with_reducible first | exact HB.out | apply below_alloc | apply pw_below_drewN | apply below_drew1 | refine below_set ?_ (IsS100.ge HI581.out) | refine below_set ?_ GE597.out) | exact HB.out)); rintro e w115 ⟨rfl, hi, hb, hk⟩; have n0_ := Aside0.mk (KeepBut.blk hk (g' := gb597) (o := .cells #[.int .u64 x598000_54, .int .u64 x598001_54] 30 (0, 0)) (by (with_reducible repeat (first | refine blk_drewN ?_ _ | refine blk_drew ?_ | refine blk_alloc ?_ _)); exact BK597.out) NB597_581.out (by simp)); have n1_ := Aside0.mk (hb); have n2_ := Aside0.mk (hi); clear BK597; clear HB; clear HI581; have BK597 := n0_; have HB := n1_; have HI581 := n2_; clear n0_ n1_ n2_; (try clear hb); (try clear hb2); (try clear hk); (try clear hi)) | (go_at_call 19; (with_reducible refine (deck_Deck_Pos.calls g581 t768 t769 t770 t771 t772 t773 t774 t775 t776 t777 t778 t779 t780 t781 t782 t783 t784 t785 t786 t787 t788 w _ ?side1 ?side2 A112.out).mono ?_); (case side1 => repeat (first | (with_reducible first | exact HI581.out | apply IsS100.alloc | apply IsS100.drewN | apply IsS100.drew | refine IsS100.far ?_ NB581_597.out _ ?_ | exact typ_of BK597 (by decide) (by decide) | refine typ_set ?_ _ _ _ | refine typ_alloc ?_ _ | refine typ_drewN ?_ _ | refine typ_drew ?_) | exact HI581.out)); (case side2 => repeat (first | (with_reducible first | exact HB.out | apply below_alloc | apply pw_below_drewN | apply below_drew1 | refine below_set ?_ (IsS100.ge HI581.out) | refine below_set ?_ GE597.out) | exact HB.out)); rintro e w116 ⟨rfl, hi, hb, hk⟩; have n0_ := Aside0.mk (KeepBut.blk hk (g' := gb597) (o := .cells #[.int .u64 x598000_54, .int .u64 x598001_54] 30 (0, 0)) (by (with_reducible repeat (first | refine blk_drewN ?_ _ | refine blk_drew ?_ | refine blk_alloc ?_ _)); exact BK597.out) NB597_581.out (by simp)); have n1_ := Aside0.mk (hb); have n2_ := Aside0.mk (hi); clear BK597; clear HB; clear HI581; have BK597 := n0_; have HB := n1_; have HI581 := n2_; clear n0_ n1_ n2_; (try clear hb); (try clear hb2); (try clear hk); (try clear hi)))
                       go_ret
                       exact ⟨by first | rfl | (simp [errW_none, errW_some] <;> rfl) | (simp [*, errW_none, errW_some] <;> rfl), by repeat (first | (with_reducible first | exact HB.out | apply below_alloc | apply pw_below_drewN | apply below_drew1 | refine below_set ?_ (IsS100.ge HI581.out) | refine below_set ?_ GE597.out) | exact HB.out)⟩
                      ·rw [if_neg c111] at H
                       have c111b0 : (t767 == 0) = false := beq_eq_false_iff_ne.mpr c111
                       have c111b1 : (t767 != 0) = true := bne_iff_ne.mpr c111
                       exact absurd ((Option.some.inj H).trans hr_.out) (by simp)
                     ·replace c109 := Bool.eq_false_iff.mpr c109
                      subst c109
                      have H1 : (some false) = some r := by rw [if_neg (show ¬ (false = true) by decide)] at H; exact H
                      clear H
                      have H := H1
                      clear H1
                      exact absurd ((Option.some.inj H).trans hr_.out) (by simp)
 ·replace c8 := Bool.eq_false_iff.mpr c8
  subst c8
  have H1 : (some false) = some r := by rw [if_neg (show ¬ (false = true) by decide)] at H; exact H
  clear H
  have H := H1
  clear H1
  exact absurd ((Option.some.inj H).trans hr_.out) (by simp)

end Go.Proofs.YtlgfmmkabnbllaaDoor.PT
/-
  DeckForward: the plain law. No program.
-/
namespace Go.Proofs.YtlgfmmkabnbllaaDoor.Hand
open Go.RowKit Go.Proofs.YtlgfmmkabnbllaaDoorW.PrintWords Go.Proofs.YtlgfmmkabnbllaaDoorW.PrintLast Go.Proofs.YtlgfmmkabnbllaaDoorW.PrintMore Go.Proofs.YtlgfmmkabnbllaaDoor.PA Go.Proofs.YtlgfmmkabnbllaaDoor.PB Go.Proofs.YtlgfmmkabnbllaaDoor.PC Go.Proofs.YtlgfmmkabnbllaaDoor.PT
set_option linter.unusedSimpArgs false
set_option linter.unusedVariables false

/-- Long enough, it comes to the end. -/
theorem far_end {s P R n d hi : Int} (S : Sp n d) (T : St s P R d) (hn : n ≠ 0) (hP : P ≤ hi) (hh : hi ≤ 1152921504606846976) : hi ≤ (atV s P R n d (s + (hi - P + 1) * 1048576)).1 := by
  have hd := S.d1
  have hd2 := S.d2
  have n0 := S.n0
  have r0 := T.r0
  have p0 := T.p0
  have h1 : hi - P + 1 ≤ ((s + (hi - P + 1) * 1048576 - s) * n + R) / d := by
    rw [Int.le_ediv_iff_mul_le (by omega), show s + (hi - P + 1) * 1048576 - s = (hi - P + 1) * 1048576 by omega]
    have a1 : (hi - P + 1) * d ≤ (hi - P + 1) * 1048576 := Int.mul_le_mul_of_nonneg_left hd2 (by omega)
    have a2 : (hi - P + 1) * 1048576 * 1 ≤ (hi - P + 1) * 1048576 * n := Int.mul_le_mul_of_nonneg_left (by omega) (by omega)
    omega
  unfold atV
  rw [if_neg (show ¬ s + (hi - P + 1) * 1048576 ≤ s by omega)]
  generalize ((s + (hi - P + 1) * 1048576 - s) * n + R) / d = X at *
  by_cases q : X ≥ 4611686018427387904 - P
  · rw [if_pos q]
    show hi ≤ 4611686018427387904
    omega
  · rw [if_neg q]
    show hi ≤ P + X
    omega
theorem fw_j5t (K : Nat) (lo hi t P : Int) (s0 s1 s2 s3 : Int) (s4 : Bool) (s5 s6 s7 s8 s9 : Int) : tiklaw23_DeckForward.j5 (K + 2) lo hi t P true s0 s1 s2 s3 s4 s5 s6 s7 s8 s9 = some true := by
  rw [tiklaw23_DeckForward.j5, if_pos rfl, dfirst_true]; rfl
theorem fw_l0 (K : Nat) {lo hi : Int} {l : List Int} {n d : Int} (S : Sp n d) (hlo : 0 ≤ lo) (hh : hi ≤ 1152921504606846976) (hl : l.length ≤ 200) (hw : ∀ x ∈ l, 0 ≤ x) (hle : lo ≤ hi) :
    ∀ (m i : Nat) (t P R : Int), i + m = l.length → St t P R d → lo ≤ P → P ≤ hi → t ≤ 1152921504606846976 + i * 1073741824 →
      tiklaw23_DeckForward.l0 (K + 2 * m + 3) lo hi l t P (i : Int) 2 P n d true t P R n d n d = some true := by
  intro m
  induction m with
  | zero =>
    intro i t P R hi' T h1 h2 ht
    rw [tiklaw23_DeckForward.l0, if_neg (by omega)]
    by_cases q : n = 0
    · rw [if_pos q, fw_j5t]
    rw [if_neg q, IntWalk.u64_in (hi - P) (by have := T.p0; omega)]
    by_cases q2 : hi - P > 1073741824
    · rw [decide_eq_true q2, fw_j5t]
    have hT : t + (hi - P + 1) * 1048576 ≤ 4611686018427387904 := by omega
    have ht0 := T.s0
    rw [decide_eq_false q2, tiklaw23_DeckForward.j5, if_neg (by decide), IntWalk.u64_in (hi - P) (by have := T.p0; omega), IntWalk.u64_in (hi - P + 1) (by omega), IntWalk.u64_in ((hi - P + 1) * 1048576) (by omega), IntWalk.u64_in (t + (hi - P + 1) * 1048576) (by omega)]
    rw [tick_fw (mayV_yes hle hT (by omega)) S T (by omega) h1 (by omega), if_pos (far_end S T q h2 hh), Option.bind_some, dfirst_true, Option.bind_some, if_pos rfl]
    dsimp only
    rw [mode_f, Option.bind_some]
    dsimp only
    rw [if_pos rfl, pos_f, Option.bind_some]
    dsimp only
    rw [beq_self_eq_true]
  | succ m ih =>
    intro i t P R hi' T h1 h2 ht
    rw [show K + 2 * (m + 1) + 3 = (K + 2 * m + 4) + 1 by omega, tiklaw23_DeckForward.l0, if_pos (by omega), if_pos (by omega)]
    by_cases hb : rd l (i : Int) > 1073741824
    · rw [if_pos hb, dfirst_true]; rfl
    have hr : 0 ≤ rd l (i : Int) := by
      unfold rd
      rw [Int.toNat_natCast, List.getD_eq_getElem?_getD, List.getElem?_eq_getElem (show i < l.length by omega)]
      exact hw _ (List.getElem_mem (show i < l.length by omega))
    have ht0 := T.s0
    rw [if_neg hb, IntWalk.u64_in (t + rd l (i : Int)) (by omega)]
    generalize rd l (i : Int) = x at *
    have hu : U64 (t + x) := ⟨by omega, by omega⟩
    have I := atV_inv S T hu
    rw [tick_fw (mayV_yes hle (by omega) (by omega)) S T (by omega) h1 (by omega), Option.bind_some]
    have w2 : wrap64 ((i : Int) + 1) = ((i + 1 : Nat) : Int) := by
      rw [IntWalk.wrap64_in _ (by omega)]
      omega
    generalize (atV t P R n d (t + x)).1 = Q at *
    generalize (atV t P R n d (t + x)).2 = R2 at *
    obtain ⟨I1, I2⟩ := I
    by_cases q : Q ≥ hi
    · rw [if_pos q]
      dsimp only
      rw [pos_f, Option.bind_some]
      dsimp only
      rw [if_neg (by omega), pos_f, Option.bind_some]
      dsimp only
      rw [if_neg (by omega), mode_f, Option.bind_some]
      dsimp only
      rw [if_neg (by decide), mode_f, Option.bind_some]
      dsimp only
      rw [pos_f, Option.bind_some]
      dsimp only
      rw [show (((0 : Int) == 0) != (hi == hi)) = false by simp, tiklaw23_DeckForward.j4, if_neg (by decide), pos_f, Option.bind_some]
      dsimp only
      rw [mode_f, Option.bind_some]
      dsimp only
      rw [if_pos rfl, dfirst_true]; rfl
    · rw [if_neg q]
      dsimp only
      rw [pos_f, Option.bind_some]
      dsimp only
      rw [if_neg (by omega), pos_f, Option.bind_some]
      dsimp only
      rw [if_neg (by omega), mode_f, Option.bind_some]
      dsimp only
      rw [if_neg (by decide), mode_f, Option.bind_some]
      dsimp only
      rw [pos_f, Option.bind_some]
      dsimp only
      rw [show (Q == hi) = false from beq_eq_false_iff_ne.2 (by omega), show (((2 : Int) == 0) != false) = false from rfl, tiklaw23_DeckForward.j4, if_neg (by decide), pos_f, Option.bind_some]
      dsimp only
      rw [mode_f, Option.bind_some]
      dsimp only
      rw [if_neg (by decide), w2]
      exact ih (i + 1) (t + x) Q R2 (by omega) I1 (by omega) (by omega) (by omega)
theorem fw_any (K : Nat) {now lo hi t : Int} {x : Nat} {l : List Int} (hx : x < 18446744073709551616) (h0 : 0 ≤ now) (hlo : 0 ≤ lo) (hw : ∀ x ∈ l, 0 ≤ x) (hK : l.length = K) :
    tiklaw23_DeckForward.f (2 * K + 7) now lo hi t x l = some true := by
  have bad : ∀ s0 s1 s2 s3 s4 s5 s6 s7 s8 s9, tiklaw23_DeckForward.j0 (2 * K + 7) now lo hi t x l true s0 s1 s2 s3 s4 s5 s6 s7 s8 s9 = some true := by
    intro s0 s1 s2 s3 s4 s5 s6 s7 s8 s9
    rw [tiklaw23_DeckForward.j0, if_pos rfl, if_pos rfl, dfirst_true]; rfl
  unfold tiklaw23_DeckForward.f
  rw [dfirst_true, Option.bind_some, if_pos rfl, new_f, Option.bind_some, if_neg (by decide)]
  by_cases q0 : (l.length : Int) > 200
  · rw [if_pos q0, bad]
  rw [if_neg q0]
  by_cases q1 : lo > hi
  · rw [if_pos q1, bad]
  rw [if_neg q1]
  by_cases q2 : hi > 1152921504606846976
  · rw [if_pos q2, bad]
  rw [if_neg q2]
  by_cases q3 : now > 1152921504606846976
  · rw [if_pos q3, bad]
  rw [if_neg q3]
  by_cases q4 : t < lo
  · rw [decide_eq_true q4, bad]
  have hm : mayV now lo hi = true := mayV_yes (by omega) (by omega) (by omega)
  have ho : rate_Of.f x = some (ofV x) := if_pos hx
  rw [decide_eq_false q4, tiklaw23_DeckForward.j0, if_neg (by decide)]
  dsimp only
  have go : ∀ n d, Sp n d → tiklaw23_DeckForward.j2 (2 * K + 5) now lo hi l 2 (min t hi) n d true now (min t hi) 0 n d n d = some true := by
    intro n d S
    rw [tiklaw23_DeckForward.j2, pos_f, Option.bind_some]
    dsimp only
    have := fw_l0 (lo := lo) (hi := hi) (l := l) 1 S hlo (by omega) (by omega) hw (by omega) K 0 now (min t hi) 0 (by omega) ⟨h0, by omega, by omega, by omega, by omega, by have := S.d1; omega⟩ (by omega) (by omega) (by omega)
    rw [show 1 + 2 * K + 3 = 2 * K + 4 by omega] at this
    exact this
  rcases of_cases x with ⟨n, d, e, S⟩ | ⟨n, d, c, e, hc⟩
  · have hs : deck_Deck_Speed.f (2 * K + 6) 0 0 1 1 false 0 0 0 0 0 now x = some (0, 0, 0, n, d, false, 0, 0, 0, 0, 0) := by
      unfold deck_Deck_Speed.f
      rw [ho, Option.bind_some, e]
      dsimp only
      rw [if_pos rfl, if_neg (by omega), if_neg (by decide)]
    rw [hs, Option.bind_some, ho, Option.bind_some, e]
    dsimp only
    rw [if_pos rfl, seek_stands hm q4 (by decide), Option.bind_some]
    dsimp only
    rw [if_pos rfl, mode_f, Option.bind_some]
    dsimp only
    rw [if_pos rfl, pos_f, Option.bind_some]
    dsimp only
    rw [if_pos (mn_min5 _ _).symm, play_goes (p := min t hi) hm S.may (by omega), Option.bind_some]
    dsimp only
    rw [if_pos rfl, mode_f, Option.bind_some]
    dsimp only
    rw [show ((2 : Int) != 2) = false from rfl, tiklaw23_DeckForward.j1, if_neg (by decide), if_pos rfl]
    exact go n d S
  · have hs : deck_Deck_Speed.f (2 * K + 6) 0 0 1 1 false 0 0 0 0 0 now x = some (c, 0, 0, 1, 1, false, 0, 0, 0, 0, 0) := by
      unfold deck_Deck_Speed.f
      rw [ho, Option.bind_some, e]
      dsimp only
      rw [if_neg hc]
    rw [hs, Option.bind_some, ho, Option.bind_some, e]
    dsimp only
    rw [if_pos rfl, seek_stands hm q4 (by decide), Option.bind_some]
    dsimp only
    rw [if_pos rfl, mode_f, Option.bind_some]
    dsimp only
    rw [if_pos rfl, pos_f, Option.bind_some]
    dsimp only
    rw [if_pos (mn_min5 _ _).symm, play_goes (p := min t hi) hm sp11.may (by omega), Option.bind_some]
    dsimp only
    rw [if_pos rfl, mode_f, Option.bind_some]
    dsimp only
    rw [show ((2 : Int) != 2) = false from rfl, tiklaw23_DeckForward.j1, if_neg (by decide), if_neg hc]
    exact go 1 1 sp11
end Go.Proofs.YtlgfmmkabnbllaaDoor.Hand
namespace Go.Proofs.YtlgfmmkabnbllaaDoor.RowDeckForward
open Go.ChangeShapes Go.WideShapes Go.ChangeAt Go.RowKit
open Go.ChangeMaps (open_string shut_string)
open Go.Proofs.YtlgfmmkabnbllaaDoorW.PrintWords Go.Proofs.YtlgfmmkabnbllaaDoor.Opens
open Go.Proofs.YtlgfmmkabnbllaaDoor.Hand
open Go.Proofs.YtlgfmmkabnbllaaDoor.PT
set_option linter.unusedVariables false
set_option linter.unusedSimpArgs false
theorem ownK : ownKnob Tryd.prog.godebug = none := by kernel_rfl
theorem laidOut : laidOutB Tryd.prog = true := by kernel_rfl
abbrev laid2 : List (String × DataW Unit) := [("math/bits.deBruijn64tab", Rows.laid_math_bits_deBruijn64tab)]
set_option maxRecDepth 100000 in
theorem door_met (os : Os) (args : Array Value) : laidMetH Tryd.prog laid2 ((World.doorLaid Tryd.prog 400 os).forCall (fun _ _ => 0) ⟨#[], args, []⟩).memory :=
  laidMetH_of_parts3 (fuel := 8) (laidMet_of_run' 8 (by kernel_rfl) (by kernel_rfl)) (by kernel_rfl) (by kernel_rfl)
set_option maxRecDepth 100000 in
theorem lifted (os : Os) (started : os.Started) (H : Type) (enc : TypeId × Value → H) :
    ReturnsInHanded {} Tryd.checked os 4 .any (fun w args => (Rows.deckForwardSpec.pre enc Tryd.prog Tryd.f4 [] false w args ∧ laidMetH Tryd.prog laid2 w) ∧ sizedMet enc Tryd.prog Tryd.f4 (OpenSpec.ofChange Rows.deckForwardSpec) false w args)
      (Rows.deckForwardSpec.post enc Tryd.prog Tryd.f4 false true false false) := by
  refine returnsInHanded_of_change_and (C := Tryd.checked) (X := fun w _ => laidMetH Tryd.prog laid2 w) (fun _ _ _ hh h => h.of_heap hh) ownK started (by kernel_rfl) Tryd.func4
    (ChangeSpec.witness_shaped (enc := enc) (C := Tryd.checked) (os := os) (X := fun w _ => laidMetH Tryd.prog laid2 w) false (World.doorLaid Tryd.prog 400 os) #[.int .u64 0, .int .u64 0, .int .u64 0, .int .u64 0, .float .f64 0, .slice none 0 0] 8 rfl (World.shaped_of_RefB (by kernel_rfl) (by kernel_rfl)) (by kernel_rfl) (by kernel_rfl) (by kernel_rfl) (door_met os _)) ?_
  intro W base args ds gs before hval0 hW _ hsz0 hT _
  have hsz : (DataW.weightsEach Tryd.prog (Tryd.f4.params.toList ++ Rows.deckForwardSpec.plain.varTypes Tryd.prog) (ds ++ gs)).all (· ≤ reachBytes) = true := hsz0
  have hval : ∀ (j : Nat) t v, Tryd.f4.params[j]? = some t → args[j]? = some v → Value.okWide Tryd.prog W .any base t v := hval0
  have hW' := hW
  obtain ⟨p, q, hA0, hV, rfl, hfz, hnd⟩ := hW
  have hA : DataW.TrodAll enc Tryd.prog W 0 (fun _ => true) true Tryd.f4.params.toList args.toList ds p := hA0
  rw [Tryd.params4] at hA hval hsz
  obtain ⟨v0, vs0, d0, ds0, p0, q0, hargs, rfl, rfl, h0, r0⟩ := trodAll_cons hA
  obtain ⟨v1, vs1, d1, ds1, p1, q1, rfl, rfl, rfl, h1, r1⟩ := trodAll_cons r0
  obtain ⟨v2, vs2, d2, ds2, p2, q2, rfl, rfl, rfl, h2, r2⟩ := trodAll_cons r1
  obtain ⟨v3, vs3, d3, ds3, p3, q3, rfl, rfl, rfl, h3, r3⟩ := trodAll_cons r2
  obtain ⟨v4, vs4, d4, ds4, p4, q4, rfl, rfl, rfl, h4, r4⟩ := trodAll_cons r3
  obtain ⟨v5, vs5, d5, ds5, p5, q5, rfl, rfl, rfl, h5, r5⟩ := trodAll_cons r4
  obtain ⟨rfl, rfl, rfl⟩ := trodAll_nil r5
  obtain rfl : args = #[v0, v1, v2, v3, v4, v5] := by cases args; simp_all
  obtain ⟨rfl, rfl⟩ := trodVars_none hV
  obtain ⟨a0, rfl, rfl, rfl, w0⟩ := open_int Tryd.underlying28 (hval 0 28 v0 rfl rfl) h0
  obtain ⟨a1, rfl, rfl, rfl, w1⟩ := open_int Tryd.underlying28 (hval 1 28 v1 rfl rfl) h1
  obtain ⟨a2, rfl, rfl, rfl, w2⟩ := open_int Tryd.underlying28 (hval 2 28 v2 rfl rfl) h2
  obtain ⟨a3, rfl, rfl, rfl, w3⟩ := open_int Tryd.underlying28 (hval 3 28 v3 rfl rfl) h3
  obtain ⟨a4, rfl, rfl, rfl, w4⟩ := open_float Tryd.underlying34 (hval 4 34 v4 rfl rfl) h4
  have k5 := h5
  have lt5 : ∀ x ∈ p5, x.block < W.heap.size := by obtain ⟨m, hm⟩ := k5; exact DataW.trod_lt m _ _ _ hm
  obtain ⟨l5, ⟨A5, c5, e5, hc5, hC5⟩, q5⟩ := open_arg (o_slice Tryd.underlying47 (by kernel_rfl) (o_int Tryd.underlying28)) h5
  obtain ⟨_, _, _, z5⟩ := okWide_slice Tryd.underlying47 (hval 5 47 v5 rfl rfl)
  obtain rfl : v5 = .slice A5 l5.length c5 := by subst z5; simpa [Value.cells] using e5
  have y5 := sized_any hsz (j := 5) (t := 47) rfl rfl Tryd.underlying47 h5
  clear hA0 hval0
  refine (tiklaw23_DeckForward.calls (2 * l5.length + 7) a0 a1 a2 a3 a4 A5 c5 l5 true W hC5 hc5 (tabW_of hT) ⟨rfl⟩ (fw_any l5.length (f64_lt w4) (by have := bounds_u64 w0; omega) (by have := bounds_u64 w1; omega) (fun x hx => (bounds_u64 (q5.2 x hx)).1) rfl)).mono fun e W' ⟨he, bel⟩ => ?_
  subst he
  exact ⟨_, rfl, _, _, _, [], _, [], hW', trodAll_mk1 (shut_bool Tryd.underlying4 _), (trodAll_cons_mk (shut_int Tryd.underlying28 w0) (trodAll_cons_mk (shut_int Tryd.underlying28 w1) (trodAll_cons_mk (shut_int Tryd.underlying28 w2) (trodAll_cons_mk (shut_int Tryd.underlying28 w3) (trodAll_cons_mk (shut_float Tryd.underlying34 w4) (trodAll_cons_mk (Below.trod laidOut (by kernel_rfl) (of_decide_eq_true (by kernel_rfl)) k5 bel lt5) trodAll_mk0)))))), rfl, bel.frame _, fun h => by cases h⟩
theorem over : Rows.deckForwardRow.holds Tryd.pinned (OpenSpec.ofChange Rows.deckForwardSpec) :=
  OpenClaim.holds_of_wide 4 Tryd.f4 rfl rfl rfl rfl rfl rfl rfl ⟨rfl, rfl, rfl, rfl, rfl⟩ rfl rfl rfl rfl rfl (by kernel_rfl) Tryd.func4 (by kernel_rfl)
    (of_decide_eq_true (by kernel_rfl)) (by unfold Func.isWrapper; first | (rw [if_pos (by decide +kernel)]; kernel_rfl) | (rw [if_neg (by decide +kernel)]; exact ⟨rfl, rfl⟩))
    (fun os started H enc _ => lifted os started H enc)
theorem card : Rows.DeckForwardCardSaid :=
  Claim7.holds_tied_plain_at .later [] [.data] true (true, "f4cce56c052b8147ed0d96dfe40f3886e39b5e64f551fd0da9ae368612f96104") true
    over (fun _ h => by cases h) (by kernel_rfl) (fun _ h => by cases h) deckForward_row_tie rfl ⟨rfl, rfl⟩ (by kernel_rfl) rfl
    (fun f fn hf hfn => by
      obtain rfl : f = 4 := Option.some.inj ((show Tryd.prog.funcNamed "tickertape/tiklaw23.DeckForward" = some 4 by kernel_rfl).symm.trans hf) |>.symm
      obtain rfl : fn = Tryd.f4 := (Option.some.inj (Tryd.func4.symm.trans hfn)).symm
      exact ⟨by kernel_rfl, fun j t ht => by
        rw [Tryd.params4] at ht
        have hm : t ∈ [28, 28, 28, 28, 34, 47] := by simpa using Array.mem_of_getElem? ht
        have hall : ([28, 28, 28, 28, 34, 47].all fun u => !Tryd.prog.wantsStandIn u) = true := by kernel_rfl
        exact (show Tryd.prog.wantsStandIn t = false by simpa using List.all_eq_true.1 hall t hm)⟩)
    (by kernel_rfl)
#print axioms card
end Go.Proofs.YtlgfmmkabnbllaaDoor.RowDeckForward
namespace Go.Proofs.YtlgfmmkabnbllaaDoor
theorem deckForward_holds : Rows.DeckForwardCardSaid := RowDeckForward.card
end Go.Proofs.YtlgfmmkabnbllaaDoor
