/- Texts of this claim, put together. -/
import Derived.Test.YtlgfmmkabnbllaaDoorMDRb
set_option linter.unusedVariables false
set_option linter.unusedSimpArgs false
namespace Go.Proofs.YtlgfmmkabnbllaaDoor.PT
open Go.RowKit Go.Proofs.YtlgfmmkabnbllaaDoorW.PrintWords Go.Proofs.YtlgfmmkabnbllaaDoorW.PrintLast Go.Proofs.YtlgfmmkabnbllaaDoorW.PrintMore
attribute [local go_sem] max2_int min2_int max_two min_two max_three min_three max_four min_four
open Go.Proofs.YtlgfmmkabnbllaaDoor.Hand
open Go.Proofs.YtlgfmmkabnbllaaDoor.PA
open Go.Proofs.YtlgfmmkabnbllaaDoor.PB
open Go.Proofs.YtlgfmmkabnbllaaDoor.PC
open Go.Proofs.YtlgfmmkabnbllaaDoor.PM
set_option linter.unusedVariables false
set_option linter.unusedSimpArgs false
attribute [local go_sem high] eqA30
mutual
def tiklaw23_DeckRates.j0 : Nat → Int → Int → Int → Int → Nat → Nat → Bool → Int → Int → Int → Int → Bool → Int → Int → Int → Int → Int → Int → Int → Int → Int → Option (Bool)
 | 0, _, _, _, _, _, _, _, _, _, _, _, _, _, _, _, _, _, _, _, _, _ => none
 | k + 1, x0, x1, x2, x3, x4, x5, x63, x801000, x801001, x801002, x801003, x801004, x801005, x801006, x801007, x801008, x801009, x805000, x805001, x809000, x809001 => if x63 = true then (if true = true then ((tiklaw23_first.f k).bind fun t809 => (some t809)) else (some false)) else ((deck_Deck_Speed.f k x801000 x801001 x801002 x801003 x801004 x801005 x801006 x801007 x801008 x801009 x0 x4).bind fun bt810 => (if bt810.1 = 0 then ((deck_Deck_Seek.f bt810.2.1 bt810.2.2.1 bt810.2.2.2.1 bt810.2.2.2.2.1 bt810.2.2.2.2.2.1 bt810.2.2.2.2.2.2.1 bt810.2.2.2.2.2.2.2.1 bt810.2.2.2.2.2.2.2.2.1 bt810.2.2.2.2.2.2.2.2.2.1 bt810.2.2.2.2.2.2.2.2.2.2 x0 0 x1 x2).bind fun bt821 => (if bt821.1 = 0 then ((deck_Deck_Play.f bt821.2.1 bt821.2.2.1 bt821.2.2.2.1 bt821.2.2.2.2.1 bt821.2.2.2.2.2.1 bt821.2.2.2.2.2.2.1 bt821.2.2.2.2.2.2.2.1 bt821.2.2.2.2.2.2.2.2.1 bt821.2.2.2.2.2.2.2.2.2.1 bt821.2.2.2.2.2.2.2.2.2.2 x0 0 x1).bind fun bt832 => (if bt832.1 = 0 then ((deck_Deck_Rate.f bt832.2.1 bt832.2.2.1 bt832.2.2.2.1 bt832.2.2.2.2.1 bt832.2.2.2.2.2.1 bt832.2.2.2.2.2.2.1 bt832.2.2.2.2.2.2.2.1 bt832.2.2.2.2.2.2.2.2.1 bt832.2.2.2.2.2.2.2.2.2.1 bt832.2.2.2.2.2.2.2.2.2.2).bind fun bt843 => (tiklaw23_DeckRates.j1 k x0 x1 x2 x3 x5 (!(bt843.1 == x805000) || (!(bt843.2.1 == x805001))) bt843.2.2.1 bt843.2.2.2.1 bt843.2.2.2.2.1 bt843.2.2.2.2.2.1 bt843.2.2.2.2.2.2.1 bt843.2.2.2.2.2.2.2.1 bt843.2.2.2.2.2.2.2.2.1 bt843.2.2.2.2.2.2.2.2.2.1 bt843.2.2.2.2.2.2.2.2.2.2.1 bt843.2.2.2.2.2.2.2.2.2.2.2 x805000 x805001 x809000 x809001)) else (tiklaw23_DeckRates.j1 k x0 x1 x2 x3 x5 true bt832.2.1 bt832.2.2.1 bt832.2.2.2.1 bt832.2.2.2.2.1 bt832.2.2.2.2.2.1 bt832.2.2.2.2.2.2.1 bt832.2.2.2.2.2.2.2.1 bt832.2.2.2.2.2.2.2.2.1 bt832.2.2.2.2.2.2.2.2.2.1 bt832.2.2.2.2.2.2.2.2.2.2 x805000 x805001 x809000 x809001))) else (tiklaw23_DeckRates.j1 k x0 x1 x2 x3 x5 true bt821.2.1 bt821.2.2.1 bt821.2.2.2.1 bt821.2.2.2.2.1 bt821.2.2.2.2.2.1 bt821.2.2.2.2.2.2.1 bt821.2.2.2.2.2.2.2.1 bt821.2.2.2.2.2.2.2.2.1 bt821.2.2.2.2.2.2.2.2.2.1 bt821.2.2.2.2.2.2.2.2.2.2 x805000 x805001 x809000 x809001))) else (tiklaw23_DeckRates.j1 k x0 x1 x2 x3 x5 true bt810.2.1 bt810.2.2.1 bt810.2.2.2.1 bt810.2.2.2.2.1 bt810.2.2.2.2.2.1 bt810.2.2.2.2.2.2.1 bt810.2.2.2.2.2.2.2.1 bt810.2.2.2.2.2.2.2.2.1 bt810.2.2.2.2.2.2.2.2.2.1 bt810.2.2.2.2.2.2.2.2.2.2 x805000 x805001 x809000 x809001)))
def tiklaw23_DeckRates.j1 : Nat → Int → Int → Int → Int → Nat → Bool → Int → Int → Int → Int → Bool → Int → Int → Int → Int → Int → Int → Int → Int → Int → Option (Bool)
 | 0, _, _, _, _, _, _, _, _, _, _, _, _, _, _, _, _, _, _, _, _ => none
 | k + 1, x0, x1, x2, x3, x5, x94, x801000, x801001, x801002, x801003, x801004, x801005, x801006, x801007, x801008, x801009, x805000, x805001, x809000, x809001 => if x94 = true then (some false) else ((rate_Scale.f x3 0 x805000 x805001).bind fun bt855 => ((deck_Deck_Tick.f x801000 x801001 x801002 x801003 x801004 x801005 x801006 x801007 x801008 x801009 (IntKind.u64.wrap (x0 + x3)) 0 x1).bind fun bt858 => (if bt855.2.2 = 0 then ((deck_Deck_Pos.f bt858.1 bt858.2.1 bt858.2.2.1 bt858.2.2.2.1 bt858.2.2.2.2.1 bt858.2.2.2.2.2.1 bt858.2.2.2.2.2.2.1 bt858.2.2.2.2.2.2.2.1 bt858.2.2.2.2.2.2.2.2.1 bt858.2.2.2.2.2.2.2.2.2).bind fun bt868 => (if bt868.1 = (mn (IntKind.u64.wrap (x2 + bt855.1)) x1) then ((deck_Deck_Mode.f bt868.2.1 bt868.2.2.1 bt868.2.2.2.1 bt868.2.2.2.2.1 bt868.2.2.2.2.2.1 bt868.2.2.2.2.2.2.1 bt868.2.2.2.2.2.2.2.1 bt868.2.2.2.2.2.2.2.2.1 bt868.2.2.2.2.2.2.2.2.2.1 bt868.2.2.2.2.2.2.2.2.2.2).bind fun bt879 => (tiklaw23_DeckRates.j2 k x0 x1 x2 x3 x5 bt855.1 bt855.2.1 ((bt879.1 == 0) != (decide ((IntKind.u64.wrap (x2 + bt855.1)) ≥ x1))) bt879.2.1 bt879.2.2.1 bt879.2.2.2.1 bt879.2.2.2.2.1 bt879.2.2.2.2.2.1 bt879.2.2.2.2.2.2.1 bt879.2.2.2.2.2.2.2.1 bt879.2.2.2.2.2.2.2.2.1 bt879.2.2.2.2.2.2.2.2.2.1 bt879.2.2.2.2.2.2.2.2.2.2 x805000 x805001 x809000 x809001)) else (tiklaw23_DeckRates.j2 k x0 x1 x2 x3 x5 bt855.1 bt855.2.1 true bt868.2.1 bt868.2.2.1 bt868.2.2.2.1 bt868.2.2.2.2.1 bt868.2.2.2.2.2.1 bt868.2.2.2.2.2.2.1 bt868.2.2.2.2.2.2.2.1 bt868.2.2.2.2.2.2.2.2.1 bt868.2.2.2.2.2.2.2.2.2.1 bt868.2.2.2.2.2.2.2.2.2.2 x805000 x805001 x809000 x809001))) else (tiklaw23_DeckRates.j2 k x0 x1 x2 x3 x5 bt855.1 bt855.2.1 true bt858.1 bt858.2.1 bt858.2.2.1 bt858.2.2.2.1 bt858.2.2.2.2.1 bt858.2.2.2.2.2.1 bt858.2.2.2.2.2.2.1 bt858.2.2.2.2.2.2.2.1 bt858.2.2.2.2.2.2.2.2.1 bt858.2.2.2.2.2.2.2.2.2 x805000 x805001 x809000 x809001))))
def tiklaw23_DeckRates.j2 : Nat → Int → Int → Int → Int → Nat → Int → Int → Bool → Int → Int → Int → Int → Bool → Int → Int → Int → Int → Int → Int → Int → Int → Int → Option (Bool)
 | 0, _, _, _, _, _, _, _, _, _, _, _, _, _, _, _, _, _, _, _, _, _, _ => none
 | k + 1, x0, x1, x2, x3, x5, x18, x19, x130, x801000, x801001, x801002, x801003, x801004, x801005, x801006, x801007, x801008, x801009, x805000, x805001, x809000, x809001 => if x130 = true then (some false) else ((deck_Deck_Mode.f x801000 x801001 x801002 x801003 x801004 x801005 x801006 x801007 x801008 x801009).bind fun bt890 => (if bt890.1 = 0 then ((tiklaw23_first.f k).bind fun t901 => (some t901)) else ((deck_Deck_Speed.f k bt890.2.1 bt890.2.2.1 bt890.2.2.2.1 bt890.2.2.2.2.1 bt890.2.2.2.2.2.1 bt890.2.2.2.2.2.2.1 bt890.2.2.2.2.2.2.2.1 bt890.2.2.2.2.2.2.2.2.1 bt890.2.2.2.2.2.2.2.2.2.1 bt890.2.2.2.2.2.2.2.2.2.2 (IntKind.u64.wrap (x0 + x3)) x5).bind fun bt902 => (if bt902.1 = 0 then ((deck_Deck_Rate.f bt902.2.1 bt902.2.2.1 bt902.2.2.2.1 bt902.2.2.2.2.1 bt902.2.2.2.2.2.1 bt902.2.2.2.2.2.2.1 bt902.2.2.2.2.2.2.2.1 bt902.2.2.2.2.2.2.2.2.1 bt902.2.2.2.2.2.2.2.2.2.1 bt902.2.2.2.2.2.2.2.2.2.2).bind fun bt913 => (tiklaw23_DeckRates.j3 k x0 x1 x2 x3 x18 x19 (!(bt913.1 == x809000) || (!(bt913.2.1 == x809001))) bt913.2.2.1 bt913.2.2.2.1 bt913.2.2.2.2.1 bt913.2.2.2.2.2.1 bt913.2.2.2.2.2.2.1 bt913.2.2.2.2.2.2.2.1 bt913.2.2.2.2.2.2.2.2.1 bt913.2.2.2.2.2.2.2.2.2.1 bt913.2.2.2.2.2.2.2.2.2.2.1 bt913.2.2.2.2.2.2.2.2.2.2.2 x805000 x805001 x809000 x809001)) else (tiklaw23_DeckRates.j3 k x0 x1 x2 x3 x18 x19 true bt902.2.1 bt902.2.2.1 bt902.2.2.2.1 bt902.2.2.2.2.1 bt902.2.2.2.2.2.1 bt902.2.2.2.2.2.2.1 bt902.2.2.2.2.2.2.2.1 bt902.2.2.2.2.2.2.2.2.1 bt902.2.2.2.2.2.2.2.2.2.1 bt902.2.2.2.2.2.2.2.2.2.2 x805000 x805001 x809000 x809001)))))
def tiklaw23_DeckRates.j3 : Nat → Int → Int → Int → Int → Int → Int → Bool → Int → Int → Int → Int → Bool → Int → Int → Int → Int → Int → Int → Int → Int → Int → Option (Bool)
 | 0, _, _, _, _, _, _, _, _, _, _, _, _, _, _, _, _, _, _, _, _, _ => none
 | k + 1, x0, x1, x2, x3, x18, x19, x147, x801000, x801001, x801002, x801003, x801004, x801005, x801006, x801007, x801008, x801009, x805000, x805001, x809000, x809001 => if x147 = true then (some false) else (if x805001 = 0 then (none) else ((rate_Scale.f x3 (IntKind.u64.wrap (Int.tdiv (IntKind.u64.wrap (x19 * x809001)) x805001)) x809000 x809001).bind fun bt925 => ((deck_Deck_Tick.f x801000 x801001 x801002 x801003 x801004 x801005 x801006 x801007 x801008 x801009 (IntKind.u64.wrap (x0 + (IntKind.u64.wrap (2 * x3)))) 0 x1).bind fun bt928 => ((tiklaw23_first.f k).bind fun t938 => (if t938 = true then (if bt925.2.2 = 0 then ((deck_Deck_Pos.f bt928.1 bt928.2.1 bt928.2.2.1 bt928.2.2.2.1 bt928.2.2.2.2.1 bt928.2.2.2.2.2.1 bt928.2.2.2.2.2.2.1 bt928.2.2.2.2.2.2.2.1 bt928.2.2.2.2.2.2.2.2.1 bt928.2.2.2.2.2.2.2.2.2).bind fun bt939 => (some (bt939.1 == (mn (IntKind.u64.wrap ((IntKind.u64.wrap (x2 + x18)) + bt925.1)) x1)))) else (some false)) else (some false))))))
end
def tiklaw23_DeckRates.f (k : Nat) (a0 : Int) (a1 : Int) (a2 : Int) (a3 : Int) (a4 : Nat) (a5 : Nat) : Option (Bool) := (tiklaw23_first.f k).bind fun t789 => (if t789 = true then ((deck_New.f).bind fun bt790 => ((rate_Of.f a4).bind fun bt801 => ((rate_Of.f a5).bind fun bt805 => (if false = true then (tiklaw23_DeckRates.j0 k a0 a1 a2 a3 a4 a5 true bt790.1 bt790.2.1 bt790.2.2.1 bt790.2.2.2.1 bt790.2.2.2.2.1 bt790.2.2.2.2.2.1 bt790.2.2.2.2.2.2.1 bt790.2.2.2.2.2.2.2.1 bt790.2.2.2.2.2.2.2.2.1 bt790.2.2.2.2.2.2.2.2.2 bt801.1 bt801.2.1 bt805.1 bt805.2.1) else (if bt801.2.2 = 0 then (if bt805.2.2 = 0 then (if a1 > 1099511627776 then (tiklaw23_DeckRates.j0 k a0 a1 a2 a3 a4 a5 true bt790.1 bt790.2.1 bt790.2.2.1 bt790.2.2.2.1 bt790.2.2.2.2.1 bt790.2.2.2.2.2.1 bt790.2.2.2.2.2.2.1 bt790.2.2.2.2.2.2.2.1 bt790.2.2.2.2.2.2.2.2.1 bt790.2.2.2.2.2.2.2.2.2 bt801.1 bt801.2.1 bt805.1 bt805.2.1) else (if a0 > 1099511627776 then (tiklaw23_DeckRates.j0 k a0 a1 a2 a3 a4 a5 true bt790.1 bt790.2.1 bt790.2.2.1 bt790.2.2.2.1 bt790.2.2.2.2.1 bt790.2.2.2.2.2.1 bt790.2.2.2.2.2.2.1 bt790.2.2.2.2.2.2.2.1 bt790.2.2.2.2.2.2.2.2.1 bt790.2.2.2.2.2.2.2.2.2 bt801.1 bt801.2.1 bt805.1 bt805.2.1) else (if a3 > 1073741824 then (tiklaw23_DeckRates.j0 k a0 a1 a2 a3 a4 a5 true bt790.1 bt790.2.1 bt790.2.2.1 bt790.2.2.2.1 bt790.2.2.2.2.1 bt790.2.2.2.2.2.1 bt790.2.2.2.2.2.2.1 bt790.2.2.2.2.2.2.2.1 bt790.2.2.2.2.2.2.2.2.1 bt790.2.2.2.2.2.2.2.2.2 bt801.1 bt801.2.1 bt805.1 bt805.2.1) else (tiklaw23_DeckRates.j0 k a0 a1 a2 a3 a4 a5 (decide (a2 > a1)) bt790.1 bt790.2.1 bt790.2.2.1 bt790.2.2.2.1 bt790.2.2.2.2.1 bt790.2.2.2.2.2.1 bt790.2.2.2.2.2.2.1 bt790.2.2.2.2.2.2.2.1 bt790.2.2.2.2.2.2.2.2.1 bt790.2.2.2.2.2.2.2.2.2 bt801.1 bt801.2.1 bt805.1 bt805.2.1)))) else (tiklaw23_DeckRates.j0 k a0 a1 a2 a3 a4 a5 true bt790.1 bt790.2.1 bt790.2.2.1 bt790.2.2.2.1 bt790.2.2.2.2.1 bt790.2.2.2.2.2.1 bt790.2.2.2.2.2.2.1 bt790.2.2.2.2.2.2.2.1 bt790.2.2.2.2.2.2.2.2.1 bt790.2.2.2.2.2.2.2.2.2 bt801.1 bt801.2.1 bt805.1 bt805.2.1)) else (tiklaw23_DeckRates.j0 k a0 a1 a2 a3 a4 a5 true bt790.1 bt790.2.1 bt790.2.2.1 bt790.2.2.2.1 bt790.2.2.2.2.1 bt790.2.2.2.2.2.1 bt790.2.2.2.2.2.2.1 bt790.2.2.2.2.2.2.2.1 bt790.2.2.2.2.2.2.2.2.1 bt790.2.2.2.2.2.2.2.2.2 bt801.1 bt801.2.1 bt805.1 bt805.2.1)))))) else (some false))
def tiklaw23_DeckRates.T8 : Bool × List (List Nat × List Nat) := (true, [([], []), ([], []), ([], []), ([0, 1, 2], [0, 1, 2]), ([3], [3]), ([4, 3], [4]), ([5], [5]), ([5], [5]), ([5], [5]), ([5], [5]), ([6, 7, 8, 9, 5, 5], [5, 6, 7, 8, 9]), ([10, 5], [5, 10]), ([5, 11], [5, 11]), ([12, 10], [12]), ([13], [13]), ([13], [13]), ([13], [13]), ([14, 15, 16, 13, 13], [13, 14, 15, 16]), ([17, 13], [13, 17]), ([13, 18], [13, 18]), ([19, 17], [19]), ([20], [20]), ([21, 20, 20], [20, 21]), ([20], [20]), ([22, 23, 20], [20, 22, 23]), ([20, 24], [20, 24])])
def tiklaw23_DeckRates.B8 : List Nat := [0, 0, 0, 7, 15, 31, 63, 63, 63, 63, 1023, 2047, 4095, 8191, 16383, 16383, 16383, 131071, 262143, 524287, 1048575, 2097151, 4194303, 2097151, 16777215, 33554431]
theorem tiklaw23_DeckRates.tab8 : rtab .any (opsOf Tryd.f6 8) = tiklaw23_DeckRates.T8 := by kernel_rfl
theorem tiklaw23_DeckRates.bits8 : waitsOk tiklaw23_DeckRates.T8.2 tiklaw23_DeckRates.B8 = true := by kernel_rfl
def tiklaw23_DeckRates.T16 : Bool × List (List Nat × List Nat) := (true, [([], []), ([], []), ([], []), ([1, 2], [1, 2]), ([], []), ([0, 3, 4], [0, 3, 4]), ([5], [5]), ([6, 5], [6]), ([7], [7]), ([8, 7, 7], [7, 8]), ([7], [7]), ([9, 10, 7], [7, 9, 10]), ([7, 11], [7, 11])])
def tiklaw23_DeckRates.B16 : List Nat := [0, 0, 0, 6, 0, 31, 63, 127, 255, 511, 255, 2047, 4095]
theorem tiklaw23_DeckRates.tab16 : rtab .any (opsOf Tryd.f6 16) = tiklaw23_DeckRates.T16 := by kernel_rfl
theorem tiklaw23_DeckRates.bits16 : waitsOk tiklaw23_DeckRates.T16.2 tiklaw23_DeckRates.B16 = true := by kernel_rfl
def tiklaw23_DeckRates.T18 : Bool × List (List Nat × List Nat) := (true, [([], []), ([], []), ([], []), ([2], [2]), ([1, 3], [1, 3]), ([], []), ([5], [5]), ([4, 6], [4, 6]), ([], []), ([0, 7, 8], [0, 7, 8]), ([9], [9]), ([10], [10]), ([10], [10]), ([10], [10]), ([11, 9, 0, 1, 2, 3, 4, 5, 6, 7, 8, 9, 10, 11], [11]), ([12, 14, 0, 1, 2, 3, 4, 5, 6, 7, 8, 9, 10, 11, 12, 14], [12]), ([13, 15, 0, 1, 2, 3, 4, 5, 6, 7, 8, 9, 10, 11, 12, 13, 14, 15], [13])])
def tiklaw23_DeckRates.B18 : List Nat := [0, 0, 0, 4, 14, 0, 32, 126, 0, 511, 1023, 2047, 2047, 2047, 4095, 24575, 65535]
theorem tiklaw23_DeckRates.tab18 : rtab .any (opsOf Tryd.f6 18) = tiklaw23_DeckRates.T18 := by kernel_rfl
theorem tiklaw23_DeckRates.bits18 : waitsOk tiklaw23_DeckRates.T18.2 tiklaw23_DeckRates.B18 = true := by kernel_rfl
set_option maxHeartbeats 8000000 in
set_option maxRecDepth 100000 in
theorem tiklaw23_DeckRates.calls (k : Nat) (a0 : Int) (a1 : Int) (a2 : Int) (a3 : Int) (a4 : Nat) (a5 : Nat) (r : Bool) (w : World) (hT : TabW w) (hr_ : Aside0 (r = true)) (h : tiklaw23_DeckRates.f k a0 a1 a2 a3 a4 a5 = some r) :
  Calls Tryd.prog 6 #[.int .u64 a0, .int .u64 a1, .int .u64 a2, .int .u64 a3, .float .f64 a4, .float .f64 a5] w fun e w' => e = .returned (.bool r) ∧ Below w.heap.size w w' := by
 have HT := Aside0.mk hT
 clear hT
 have hu30 := Tryd.underlying30
 have HB := Aside0.mk (Below.refl w.heap.size w)
 have H : ((tiklaw23_first.f k).bind fun t789 => (if t789 = true then ((deck_New.f).bind fun bt790 => ((rate_Of.f a4).bind fun bt801 => ((rate_Of.f a5).bind fun bt805 => (if false = true then (tiklaw23_DeckRates.j0 k a0 a1 a2 a3 a4 a5 true bt790.1 bt790.2.1 bt790.2.2.1 bt790.2.2.2.1 bt790.2.2.2.2.1 bt790.2.2.2.2.2.1 bt790.2.2.2.2.2.2.1 bt790.2.2.2.2.2.2.2.1 bt790.2.2.2.2.2.2.2.2.1 bt790.2.2.2.2.2.2.2.2.2 bt801.1 bt801.2.1 bt805.1 bt805.2.1) else (if bt801.2.2 = 0 then (if bt805.2.2 = 0 then (if a1 > 1099511627776 then (tiklaw23_DeckRates.j0 k a0 a1 a2 a3 a4 a5 true bt790.1 bt790.2.1 bt790.2.2.1 bt790.2.2.2.1 bt790.2.2.2.2.1 bt790.2.2.2.2.2.1 bt790.2.2.2.2.2.2.1 bt790.2.2.2.2.2.2.2.1 bt790.2.2.2.2.2.2.2.2.1 bt790.2.2.2.2.2.2.2.2.2 bt801.1 bt801.2.1 bt805.1 bt805.2.1) else (if a0 > 1099511627776 then (tiklaw23_DeckRates.j0 k a0 a1 a2 a3 a4 a5 true bt790.1 bt790.2.1 bt790.2.2.1 bt790.2.2.2.1 bt790.2.2.2.2.1 bt790.2.2.2.2.2.1 bt790.2.2.2.2.2.2.1 bt790.2.2.2.2.2.2.2.1 bt790.2.2.2.2.2.2.2.2.1 bt790.2.2.2.2.2.2.2.2.2 bt801.1 bt801.2.1 bt805.1 bt805.2.1) else (if a3 > 1073741824 then (tiklaw23_DeckRates.j0 k a0 a1 a2 a3 a4 a5 true bt790.1 bt790.2.1 bt790.2.2.1 bt790.2.2.2.1 bt790.2.2.2.2.1 bt790.2.2.2.2.2.1 bt790.2.2.2.2.2.2.1 bt790.2.2.2.2.2.2.2.1 bt790.2.2.2.2.2.2.2.2.1 bt790.2.2.2.2.2.2.2.2.2 bt801.1 bt801.2.1 bt805.1 bt805.2.1) else (tiklaw23_DeckRates.j0 k a0 a1 a2 a3 a4 a5 (decide (a2 > a1)) bt790.1 bt790.2.1 bt790.2.2.1 bt790.2.2.2.1 bt790.2.2.2.2.1 bt790.2.2.2.2.2.1 bt790.2.2.2.2.2.2.1 bt790.2.2.2.2.2.2.2.1 bt790.2.2.2.2.2.2.2.2.1 bt790.2.2.2.2.2.2.2.2.2 bt801.1 bt801.2.1 bt805.1 bt805.2.1)))) else (tiklaw23_DeckRates.j0 k a0 a1 a2 a3 a4 a5 true bt790.1 bt790.2.1 bt790.2.2.1 bt790.2.2.2.1 bt790.2.2.2.2.1 bt790.2.2.2.2.2.1 bt790.2.2.2.2.2.2.1 bt790.2.2.2.2.2.2.2.1 bt790.2.2.2.2.2.2.2.2.1 bt790.2.2.2.2.2.2.2.2.2 bt801.1 bt801.2.1 bt805.1 bt805.2.1)) else (tiklaw23_DeckRates.j0 k a0 a1 a2 a3 a4 a5 true bt790.1 bt790.2.1 bt790.2.2.1 bt790.2.2.2.1 bt790.2.2.2.2.1 bt790.2.2.2.2.2.1 bt790.2.2.2.2.2.2.1 bt790.2.2.2.2.2.2.2.1 bt790.2.2.2.2.2.2.2.2.1 bt790.2.2.2.2.2.2.2.2.2 bt801.1 bt801.2.1 bt805.1 bt805.2.1)))))) else (some false))) = some r := h
 clear h
 replace H := Option.bind_eq_some_iff.mp H
 obtain ⟨t789, A70, H⟩ := H
 replace H : (if t789 = true then ((deck_New.f).bind fun bt790 => ((rate_Of.f a4).bind fun bt801 => ((rate_Of.f a5).bind fun bt805 => (if false = true then (tiklaw23_DeckRates.j0 k a0 a1 a2 a3 a4 a5 true bt790.1 bt790.2.1 bt790.2.2.1 bt790.2.2.2.1 bt790.2.2.2.2.1 bt790.2.2.2.2.2.1 bt790.2.2.2.2.2.2.1 bt790.2.2.2.2.2.2.2.1 bt790.2.2.2.2.2.2.2.2.1 bt790.2.2.2.2.2.2.2.2.2 bt801.1 bt801.2.1 bt805.1 bt805.2.1) else (if bt801.2.2 = 0 then (if bt805.2.2 = 0 then (if a1 > 1099511627776 then (tiklaw23_DeckRates.j0 k a0 a1 a2 a3 a4 a5 true bt790.1 bt790.2.1 bt790.2.2.1 bt790.2.2.2.1 bt790.2.2.2.2.1 bt790.2.2.2.2.2.1 bt790.2.2.2.2.2.2.1 bt790.2.2.2.2.2.2.2.1 bt790.2.2.2.2.2.2.2.2.1 bt790.2.2.2.2.2.2.2.2.2 bt801.1 bt801.2.1 bt805.1 bt805.2.1) else (if a0 > 1099511627776 then (tiklaw23_DeckRates.j0 k a0 a1 a2 a3 a4 a5 true bt790.1 bt790.2.1 bt790.2.2.1 bt790.2.2.2.1 bt790.2.2.2.2.1 bt790.2.2.2.2.2.1 bt790.2.2.2.2.2.2.1 bt790.2.2.2.2.2.2.2.1 bt790.2.2.2.2.2.2.2.2.1 bt790.2.2.2.2.2.2.2.2.2 bt801.1 bt801.2.1 bt805.1 bt805.2.1) else (if a3 > 1073741824 then (tiklaw23_DeckRates.j0 k a0 a1 a2 a3 a4 a5 true bt790.1 bt790.2.1 bt790.2.2.1 bt790.2.2.2.1 bt790.2.2.2.2.1 bt790.2.2.2.2.2.1 bt790.2.2.2.2.2.2.1 bt790.2.2.2.2.2.2.2.1 bt790.2.2.2.2.2.2.2.2.1 bt790.2.2.2.2.2.2.2.2.2 bt801.1 bt801.2.1 bt805.1 bt805.2.1) else (tiklaw23_DeckRates.j0 k a0 a1 a2 a3 a4 a5 (decide (a2 > a1)) bt790.1 bt790.2.1 bt790.2.2.1 bt790.2.2.2.1 bt790.2.2.2.2.1 bt790.2.2.2.2.2.1 bt790.2.2.2.2.2.2.1 bt790.2.2.2.2.2.2.2.1 bt790.2.2.2.2.2.2.2.2.1 bt790.2.2.2.2.2.2.2.2.2 bt801.1 bt801.2.1 bt805.1 bt805.2.1)))) else (tiklaw23_DeckRates.j0 k a0 a1 a2 a3 a4 a5 true bt790.1 bt790.2.1 bt790.2.2.1 bt790.2.2.2.1 bt790.2.2.2.2.1 bt790.2.2.2.2.2.1 bt790.2.2.2.2.2.2.1 bt790.2.2.2.2.2.2.2.1 bt790.2.2.2.2.2.2.2.2.1 bt790.2.2.2.2.2.2.2.2.2 bt801.1 bt801.2.1 bt805.1 bt805.2.1)) else (tiklaw23_DeckRates.j0 k a0 a1 a2 a3 a4 a5 true bt790.1 bt790.2.1 bt790.2.2.1 bt790.2.2.2.1 bt790.2.2.2.2.1 bt790.2.2.2.2.2.1 bt790.2.2.2.2.2.2.1 bt790.2.2.2.2.2.2.2.1 bt790.2.2.2.2.2.2.2.2.1 bt790.2.2.2.2.2.2.2.2.2 bt801.1 bt801.2.1 bt805.1 bt805.2.1)))))) else (some false)) = some r := H
 have A7 := Aside0.mk A70
 clear A70
 by_cases c8 : t789 = true
 ·subst c8
  have H1 : ((deck_New.f).bind fun bt790 => ((rate_Of.f a4).bind fun bt801 => ((rate_Of.f a5).bind fun bt805 => (if false = true then (tiklaw23_DeckRates.j0 k a0 a1 a2 a3 a4 a5 true bt790.1 bt790.2.1 bt790.2.2.1 bt790.2.2.2.1 bt790.2.2.2.2.1 bt790.2.2.2.2.2.1 bt790.2.2.2.2.2.2.1 bt790.2.2.2.2.2.2.2.1 bt790.2.2.2.2.2.2.2.2.1 bt790.2.2.2.2.2.2.2.2.2 bt801.1 bt801.2.1 bt805.1 bt805.2.1) else (if bt801.2.2 = 0 then (if bt805.2.2 = 0 then (if a1 > 1099511627776 then (tiklaw23_DeckRates.j0 k a0 a1 a2 a3 a4 a5 true bt790.1 bt790.2.1 bt790.2.2.1 bt790.2.2.2.1 bt790.2.2.2.2.1 bt790.2.2.2.2.2.1 bt790.2.2.2.2.2.2.1 bt790.2.2.2.2.2.2.2.1 bt790.2.2.2.2.2.2.2.2.1 bt790.2.2.2.2.2.2.2.2.2 bt801.1 bt801.2.1 bt805.1 bt805.2.1) else (if a0 > 1099511627776 then (tiklaw23_DeckRates.j0 k a0 a1 a2 a3 a4 a5 true bt790.1 bt790.2.1 bt790.2.2.1 bt790.2.2.2.1 bt790.2.2.2.2.1 bt790.2.2.2.2.2.1 bt790.2.2.2.2.2.2.1 bt790.2.2.2.2.2.2.2.1 bt790.2.2.2.2.2.2.2.2.1 bt790.2.2.2.2.2.2.2.2.2 bt801.1 bt801.2.1 bt805.1 bt805.2.1) else (if a3 > 1073741824 then (tiklaw23_DeckRates.j0 k a0 a1 a2 a3 a4 a5 true bt790.1 bt790.2.1 bt790.2.2.1 bt790.2.2.2.1 bt790.2.2.2.2.1 bt790.2.2.2.2.2.1 bt790.2.2.2.2.2.2.1 bt790.2.2.2.2.2.2.2.1 bt790.2.2.2.2.2.2.2.2.1 bt790.2.2.2.2.2.2.2.2.2 bt801.1 bt801.2.1 bt805.1 bt805.2.1) else (tiklaw23_DeckRates.j0 k a0 a1 a2 a3 a4 a5 (decide (a2 > a1)) bt790.1 bt790.2.1 bt790.2.2.1 bt790.2.2.2.1 bt790.2.2.2.2.1 bt790.2.2.2.2.2.1 bt790.2.2.2.2.2.2.1 bt790.2.2.2.2.2.2.2.1 bt790.2.2.2.2.2.2.2.2.1 bt790.2.2.2.2.2.2.2.2.2 bt801.1 bt801.2.1 bt805.1 bt805.2.1)))) else (tiklaw23_DeckRates.j0 k a0 a1 a2 a3 a4 a5 true bt790.1 bt790.2.1 bt790.2.2.1 bt790.2.2.2.1 bt790.2.2.2.2.1 bt790.2.2.2.2.2.1 bt790.2.2.2.2.2.2.1 bt790.2.2.2.2.2.2.2.1 bt790.2.2.2.2.2.2.2.2.1 bt790.2.2.2.2.2.2.2.2.2 bt801.1 bt801.2.1 bt805.1 bt805.2.1)) else (tiklaw23_DeckRates.j0 k a0 a1 a2 a3 a4 a5 true bt790.1 bt790.2.1 bt790.2.2.1 bt790.2.2.2.1 bt790.2.2.2.2.1 bt790.2.2.2.2.2.1 bt790.2.2.2.2.2.2.1 bt790.2.2.2.2.2.2.2.1 bt790.2.2.2.2.2.2.2.2.1 bt790.2.2.2.2.2.2.2.2.2 bt801.1 bt801.2.1 bt805.1 bt805.2.1)))))) = some r := by rw [if_pos rfl] at H; exact H
  clear H
  have H := H1
  clear H1
  replace H := Option.bind_eq_some_iff.mp H
  obtain ⟨⟨t790, t791, t792, t793, t794, t795, t796, t797, t798, t799⟩, A90, H⟩ := H
  replace H : ((rate_Of.f a4).bind fun bt801 => ((rate_Of.f a5).bind fun bt805 => (if false = true then (tiklaw23_DeckRates.j0 k a0 a1 a2 a3 a4 a5 true t790 t791 t792 t793 t794 t795 t796 t797 t798 t799 bt801.1 bt801.2.1 bt805.1 bt805.2.1) else (if bt801.2.2 = 0 then (if bt805.2.2 = 0 then (if a1 > 1099511627776 then (tiklaw23_DeckRates.j0 k a0 a1 a2 a3 a4 a5 true t790 t791 t792 t793 t794 t795 t796 t797 t798 t799 bt801.1 bt801.2.1 bt805.1 bt805.2.1) else (if a0 > 1099511627776 then (tiklaw23_DeckRates.j0 k a0 a1 a2 a3 a4 a5 true t790 t791 t792 t793 t794 t795 t796 t797 t798 t799 bt801.1 bt801.2.1 bt805.1 bt805.2.1) else (if a3 > 1073741824 then (tiklaw23_DeckRates.j0 k a0 a1 a2 a3 a4 a5 true t790 t791 t792 t793 t794 t795 t796 t797 t798 t799 bt801.1 bt801.2.1 bt805.1 bt805.2.1) else (tiklaw23_DeckRates.j0 k a0 a1 a2 a3 a4 a5 (decide (a2 > a1)) t790 t791 t792 t793 t794 t795 t796 t797 t798 t799 bt801.1 bt801.2.1 bt805.1 bt805.2.1)))) else (tiklaw23_DeckRates.j0 k a0 a1 a2 a3 a4 a5 true t790 t791 t792 t793 t794 t795 t796 t797 t798 t799 bt801.1 bt801.2.1 bt805.1 bt805.2.1)) else (tiklaw23_DeckRates.j0 k a0 a1 a2 a3 a4 a5 true t790 t791 t792 t793 t794 t795 t796 t797 t798 t799 bt801.1 bt801.2.1 bt805.1 bt805.2.1))))) = some r := H
  have A9 := Aside0.mk A90
  clear A90
  replace H := Option.bind_eq_some_iff.mp H
  obtain ⟨⟨t801, t802, t803⟩, A100, H⟩ := H
  replace H : ((rate_Of.f a5).bind fun bt805 => (if false = true then (tiklaw23_DeckRates.j0 k a0 a1 a2 a3 a4 a5 true t790 t791 t792 t793 t794 t795 t796 t797 t798 t799 t801 t802 bt805.1 bt805.2.1) else (if t803 = 0 then (if bt805.2.2 = 0 then (if a1 > 1099511627776 then (tiklaw23_DeckRates.j0 k a0 a1 a2 a3 a4 a5 true t790 t791 t792 t793 t794 t795 t796 t797 t798 t799 t801 t802 bt805.1 bt805.2.1) else (if a0 > 1099511627776 then (tiklaw23_DeckRates.j0 k a0 a1 a2 a3 a4 a5 true t790 t791 t792 t793 t794 t795 t796 t797 t798 t799 t801 t802 bt805.1 bt805.2.1) else (if a3 > 1073741824 then (tiklaw23_DeckRates.j0 k a0 a1 a2 a3 a4 a5 true t790 t791 t792 t793 t794 t795 t796 t797 t798 t799 t801 t802 bt805.1 bt805.2.1) else (tiklaw23_DeckRates.j0 k a0 a1 a2 a3 a4 a5 (decide (a2 > a1)) t790 t791 t792 t793 t794 t795 t796 t797 t798 t799 t801 t802 bt805.1 bt805.2.1)))) else (tiklaw23_DeckRates.j0 k a0 a1 a2 a3 a4 a5 true t790 t791 t792 t793 t794 t795 t796 t797 t798 t799 t801 t802 bt805.1 bt805.2.1)) else (tiklaw23_DeckRates.j0 k a0 a1 a2 a3 a4 a5 true t790 t791 t792 t793 t794 t795 t796 t797 t798 t799 t801 t802 bt805.1 bt805.2.1)))) = some r := H
  have A10 := Aside0.mk A100
  clear A100
  replace H := Option.bind_eq_some_iff.mp H
  obtain ⟨⟨t805, t806, t807⟩, A110, H⟩ := H
  replace H : (if false = true then (tiklaw23_DeckRates.j0 k a0 a1 a2 a3 a4 a5 true t790 t791 t792 t793 t794 t795 t796 t797 t798 t799 t801 t802 t805 t806) else (if t803 = 0 then (if t807 = 0 then (if a1 > 1099511627776 then (tiklaw23_DeckRates.j0 k a0 a1 a2 a3 a4 a5 true t790 t791 t792 t793 t794 t795 t796 t797 t798 t799 t801 t802 t805 t806) else (if a0 > 1099511627776 then (tiklaw23_DeckRates.j0 k a0 a1 a2 a3 a4 a5 true t790 t791 t792 t793 t794 t795 t796 t797 t798 t799 t801 t802 t805 t806) else (if a3 > 1073741824 then (tiklaw23_DeckRates.j0 k a0 a1 a2 a3 a4 a5 true t790 t791 t792 t793 t794 t795 t796 t797 t798 t799 t801 t802 t805 t806) else (tiklaw23_DeckRates.j0 k a0 a1 a2 a3 a4 a5 (decide (a2 > a1)) t790 t791 t792 t793 t794 t795 t796 t797 t798 t799 t801 t802 t805 t806)))) else (tiklaw23_DeckRates.j0 k a0 a1 a2 a3 a4 a5 true t790 t791 t792 t793 t794 t795 t796 t797 t798 t799 t801 t802 t805 t806)) else (tiklaw23_DeckRates.j0 k a0 a1 a2 a3 a4 a5 true t790 t791 t792 t793 t794 t795 t796 t797 t798 t799 t801 t802 t805 t806))) = some r := H
  have A11 := Aside0.mk A110
  clear A110
  have HC12 := Aside0.mk H
  clear H
  go_enter Tryd.func6, Tryd.ntmps6
  go_upto_region 6 with (first | ((with_reducible refine gate_callee (f := 12) rfl ?_); refine goesL_ (some 24) rfl rfl Tryd.func12 (by kernel_rfl) rfl #[] rfl (by (try simp only [List.map_toArray, List.map_cons, List.map_nil]); first | done | rfl | (simp only [List.length_drop, List.length_take]; rfl)) ?_; (with_reducible refine (tiklaw23_first.calls k  true _ ?side1 A7.out).mono ?_); (case side1 => first | (with_reducible exact HT.out) | exact tabAt HT.out (by repeat (first | (with_reducible first | exact HB.out | apply below_alloc | apply pw_below_drewN | apply below_drew1) | exact HB.out))); rintro e w13 ⟨rfl, hb⟩; refine ⟨_, rfl, ?_⟩; have n0_ := Aside0.mk (below_step (by repeat (first | (with_reducible first | exact HB.out | apply below_alloc | apply pw_below_drewN | apply below_drew1) | exact HB.out)) hb); clear HB; have HB := n0_; clear n0_; (try clear hb); (try clear hb2); (try clear hk); (try clear hi)) | ((with_reducible refine gate_callee (f := 13) rfl ?_); refine goesL_ (some 26) rfl rfl Tryd.func13 (by kernel_rfl) rfl #[] rfl (by (try simp only [List.map_toArray, List.map_cons, List.map_nil]); first | done | rfl | (simp only [List.length_drop, List.length_take]; rfl)) ?_; (with_reducible refine (deck_New.calls  t790 t791 t792 t793 t794 t795 t796 t797 t798 t799 w _ ?side1 A9.out).mono ?_); (case side1 => repeat (first | (with_reducible first | exact HB.out | apply below_alloc | apply pw_below_drewN | apply below_drew1) | exact HB.out)); rintro e w14 ⟨g800, rfl, hi, hb, hb2, hnew⟩; refine ⟨_, rfl, ?_⟩; have n0_ := Aside0.mk (hb); have n1_ := Aside0.mk (hi); clear HB; have HB := n0_; have HI800 := n1_; clear n0_ n1_; (try clear hb); (try clear hb2); (try clear hk); (try clear hi)) | ((with_reducible refine gate_callee (f := 22) rfl ?_); refine goesL_ (some 29) rfl rfl Tryd.func22 (by kernel_rfl) rfl #[.float .f64 a4] rfl (by (try simp only [List.map_toArray, List.map_cons, List.map_nil]); first | done | rfl | (simp only [List.length_drop, List.length_take]; rfl)) ?_; (with_reducible refine (rate_Of.calls a4 t801 t802 t803 _ ?side1 A10.out).mono ?_); (case side1 => first | (with_reducible exact HT.out) | exact tabAt HT.out (by repeat (first | (with_reducible first | exact HB.out | apply below_alloc | apply pw_below_drewN | apply below_drew1 | refine below_set ?_ (IsS100.ge HI800.out)) | exact HB.out))); rintro e w15 ⟨rfl, hb⟩; refine ⟨_, rfl, ?_⟩; have n0_ := Aside0.mk (IsS100.below (by repeat (first | (with_reducible first | exact HI800.out | apply IsS100.alloc | apply IsS100.drewN | apply IsS100.drew) | exact HI800.out)) hb); have n1_ := Aside0.mk (below_step (by repeat (first | (with_reducible first | exact HB.out | apply below_alloc | apply pw_below_drewN | apply below_drew1 | refine below_set ?_ (IsS100.ge HI800.out)) | exact HB.out)) hb); clear HI800; clear HB; have HI800 := n0_; have HB := n1_; clear n0_ n1_; (try clear hb); (try clear hb2); (try clear hk); (try clear hi)) | ((with_reducible refine gate_dst (N := 14) rfl ?_); (try (refine gate_guard (by rfl) ?_; dsimp only)); refine box_event ?hg (N := 14) ?hd (cs := #[.int .u64 0, .int .u64 0]) (t := 30) ?hr ?_; (case hd => rfl); (case hg => rfl); (case hr => first | (go_simp; done) | (go_simp; rfl)); intro gb804 hg w16 hbox hb; have n0_ := Aside0.mk (IsS100.below (by repeat (first | (with_reducible first | exact HI800.out | apply IsS100.alloc | apply IsS100.drewN | apply IsS100.drew) | exact HI800.out)) hb); have n1_ := Aside0.mk (below_step (by repeat (first | (with_reducible first | exact HB.out | apply below_alloc | apply pw_below_drewN | apply below_drew1 | refine below_set ?_ (IsS100.ge HI800.out)) | exact HB.out)) hb); have n2_ := Aside0.mk (hbox); have n3_ := Aside0.mk ((by rw [hg]; exact (below_size (by repeat (first | (with_reducible first | exact HB.out | apply below_alloc | apply pw_below_drewN | apply below_drew1 | refine below_set ?_ (IsS100.ge HI800.out)) | exact HB.out))) : w.heap.size ≤ gb804)); have n4_ := Aside0.mk ((by rw [hg]; exact (below_size (by repeat (first | (with_reducible first | exact HB.out | apply below_alloc | apply pw_below_drewN | apply below_drew1 | refine below_set ?_ (IsS100.ge HI800.out)) | exact HB.out))) : w.heap.size ≤ gb804)); have n5_ := Aside0.mk ((by rw [hg]; exact Nat.ne_of_lt (IsS100.lt (show IsS100 w _ g800 t790 t791 t792 t793 t794 t795 t796 t797 t798 t799 from by repeat (first | (with_reducible first | exact HI800.out | apply IsS100.alloc | apply IsS100.drewN | apply IsS100.drew) | exact HI800.out))) : g800 ≠ gb804)); have n6_ := Aside0.mk ((by rw [hg]; exact Nat.ne_of_gt (IsS100.lt (show IsS100 w _ g800 t790 t791 t792 t793 t794 t795 t796 t797 t798 t799 from by repeat (first | (with_reducible first | exact HI800.out | apply IsS100.alloc | apply IsS100.drewN | apply IsS100.drew) | exact HI800.out))) : gb804 ≠ g800)); clear HI800; clear HB; have HI800 := n0_; have HB := n1_; have BK804 := n2_; have GW804 := n3_; have GE804 := n4_; have NB800_804 := n5_; have NB804_800 := n6_; clear n0_ n1_ n2_ n3_ n4_ n5_ n6_; clear hb hbox hg; have hnb17 := NB804_800.out; have hnc17 := NB800_804.out; have hcz18_0 : w16.cell? ⟨gb804, 0, none⟩ = some (.int .u64 0) := (blk_cell BK804.out 0).trans rfl; have hcz18_1 : w16.cell? ⟨gb804, 1, none⟩ = some (.int .u64 0) := (blk_cell BK804.out 1).trans rfl; have hfz18_0 := blk_frozen BK804.out 0; have hfz18_1 := blk_frozen BK804.out 1) | ((with_reducible refine gate_callee (f := 22) rfl ?_); refine goesL_ (some 34) rfl rfl Tryd.func22 (by kernel_rfl) rfl #[.float .f64 a5] rfl (by (try simp only [List.map_toArray, List.map_cons, List.map_nil]); first | done | rfl | (simp only [List.length_drop, List.length_take]; rfl)) ?_; (with_reducible refine (rate_Of.calls a5 t805 t806 t807 _ ?side1 A11.out).mono ?_); (case side1 => first | (with_reducible exact HT.out) | exact tabAt HT.out (by repeat (first | (with_reducible first | exact HB.out | apply below_alloc | apply pw_below_drewN | apply below_drew1 | refine below_set ?_ (IsS100.ge HI800.out) | refine below_set ?_ GE804.out) | exact HB.out))); rintro e w19 ⟨rfl, hb⟩; refine ⟨_, rfl, ?_⟩; have n0_ := Aside0.mk (IsS100.below (show IsS100 w ((w16.setCell ⟨gb804, 0, none⟩ (.int .u64 t801)).setCell ⟨gb804, 1, none⟩ (.int .u64 t802)) g800 t790 t791 t792 t793 t794 t795 t796 t797 t798 t799 from by repeat (first | (with_reducible first | exact HI800.out | apply IsS100.alloc | apply IsS100.drewN | apply IsS100.drew | refine IsS100.far ?_ NB800_804.out _ ?_ | exact typ_of BK804 (by decide) (by decide) | refine typ_set ?_ _ _ _ | refine typ_alloc ?_ _ | refine typ_drewN ?_ _ | refine typ_drew ?_) | exact HI800.out)) hb); have n1_ := Aside0.mk (blk_below (g := gb804) (o := .cells #[.int .u64 t801, .int .u64 t802] 30 (0, 0)) (by (with_reducible repeat (first | refine blk_drewN ?_ _ | refine blk_drew ?_ | refine blk_alloc ?_ _)); refine blk_put (cs := #[.int .u64 t801, .int .u64 0]) ?_ 1 _ rfl; (with_reducible repeat (first | refine blk_drewN ?_ _ | refine blk_drew ?_ | refine blk_alloc ?_ _)); refine blk_put (cs := #[.int .u64 0, .int .u64 0]) ?_ 0 _ rfl; (with_reducible repeat (first | refine blk_drewN ?_ _ | refine blk_drew ?_ | refine blk_alloc ?_ _)); exact BK804.out) hb); have n2_ := Aside0.mk (below_step (by repeat (first | (with_reducible first | exact HB.out | apply below_alloc | apply pw_below_drewN | apply below_drew1 | refine below_set ?_ (IsS100.ge HI800.out) | refine below_set ?_ GE804.out) | exact HB.out)) hb); clear HI800; clear BK804; clear HB; have HI800 := n0_; have BK804 := n1_; have HB := n2_; clear n0_ n1_ n2_; (try clear hb); (try clear hb2); (try clear hk); (try clear hi)) | ((with_reducible refine gate_dst (N := 16) rfl ?_); (try (refine gate_guard (by rfl) ?_; dsimp only)); refine box_event ?hg (N := 16) ?hd (cs := #[.int .u64 0, .int .u64 0]) (t := 30) ?hr ?_; (case hd => rfl); (case hg => rfl); (case hr => first | (go_simp; done) | (go_simp; rfl)); intro gb808 hg w20 hbox hb; have n0_ := Aside0.mk (IsS100.below (by repeat (first | (with_reducible first | exact HI800.out | apply IsS100.alloc | apply IsS100.drewN | apply IsS100.drew | refine IsS100.far ?_ NB800_804.out _ ?_ | exact typ_of BK804 (by decide) (by decide) | refine typ_set ?_ _ _ _ | refine typ_alloc ?_ _ | refine typ_drewN ?_ _ | refine typ_drew ?_) | exact HI800.out)) hb); have n1_ := Aside0.mk (blk_below (g := gb804) (o := .cells #[.int .u64 t801, .int .u64 t802] 30 (0, 0)) (by (with_reducible repeat (first | refine blk_drewN ?_ _ | refine blk_drew ?_ | refine blk_alloc ?_ _)); exact BK804.out) hb); have n2_ := Aside0.mk (below_step (by repeat (first | (with_reducible first | exact HB.out | apply below_alloc | apply pw_below_drewN | apply below_drew1 | refine below_set ?_ (IsS100.ge HI800.out) | refine below_set ?_ GE804.out) | exact HB.out)) hb); have n3_ := Aside0.mk (hbox); have n4_ := Aside0.mk ((by rw [hg]; exact (below_size (by repeat (first | (with_reducible first | exact HB.out | apply below_alloc | apply pw_below_drewN | apply below_drew1 | refine below_set ?_ (IsS100.ge HI800.out) | refine below_set ?_ GE804.out) | exact HB.out))) : w.heap.size ≤ gb808)); have n5_ := Aside0.mk ((by rw [hg]; exact (below_size (by repeat (first | (with_reducible first | exact HB.out | apply below_alloc | apply pw_below_drewN | apply below_drew1 | refine below_set ?_ (IsS100.ge HI800.out) | refine below_set ?_ GE804.out) | exact HB.out))) : w.heap.size ≤ gb808)); have n6_ := Aside0.mk ((by rw [hg]; exact Nat.ne_of_lt (blk_lt (g := gb804) (o := .cells #[.int .u64 t801, .int .u64 t802] 30 (0, 0)) (by (with_reducible repeat (first | refine blk_drewN ?_ _ | refine blk_drew ?_ | refine blk_alloc ?_ _)); exact BK804.out)) : gb804 ≠ gb808)); have n7_ := Aside0.mk ((by rw [hg]; exact Nat.ne_of_gt (blk_lt (g := gb804) (o := .cells #[.int .u64 t801, .int .u64 t802] 30 (0, 0)) (by (with_reducible repeat (first | refine blk_drewN ?_ _ | refine blk_drew ?_ | refine blk_alloc ?_ _)); exact BK804.out)) : gb808 ≠ gb804)); have n8_ := Aside0.mk ((by rw [hg]; exact Nat.ne_of_lt (IsS100.lt (show IsS100 w _ g800 t790 t791 t792 t793 t794 t795 t796 t797 t798 t799 from by repeat (first | (with_reducible first | exact HI800.out | apply IsS100.alloc | apply IsS100.drewN | apply IsS100.drew | refine IsS100.far ?_ NB800_804.out _ ?_ | exact typ_of BK804 (by decide) (by decide) | refine typ_set ?_ _ _ _ | refine typ_alloc ?_ _ | refine typ_drewN ?_ _ | refine typ_drew ?_) | exact HI800.out))) : g800 ≠ gb808)); have n9_ := Aside0.mk ((by rw [hg]; exact Nat.ne_of_gt (IsS100.lt (show IsS100 w _ g800 t790 t791 t792 t793 t794 t795 t796 t797 t798 t799 from by repeat (first | (with_reducible first | exact HI800.out | apply IsS100.alloc | apply IsS100.drewN | apply IsS100.drew | refine IsS100.far ?_ NB800_804.out _ ?_ | exact typ_of BK804 (by decide) (by decide) | refine typ_set ?_ _ _ _ | refine typ_alloc ?_ _ | refine typ_drewN ?_ _ | refine typ_drew ?_) | exact HI800.out))) : gb808 ≠ g800)); clear HI800; clear BK804; clear HB; have HI800 := n0_; have BK804 := n1_; have HB := n2_; have BK808 := n3_; have GW808 := n4_; have GE808 := n5_; have NB804_808 := n6_; have NB808_804 := n7_; have NB800_808 := n8_; have NB808_800 := n9_; clear n0_ n1_ n2_ n3_ n4_ n5_ n6_ n7_ n8_ n9_; clear hb hbox hg; have hnb21 := NB808_804.out; have hnc21 := NB804_808.out; have hnb22 := NB808_800.out; have hnc22 := NB800_808.out; have hcz23_0 : w20.cell? ⟨gb808, 0, none⟩ = some (.int .u64 0) := (blk_cell BK808.out 0).trans rfl; have hcz23_1 : w20.cell? ⟨gb808, 1, none⟩ = some (.int .u64 0) := (blk_cell BK808.out 1).trans rfl; have hfz23_0 := blk_frozen BK808.out 0; have hfz23_1 := blk_frozen BK808.out 1))
  (try simp only [Act.put, List.setIfInBounds_toArray, List.set_cons_zero, List.set_cons_succ])
  go_cut [63] (fun v63 wc => ∃ (kq : Nat) (x63_11 : Bool), v63 = .bool x63_11 ∧ Aside0 (tiklaw23_DeckRates.j0 kq a0 a1 a2 a3 a4 a5 x63_11 t790 t791 t792 t793 t794 t795 t796 t797 t798 t799 t801 t802 t805 t806 = some r) ∧ Aside0 (kq ≤ k) ∧ Aside0 (wc.heap[gb804]? = some (.cells #[.int .u64 t801, .int .u64 t802] 30 (0, 0))) ∧ Aside0 (wc.heap[gb808]? = some (.cells #[.int .u64 t805, .int .u64 t806] 30 (0, 0))) ∧ Aside0 (IsS100 w wc g800 t790 t791 t792 t793 t794 t795 t796 t797 t798 t799) ∧ Aside0 (Below w.heap.size w wc))
  case first =>
   have H := HC12.out
   clear HC12
   have H1 : (if t803 = 0 then (if t807 = 0 then (if a1 > 1099511627776 then (tiklaw23_DeckRates.j0 k a0 a1 a2 a3 a4 a5 true t790 t791 t792 t793 t794 t795 t796 t797 t798 t799 t801 t802 t805 t806) else (if a0 > 1099511627776 then (tiklaw23_DeckRates.j0 k a0 a1 a2 a3 a4 a5 true t790 t791 t792 t793 t794 t795 t796 t797 t798 t799 t801 t802 t805 t806) else (if a3 > 1073741824 then (tiklaw23_DeckRates.j0 k a0 a1 a2 a3 a4 a5 true t790 t791 t792 t793 t794 t795 t796 t797 t798 t799 t801 t802 t805 t806) else (tiklaw23_DeckRates.j0 k a0 a1 a2 a3 a4 a5 (decide (a2 > a1)) t790 t791 t792 t793 t794 t795 t796 t797 t798 t799 t801 t802 t805 t806)))) else (tiklaw23_DeckRates.j0 k a0 a1 a2 a3 a4 a5 true t790 t791 t792 t793 t794 t795 t796 t797 t798 t799 t801 t802 t805 t806)) else (tiklaw23_DeckRates.j0 k a0 a1 a2 a3 a4 a5 true t790 t791 t792 t793 t794 t795 t796 t797 t798 t799 t801 t802 t805 t806)) = some r := by first | (rw [if_neg (show ¬ (false = true) by decide)] at H; exact H) | exact (if_neg not_false).symm.trans H
   clear H
   have H := H1
   clear H1
   by_cases c24 : t803 = 0
   ·rw [if_pos c24] at H
    have c24b0 : (t803 == 0) = true := beq_iff_eq.mpr c24
    have c24b1 : (t803 != 0) = false := bne_eq_false_iff_eq.mpr c24
    clear c24
    (first | rw [c24b0] | (simp only [i64_w, i32_w]; rw [c24b0]) | skip)
    by_cases c25 : t807 = 0
    ·rw [if_pos c25] at H
     have c25b0 : (t807 == 0) = true := beq_iff_eq.mpr c25
     have c25b1 : (t807 != 0) = false := bne_eq_false_iff_eq.mpr c25
     clear c25
     by_cases c26 : a1 > 1099511627776
     ·rw [if_pos c26] at H
      have c26b0 : decide (1099511627776 < a1) = true := decide_eq_true c26
      clear c26
      have H' := Aside0.mk H
      clear H
      go_wp2
      go_meet
      case rel => exact ⟨_, (true), (by first | rfl | (simp; done) | (simp [*]; done)), H', ⟨by first | omega | exact Nat.le_refl _⟩, ⟨by (with_reducible repeat (first | refine blk_drewN ?_ _ | refine blk_drew ?_ | refine blk_alloc ?_ _)); refine blk_far ?_ NB804_808.out _; (with_reducible repeat (first | refine blk_drewN ?_ _ | refine blk_drew ?_ | refine blk_alloc ?_ _)); refine blk_far ?_ NB804_808.out _; (with_reducible repeat (first | refine blk_drewN ?_ _ | refine blk_drew ?_ | refine blk_alloc ?_ _)); exact BK804.out⟩, ⟨by (with_reducible repeat (first | refine blk_drewN ?_ _ | refine blk_drew ?_ | refine blk_alloc ?_ _)); refine blk_put (cs := #[.int .u64 t805, .int .u64 0]) ?_ 1 _ rfl; (with_reducible repeat (first | refine blk_drewN ?_ _ | refine blk_drew ?_ | refine blk_alloc ?_ _)); refine blk_put (cs := #[.int .u64 0, .int .u64 0]) ?_ 0 _ rfl; (with_reducible repeat (first | refine blk_drewN ?_ _ | refine blk_drew ?_ | refine blk_alloc ?_ _)); exact BK808.out⟩, ⟨by repeat (first | (with_reducible first | exact HI800.out | apply IsS100.alloc | apply IsS100.drewN | apply IsS100.drew | refine IsS100.far ?_ NB800_804.out _ ?_ | exact typ_of BK804 (by decide) (by decide) | refine IsS100.far ?_ NB800_808.out _ ?_ | exact typ_of BK808 (by decide) (by decide) | refine typ_set ?_ _ _ _ | refine typ_alloc ?_ _ | refine typ_drewN ?_ _ | refine typ_drew ?_) | exact HI800.out)⟩, ⟨by repeat (first | (with_reducible first | exact HB.out | apply below_alloc | apply pw_below_drewN | apply below_drew1 | refine below_set ?_ (IsS100.ge HI800.out) | refine below_set ?_ GE804.out | refine below_set ?_ GE808.out) | exact HB.out)⟩⟩
     ·rw [if_neg c26] at H
      have c26b0 : decide (1099511627776 < a1) = false := decide_eq_false c26
      clear c26
      by_cases c27 : a0 > 1099511627776
      ·rw [if_pos c27] at H
       have c27b0 : decide (1099511627776 < a0) = true := decide_eq_true c27
       clear c27
       have H' := Aside0.mk H
       clear H
       go_wp2
       go_meet
       case rel => exact ⟨_, (true), (by first | rfl | (simp; done) | (simp [*]; done)), H', ⟨by first | omega | exact Nat.le_refl _⟩, ⟨by (with_reducible repeat (first | refine blk_drewN ?_ _ | refine blk_drew ?_ | refine blk_alloc ?_ _)); refine blk_far ?_ NB804_808.out _; (with_reducible repeat (first | refine blk_drewN ?_ _ | refine blk_drew ?_ | refine blk_alloc ?_ _)); refine blk_far ?_ NB804_808.out _; (with_reducible repeat (first | refine blk_drewN ?_ _ | refine blk_drew ?_ | refine blk_alloc ?_ _)); exact BK804.out⟩, ⟨by (with_reducible repeat (first | refine blk_drewN ?_ _ | refine blk_drew ?_ | refine blk_alloc ?_ _)); refine blk_put (cs := #[.int .u64 t805, .int .u64 0]) ?_ 1 _ rfl; (with_reducible repeat (first | refine blk_drewN ?_ _ | refine blk_drew ?_ | refine blk_alloc ?_ _)); refine blk_put (cs := #[.int .u64 0, .int .u64 0]) ?_ 0 _ rfl; (with_reducible repeat (first | refine blk_drewN ?_ _ | refine blk_drew ?_ | refine blk_alloc ?_ _)); exact BK808.out⟩, ⟨by repeat (first | (with_reducible first | exact HI800.out | apply IsS100.alloc | apply IsS100.drewN | apply IsS100.drew | refine IsS100.far ?_ NB800_804.out _ ?_ | exact typ_of BK804 (by decide) (by decide) | refine IsS100.far ?_ NB800_808.out _ ?_ | exact typ_of BK808 (by decide) (by decide) | refine typ_set ?_ _ _ _ | refine typ_alloc ?_ _ | refine typ_drewN ?_ _ | refine typ_drew ?_) | exact HI800.out)⟩, ⟨by repeat (first | (with_reducible first | exact HB.out | apply below_alloc | apply pw_below_drewN | apply below_drew1 | refine below_set ?_ (IsS100.ge HI800.out) | refine below_set ?_ GE804.out | refine below_set ?_ GE808.out) | exact HB.out)⟩⟩
      ·rw [if_neg c27] at H
       have c27b0 : decide (1099511627776 < a0) = false := decide_eq_false c27
       clear c27
       by_cases c28 : a3 > 1073741824
       ·rw [if_pos c28] at H
        have c28b0 : decide (1073741824 < a3) = true := decide_eq_true c28
        clear c28
        have H' := Aside0.mk H
        clear H
        go_wp2
        go_meet
        case rel => exact ⟨_, (true), (by first | rfl | (simp; done) | (simp [*]; done)), H', ⟨by first | omega | exact Nat.le_refl _⟩, ⟨by (with_reducible repeat (first | refine blk_drewN ?_ _ | refine blk_drew ?_ | refine blk_alloc ?_ _)); refine blk_far ?_ NB804_808.out _; (with_reducible repeat (first | refine blk_drewN ?_ _ | refine blk_drew ?_ | refine blk_alloc ?_ _)); refine blk_far ?_ NB804_808.out _; (with_reducible repeat (first | refine blk_drewN ?_ _ | refine blk_drew ?_ | refine blk_alloc ?_ _)); exact BK804.out⟩, ⟨by (with_reducible repeat (first | refine blk_drewN ?_ _ | refine blk_drew ?_ | refine blk_alloc ?_ _)); refine blk_put (cs := #[.int .u64 t805, .int .u64 0]) ?_ 1 _ rfl; (with_reducible repeat (first | refine blk_drewN ?_ _ | refine blk_drew ?_ | refine blk_alloc ?_ _)); refine blk_put (cs := #[.int .u64 0, .int .u64 0]) ?_ 0 _ rfl; (with_reducible repeat (first | refine blk_drewN ?_ _ | refine blk_drew ?_ | refine blk_alloc ?_ _)); exact BK808.out⟩, ⟨by repeat (first | (with_reducible first | exact HI800.out | apply IsS100.alloc | apply IsS100.drewN | apply IsS100.drew | refine IsS100.far ?_ NB800_804.out _ ?_ | exact typ_of BK804 (by decide) (by decide) | refine IsS100.far ?_ NB800_808.out _ ?_ | exact typ_of BK808 (by decide) (by decide) | refine typ_set ?_ _ _ _ | refine typ_alloc ?_ _ | refine typ_drewN ?_ _ | refine typ_drew ?_) | exact HI800.out)⟩, ⟨by repeat (first | (with_reducible first | exact HB.out | apply below_alloc | apply pw_below_drewN | apply below_drew1 | refine below_set ?_ (IsS100.ge HI800.out) | refine below_set ?_ GE804.out | refine below_set ?_ GE808.out) | exact HB.out)⟩⟩
       ·rw [if_neg c28] at H
        have c28b0 : decide (1073741824 < a3) = false := decide_eq_false c28
        clear c28
        have H' := Aside0.mk H
        clear H
        go_wp2
        go_meet
        case rel => exact ⟨_, (decide (a2 > a1)), (by first | rfl | (simp; done) | (simp [*]; done)), H', ⟨by first | omega | exact Nat.le_refl _⟩, ⟨by (with_reducible repeat (first | refine blk_drewN ?_ _ | refine blk_drew ?_ | refine blk_alloc ?_ _)); refine blk_far ?_ NB804_808.out _; (with_reducible repeat (first | refine blk_drewN ?_ _ | refine blk_drew ?_ | refine blk_alloc ?_ _)); refine blk_far ?_ NB804_808.out _; (with_reducible repeat (first | refine blk_drewN ?_ _ | refine blk_drew ?_ | refine blk_alloc ?_ _)); exact BK804.out⟩, ⟨by (with_reducible repeat (first | refine blk_drewN ?_ _ | refine blk_drew ?_ | refine blk_alloc ?_ _)); refine blk_put (cs := #[.int .u64 t805, .int .u64 0]) ?_ 1 _ rfl; (with_reducible repeat (first | refine blk_drewN ?_ _ | refine blk_drew ?_ | refine blk_alloc ?_ _)); refine blk_put (cs := #[.int .u64 0, .int .u64 0]) ?_ 0 _ rfl; (with_reducible repeat (first | refine blk_drewN ?_ _ | refine blk_drew ?_ | refine blk_alloc ?_ _)); exact BK808.out⟩, ⟨by repeat (first | (with_reducible first | exact HI800.out | apply IsS100.alloc | apply IsS100.drewN | apply IsS100.drew | refine IsS100.far ?_ NB800_804.out _ ?_ | exact typ_of BK804 (by decide) (by decide) | refine IsS100.far ?_ NB800_808.out _ ?_ | exact typ_of BK808 (by decide) (by decide) | refine typ_set ?_ _ _ _ | refine typ_alloc ?_ _ | refine typ_drewN ?_ _ | refine typ_drew ?_) | exact HI800.out)⟩, ⟨by repeat (first | (with_reducible first | exact HB.out | apply below_alloc | apply pw_below_drewN | apply below_drew1 | refine below_set ?_ (IsS100.ge HI800.out) | refine below_set ?_ GE804.out | refine below_set ?_ GE808.out) | exact HB.out)⟩⟩
    ·rw [if_neg c25] at H
     have c25b0 : (t807 == 0) = false := beq_eq_false_iff_ne.mpr c25
     have c25b1 : (t807 != 0) = true := bne_iff_ne.mpr c25
     have H' := Aside0.mk H
     clear H
     go_wp2
     go_meet
     case rel => exact ⟨_, (true), (by first | rfl | (simp; done) | (simp [*]; done)), H', ⟨by first | omega | exact Nat.le_refl _⟩, ⟨by (with_reducible repeat (first | refine blk_drewN ?_ _ | refine blk_drew ?_ | refine blk_alloc ?_ _)); refine blk_far ?_ NB804_808.out _; (with_reducible repeat (first | refine blk_drewN ?_ _ | refine blk_drew ?_ | refine blk_alloc ?_ _)); refine blk_far ?_ NB804_808.out _; (with_reducible repeat (first | refine blk_drewN ?_ _ | refine blk_drew ?_ | refine blk_alloc ?_ _)); exact BK804.out⟩, ⟨by (with_reducible repeat (first | refine blk_drewN ?_ _ | refine blk_drew ?_ | refine blk_alloc ?_ _)); refine blk_put (cs := #[.int .u64 t805, .int .u64 0]) ?_ 1 _ rfl; (with_reducible repeat (first | refine blk_drewN ?_ _ | refine blk_drew ?_ | refine blk_alloc ?_ _)); refine blk_put (cs := #[.int .u64 0, .int .u64 0]) ?_ 0 _ rfl; (with_reducible repeat (first | refine blk_drewN ?_ _ | refine blk_drew ?_ | refine blk_alloc ?_ _)); exact BK808.out⟩, ⟨by repeat (first | (with_reducible first | exact HI800.out | apply IsS100.alloc | apply IsS100.drewN | apply IsS100.drew | refine IsS100.far ?_ NB800_804.out _ ?_ | exact typ_of BK804 (by decide) (by decide) | refine IsS100.far ?_ NB800_808.out _ ?_ | exact typ_of BK808 (by decide) (by decide) | refine typ_set ?_ _ _ _ | refine typ_alloc ?_ _ | refine typ_drewN ?_ _ | refine typ_drew ?_) | exact HI800.out)⟩, ⟨by repeat (first | (with_reducible first | exact HB.out | apply below_alloc | apply pw_below_drewN | apply below_drew1 | refine below_set ?_ (IsS100.ge HI800.out) | refine below_set ?_ GE804.out | refine below_set ?_ GE808.out) | exact HB.out)⟩⟩
   ·rw [if_neg c24] at H
    have c24b0 : (t803 == 0) = false := beq_eq_false_iff_ne.mpr c24
    have c24b1 : (t803 != 0) = true := bne_iff_ne.mpr c24
    (first | rw [c24b0] | (simp only [i64_w, i32_w]; rw [c24b0]) | skip)
    have H' := Aside0.mk H
    clear H
    go_wp2
    go_meet
    case rel => exact ⟨_, (true), (by first | rfl | (simp; done) | (simp [*]; done)), H', ⟨by first | omega | exact Nat.le_refl _⟩, ⟨by (with_reducible repeat (first | refine blk_drewN ?_ _ | refine blk_drew ?_ | refine blk_alloc ?_ _)); refine blk_far ?_ NB804_808.out _; (with_reducible repeat (first | refine blk_drewN ?_ _ | refine blk_drew ?_ | refine blk_alloc ?_ _)); refine blk_far ?_ NB804_808.out _; (with_reducible repeat (first | refine blk_drewN ?_ _ | refine blk_drew ?_ | refine blk_alloc ?_ _)); exact BK804.out⟩, ⟨by (with_reducible repeat (first | refine blk_drewN ?_ _ | refine blk_drew ?_ | refine blk_alloc ?_ _)); refine blk_put (cs := #[.int .u64 t805, .int .u64 0]) ?_ 1 _ rfl; (with_reducible repeat (first | refine blk_drewN ?_ _ | refine blk_drew ?_ | refine blk_alloc ?_ _)); refine blk_put (cs := #[.int .u64 0, .int .u64 0]) ?_ 0 _ rfl; (with_reducible repeat (first | refine blk_drewN ?_ _ | refine blk_drew ?_ | refine blk_alloc ?_ _)); exact BK808.out⟩, ⟨by repeat (first | (with_reducible first | exact HI800.out | apply IsS100.alloc | apply IsS100.drewN | apply IsS100.drew | refine IsS100.far ?_ NB800_804.out _ ?_ | exact typ_of BK804 (by decide) (by decide) | refine IsS100.far ?_ NB800_808.out _ ?_ | exact typ_of BK808 (by decide) (by decide) | refine typ_set ?_ _ _ _ | refine typ_alloc ?_ _ | refine typ_drewN ?_ _ | refine typ_drew ?_) | exact HI800.out)⟩, ⟨by repeat (first | (with_reducible first | exact HB.out | apply below_alloc | apply pw_below_drewN | apply below_drew1 | refine below_set ?_ (IsS100.ge HI800.out) | refine below_set ?_ GE804.out | refine below_set ?_ GE808.out) | exact HB.out)⟩⟩
  case rest =>
   as_aux_lemma =>
    clear HC12
    try clear c1
    try clear c2
    try clear p2
    try clear c6
    try clear c8
    try clear c12
    try clear c13
    try clear c17
    try clear c21
    try clear c22
    try clear c24
    try clear c24b0
    try clear c24b1
    try clear c25
    try clear c25b0
    try clear c25b1
    try clear c26
    try clear c26b0
    try clear c27
    try clear c27b0
    try clear c28
    try clear c28b0
    try clear hcz18_0
    try clear hcz18_1
    try clear hcz23_0
    try clear hcz23_1
    try clear hfz18_0
    try clear hfz18_1
    try clear hfz23_0
    try clear hfz23_1
    obtain ⟨kq, x63_11, rfl, HA, HJ11, BK804, BK808, HI800, HB⟩ := hcut
    cases kq with
    | zero => exact absurd HA.out (by simp [tiklaw23_DeckRates.j0])
    | succ kj11 =>
     have H := HA.out
     clear HA
     simp only [tiklaw23_DeckRates.j0] at H
     by_cases c29 : x63_11 = true
     ·subst c29
      have H1 : (if true = true then ((tiklaw23_first.f kj11).bind fun t809 => (some t809)) else (some false)) = some r := by rw [if_pos rfl] at H; exact H
      clear H
      have H := H1
      clear H1
      have H1 : ((tiklaw23_first.f kj11).bind fun t809 => (some t809)) = some r := by first | (rw [if_pos rfl] at H; exact H) | exact (if_pos trivial).symm.trans H
      clear H
      have H := H1
      clear H1
      replace H := Option.bind_eq_some_iff.mp H
      obtain ⟨t809, A300, H⟩ := H
      replace H : (some t809) = some r := H
      have A30 := Aside0.mk A300
      clear A300
      obtain rfl := Option.some.inj H
      go_wp2_with (first | (go_at_call 12; (with_reducible refine (tiklaw23_first.calls kj11  t809 _ ?side1 A30.out).mono ?_); (case side1 => first | (with_reducible exact HT.out) | exact tabAt HT.out (by repeat (first | (with_reducible first | exact HB.out | apply below_alloc | apply pw_below_drewN | apply below_drew1 | refine below_set ?_ (IsS100.ge HI800.out) | refine below_set ?_ GE804.out | refine below_set ?_ GE808.out) | exact HB.out))); rintro e w31 ⟨rfl, hb⟩; have n0_ := Aside0.mk (blk_below (g := gb804) (o := .cells #[.int .u64 t801, .int .u64 t802] 30 (0, 0)) (by (with_reducible repeat (first | refine blk_drewN ?_ _ | refine blk_drew ?_ | refine blk_alloc ?_ _)); exact BK804.out) hb); have n1_ := Aside0.mk (blk_below (g := gb808) (o := .cells #[.int .u64 t805, .int .u64 t806] 30 (0, 0)) (by (with_reducible repeat (first | refine blk_drewN ?_ _ | refine blk_drew ?_ | refine blk_alloc ?_ _)); exact BK808.out) hb); have n2_ := Aside0.mk (IsS100.below (by repeat (first | (with_reducible first | exact HI800.out | apply IsS100.alloc | apply IsS100.drewN | apply IsS100.drew | refine IsS100.far ?_ NB800_804.out _ ?_ | exact typ_of BK804 (by decide) (by decide) | refine IsS100.far ?_ NB800_808.out _ ?_ | exact typ_of BK808 (by decide) (by decide) | refine typ_set ?_ _ _ _ | refine typ_alloc ?_ _ | refine typ_drewN ?_ _ | refine typ_drew ?_) | exact HI800.out)) hb); have n3_ := Aside0.mk (below_step (by repeat (first | (with_reducible first | exact HB.out | apply below_alloc | apply pw_below_drewN | apply below_drew1 | refine below_set ?_ (IsS100.ge HI800.out) | refine below_set ?_ GE804.out | refine below_set ?_ GE808.out) | exact HB.out)) hb); clear BK804; clear BK808; clear HI800; clear HB; have BK804 := n0_; have BK808 := n1_; have HI800 := n2_; have HB := n3_; clear n0_ n1_ n2_ n3_; (try clear hb); (try clear hb2); (try clear hk); (try clear hi)))
      go_ret
      exact ⟨by first | rfl | (simp [errW_none, errW_some] <;> rfl) | (simp [*, errW_none, errW_some] <;> rfl), by repeat (first | (with_reducible first | exact HB.out | apply below_alloc | apply pw_below_drewN | apply below_drew1 | refine below_set ?_ (IsS100.ge HI800.out) | refine below_set ?_ GE804.out | refine below_set ?_ GE808.out) | exact HB.out)⟩
     ·replace c29 := Bool.eq_false_iff.mpr c29
      subst c29
      have H1 : ((deck_Deck_Speed.f kj11 t790 t791 t792 t793 t794 t795 t796 t797 t798 t799 a0 a4).bind fun bt810 => (if bt810.1 = 0 then ((deck_Deck_Seek.f bt810.2.1 bt810.2.2.1 bt810.2.2.2.1 bt810.2.2.2.2.1 bt810.2.2.2.2.2.1 bt810.2.2.2.2.2.2.1 bt810.2.2.2.2.2.2.2.1 bt810.2.2.2.2.2.2.2.2.1 bt810.2.2.2.2.2.2.2.2.2.1 bt810.2.2.2.2.2.2.2.2.2.2 a0 0 a1 a2).bind fun bt821 => (if bt821.1 = 0 then ((deck_Deck_Play.f bt821.2.1 bt821.2.2.1 bt821.2.2.2.1 bt821.2.2.2.2.1 bt821.2.2.2.2.2.1 bt821.2.2.2.2.2.2.1 bt821.2.2.2.2.2.2.2.1 bt821.2.2.2.2.2.2.2.2.1 bt821.2.2.2.2.2.2.2.2.2.1 bt821.2.2.2.2.2.2.2.2.2.2 a0 0 a1).bind fun bt832 => (if bt832.1 = 0 then ((deck_Deck_Rate.f bt832.2.1 bt832.2.2.1 bt832.2.2.2.1 bt832.2.2.2.2.1 bt832.2.2.2.2.2.1 bt832.2.2.2.2.2.2.1 bt832.2.2.2.2.2.2.2.1 bt832.2.2.2.2.2.2.2.2.1 bt832.2.2.2.2.2.2.2.2.2.1 bt832.2.2.2.2.2.2.2.2.2.2).bind fun bt843 => (tiklaw23_DeckRates.j1 kj11 a0 a1 a2 a3 a5 (!(bt843.1 == t801) || (!(bt843.2.1 == t802))) bt843.2.2.1 bt843.2.2.2.1 bt843.2.2.2.2.1 bt843.2.2.2.2.2.1 bt843.2.2.2.2.2.2.1 bt843.2.2.2.2.2.2.2.1 bt843.2.2.2.2.2.2.2.2.1 bt843.2.2.2.2.2.2.2.2.2.1 bt843.2.2.2.2.2.2.2.2.2.2.1 bt843.2.2.2.2.2.2.2.2.2.2.2 t801 t802 t805 t806)) else (tiklaw23_DeckRates.j1 kj11 a0 a1 a2 a3 a5 true bt832.2.1 bt832.2.2.1 bt832.2.2.2.1 bt832.2.2.2.2.1 bt832.2.2.2.2.2.1 bt832.2.2.2.2.2.2.1 bt832.2.2.2.2.2.2.2.1 bt832.2.2.2.2.2.2.2.2.1 bt832.2.2.2.2.2.2.2.2.2.1 bt832.2.2.2.2.2.2.2.2.2.2 t801 t802 t805 t806))) else (tiklaw23_DeckRates.j1 kj11 a0 a1 a2 a3 a5 true bt821.2.1 bt821.2.2.1 bt821.2.2.2.1 bt821.2.2.2.2.1 bt821.2.2.2.2.2.1 bt821.2.2.2.2.2.2.1 bt821.2.2.2.2.2.2.2.1 bt821.2.2.2.2.2.2.2.2.1 bt821.2.2.2.2.2.2.2.2.2.1 bt821.2.2.2.2.2.2.2.2.2.2 t801 t802 t805 t806))) else (tiklaw23_DeckRates.j1 kj11 a0 a1 a2 a3 a5 true bt810.2.1 bt810.2.2.1 bt810.2.2.2.1 bt810.2.2.2.2.1 bt810.2.2.2.2.2.1 bt810.2.2.2.2.2.2.1 bt810.2.2.2.2.2.2.2.1 bt810.2.2.2.2.2.2.2.2.1 bt810.2.2.2.2.2.2.2.2.2.1 bt810.2.2.2.2.2.2.2.2.2.2 t801 t802 t805 t806))) = some r := by rw [if_neg (show ¬ (false = true) by decide)] at H; exact H
      clear H
      have H := H1
      clear H1
      have HC32 := Aside0.mk H
      clear H
      go_upto_region 8 with (fail)
      go_cut [94] (fun v94 wc => ∃ (kq : Nat) (x94_31 : Bool) (x801000_31 : Int) (x801001_31 : Int) (x801002_31 : Int) (x801003_31 : Int) (x801004_31 : Bool) (x801005_31 : Int) (x801006_31 : Int) (x801007_31 : Int) (x801008_31 : Int) (x801009_31 : Int), v94 = .bool x94_31 ∧ Aside0 (tiklaw23_DeckRates.j1 kq a0 a1 a2 a3 a5 x94_31 x801000_31 x801001_31 x801002_31 x801003_31 x801004_31 x801005_31 x801006_31 x801007_31 x801008_31 x801009_31 t801 t802 t805 t806 = some r) ∧ Aside0 (kq ≤ kj11) ∧ Aside0 (wc.heap[gb804]? = some (.cells #[.int .u64 t801, .int .u64 t802] 30 (0, 0))) ∧ Aside0 (wc.heap[gb808]? = some (.cells #[.int .u64 t805, .int .u64 t806] 30 (0, 0))) ∧ Aside0 (IsS100 w wc g800 x801000_31 x801001_31 x801002_31 x801003_31 x801004_31 x801005_31 x801006_31 x801007_31 x801008_31 x801009_31) ∧ Aside0 (Below w.heap.size w wc))
      case first =>
       have H := HC32.out
       clear HC32
       replace H := Option.bind_eq_some_iff.mp H
       obtain ⟨⟨t810, t811, t812, t813, t814, t815, t816, t817, t818, t819, t820⟩, A330, H⟩ := H
       replace H : (if t810 = 0 then ((deck_Deck_Seek.f t811 t812 t813 t814 t815 t816 t817 t818 t819 t820 a0 0 a1 a2).bind fun bt821 => (if bt821.1 = 0 then ((deck_Deck_Play.f bt821.2.1 bt821.2.2.1 bt821.2.2.2.1 bt821.2.2.2.2.1 bt821.2.2.2.2.2.1 bt821.2.2.2.2.2.2.1 bt821.2.2.2.2.2.2.2.1 bt821.2.2.2.2.2.2.2.2.1 bt821.2.2.2.2.2.2.2.2.2.1 bt821.2.2.2.2.2.2.2.2.2.2 a0 0 a1).bind fun bt832 => (if bt832.1 = 0 then ((deck_Deck_Rate.f bt832.2.1 bt832.2.2.1 bt832.2.2.2.1 bt832.2.2.2.2.1 bt832.2.2.2.2.2.1 bt832.2.2.2.2.2.2.1 bt832.2.2.2.2.2.2.2.1 bt832.2.2.2.2.2.2.2.2.1 bt832.2.2.2.2.2.2.2.2.2.1 bt832.2.2.2.2.2.2.2.2.2.2).bind fun bt843 => (tiklaw23_DeckRates.j1 kj11 a0 a1 a2 a3 a5 (!(bt843.1 == t801) || (!(bt843.2.1 == t802))) bt843.2.2.1 bt843.2.2.2.1 bt843.2.2.2.2.1 bt843.2.2.2.2.2.1 bt843.2.2.2.2.2.2.1 bt843.2.2.2.2.2.2.2.1 bt843.2.2.2.2.2.2.2.2.1 bt843.2.2.2.2.2.2.2.2.2.1 bt843.2.2.2.2.2.2.2.2.2.2.1 bt843.2.2.2.2.2.2.2.2.2.2.2 t801 t802 t805 t806)) else (tiklaw23_DeckRates.j1 kj11 a0 a1 a2 a3 a5 true bt832.2.1 bt832.2.2.1 bt832.2.2.2.1 bt832.2.2.2.2.1 bt832.2.2.2.2.2.1 bt832.2.2.2.2.2.2.1 bt832.2.2.2.2.2.2.2.1 bt832.2.2.2.2.2.2.2.2.1 bt832.2.2.2.2.2.2.2.2.2.1 bt832.2.2.2.2.2.2.2.2.2.2 t801 t802 t805 t806))) else (tiklaw23_DeckRates.j1 kj11 a0 a1 a2 a3 a5 true bt821.2.1 bt821.2.2.1 bt821.2.2.2.1 bt821.2.2.2.2.1 bt821.2.2.2.2.2.1 bt821.2.2.2.2.2.2.1 bt821.2.2.2.2.2.2.2.1 bt821.2.2.2.2.2.2.2.2.1 bt821.2.2.2.2.2.2.2.2.2.1 bt821.2.2.2.2.2.2.2.2.2.2 t801 t802 t805 t806))) else (tiklaw23_DeckRates.j1 kj11 a0 a1 a2 a3 a5 true t811 t812 t813 t814 t815 t816 t817 t818 t819 t820 t801 t802 t805 t806)) = some r := H
       have A33 := Aside0.mk A330
       clear A330
       by_cases c34 : t810 = 0
       ·rw [if_pos c34] at H
        have c34b0 : (t810 == 0) = true := beq_iff_eq.mpr c34
        have c34b1 : (t810 != 0) = false := bne_eq_false_iff_eq.mpr c34
        clear c34
        (first | rw [c34b0] | (simp only [i64_w, i32_w]; rw [c34b0]) | skip)
        replace H := Option.bind_eq_some_iff.mp H
        obtain ⟨⟨t821, t822, t823, t824, t825, t826, t827, t828, t829, t830, t831⟩, A350, H⟩ := H
        replace H : (if t821 = 0 then ((deck_Deck_Play.f t822 t823 t824 t825 t826 t827 t828 t829 t830 t831 a0 0 a1).bind fun bt832 => (if bt832.1 = 0 then ((deck_Deck_Rate.f bt832.2.1 bt832.2.2.1 bt832.2.2.2.1 bt832.2.2.2.2.1 bt832.2.2.2.2.2.1 bt832.2.2.2.2.2.2.1 bt832.2.2.2.2.2.2.2.1 bt832.2.2.2.2.2.2.2.2.1 bt832.2.2.2.2.2.2.2.2.2.1 bt832.2.2.2.2.2.2.2.2.2.2).bind fun bt843 => (tiklaw23_DeckRates.j1 kj11 a0 a1 a2 a3 a5 (!(bt843.1 == t801) || (!(bt843.2.1 == t802))) bt843.2.2.1 bt843.2.2.2.1 bt843.2.2.2.2.1 bt843.2.2.2.2.2.1 bt843.2.2.2.2.2.2.1 bt843.2.2.2.2.2.2.2.1 bt843.2.2.2.2.2.2.2.2.1 bt843.2.2.2.2.2.2.2.2.2.1 bt843.2.2.2.2.2.2.2.2.2.2.1 bt843.2.2.2.2.2.2.2.2.2.2.2 t801 t802 t805 t806)) else (tiklaw23_DeckRates.j1 kj11 a0 a1 a2 a3 a5 true bt832.2.1 bt832.2.2.1 bt832.2.2.2.1 bt832.2.2.2.2.1 bt832.2.2.2.2.2.1 bt832.2.2.2.2.2.2.1 bt832.2.2.2.2.2.2.2.1 bt832.2.2.2.2.2.2.2.2.1 bt832.2.2.2.2.2.2.2.2.2.1 bt832.2.2.2.2.2.2.2.2.2.2 t801 t802 t805 t806))) else (tiklaw23_DeckRates.j1 kj11 a0 a1 a2 a3 a5 true t822 t823 t824 t825 t826 t827 t828 t829 t830 t831 t801 t802 t805 t806)) = some r := H
        have A35 := Aside0.mk A350
        clear A350
        by_cases c36 : t821 = 0
        ·rw [if_pos c36] at H
         have c36b0 : (t821 == 0) = true := beq_iff_eq.mpr c36
         have c36b1 : (t821 != 0) = false := bne_eq_false_iff_eq.mpr c36
         clear c36
         replace H := Option.bind_eq_some_iff.mp H
         obtain ⟨⟨t832, t833, t834, t835, t836, t837, t838, t839, t840, t841, t842⟩, A370, H⟩ := H
         replace H : (if t832 = 0 then ((deck_Deck_Rate.f t833 t834 t835 t836 t837 t838 t839 t840 t841 t842).bind fun bt843 => (tiklaw23_DeckRates.j1 kj11 a0 a1 a2 a3 a5 (!(bt843.1 == t801) || (!(bt843.2.1 == t802))) bt843.2.2.1 bt843.2.2.2.1 bt843.2.2.2.2.1 bt843.2.2.2.2.2.1 bt843.2.2.2.2.2.2.1 bt843.2.2.2.2.2.2.2.1 bt843.2.2.2.2.2.2.2.2.1 bt843.2.2.2.2.2.2.2.2.2.1 bt843.2.2.2.2.2.2.2.2.2.2.1 bt843.2.2.2.2.2.2.2.2.2.2.2 t801 t802 t805 t806)) else (tiklaw23_DeckRates.j1 kj11 a0 a1 a2 a3 a5 true t833 t834 t835 t836 t837 t838 t839 t840 t841 t842 t801 t802 t805 t806)) = some r := H
         have A37 := Aside0.mk A370
         clear A370
         by_cases c38 : t832 = 0
         ·rw [if_pos c38] at H
          have c38b0 : (t832 == 0) = true := beq_iff_eq.mpr c38
          have c38b1 : (t832 != 0) = false := bne_eq_false_iff_eq.mpr c38
          clear c38
          replace H := Option.bind_eq_some_iff.mp H
          obtain ⟨⟨t843, t844, t845, t846, t847, t848, t849, t850, t851, t852, t853, t854⟩, A390, H⟩ := H
          replace H : (tiklaw23_DeckRates.j1 kj11 a0 a1 a2 a3 a5 (!(t843 == t801) || (!(t844 == t802))) t845 t846 t847 t848 t849 t850 t851 t852 t853 t854 t801 t802 t805 t806) = some r := H
          have A39 := Aside0.mk A390
          clear A390
          have H' := Aside0.mk H
          clear H
          try go_wp2
          have n0_ := Aside0.mk (blk_drew BK804.out)
          have n1_ := Aside0.mk (blk_drew BK808.out)
          have n2_ := Aside0.mk (IsS100.drew HI800.out)
          have n3_ := Aside0.mk (below_drew1 HB.out)
          clear BK804
          clear BK808
          clear HI800
          clear HB
          have BK804 := n0_
          have BK808 := n1_
          have HI800 := n2_
          have HB := n3_
          clear n0_ n1_ n2_ n3_
          refine start_ (n := 26) (S := fun w' => w'.cell? ⟨gb804, 0, none⟩ = some (.int .u64 t801) ∧ w'.cell? ⟨gb804, 1, none⟩ = some (.int .u64 t802)) (ds := []) #[false, false, false, false, false, false, false, false, false, false, false, false, false, false, false, false, false, false, false, false, false, false, false, false, false, false] (by kernel_rfl) rfl rfl ⟨(blk_cell BK804.out 0).trans rfl, (blk_cell BK804.out 1).trans rfl⟩ (fun hHeld => ?_); refine with_tabW tiklaw23_DeckRates.tab8 tiklaw23_DeckRates.bits8 (fun HT_ HW_ => ?_)
          generalize wc.drew = w40 at BK804 BK808 HI800 HB hHeld ⊢
          refine pure_ (i := 0) (N := some 69) (v := ?_) (a' := ?_) #[true, false, false, false, false, false, false, false, false, false, false, false, false, false, false, false, false, false, false, false, false, false, false, false, false, false] rfl rfl (any_of HT_.out (by kernel_rfl)) (fun _ _ _ h => h) (Or.inl ⟨by rfl, ?_⟩) ?_ ?_
          rotate_left
          ·intro w'
           go_simp
           with_reducible rfl
          rotate_left
          ·simp only [Act.put, List.setIfInBounds_toArray, List.set_cons_zero, List.set_cons_succ, i64_w, i32_w]
           rfl
          refine pure_ (i := 1) (N := some 70) (v := ?_) (a' := ?_) #[true, true, false, false, false, false, false, false, false, false, false, false, false, false, false, false, false, false, false, false, false, false, false, false, false, false] rfl rfl (any_of HT_.out (by kernel_rfl)) (fun _ _ _ h => h) (Or.inl ⟨by rfl, ?_⟩) ?_ ?_
          rotate_left
          ·intro w'
           go_simp
           with_reducible rfl
          rotate_left
          ·simp only [Act.put, List.setIfInBounds_toArray, List.set_cons_zero, List.set_cons_succ, i64_w, i32_w]
           rfl
          refine pure_ (i := 2) (N := some 71) (v := ?_) (a' := ?_) #[true, true, true, false, false, false, false, false, false, false, false, false, false, false, false, false, false, false, false, false, false, false, false, false, false, false] rfl rfl (any_of HT_.out (by kernel_rfl)) (fun _ _ _ h => h) (Or.inl ⟨by rfl, ?_⟩) ?_ ?_
          rotate_left
          ·intro w'
           go_simp
           with_reducible rfl
          rotate_left
          ·simp only [Act.put, List.setIfInBounds_toArray, List.set_cons_zero, List.set_cons_succ, i64_w, i32_w]
           rfl
          refine one_ (i := 3) (N := some 72) #[true, true, true, true, false, false, false, false, false, false, false, false, false, false, false, false, false, false, false, false, false, false, false, false, false, false] rfl rfl (one_of HT_.out (by kernel_rfl)) (by decide) (fun K hK => ?_)
          refine goes_ Tryd.func21 (by kernel_rfl) rfl #[.pointer (some ⟨g800, 0, none⟩), .int .u64 a0, .float .f64 a4] (by rfl) rfl rfl (by (try simp only [List.map_toArray, List.map_cons, List.map_nil]); first | done | rfl | (simp only [List.length_drop, List.length_take]; rfl)) ?_
          with_reducible refine (deck_Deck_Speed.calls kj11 g800 t790 t791 t792 t793 t794 t795 t796 t797 t798 t799 a0 a4 t810 t811 t812 t813 t814 t815 t816 t817 t818 t819 t820 w _ ?side1 ?side2 ?side3 A33.out).mono ?_
          (case side1 => repeat (first | (with_reducible first | exact HI800.out | apply IsS100.alloc | apply IsS100.drewN | apply IsS100.drew | refine IsS100.far ?_ NB800_804.out _ ?_ | exact typ_of BK804 (by decide) (by decide) | refine IsS100.far ?_ NB800_808.out _ ?_ | exact typ_of BK808 (by decide) (by decide) | refine typ_set ?_ _ _ _ | refine typ_alloc ?_ _ | refine typ_drewN ?_ _ | refine typ_drew ?_) | exact HI800.out))
          (case side2 => repeat (first | (with_reducible first | exact HB.out | apply below_alloc | apply pw_below_drewN | apply below_drew1 | refine below_set ?_ (IsS100.ge HI800.out) | refine below_set ?_ GE804.out | refine below_set ?_ GE808.out) | exact HB.out))
          (case side3 => first | (with_reducible exact HT.out) | exact tabAt HT.out (by repeat (first | (with_reducible first | exact HB.out | apply below_alloc | apply pw_below_drewN | apply below_drew1 | refine below_set ?_ (IsS100.ge HI800.out) | refine below_set ?_ GE804.out | refine below_set ?_ GE808.out) | exact HB.out)))
          rintro e w41 ⟨rfl, hi, hb, hk⟩
          refine ⟨_, rfl, ?_⟩
          have n0_ := Aside0.mk (KeepBut.blk hk (g' := gb804) (o := .cells #[.int .u64 t801, .int .u64 t802] 30 (0, 0)) (by (with_reducible repeat (first | refine blk_drewN ?_ _ | refine blk_drew ?_ | refine blk_alloc ?_ _)); exact BK804.out) NB804_800.out (by simp))
          have n1_ := Aside0.mk (KeepBut.blk hk (g' := gb808) (o := .cells #[.int .u64 t805, .int .u64 t806] 30 (0, 0)) (by (with_reducible repeat (first | refine blk_drewN ?_ _ | refine blk_drew ?_ | refine blk_alloc ?_ _)); exact BK808.out) NB808_800.out (by simp))
          have n2_ := Aside0.mk (hb)
          have n3_ := Aside0.mk (hi)
          clear BK804
          clear BK808
          clear HB
          clear HI800
          have BK804 := n0_
          have BK808 := n1_
          have HB := n2_
          have HI800 := n3_
          clear n0_ n1_ n2_ n3_
          (try clear hb)
          (try clear hb2)
          (try clear hk)
          (try clear hi)
          refine hK.out _ _ ⟨(blk_cell BK804.out 0).trans rfl, (blk_cell BK804.out 1).trans rfl⟩ (fun hHeld => ?_)
          clear hK K
          refine norm_ (a' := ?_) ?_ ?_
          rotate_left
          ·show Act.put _ (some 72) _ = _
           simp only [Act.put, List.setIfInBounds_toArray, List.set_cons_zero, List.set_cons_succ, i64_w, i32_w]
           rfl
          refine pure_ (i := 4) (N := some 73) (v := ?_) (a' := ?_) #[true, true, true, true, true, false, false, false, false, false, false, false, false, false, false, false, false, false, false, false, false, false, false, false, false, false] rfl rfl (any_of HT_.out (by kernel_rfl)) (fun _ _ _ h => h) (Or.inl ⟨by rfl, ?_⟩) ?_ ?_
          rotate_left
          ·intro w'
           go_simp
           with_reducible rfl
          rotate_left
          ·simp only [Act.put, List.setIfInBounds_toArray, List.set_cons_zero, List.set_cons_succ, i64_w, i32_w]
           rfl
          refine pure_ (i := 5) (N := some 74) (v := ?_) (a' := ?_) #[true, true, true, true, true, true, false, false, false, false, false, false, false, false, false, false, false, false, false, false, false, false, false, false, false, false] rfl rfl (any_of HT_.out (by kernel_rfl)) (fun _ _ _ h => h) (Or.inl ⟨by rfl, ?_⟩) ?_ ?_
          rotate_left
          ·intro w'
           go_simp
           with_reducible rfl
          rotate_left
          ·simp only [Act.put, List.setIfInBounds_toArray, List.set_cons_zero, List.set_cons_succ, i64_w, i32_w]
           rfl
          refine pure_ (i := 6) (N := some 75) (v := ?_) (a' := ?_) #[true, true, true, true, true, true, true, false, false, false, false, false, false, false, false, false, false, false, false, false, false, false, false, false, false, false] rfl rfl (any_of HT_.out (by kernel_rfl)) (fun _ _ _ h => h) (Or.inl ⟨by rfl, ?_⟩) ?_ ?_
          rotate_left
          ·intro w'
           go_simp
           with_reducible rfl
          rotate_left
          ·simp only [Act.put, List.setIfInBounds_toArray, List.set_cons_zero, List.set_cons_succ, i64_w, i32_w]
           rfl
          refine pure_ (i := 7) (N := some 76) (v := ?_) (a' := ?_) #[true, true, true, true, true, true, true, true, false, false, false, false, false, false, false, false, false, false, false, false, false, false, false, false, false, false] rfl rfl (any_of HT_.out (by kernel_rfl)) (fun _ _ _ h => h) (Or.inl ⟨by rfl, ?_⟩) ?_ ?_
          rotate_left
          ·intro w'
           go_simp
           with_reducible rfl
          rotate_left
          ·simp only [Act.put, List.setIfInBounds_toArray, List.set_cons_zero, List.set_cons_succ, i64_w, i32_w]
           rfl
          refine pure_ (i := 8) (N := some 77) (v := ?_) (a' := ?_) #[true, true, true, true, true, true, true, true, true, false, false, false, false, false, false, false, false, false, false, false, false, false, false, false, false, false] rfl rfl (any_of HT_.out (by kernel_rfl)) (fun _ _ _ h => h) (Or.inl ⟨by rfl, ?_⟩) ?_ ?_
          rotate_left
          ·intro w'
           go_simp
           with_reducible rfl
          rotate_left
          ·simp only [Act.put, List.setIfInBounds_toArray, List.set_cons_zero, List.set_cons_succ, i64_w, i32_w]
           rfl
          refine pure_ (i := 9) (N := some 78) (v := ?_) (a' := ?_) #[true, true, true, true, true, true, true, true, true, true, false, false, false, false, false, false, false, false, false, false, false, false, false, false, false, false] rfl rfl (any_of HT_.out (by kernel_rfl)) (fun _ _ _ h => h) (Or.inl ⟨by rfl, ?_⟩) ?_ ?_
          rotate_left
          ·intro w'
           go_simp
           with_reducible rfl
          rotate_left
          ·simp only [Act.put, List.setIfInBounds_toArray, List.set_cons_zero, List.set_cons_succ, i64_w, i32_w]
           rfl
          refine one_ (i := 10) (N := some 79) #[true, true, true, true, true, true, true, true, true, true, true, false, false, false, false, false, false, false, false, false, false, false, false, false, false, false] rfl rfl (one_of HT_.out (by kernel_rfl)) (by decide) (fun K hK => ?_)
          refine goes_ Tryd.func23 (by kernel_rfl) rfl #[.pointer (some ⟨g800, 0, none⟩), .int .u64 a0, .int .u64 0, .int .u64 a1, .int .u64 a2] (by rfl) rfl rfl (by (try simp only [List.map_toArray, List.map_cons, List.map_nil]); first | done | rfl | (simp only [List.length_drop, List.length_take]; rfl)) ?_
          with_reducible refine (deck_Deck_Seek.calls g800 t811 t812 t813 t814 t815 t816 t817 t818 t819 t820 a0 0 a1 a2 t821 t822 t823 t824 t825 t826 t827 t828 t829 t830 t831 w _ ?side1 ?side2 A35.out).mono ?_
          (case side1 => repeat (first | (with_reducible first | exact HI800.out | apply IsS100.alloc | apply IsS100.drewN | apply IsS100.drew | refine IsS100.far ?_ NB800_804.out _ ?_ | exact typ_of BK804 (by decide) (by decide) | refine IsS100.far ?_ NB800_808.out _ ?_ | exact typ_of BK808 (by decide) (by decide) | refine typ_set ?_ _ _ _ | refine typ_alloc ?_ _ | refine typ_drewN ?_ _ | refine typ_drew ?_) | exact HI800.out))
          (case side2 => repeat (first | (with_reducible first | exact HB.out | apply below_alloc | apply pw_below_drewN | apply below_drew1 | refine below_set ?_ (IsS100.ge HI800.out) | refine below_set ?_ GE804.out | refine below_set ?_ GE808.out) | exact HB.out))
          rintro e w42 ⟨rfl, hi, hb, hk⟩
          refine ⟨_, rfl, ?_⟩
          have n0_ := Aside0.mk (KeepBut.blk hk (g' := gb804) (o := .cells #[.int .u64 t801, .int .u64 t802] 30 (0, 0)) (by (with_reducible repeat (first | refine blk_drewN ?_ _ | refine blk_drew ?_ | refine blk_alloc ?_ _)); exact BK804.out) NB804_800.out (by simp))
          have n1_ := Aside0.mk (KeepBut.blk hk (g' := gb808) (o := .cells #[.int .u64 t805, .int .u64 t806] 30 (0, 0)) (by (with_reducible repeat (first | refine blk_drewN ?_ _ | refine blk_drew ?_ | refine blk_alloc ?_ _)); exact BK808.out) NB808_800.out (by simp))
          have n2_ := Aside0.mk (hb)
          have n3_ := Aside0.mk (hi)
          clear BK804
          clear BK808
          clear HB
          clear HI800
          have BK804 := n0_
          have BK808 := n1_
          have HB := n2_
          have HI800 := n3_
          clear n0_ n1_ n2_ n3_
          (try clear hb)
          (try clear hb2)
          (try clear hk)
          (try clear hi)
          refine hK.out _ _ ⟨(blk_cell BK804.out 0).trans rfl, (blk_cell BK804.out 1).trans rfl⟩ (fun hHeld => ?_)
          clear hK K
          refine norm_ (a' := ?_) ?_ ?_
          rotate_left
          ·show Act.put _ (some 79) _ = _
           simp only [Act.put, List.setIfInBounds_toArray, List.set_cons_zero, List.set_cons_succ, i64_w, i32_w]
           rfl
          refine pure_ (i := 11) (N := some 80) (v := ?_) (a' := ?_) #[true, true, true, true, true, true, true, true, true, true, true, true, false, false, false, false, false, false, false, false, false, false, false, false, false, false] rfl rfl (any_of HT_.out (by kernel_rfl)) (fun _ _ _ h => h) (Or.inl ⟨by rfl, ?_⟩) ?_ ?_
          rotate_left
          ·intro w'
           go_simp
           with_reducible rfl
          rotate_left
          ·simp only [Act.put, List.setIfInBounds_toArray, List.set_cons_zero, List.set_cons_succ, i64_w, i32_w]
           rfl
          refine pure_ (i := 12) (N := some 81) (v := ?_) (a' := ?_) #[true, true, true, true, true, true, true, true, true, true, true, true, true, false, false, false, false, false, false, false, false, false, false, false, false, false] rfl rfl (any_of HT_.out (by kernel_rfl)) (fun _ _ _ h => h) (Or.inl ⟨by rfl, ?_⟩) ?_ ?_
          rotate_left
          ·intro w'
           go_simp
           with_reducible rfl
          rotate_left
          ·simp only [Act.put, List.setIfInBounds_toArray, List.set_cons_zero, List.set_cons_succ, i64_w, i32_w]
           rfl
          refine pure_ (i := 13) (N := some 82) (v := ?_) (a' := ?_) #[true, true, true, true, true, true, true, true, true, true, true, true, true, true, false, false, false, false, false, false, false, false, false, false, false, false] rfl rfl (any_of HT_.out (by kernel_rfl)) (fun _ _ _ h => h) (Or.inl ⟨by rfl, ?_⟩) ?_ ?_
          rotate_left
          ·intro w'
           go_simp
           with_reducible rfl
          rotate_left
          ·simp only [Act.put, List.setIfInBounds_toArray, List.set_cons_zero, List.set_cons_succ, i64_w, i32_w]
           rfl
          refine pure_ (i := 14) (N := some 83) (v := ?_) (a' := ?_) #[true, true, true, true, true, true, true, true, true, true, true, true, true, true, true, false, false, false, false, false, false, false, false, false, false, false] rfl rfl (any_of HT_.out (by kernel_rfl)) (fun _ _ _ h => h) (Or.inl ⟨by rfl, ?_⟩) ?_ ?_
          rotate_left
          ·intro w'
           go_simp
           with_reducible rfl
          rotate_left
          ·simp only [Act.put, List.setIfInBounds_toArray, List.set_cons_zero, List.set_cons_succ, i64_w, i32_w]
           rfl
          refine pure_ (i := 15) (N := some 84) (v := ?_) (a' := ?_) #[true, true, true, true, true, true, true, true, true, true, true, true, true, true, true, true, false, false, false, false, false, false, false, false, false, false] rfl rfl (any_of HT_.out (by kernel_rfl)) (fun _ _ _ h => h) (Or.inl ⟨by rfl, ?_⟩) ?_ ?_
          rotate_left
          ·intro w'
           go_simp
           with_reducible rfl
          rotate_left
          ·simp only [Act.put, List.setIfInBounds_toArray, List.set_cons_zero, List.set_cons_succ, i64_w, i32_w]
           rfl
          refine pure_ (i := 16) (N := some 85) (v := ?_) (a' := ?_) #[true, true, true, true, true, true, true, true, true, true, true, true, true, true, true, true, true, false, false, false, false, false, false, false, false, false] rfl rfl (any_of HT_.out (by kernel_rfl)) (fun _ _ _ h => h) (Or.inl ⟨by rfl, ?_⟩) ?_ ?_
          rotate_left
          ·intro w'
           go_simp
           with_reducible rfl
          rotate_left
          ·simp only [Act.put, List.setIfInBounds_toArray, List.set_cons_zero, List.set_cons_succ, i64_w, i32_w]
           rfl
          refine one_ (i := 17) (N := some 86) #[true, true, true, true, true, true, true, true, true, true, true, true, true, true, true, true, true, true, false, false, false, false, false, false, false, false] rfl rfl (one_of HT_.out (by kernel_rfl)) (by decide) (fun K hK => ?_)
          refine goes_ Tryd.func24 (by kernel_rfl) rfl #[.pointer (some ⟨g800, 0, none⟩), .int .u64 a0, .int .u64 0, .int .u64 a1] (by rfl) rfl rfl (by (try simp only [List.map_toArray, List.map_cons, List.map_nil]); first | done | rfl | (simp only [List.length_drop, List.length_take]; rfl)) ?_
          with_reducible refine (deck_Deck_Play.calls g800 t822 t823 t824 t825 t826 t827 t828 t829 t830 t831 a0 0 a1 t832 t833 t834 t835 t836 t837 t838 t839 t840 t841 t842 w _ ?side1 ?side2 A37.out).mono ?_
          (case side1 => repeat (first | (with_reducible first | exact HI800.out | apply IsS100.alloc | apply IsS100.drewN | apply IsS100.drew | refine IsS100.far ?_ NB800_804.out _ ?_ | exact typ_of BK804 (by decide) (by decide) | refine IsS100.far ?_ NB800_808.out _ ?_ | exact typ_of BK808 (by decide) (by decide) | refine typ_set ?_ _ _ _ | refine typ_alloc ?_ _ | refine typ_drewN ?_ _ | refine typ_drew ?_) | exact HI800.out))
          (case side2 => repeat (first | (with_reducible first | exact HB.out | apply below_alloc | apply pw_below_drewN | apply below_drew1 | refine below_set ?_ (IsS100.ge HI800.out) | refine below_set ?_ GE804.out | refine below_set ?_ GE808.out) | exact HB.out))
          rintro e w43 ⟨rfl, hi, hb, hk⟩
          refine ⟨_, rfl, ?_⟩
          have n0_ := Aside0.mk (KeepBut.blk hk (g' := gb804) (o := .cells #[.int .u64 t801, .int .u64 t802] 30 (0, 0)) (by (with_reducible repeat (first | refine blk_drewN ?_ _ | refine blk_drew ?_ | refine blk_alloc ?_ _)); exact BK804.out) NB804_800.out (by simp))
          have n1_ := Aside0.mk (KeepBut.blk hk (g' := gb808) (o := .cells #[.int .u64 t805, .int .u64 t806] 30 (0, 0)) (by (with_reducible repeat (first | refine blk_drewN ?_ _ | refine blk_drew ?_ | refine blk_alloc ?_ _)); exact BK808.out) NB808_800.out (by simp))
          have n2_ := Aside0.mk (hb)
          have n3_ := Aside0.mk (hi)
          clear BK804
          clear BK808
          clear HB
          clear HI800
          have BK804 := n0_
          have BK808 := n1_
          have HB := n2_
          have HI800 := n3_
          clear n0_ n1_ n2_ n3_
          (try clear hb)
          (try clear hb2)
          (try clear hk)
          (try clear hi)
          refine hK.out _ _ ⟨(blk_cell BK804.out 0).trans rfl, (blk_cell BK804.out 1).trans rfl⟩ (fun hHeld => ?_)
          clear hK K
          refine norm_ (a' := ?_) ?_ ?_
          rotate_left
          ·show Act.put _ (some 86) _ = _
           simp only [Act.put, List.setIfInBounds_toArray, List.set_cons_zero, List.set_cons_succ, i64_w, i32_w]
           rfl
          refine pure_ (i := 18) (N := some 87) (v := ?_) (a' := ?_) #[true, true, true, true, true, true, true, true, true, true, true, true, true, true, true, true, true, true, true, false, false, false, false, false, false, false] rfl rfl (any_of HT_.out (by kernel_rfl)) (fun _ _ _ h => h) (Or.inl ⟨by rfl, ?_⟩) ?_ ?_
          rotate_left
          ·intro w'
           go_simp
           with_reducible rfl
          rotate_left
          ·simp only [Act.put, List.setIfInBounds_toArray, List.set_cons_zero, List.set_cons_succ, i64_w, i32_w]
           rfl
          refine pure_ (i := 19) (N := some 88) (v := ?_) (a' := ?_) #[true, true, true, true, true, true, true, true, true, true, true, true, true, true, true, true, true, true, true, true, false, false, false, false, false, false] rfl rfl (any_of HT_.out (by kernel_rfl)) (fun _ _ _ h => h) (Or.inl ⟨by rfl, ?_⟩) ?_ ?_
          rotate_left
          ·intro w'
           go_simp
           with_reducible rfl
          rotate_left
          ·simp only [Act.put, List.setIfInBounds_toArray, List.set_cons_zero, List.set_cons_succ, i64_w, i32_w]
           rfl
          refine pure_ (i := 20) (N := some 89) (v := ?_) (a' := ?_) #[true, true, true, true, true, true, true, true, true, true, true, true, true, true, true, true, true, true, true, true, true, false, false, false, false, false] rfl rfl (any_of HT_.out (by kernel_rfl)) (fun _ _ _ h => h) (Or.inl ⟨by rfl, ?_⟩) ?_ ?_
          rotate_left
          ·intro w'
           go_simp
           with_reducible rfl
          rotate_left
          ·simp only [Act.put, List.setIfInBounds_toArray, List.set_cons_zero, List.set_cons_succ, i64_w, i32_w]
           rfl
          refine pure_ (i := 21) (N := some 90) (v := ?_) (a' := ?_) #[true, true, true, true, true, true, true, true, true, true, true, true, true, true, true, true, true, true, true, true, true, true, false, false, false, false] rfl rfl (any_of HT_.out (by kernel_rfl)) (fun _ _ _ h => h) (Or.inl ⟨by rfl, ?_⟩) ?_ ?_
          rotate_left
          ·intro w'
           go_simp
           with_reducible rfl
          rotate_left
          ·simp only [Act.put, List.setIfInBounds_toArray, List.set_cons_zero, List.set_cons_succ, i64_w, i32_w]
           rfl
          refine take_ (i := 23) (N := some 92) (v := ?_) (a' := ?_) #[true, true, true, true, true, true, true, true, true, true, true, true, true, true, true, true, true, true, true, true, true, true, false, true, false, false] rfl rfl (take_ofW HT_.out HW_.out (by kernel_rfl)) (fun _ _ _ h => h) (Or.inl ⟨by rfl, ?_⟩) hHeld ?_ ?_
          rotate_left
          ·rintro w' ⟨s0, s1⟩
           go_simp
           with_reducible rfl
          rotate_left
          ·simp only [Act.put, List.setIfInBounds_toArray, List.set_cons_zero, List.set_cons_succ, i64_w, i32_w]
           rfl
          refine one_ (i := 22) (N := some 91) #[true, true, true, true, true, true, true, true, true, true, true, true, true, true, true, true, true, true, true, true, true, true, true, true, false, false] rfl rfl (one_of HT_.out (by kernel_rfl)) (by decide) (fun K hK => ?_)
          refine goes_ Tryd.func15 (by kernel_rfl) rfl #[.pointer (some ⟨g800, 0, none⟩)] (by rfl) rfl rfl (by (try simp only [List.map_toArray, List.map_cons, List.map_nil]); first | done | rfl | (simp only [List.length_drop, List.length_take]; rfl)) ?_
          with_reducible refine (deck_Deck_Rate.calls g800 t833 t834 t835 t836 t837 t838 t839 t840 t841 t842 t843 t844 t845 t846 t847 t848 t849 t850 t851 t852 t853 t854 w _ ?side1 ?side2 A39.out).mono ?_
          (case side1 => repeat (first | (with_reducible first | exact HI800.out | apply IsS100.alloc | apply IsS100.drewN | apply IsS100.drew | refine IsS100.far ?_ NB800_804.out _ ?_ | exact typ_of BK804 (by decide) (by decide) | refine IsS100.far ?_ NB800_808.out _ ?_ | exact typ_of BK808 (by decide) (by decide) | refine typ_set ?_ _ _ _ | refine typ_alloc ?_ _ | refine typ_drewN ?_ _ | refine typ_drew ?_) | exact HI800.out))
          (case side2 => repeat (first | (with_reducible first | exact HB.out | apply below_alloc | apply pw_below_drewN | apply below_drew1 | refine below_set ?_ (IsS100.ge HI800.out) | refine below_set ?_ GE804.out | refine below_set ?_ GE808.out) | exact HB.out))
          rintro e w44 ⟨rfl, hi, hb, hk⟩
          refine ⟨_, rfl, ?_⟩
          have n0_ := Aside0.mk (KeepBut.blk hk (g' := gb804) (o := .cells #[.int .u64 t801, .int .u64 t802] 30 (0, 0)) (by (with_reducible repeat (first | refine blk_drewN ?_ _ | refine blk_drew ?_ | refine blk_alloc ?_ _)); exact BK804.out) NB804_800.out (by simp))
          have n1_ := Aside0.mk (KeepBut.blk hk (g' := gb808) (o := .cells #[.int .u64 t805, .int .u64 t806] 30 (0, 0)) (by (with_reducible repeat (first | refine blk_drewN ?_ _ | refine blk_drew ?_ | refine blk_alloc ?_ _)); exact BK808.out) NB808_800.out (by simp))
          have n2_ := Aside0.mk (hb)
          have n3_ := Aside0.mk (hi)
          clear BK804
          clear BK808
          clear HB
          clear HI800
          have BK804 := n0_
          have BK808 := n1_
          have HB := n2_
          have HI800 := n3_
          clear n0_ n1_ n2_ n3_
          (try clear hb)
          (try clear hb2)
          (try clear hk)
          (try clear hi)
          refine hK.out _ _ ⟨(blk_cell BK804.out 0).trans rfl, (blk_cell BK804.out 1).trans rfl⟩ (fun hHeld => ?_)
          clear hK K
          refine norm_ (a' := ?_) ?_ ?_
          rotate_left
          ·show Act.put _ (some 91) _ = _
           simp only [Act.put, List.setIfInBounds_toArray, List.set_cons_zero, List.set_cons_succ, i64_w, i32_w]
           rfl
          refine pure_ (i := 24) (N := some 93) (v := ?_) (a' := ?_) #[true, true, true, true, true, true, true, true, true, true, true, true, true, true, true, true, true, true, true, true, true, true, true, true, true, false] rfl rfl (any_of HT_.out (by kernel_rfl)) (fun _ _ _ h => h) (Or.inl ⟨by rfl, ?_⟩) ?_ ?_
          rotate_left
          ·intro w'
           go_simp
           with_reducible rfl
          rotate_left
          ·simp only [Act.put, List.setIfInBounds_toArray, List.set_cons_zero, List.set_cons_succ, i64_w, i32_w]
           rfl
          refine pure_ (i := 25) (N := some 94) (v := ?_) (a' := ?_) #[true, true, true, true, true, true, true, true, true, true, true, true, true, true, true, true, true, true, true, true, true, true, true, true, true, true] rfl rfl (any_of HT_.out (by kernel_rfl)) (fun _ _ _ h => h) (Or.inl ⟨by rfl, ?_⟩) ?_ ?_
          rotate_left
          ·intro w'
           go_simp
           with_reducible rfl
          rotate_left
          ·simp only [Act.put, List.setIfInBounds_toArray, List.set_cons_zero, List.set_cons_succ, i64_w, i32_w]
           rfl
          refine done_ (done_of HT_.out (by kernel_rfl)) ?_
          try go_wp2
          go_meet
          case rel => exact ⟨_, ((!(t843 == t801) || (!(t844 == t802)))), (t845), (t846), (t847), (t848), (t849), (t850), (t851), (t852), (t853), (t854), (by first | rfl | (simp; done) | (simp [*]; done)), H', ⟨by have := HJ11.out; first | omega | exact Nat.le_refl _⟩, ⟨by (with_reducible repeat (first | refine blk_drewN ?_ _ | refine blk_drew ?_ | refine blk_alloc ?_ _)); exact BK804.out⟩, ⟨by (with_reducible repeat (first | refine blk_drewN ?_ _ | refine blk_drew ?_ | refine blk_alloc ?_ _)); exact BK808.out⟩, ⟨by repeat (first | (with_reducible first | exact HI800.out | apply IsS100.alloc | apply IsS100.drewN | apply IsS100.drew | refine IsS100.far ?_ NB800_804.out _ ?_ | exact typ_of BK804 (by decide) (by decide) | refine IsS100.far ?_ NB800_808.out _ ?_ | exact typ_of BK808 (by decide) (by decide) | refine typ_set ?_ _ _ _ | refine typ_alloc ?_ _ | refine typ_drewN ?_ _ | refine typ_drew ?_) | exact HI800.out)⟩, ⟨by repeat (first | (with_reducible first | exact HB.out | apply below_alloc | apply pw_below_drewN | apply below_drew1 | refine below_set ?_ (IsS100.ge HI800.out) | refine below_set ?_ GE804.out | refine below_set ?_ GE808.out) | exact HB.out)⟩⟩
         ·rw [if_neg c38] at H
          have c38b0 : (t832 == 0) = false := beq_eq_false_iff_ne.mpr c38
          have c38b1 : (t832 != 0) = true := bne_iff_ne.mpr c38
          have H' := Aside0.mk H
          clear H
          try go_wp2
          have n0_ := Aside0.mk (blk_drew BK804.out)
          have n1_ := Aside0.mk (blk_drew BK808.out)
          have n2_ := Aside0.mk (IsS100.drew HI800.out)
          have n3_ := Aside0.mk (below_drew1 HB.out)
          clear BK804
          clear BK808
          clear HI800
          clear HB
          have BK804 := n0_
          have BK808 := n1_
          have HI800 := n2_
          have HB := n3_
          clear n0_ n1_ n2_ n3_
          refine start_ (n := 26) (S := fun w' => True) (ds := []) #[false, false, false, false, false, false, false, false, false, false, false, false, false, false, false, false, false, false, false, false, false, false, false, false, false, false] (by kernel_rfl) rfl rfl trivial (fun hHeld => ?_); refine with_tabW tiklaw23_DeckRates.tab8 tiklaw23_DeckRates.bits8 (fun HT_ HW_ => ?_)
          generalize wc.drew = w45 at BK804 BK808 HI800 HB hHeld ⊢
          refine pure_ (i := 0) (N := some 69) (v := ?_) (a' := ?_) #[true, false, false, false, false, false, false, false, false, false, false, false, false, false, false, false, false, false, false, false, false, false, false, false, false, false] rfl rfl (any_of HT_.out (by kernel_rfl)) (fun _ _ _ h => h) (Or.inl ⟨by rfl, ?_⟩) ?_ ?_
          rotate_left
          ·intro w'
           go_simp
           with_reducible rfl
          rotate_left
          ·simp only [Act.put, List.setIfInBounds_toArray, List.set_cons_zero, List.set_cons_succ, i64_w, i32_w]
           rfl
          refine pure_ (i := 1) (N := some 70) (v := ?_) (a' := ?_) #[true, true, false, false, false, false, false, false, false, false, false, false, false, false, false, false, false, false, false, false, false, false, false, false, false, false] rfl rfl (any_of HT_.out (by kernel_rfl)) (fun _ _ _ h => h) (Or.inl ⟨by rfl, ?_⟩) ?_ ?_
          rotate_left
          ·intro w'
           go_simp
           with_reducible rfl
          rotate_left
          ·simp only [Act.put, List.setIfInBounds_toArray, List.set_cons_zero, List.set_cons_succ, i64_w, i32_w]
           rfl
          refine pure_ (i := 2) (N := some 71) (v := ?_) (a' := ?_) #[true, true, true, false, false, false, false, false, false, false, false, false, false, false, false, false, false, false, false, false, false, false, false, false, false, false] rfl rfl (any_of HT_.out (by kernel_rfl)) (fun _ _ _ h => h) (Or.inl ⟨by rfl, ?_⟩) ?_ ?_
          rotate_left
          ·intro w'
           go_simp
           with_reducible rfl
          rotate_left
          ·simp only [Act.put, List.setIfInBounds_toArray, List.set_cons_zero, List.set_cons_succ, i64_w, i32_w]
           rfl
          refine one_ (i := 3) (N := some 72) #[true, true, true, true, false, false, false, false, false, false, false, false, false, false, false, false, false, false, false, false, false, false, false, false, false, false] rfl rfl (one_of HT_.out (by kernel_rfl)) (by decide) (fun K hK => ?_)
          refine goes_ Tryd.func21 (by kernel_rfl) rfl #[.pointer (some ⟨g800, 0, none⟩), .int .u64 a0, .float .f64 a4] (by rfl) rfl rfl (by (try simp only [List.map_toArray, List.map_cons, List.map_nil]); first | done | rfl | (simp only [List.length_drop, List.length_take]; rfl)) ?_
          with_reducible refine (deck_Deck_Speed.calls kj11 g800 t790 t791 t792 t793 t794 t795 t796 t797 t798 t799 a0 a4 t810 t811 t812 t813 t814 t815 t816 t817 t818 t819 t820 w _ ?side1 ?side2 ?side3 A33.out).mono ?_
          (case side1 => repeat (first | (with_reducible first | exact HI800.out | apply IsS100.alloc | apply IsS100.drewN | apply IsS100.drew | refine IsS100.far ?_ NB800_804.out _ ?_ | exact typ_of BK804 (by decide) (by decide) | refine IsS100.far ?_ NB800_808.out _ ?_ | exact typ_of BK808 (by decide) (by decide) | refine typ_set ?_ _ _ _ | refine typ_alloc ?_ _ | refine typ_drewN ?_ _ | refine typ_drew ?_) | exact HI800.out))
          (case side2 => repeat (first | (with_reducible first | exact HB.out | apply below_alloc | apply pw_below_drewN | apply below_drew1 | refine below_set ?_ (IsS100.ge HI800.out) | refine below_set ?_ GE804.out | refine below_set ?_ GE808.out) | exact HB.out))
          (case side3 => first | (with_reducible exact HT.out) | exact tabAt HT.out (by repeat (first | (with_reducible first | exact HB.out | apply below_alloc | apply pw_below_drewN | apply below_drew1 | refine below_set ?_ (IsS100.ge HI800.out) | refine below_set ?_ GE804.out | refine below_set ?_ GE808.out) | exact HB.out)))
          rintro e w46 ⟨rfl, hi, hb, hk⟩
          refine ⟨_, rfl, ?_⟩
          have n0_ := Aside0.mk (KeepBut.blk hk (g' := gb804) (o := .cells #[.int .u64 t801, .int .u64 t802] 30 (0, 0)) (by (with_reducible repeat (first | refine blk_drewN ?_ _ | refine blk_drew ?_ | refine blk_alloc ?_ _)); exact BK804.out) NB804_800.out (by simp))
          have n1_ := Aside0.mk (KeepBut.blk hk (g' := gb808) (o := .cells #[.int .u64 t805, .int .u64 t806] 30 (0, 0)) (by (with_reducible repeat (first | refine blk_drewN ?_ _ | refine blk_drew ?_ | refine blk_alloc ?_ _)); exact BK808.out) NB808_800.out (by simp))
          have n2_ := Aside0.mk (hb)
          have n3_ := Aside0.mk (hi)
          clear BK804
          clear BK808
          clear HB
          clear HI800
          have BK804 := n0_
          have BK808 := n1_
          have HB := n2_
          have HI800 := n3_
          clear n0_ n1_ n2_ n3_
          (try clear hb)
          (try clear hb2)
          (try clear hk)
          (try clear hi)
          refine hK.out _ _ trivial (fun hHeld => ?_)
          clear hK K
          refine norm_ (a' := ?_) ?_ ?_
          rotate_left
          ·show Act.put _ (some 72) _ = _
           simp only [Act.put, List.setIfInBounds_toArray, List.set_cons_zero, List.set_cons_succ, i64_w, i32_w]
           rfl
          refine pure_ (i := 4) (N := some 73) (v := ?_) (a' := ?_) #[true, true, true, true, true, false, false, false, false, false, false, false, false, false, false, false, false, false, false, false, false, false, false, false, false, false] rfl rfl (any_of HT_.out (by kernel_rfl)) (fun _ _ _ h => h) (Or.inl ⟨by rfl, ?_⟩) ?_ ?_
          rotate_left
          ·intro w'
           go_simp
           with_reducible rfl
          rotate_left
          ·simp only [Act.put, List.setIfInBounds_toArray, List.set_cons_zero, List.set_cons_succ, i64_w, i32_w]
           rfl
          refine pure_ (i := 5) (N := some 74) (v := ?_) (a' := ?_) #[true, true, true, true, true, true, false, false, false, false, false, false, false, false, false, false, false, false, false, false, false, false, false, false, false, false] rfl rfl (any_of HT_.out (by kernel_rfl)) (fun _ _ _ h => h) (Or.inl ⟨by rfl, ?_⟩) ?_ ?_
          rotate_left
          ·intro w'
           go_simp
           with_reducible rfl
          rotate_left
          ·simp only [Act.put, List.setIfInBounds_toArray, List.set_cons_zero, List.set_cons_succ, i64_w, i32_w]
           rfl
          refine pure_ (i := 6) (N := some 75) (v := ?_) (a' := ?_) #[true, true, true, true, true, true, true, false, false, false, false, false, false, false, false, false, false, false, false, false, false, false, false, false, false, false] rfl rfl (any_of HT_.out (by kernel_rfl)) (fun _ _ _ h => h) (Or.inl ⟨by rfl, ?_⟩) ?_ ?_
          rotate_left
          ·intro w'
           go_simp
           with_reducible rfl
          rotate_left
          ·simp only [Act.put, List.setIfInBounds_toArray, List.set_cons_zero, List.set_cons_succ, i64_w, i32_w]
           rfl
          refine pure_ (i := 7) (N := some 76) (v := ?_) (a' := ?_) #[true, true, true, true, true, true, true, true, false, false, false, false, false, false, false, false, false, false, false, false, false, false, false, false, false, false] rfl rfl (any_of HT_.out (by kernel_rfl)) (fun _ _ _ h => h) (Or.inl ⟨by rfl, ?_⟩) ?_ ?_
          rotate_left
          ·intro w'
           go_simp
           with_reducible rfl
          rotate_left
          ·simp only [Act.put, List.setIfInBounds_toArray, List.set_cons_zero, List.set_cons_succ, i64_w, i32_w]
           rfl
          refine pure_ (i := 8) (N := some 77) (v := ?_) (a' := ?_) #[true, true, true, true, true, true, true, true, true, false, false, false, false, false, false, false, false, false, false, false, false, false, false, false, false, false] rfl rfl (any_of HT_.out (by kernel_rfl)) (fun _ _ _ h => h) (Or.inl ⟨by rfl, ?_⟩) ?_ ?_
          rotate_left
          ·intro w'
           go_simp
           with_reducible rfl
          rotate_left
          ·simp only [Act.put, List.setIfInBounds_toArray, List.set_cons_zero, List.set_cons_succ, i64_w, i32_w]
           rfl
          refine pure_ (i := 9) (N := some 78) (v := ?_) (a' := ?_) #[true, true, true, true, true, true, true, true, true, true, false, false, false, false, false, false, false, false, false, false, false, false, false, false, false, false] rfl rfl (any_of HT_.out (by kernel_rfl)) (fun _ _ _ h => h) (Or.inl ⟨by rfl, ?_⟩) ?_ ?_
          rotate_left
          ·intro w'
           go_simp
           with_reducible rfl
          rotate_left
          ·simp only [Act.put, List.setIfInBounds_toArray, List.set_cons_zero, List.set_cons_succ, i64_w, i32_w]
           rfl
          refine one_ (i := 10) (N := some 79) #[true, true, true, true, true, true, true, true, true, true, true, false, false, false, false, false, false, false, false, false, false, false, false, false, false, false] rfl rfl (one_of HT_.out (by kernel_rfl)) (by decide) (fun K hK => ?_)
          refine goes_ Tryd.func23 (by kernel_rfl) rfl #[.pointer (some ⟨g800, 0, none⟩), .int .u64 a0, .int .u64 0, .int .u64 a1, .int .u64 a2] (by rfl) rfl rfl (by (try simp only [List.map_toArray, List.map_cons, List.map_nil]); first | done | rfl | (simp only [List.length_drop, List.length_take]; rfl)) ?_
          with_reducible refine (deck_Deck_Seek.calls g800 t811 t812 t813 t814 t815 t816 t817 t818 t819 t820 a0 0 a1 a2 t821 t822 t823 t824 t825 t826 t827 t828 t829 t830 t831 w _ ?side1 ?side2 A35.out).mono ?_
          (case side1 => repeat (first | (with_reducible first | exact HI800.out | apply IsS100.alloc | apply IsS100.drewN | apply IsS100.drew | refine IsS100.far ?_ NB800_804.out _ ?_ | exact typ_of BK804 (by decide) (by decide) | refine IsS100.far ?_ NB800_808.out _ ?_ | exact typ_of BK808 (by decide) (by decide) | refine typ_set ?_ _ _ _ | refine typ_alloc ?_ _ | refine typ_drewN ?_ _ | refine typ_drew ?_) | exact HI800.out))
          (case side2 => repeat (first | (with_reducible first | exact HB.out | apply below_alloc | apply pw_below_drewN | apply below_drew1 | refine below_set ?_ (IsS100.ge HI800.out) | refine below_set ?_ GE804.out | refine below_set ?_ GE808.out) | exact HB.out))
          rintro e w47 ⟨rfl, hi, hb, hk⟩
          refine ⟨_, rfl, ?_⟩
          have n0_ := Aside0.mk (KeepBut.blk hk (g' := gb804) (o := .cells #[.int .u64 t801, .int .u64 t802] 30 (0, 0)) (by (with_reducible repeat (first | refine blk_drewN ?_ _ | refine blk_drew ?_ | refine blk_alloc ?_ _)); exact BK804.out) NB804_800.out (by simp))
          have n1_ := Aside0.mk (KeepBut.blk hk (g' := gb808) (o := .cells #[.int .u64 t805, .int .u64 t806] 30 (0, 0)) (by (with_reducible repeat (first | refine blk_drewN ?_ _ | refine blk_drew ?_ | refine blk_alloc ?_ _)); exact BK808.out) NB808_800.out (by simp))
          have n2_ := Aside0.mk (hb)
          have n3_ := Aside0.mk (hi)
          clear BK804
          clear BK808
          clear HB
          clear HI800
          have BK804 := n0_
          have BK808 := n1_
          have HB := n2_
          have HI800 := n3_
          clear n0_ n1_ n2_ n3_
          (try clear hb)
          (try clear hb2)
          (try clear hk)
          (try clear hi)
          refine hK.out _ _ trivial (fun hHeld => ?_)
          clear hK K
          refine norm_ (a' := ?_) ?_ ?_
          rotate_left
          ·show Act.put _ (some 79) _ = _
           simp only [Act.put, List.setIfInBounds_toArray, List.set_cons_zero, List.set_cons_succ, i64_w, i32_w]
           rfl
          refine pure_ (i := 11) (N := some 80) (v := ?_) (a' := ?_) #[true, true, true, true, true, true, true, true, true, true, true, true, false, false, false, false, false, false, false, false, false, false, false, false, false, false] rfl rfl (any_of HT_.out (by kernel_rfl)) (fun _ _ _ h => h) (Or.inl ⟨by rfl, ?_⟩) ?_ ?_
          rotate_left
          ·intro w'
           go_simp
           with_reducible rfl
          rotate_left
          ·simp only [Act.put, List.setIfInBounds_toArray, List.set_cons_zero, List.set_cons_succ, i64_w, i32_w]
           rfl
          refine pure_ (i := 12) (N := some 81) (v := ?_) (a' := ?_) #[true, true, true, true, true, true, true, true, true, true, true, true, true, false, false, false, false, false, false, false, false, false, false, false, false, false] rfl rfl (any_of HT_.out (by kernel_rfl)) (fun _ _ _ h => h) (Or.inl ⟨by rfl, ?_⟩) ?_ ?_
          rotate_left
          ·intro w'
           go_simp
           with_reducible rfl
          rotate_left
          ·simp only [Act.put, List.setIfInBounds_toArray, List.set_cons_zero, List.set_cons_succ, i64_w, i32_w]
           rfl
          refine pure_ (i := 13) (N := some 82) (v := ?_) (a' := ?_) #[true, true, true, true, true, true, true, true, true, true, true, true, true, true, false, false, false, false, false, false, false, false, false, false, false, false] rfl rfl (any_of HT_.out (by kernel_rfl)) (fun _ _ _ h => h) (Or.inl ⟨by rfl, ?_⟩) ?_ ?_
          rotate_left
          ·intro w'
           go_simp
           with_reducible rfl
          rotate_left
          ·simp only [Act.put, List.setIfInBounds_toArray, List.set_cons_zero, List.set_cons_succ, i64_w, i32_w]
           rfl
          refine pure_ (i := 14) (N := some 83) (v := ?_) (a' := ?_) #[true, true, true, true, true, true, true, true, true, true, true, true, true, true, true, false, false, false, false, false, false, false, false, false, false, false] rfl rfl (any_of HT_.out (by kernel_rfl)) (fun _ _ _ h => h) (Or.inl ⟨by rfl, ?_⟩) ?_ ?_
          rotate_left
          ·intro w'
           go_simp
           with_reducible rfl
          rotate_left
          ·simp only [Act.put, List.setIfInBounds_toArray, List.set_cons_zero, List.set_cons_succ, i64_w, i32_w]
           rfl
          refine pure_ (i := 15) (N := some 84) (v := ?_) (a' := ?_) #[true, true, true, true, true, true, true, true, true, true, true, true, true, true, true, true, false, false, false, false, false, false, false, false, false, false] rfl rfl (any_of HT_.out (by kernel_rfl)) (fun _ _ _ h => h) (Or.inl ⟨by rfl, ?_⟩) ?_ ?_
          rotate_left
          ·intro w'
           go_simp
           with_reducible rfl
          rotate_left
          ·simp only [Act.put, List.setIfInBounds_toArray, List.set_cons_zero, List.set_cons_succ, i64_w, i32_w]
           rfl
          refine pure_ (i := 16) (N := some 85) (v := ?_) (a' := ?_) #[true, true, true, true, true, true, true, true, true, true, true, true, true, true, true, true, true, false, false, false, false, false, false, false, false, false] rfl rfl (any_of HT_.out (by kernel_rfl)) (fun _ _ _ h => h) (Or.inl ⟨by rfl, ?_⟩) ?_ ?_
          rotate_left
          ·intro w'
           go_simp
           with_reducible rfl
          rotate_left
          ·simp only [Act.put, List.setIfInBounds_toArray, List.set_cons_zero, List.set_cons_succ, i64_w, i32_w]
           rfl
          refine one_ (i := 17) (N := some 86) #[true, true, true, true, true, true, true, true, true, true, true, true, true, true, true, true, true, true, false, false, false, false, false, false, false, false] rfl rfl (one_of HT_.out (by kernel_rfl)) (by decide) (fun K hK => ?_)
          refine goes_ Tryd.func24 (by kernel_rfl) rfl #[.pointer (some ⟨g800, 0, none⟩), .int .u64 a0, .int .u64 0, .int .u64 a1] (by rfl) rfl rfl (by (try simp only [List.map_toArray, List.map_cons, List.map_nil]); first | done | rfl | (simp only [List.length_drop, List.length_take]; rfl)) ?_
          with_reducible refine (deck_Deck_Play.calls g800 t822 t823 t824 t825 t826 t827 t828 t829 t830 t831 a0 0 a1 t832 t833 t834 t835 t836 t837 t838 t839 t840 t841 t842 w _ ?side1 ?side2 A37.out).mono ?_
          (case side1 => repeat (first | (with_reducible first | exact HI800.out | apply IsS100.alloc | apply IsS100.drewN | apply IsS100.drew | refine IsS100.far ?_ NB800_804.out _ ?_ | exact typ_of BK804 (by decide) (by decide) | refine IsS100.far ?_ NB800_808.out _ ?_ | exact typ_of BK808 (by decide) (by decide) | refine typ_set ?_ _ _ _ | refine typ_alloc ?_ _ | refine typ_drewN ?_ _ | refine typ_drew ?_) | exact HI800.out))
          (case side2 => repeat (first | (with_reducible first | exact HB.out | apply below_alloc | apply pw_below_drewN | apply below_drew1 | refine below_set ?_ (IsS100.ge HI800.out) | refine below_set ?_ GE804.out | refine below_set ?_ GE808.out) | exact HB.out))
          rintro e w48 ⟨rfl, hi, hb, hk⟩
          refine ⟨_, rfl, ?_⟩
          have n0_ := Aside0.mk (KeepBut.blk hk (g' := gb804) (o := .cells #[.int .u64 t801, .int .u64 t802] 30 (0, 0)) (by (with_reducible repeat (first | refine blk_drewN ?_ _ | refine blk_drew ?_ | refine blk_alloc ?_ _)); exact BK804.out) NB804_800.out (by simp))
          have n1_ := Aside0.mk (KeepBut.blk hk (g' := gb808) (o := .cells #[.int .u64 t805, .int .u64 t806] 30 (0, 0)) (by (with_reducible repeat (first | refine blk_drewN ?_ _ | refine blk_drew ?_ | refine blk_alloc ?_ _)); exact BK808.out) NB808_800.out (by simp))
          have n2_ := Aside0.mk (hb)
          have n3_ := Aside0.mk (hi)
          clear BK804
          clear BK808
          clear HB
          clear HI800
          have BK804 := n0_
          have BK808 := n1_
          have HB := n2_
          have HI800 := n3_
          clear n0_ n1_ n2_ n3_
          (try clear hb)
          (try clear hb2)
          (try clear hk)
          (try clear hi)
          refine hK.out _ _ trivial (fun hHeld => ?_)
          clear hK K
          refine norm_ (a' := ?_) ?_ ?_
          rotate_left
          ·show Act.put _ (some 86) _ = _
           simp only [Act.put, List.setIfInBounds_toArray, List.set_cons_zero, List.set_cons_succ, i64_w, i32_w]
           rfl
          refine pure_ (i := 18) (N := some 87) (v := ?_) (a' := ?_) #[true, true, true, true, true, true, true, true, true, true, true, true, true, true, true, true, true, true, true, false, false, false, false, false, false, false] rfl rfl (any_of HT_.out (by kernel_rfl)) (fun _ _ _ h => h) (Or.inl ⟨by rfl, ?_⟩) ?_ ?_
          rotate_left
          ·intro w'
           go_simp
           with_reducible rfl
          rotate_left
          ·simp only [Act.put, List.setIfInBounds_toArray, List.set_cons_zero, List.set_cons_succ, i64_w, i32_w]
           rfl
          refine pure_ (i := 19) (N := some 88) (v := ?_) (a' := ?_) #[true, true, true, true, true, true, true, true, true, true, true, true, true, true, true, true, true, true, true, true, false, false, false, false, false, false] rfl rfl (any_of HT_.out (by kernel_rfl)) (fun _ _ _ h => h) (Or.inl ⟨by rfl, ?_⟩) ?_ ?_
          rotate_left
          ·intro w'
           go_simp
           with_reducible rfl
          rotate_left
          ·simp only [Act.put, List.setIfInBounds_toArray, List.set_cons_zero, List.set_cons_succ, i64_w, i32_w]
           rfl
          refine pure_ (i := 20) (N := some 89) (v := ?_) (a' := ?_) #[true, true, true, true, true, true, true, true, true, true, true, true, true, true, true, true, true, true, true, true, true, false, false, false, false, false] rfl rfl (any_of HT_.out (by kernel_rfl)) (fun _ _ _ h => h) (Or.inl ⟨by rfl, ?_⟩) ?_ ?_
          rotate_left
          ·intro w'
           go_simp
           with_reducible rfl
          rotate_left
          ·simp only [Act.put, List.setIfInBounds_toArray, List.set_cons_zero, List.set_cons_succ, i64_w, i32_w]
           rfl
          refine pure_ (i := 21) (N := some 90) (v := undef) (a' := ?_) #[true, true, true, true, true, true, true, true, true, true, true, true, true, true, true, true, true, true, true, true, true, true, false, false, false, false] rfl rfl (any_of HT_.out (by kernel_rfl)) (fun _ _ _ h => h) (Or.inr ⟨by rfl, rfl⟩) ?_ ?_
          rotate_left
          ·simp only [Act.put, List.setIfInBounds_toArray, List.set_cons_zero, List.set_cons_succ, i64_w, i32_w]
           rfl
          refine pure_ (i := 22) (N := some 91) (v := undef) (a' := ?_) #[true, true, true, true, true, true, true, true, true, true, true, true, true, true, true, true, true, true, true, true, true, true, true, false, false, false] rfl rfl (any_of HT_.out (by kernel_rfl)) (fun _ _ _ h => h) (Or.inr ⟨by rfl, rfl⟩) ?_ ?_
          rotate_left
          ·simp only [Act.put, List.setIfInBounds_toArray, List.set_cons_zero, List.set_cons_succ, i64_w, i32_w]
           rfl
          refine pure_ (i := 23) (N := some 92) (v := undef) (a' := ?_) #[true, true, true, true, true, true, true, true, true, true, true, true, true, true, true, true, true, true, true, true, true, true, true, true, false, false] rfl rfl (any_of HT_.out (by kernel_rfl)) (fun _ _ _ h => h) (Or.inr ⟨by rfl, rfl⟩) ?_ ?_
          rotate_left
          ·simp only [Act.put, List.setIfInBounds_toArray, List.set_cons_zero, List.set_cons_succ, i64_w, i32_w]
           rfl
          refine pure_ (i := 24) (N := some 93) (v := undef) (a' := ?_) #[true, true, true, true, true, true, true, true, true, true, true, true, true, true, true, true, true, true, true, true, true, true, true, true, true, false] rfl rfl (any_of HT_.out (by kernel_rfl)) (fun _ _ _ h => h) (Or.inr ⟨by rfl, rfl⟩) ?_ ?_
          rotate_left
          ·simp only [Act.put, List.setIfInBounds_toArray, List.set_cons_zero, List.set_cons_succ, i64_w, i32_w]
           rfl
          refine pure_ (i := 25) (N := some 94) (v := ?_) (a' := ?_) #[true, true, true, true, true, true, true, true, true, true, true, true, true, true, true, true, true, true, true, true, true, true, true, true, true, true] rfl rfl (any_of HT_.out (by kernel_rfl)) (fun _ _ _ h => h) (Or.inl ⟨by rfl, ?_⟩) ?_ ?_
          rotate_left
          ·intro w'
           go_simp
           with_reducible rfl
          rotate_left
          ·simp only [Act.put, List.setIfInBounds_toArray, List.set_cons_zero, List.set_cons_succ, i64_w, i32_w]
           rfl
          refine done_ (done_of HT_.out (by kernel_rfl)) ?_
          try go_wp2
          go_meet
          case rel => exact ⟨_, (true), (t833), (t834), (t835), (t836), (t837), (t838), (t839), (t840), (t841), (t842), (by first | rfl | (simp; done) | (simp [*]; done)), H', ⟨by have := HJ11.out; first | omega | exact Nat.le_refl _⟩, ⟨by (with_reducible repeat (first | refine blk_drewN ?_ _ | refine blk_drew ?_ | refine blk_alloc ?_ _)); exact BK804.out⟩, ⟨by (with_reducible repeat (first | refine blk_drewN ?_ _ | refine blk_drew ?_ | refine blk_alloc ?_ _)); exact BK808.out⟩, ⟨by repeat (first | (with_reducible first | exact HI800.out | apply IsS100.alloc | apply IsS100.drewN | apply IsS100.drew | refine IsS100.far ?_ NB800_804.out _ ?_ | exact typ_of BK804 (by decide) (by decide) | refine IsS100.far ?_ NB800_808.out _ ?_ | exact typ_of BK808 (by decide) (by decide) | refine typ_set ?_ _ _ _ | refine typ_alloc ?_ _ | refine typ_drewN ?_ _ | refine typ_drew ?_) | exact HI800.out)⟩, ⟨by repeat (first | (with_reducible first | exact HB.out | apply below_alloc | apply pw_below_drewN | apply below_drew1 | refine below_set ?_ (IsS100.ge HI800.out) | refine below_set ?_ GE804.out | refine below_set ?_ GE808.out) | exact HB.out)⟩⟩
        ·rw [if_neg c36] at H
         have c36b0 : (t821 == 0) = false := beq_eq_false_iff_ne.mpr c36
         have c36b1 : (t821 != 0) = true := bne_iff_ne.mpr c36
         have H' := Aside0.mk H
         clear H
         try go_wp2
         have n0_ := Aside0.mk (blk_drew BK804.out)
         have n1_ := Aside0.mk (blk_drew BK808.out)
         have n2_ := Aside0.mk (IsS100.drew HI800.out)
         have n3_ := Aside0.mk (below_drew1 HB.out)
         clear BK804
         clear BK808
         clear HI800
         clear HB
         have BK804 := n0_
         have BK808 := n1_
         have HI800 := n2_
         have HB := n3_
         clear n0_ n1_ n2_ n3_
         refine start_ (n := 26) (S := fun w' => True) (ds := []) #[false, false, false, false, false, false, false, false, false, false, false, false, false, false, false, false, false, false, false, false, false, false, false, false, false, false] (by kernel_rfl) rfl rfl trivial (fun hHeld => ?_); refine with_tabW tiklaw23_DeckRates.tab8 tiklaw23_DeckRates.bits8 (fun HT_ HW_ => ?_)
         generalize wc.drew = w49 at BK804 BK808 HI800 HB hHeld ⊢
         refine pure_ (i := 0) (N := some 69) (v := ?_) (a' := ?_) #[true, false, false, false, false, false, false, false, false, false, false, false, false, false, false, false, false, false, false, false, false, false, false, false, false, false] rfl rfl (any_of HT_.out (by kernel_rfl)) (fun _ _ _ h => h) (Or.inl ⟨by rfl, ?_⟩) ?_ ?_
         rotate_left
         ·intro w'
          go_simp
          with_reducible rfl
         rotate_left
         ·simp only [Act.put, List.setIfInBounds_toArray, List.set_cons_zero, List.set_cons_succ, i64_w, i32_w]
          rfl
         refine pure_ (i := 1) (N := some 70) (v := ?_) (a' := ?_) #[true, true, false, false, false, false, false, false, false, false, false, false, false, false, false, false, false, false, false, false, false, false, false, false, false, false] rfl rfl (any_of HT_.out (by kernel_rfl)) (fun _ _ _ h => h) (Or.inl ⟨by rfl, ?_⟩) ?_ ?_
         rotate_left
         ·intro w'
          go_simp
          with_reducible rfl
         rotate_left
         ·simp only [Act.put, List.setIfInBounds_toArray, List.set_cons_zero, List.set_cons_succ, i64_w, i32_w]
          rfl
         refine pure_ (i := 2) (N := some 71) (v := ?_) (a' := ?_) #[true, true, true, false, false, false, false, false, false, false, false, false, false, false, false, false, false, false, false, false, false, false, false, false, false, false] rfl rfl (any_of HT_.out (by kernel_rfl)) (fun _ _ _ h => h) (Or.inl ⟨by rfl, ?_⟩) ?_ ?_
         rotate_left
         ·intro w'
          go_simp
          with_reducible rfl
         rotate_left
         ·simp only [Act.put, List.setIfInBounds_toArray, List.set_cons_zero, List.set_cons_succ, i64_w, i32_w]
          rfl
         refine one_ (i := 3) (N := some 72) #[true, true, true, true, false, false, false, false, false, false, false, false, false, false, false, false, false, false, false, false, false, false, false, false, false, false] rfl rfl (one_of HT_.out (by kernel_rfl)) (by decide) (fun K hK => ?_)
         refine goes_ Tryd.func21 (by kernel_rfl) rfl #[.pointer (some ⟨g800, 0, none⟩), .int .u64 a0, .float .f64 a4] (by rfl) rfl rfl (by (try simp only [List.map_toArray, List.map_cons, List.map_nil]); first | done | rfl | (simp only [List.length_drop, List.length_take]; rfl)) ?_
         with_reducible refine (deck_Deck_Speed.calls kj11 g800 t790 t791 t792 t793 t794 t795 t796 t797 t798 t799 a0 a4 t810 t811 t812 t813 t814 t815 t816 t817 t818 t819 t820 w _ ?side1 ?side2 ?side3 A33.out).mono ?_
         (case side1 => repeat (first | (with_reducible first | exact HI800.out | apply IsS100.alloc | apply IsS100.drewN | apply IsS100.drew | refine IsS100.far ?_ NB800_804.out _ ?_ | exact typ_of BK804 (by decide) (by decide) | refine IsS100.far ?_ NB800_808.out _ ?_ | exact typ_of BK808 (by decide) (by decide) | refine typ_set ?_ _ _ _ | refine typ_alloc ?_ _ | refine typ_drewN ?_ _ | refine typ_drew ?_) | exact HI800.out))
         (case side2 => repeat (first | (with_reducible first | exact HB.out | apply below_alloc | apply pw_below_drewN | apply below_drew1 | refine below_set ?_ (IsS100.ge HI800.out) | refine below_set ?_ GE804.out | refine below_set ?_ GE808.out) | exact HB.out))
         (case side3 => first | (with_reducible exact HT.out) | exact tabAt HT.out (by repeat (first | (with_reducible first | exact HB.out | apply below_alloc | apply pw_below_drewN | apply below_drew1 | refine below_set ?_ (IsS100.ge HI800.out) | refine below_set ?_ GE804.out | refine below_set ?_ GE808.out) | exact HB.out)))
         rintro e w50 ⟨rfl, hi, hb, hk⟩
         refine ⟨_, rfl, ?_⟩
         have n0_ := Aside0.mk (KeepBut.blk hk (g' := gb804) (o := .cells #[.int .u64 t801, .int .u64 t802] 30 (0, 0)) (by (with_reducible repeat (first | refine blk_drewN ?_ _ | refine blk_drew ?_ | refine blk_alloc ?_ _)); exact BK804.out) NB804_800.out (by simp))
         have n1_ := Aside0.mk (KeepBut.blk hk (g' := gb808) (o := .cells #[.int .u64 t805, .int .u64 t806] 30 (0, 0)) (by (with_reducible repeat (first | refine blk_drewN ?_ _ | refine blk_drew ?_ | refine blk_alloc ?_ _)); exact BK808.out) NB808_800.out (by simp))
         have n2_ := Aside0.mk (hb)
         have n3_ := Aside0.mk (hi)
         clear BK804
         clear BK808
         clear HB
         clear HI800
         have BK804 := n0_
         have BK808 := n1_
         have HB := n2_
         have HI800 := n3_
         clear n0_ n1_ n2_ n3_
         (try clear hb)
         (try clear hb2)
         (try clear hk)
         (try clear hi)
         refine hK.out _ _ trivial (fun hHeld => ?_)
         clear hK K
         refine norm_ (a' := ?_) ?_ ?_
         rotate_left
         ·show Act.put _ (some 72) _ = _
          simp only [Act.put, List.setIfInBounds_toArray, List.set_cons_zero, List.set_cons_succ, i64_w, i32_w]
          rfl
         refine pure_ (i := 4) (N := some 73) (v := ?_) (a' := ?_) #[true, true, true, true, true, false, false, false, false, false, false, false, false, false, false, false, false, false, false, false, false, false, false, false, false, false] rfl rfl (any_of HT_.out (by kernel_rfl)) (fun _ _ _ h => h) (Or.inl ⟨by rfl, ?_⟩) ?_ ?_
         rotate_left
         ·intro w'
          go_simp
          with_reducible rfl
         rotate_left
         ·simp only [Act.put, List.setIfInBounds_toArray, List.set_cons_zero, List.set_cons_succ, i64_w, i32_w]
          rfl
         refine pure_ (i := 5) (N := some 74) (v := ?_) (a' := ?_) #[true, true, true, true, true, true, false, false, false, false, false, false, false, false, false, false, false, false, false, false, false, false, false, false, false, false] rfl rfl (any_of HT_.out (by kernel_rfl)) (fun _ _ _ h => h) (Or.inl ⟨by rfl, ?_⟩) ?_ ?_
         rotate_left
         ·intro w'
          go_simp
          with_reducible rfl
         rotate_left
         ·simp only [Act.put, List.setIfInBounds_toArray, List.set_cons_zero, List.set_cons_succ, i64_w, i32_w]
          rfl
         refine pure_ (i := 6) (N := some 75) (v := ?_) (a' := ?_) #[true, true, true, true, true, true, true, false, false, false, false, false, false, false, false, false, false, false, false, false, false, false, false, false, false, false] rfl rfl (any_of HT_.out (by kernel_rfl)) (fun _ _ _ h => h) (Or.inl ⟨by rfl, ?_⟩) ?_ ?_
         rotate_left
         ·intro w'
          go_simp
          with_reducible rfl
         rotate_left
         ·simp only [Act.put, List.setIfInBounds_toArray, List.set_cons_zero, List.set_cons_succ, i64_w, i32_w]
          rfl
         refine pure_ (i := 7) (N := some 76) (v := ?_) (a' := ?_) #[true, true, true, true, true, true, true, true, false, false, false, false, false, false, false, false, false, false, false, false, false, false, false, false, false, false] rfl rfl (any_of HT_.out (by kernel_rfl)) (fun _ _ _ h => h) (Or.inl ⟨by rfl, ?_⟩) ?_ ?_
         rotate_left
         ·intro w'
          go_simp
          with_reducible rfl
         rotate_left
         ·simp only [Act.put, List.setIfInBounds_toArray, List.set_cons_zero, List.set_cons_succ, i64_w, i32_w]
          rfl
         refine pure_ (i := 8) (N := some 77) (v := ?_) (a' := ?_) #[true, true, true, true, true, true, true, true, true, false, false, false, false, false, false, false, false, false, false, false, false, false, false, false, false, false] rfl rfl (any_of HT_.out (by kernel_rfl)) (fun _ _ _ h => h) (Or.inl ⟨by rfl, ?_⟩) ?_ ?_
         rotate_left
         ·intro w'
          go_simp
          with_reducible rfl
         rotate_left
         ·simp only [Act.put, List.setIfInBounds_toArray, List.set_cons_zero, List.set_cons_succ, i64_w, i32_w]
          rfl
         refine pure_ (i := 9) (N := some 78) (v := ?_) (a' := ?_) #[true, true, true, true, true, true, true, true, true, true, false, false, false, false, false, false, false, false, false, false, false, false, false, false, false, false] rfl rfl (any_of HT_.out (by kernel_rfl)) (fun _ _ _ h => h) (Or.inl ⟨by rfl, ?_⟩) ?_ ?_
         rotate_left
         ·intro w'
          go_simp
          with_reducible rfl
         rotate_left
         ·simp only [Act.put, List.setIfInBounds_toArray, List.set_cons_zero, List.set_cons_succ, i64_w, i32_w]
          rfl
         refine one_ (i := 10) (N := some 79) #[true, true, true, true, true, true, true, true, true, true, true, false, false, false, false, false, false, false, false, false, false, false, false, false, false, false] rfl rfl (one_of HT_.out (by kernel_rfl)) (by decide) (fun K hK => ?_)
         refine goes_ Tryd.func23 (by kernel_rfl) rfl #[.pointer (some ⟨g800, 0, none⟩), .int .u64 a0, .int .u64 0, .int .u64 a1, .int .u64 a2] (by rfl) rfl rfl (by (try simp only [List.map_toArray, List.map_cons, List.map_nil]); first | done | rfl | (simp only [List.length_drop, List.length_take]; rfl)) ?_
         with_reducible refine (deck_Deck_Seek.calls g800 t811 t812 t813 t814 t815 t816 t817 t818 t819 t820 a0 0 a1 a2 t821 t822 t823 t824 t825 t826 t827 t828 t829 t830 t831 w _ ?side1 ?side2 A35.out).mono ?_
         (case side1 => repeat (first | (with_reducible first | exact HI800.out | apply IsS100.alloc | apply IsS100.drewN | apply IsS100.drew | refine IsS100.far ?_ NB800_804.out _ ?_ | exact typ_of BK804 (by decide) (by decide) | refine IsS100.far ?_ NB800_808.out _ ?_ | exact typ_of BK808 (by decide) (by decide) | refine typ_set ?_ _ _ _ | refine typ_alloc ?_ _ | refine typ_drewN ?_ _ | refine typ_drew ?_) | exact HI800.out))
         (case side2 => repeat (first | (with_reducible first | exact HB.out | apply below_alloc | apply pw_below_drewN | apply below_drew1 | refine below_set ?_ (IsS100.ge HI800.out) | refine below_set ?_ GE804.out | refine below_set ?_ GE808.out) | exact HB.out))
         rintro e w51 ⟨rfl, hi, hb, hk⟩
         refine ⟨_, rfl, ?_⟩
         have n0_ := Aside0.mk (KeepBut.blk hk (g' := gb804) (o := .cells #[.int .u64 t801, .int .u64 t802] 30 (0, 0)) (by (with_reducible repeat (first | refine blk_drewN ?_ _ | refine blk_drew ?_ | refine blk_alloc ?_ _)); exact BK804.out) NB804_800.out (by simp))
         have n1_ := Aside0.mk (KeepBut.blk hk (g' := gb808) (o := .cells #[.int .u64 t805, .int .u64 t806] 30 (0, 0)) (by (with_reducible repeat (first | refine blk_drewN ?_ _ | refine blk_drew ?_ | refine blk_alloc ?_ _)); exact BK808.out) NB808_800.out (by simp))
         have n2_ := Aside0.mk (hb)
         have n3_ := Aside0.mk (hi)
         clear BK804
         clear BK808
         clear HB
         clear HI800
         have BK804 := n0_
         have BK808 := n1_
         have HB := n2_
         have HI800 := n3_
         clear n0_ n1_ n2_ n3_
         (try clear hb)
         (try clear hb2)
         (try clear hk)
         (try clear hi)
         refine hK.out _ _ trivial (fun hHeld => ?_)
         clear hK K
         refine norm_ (a' := ?_) ?_ ?_
         rotate_left
         ·show Act.put _ (some 79) _ = _
          simp only [Act.put, List.setIfInBounds_toArray, List.set_cons_zero, List.set_cons_succ, i64_w, i32_w]
          rfl
         refine pure_ (i := 11) (N := some 80) (v := ?_) (a' := ?_) #[true, true, true, true, true, true, true, true, true, true, true, true, false, false, false, false, false, false, false, false, false, false, false, false, false, false] rfl rfl (any_of HT_.out (by kernel_rfl)) (fun _ _ _ h => h) (Or.inl ⟨by rfl, ?_⟩) ?_ ?_
         rotate_left
         ·intro w'
          go_simp
          with_reducible rfl
         rotate_left
         ·simp only [Act.put, List.setIfInBounds_toArray, List.set_cons_zero, List.set_cons_succ, i64_w, i32_w]
          rfl
         refine pure_ (i := 12) (N := some 81) (v := ?_) (a' := ?_) #[true, true, true, true, true, true, true, true, true, true, true, true, true, false, false, false, false, false, false, false, false, false, false, false, false, false] rfl rfl (any_of HT_.out (by kernel_rfl)) (fun _ _ _ h => h) (Or.inl ⟨by rfl, ?_⟩) ?_ ?_
         rotate_left
         ·intro w'
          go_simp
          with_reducible rfl
         rotate_left
         ·simp only [Act.put, List.setIfInBounds_toArray, List.set_cons_zero, List.set_cons_succ, i64_w, i32_w]
          rfl
         refine pure_ (i := 13) (N := some 82) (v := ?_) (a' := ?_) #[true, true, true, true, true, true, true, true, true, true, true, true, true, true, false, false, false, false, false, false, false, false, false, false, false, false] rfl rfl (any_of HT_.out (by kernel_rfl)) (fun _ _ _ h => h) (Or.inl ⟨by rfl, ?_⟩) ?_ ?_
         rotate_left
         ·intro w'
          go_simp
          with_reducible rfl
         rotate_left
         ·simp only [Act.put, List.setIfInBounds_toArray, List.set_cons_zero, List.set_cons_succ, i64_w, i32_w]
          rfl
         refine pure_ (i := 14) (N := some 83) (v := undef) (a' := ?_) #[true, true, true, true, true, true, true, true, true, true, true, true, true, true, true, false, false, false, false, false, false, false, false, false, false, false] rfl rfl (any_of HT_.out (by kernel_rfl)) (fun _ _ _ h => h) (Or.inr ⟨by rfl, rfl⟩) ?_ ?_
         rotate_left
         ·simp only [Act.put, List.setIfInBounds_toArray, List.set_cons_zero, List.set_cons_succ, i64_w, i32_w]
          rfl
         refine pure_ (i := 15) (N := some 84) (v := undef) (a' := ?_) #[true, true, true, true, true, true, true, true, true, true, true, true, true, true, true, true, false, false, false, false, false, false, false, false, false, false] rfl rfl (any_of HT_.out (by kernel_rfl)) (fun _ _ _ h => h) (Or.inr ⟨by rfl, rfl⟩) ?_ ?_
         rotate_left
         ·simp only [Act.put, List.setIfInBounds_toArray, List.set_cons_zero, List.set_cons_succ, i64_w, i32_w]
          rfl
         refine pure_ (i := 16) (N := some 85) (v := undef) (a' := ?_) #[true, true, true, true, true, true, true, true, true, true, true, true, true, true, true, true, true, false, false, false, false, false, false, false, false, false] rfl rfl (any_of HT_.out (by kernel_rfl)) (fun _ _ _ h => h) (Or.inr ⟨by rfl, rfl⟩) ?_ ?_
         rotate_left
         ·simp only [Act.put, List.setIfInBounds_toArray, List.set_cons_zero, List.set_cons_succ, i64_w, i32_w]
          rfl
         refine pure_ (i := 17) (N := some 86) (v := undef) (a' := ?_) #[true, true, true, true, true, true, true, true, true, true, true, true, true, true, true, true, true, true, false, false, false, false, false, false, false, false] rfl rfl (any_of HT_.out (by kernel_rfl)) (fun _ _ _ h => h) (Or.inr ⟨by rfl, rfl⟩) ?_ ?_
         rotate_left
         ·simp only [Act.put, List.setIfInBounds_toArray, List.set_cons_zero, List.set_cons_succ, i64_w, i32_w]
          rfl
         refine pure_ (i := 18) (N := some 87) (v := undef) (a' := ?_) #[true, true, true, true, true, true, true, true, true, true, true, true, true, true, true, true, true, true, true, false, false, false, false, false, false, false] rfl rfl (any_of HT_.out (by kernel_rfl)) (fun _ _ _ h => h) (Or.inr ⟨by rfl, rfl⟩) ?_ ?_
         rotate_left
         ·simp only [Act.put, List.setIfInBounds_toArray, List.set_cons_zero, List.set_cons_succ, i64_w, i32_w]
          rfl
         refine pure_ (i := 19) (N := some 88) (v := ?_) (a' := ?_) #[true, true, true, true, true, true, true, true, true, true, true, true, true, true, true, true, true, true, true, true, false, false, false, false, false, false] rfl rfl (any_of HT_.out (by kernel_rfl)) (fun _ _ _ h => h) (Or.inl ⟨by rfl, ?_⟩) ?_ ?_
         rotate_left
         ·intro w'
          go_simp
          with_reducible rfl
         rotate_left
         ·simp only [Act.put, List.setIfInBounds_toArray, List.set_cons_zero, List.set_cons_succ, i64_w, i32_w]
          rfl
         refine pure_ (i := 20) (N := some 89) (v := ?_) (a' := ?_) #[true, true, true, true, true, true, true, true, true, true, true, true, true, true, true, true, true, true, true, true, true, false, false, false, false, false] rfl rfl (any_of HT_.out (by kernel_rfl)) (fun _ _ _ h => h) (Or.inl ⟨by rfl, ?_⟩) ?_ ?_
         rotate_left
         ·intro w'
          go_simp
          with_reducible rfl
         rotate_left
         ·simp only [Act.put, List.setIfInBounds_toArray, List.set_cons_zero, List.set_cons_succ, i64_w, i32_w]
          rfl
         refine pure_ (i := 21) (N := some 90) (v := undef) (a' := ?_) #[true, true, true, true, true, true, true, true, true, true, true, true, true, true, true, true, true, true, true, true, true, true, false, false, false, false] rfl rfl (any_of HT_.out (by kernel_rfl)) (fun _ _ _ h => h) (Or.inr ⟨by rfl, rfl⟩) ?_ ?_
         rotate_left
         ·simp only [Act.put, List.setIfInBounds_toArray, List.set_cons_zero, List.set_cons_succ, i64_w, i32_w]
          rfl
         refine pure_ (i := 22) (N := some 91) (v := undef) (a' := ?_) #[true, true, true, true, true, true, true, true, true, true, true, true, true, true, true, true, true, true, true, true, true, true, true, false, false, false] rfl rfl (any_of HT_.out (by kernel_rfl)) (fun _ _ _ h => h) (Or.inr ⟨by rfl, rfl⟩) ?_ ?_
         rotate_left
         ·simp only [Act.put, List.setIfInBounds_toArray, List.set_cons_zero, List.set_cons_succ, i64_w, i32_w]
          rfl
         refine pure_ (i := 23) (N := some 92) (v := undef) (a' := ?_) #[true, true, true, true, true, true, true, true, true, true, true, true, true, true, true, true, true, true, true, true, true, true, true, true, false, false] rfl rfl (any_of HT_.out (by kernel_rfl)) (fun _ _ _ h => h) (Or.inr ⟨by rfl, rfl⟩) ?_ ?_
         rotate_left
         ·simp only [Act.put, List.setIfInBounds_toArray, List.set_cons_zero, List.set_cons_succ, i64_w, i32_w]
          rfl
         refine pure_ (i := 24) (N := some 93) (v := undef) (a' := ?_) #[true, true, true, true, true, true, true, true, true, true, true, true, true, true, true, true, true, true, true, true, true, true, true, true, true, false] rfl rfl (any_of HT_.out (by kernel_rfl)) (fun _ _ _ h => h) (Or.inr ⟨by rfl, rfl⟩) ?_ ?_
         rotate_left
         ·simp only [Act.put, List.setIfInBounds_toArray, List.set_cons_zero, List.set_cons_succ, i64_w, i32_w]
          rfl
         refine pure_ (i := 25) (N := some 94) (v := ?_) (a' := ?_) #[true, true, true, true, true, true, true, true, true, true, true, true, true, true, true, true, true, true, true, true, true, true, true, true, true, true] rfl rfl (any_of HT_.out (by kernel_rfl)) (fun _ _ _ h => h) (Or.inl ⟨by rfl, ?_⟩) ?_ ?_
         rotate_left
         ·intro w'
          go_simp
          with_reducible rfl
         rotate_left
         ·simp only [Act.put, List.setIfInBounds_toArray, List.set_cons_zero, List.set_cons_succ, i64_w, i32_w]
          rfl
         refine done_ (done_of HT_.out (by kernel_rfl)) ?_
         try go_wp2
         go_meet
         case rel => exact ⟨_, (true), (t822), (t823), (t824), (t825), (t826), (t827), (t828), (t829), (t830), (t831), (by first | rfl | (simp; done) | (simp [*]; done)), H', ⟨by have := HJ11.out; first | omega | exact Nat.le_refl _⟩, ⟨by (with_reducible repeat (first | refine blk_drewN ?_ _ | refine blk_drew ?_ | refine blk_alloc ?_ _)); exact BK804.out⟩, ⟨by (with_reducible repeat (first | refine blk_drewN ?_ _ | refine blk_drew ?_ | refine blk_alloc ?_ _)); exact BK808.out⟩, ⟨by repeat (first | (with_reducible first | exact HI800.out | apply IsS100.alloc | apply IsS100.drewN | apply IsS100.drew | refine IsS100.far ?_ NB800_804.out _ ?_ | exact typ_of BK804 (by decide) (by decide) | refine IsS100.far ?_ NB800_808.out _ ?_ | exact typ_of BK808 (by decide) (by decide) | refine typ_set ?_ _ _ _ | refine typ_alloc ?_ _ | refine typ_drewN ?_ _ | refine typ_drew ?_) | exact HI800.out)⟩, ⟨by repeat (first | (with_reducible first | exact HB.out | apply below_alloc | apply pw_below_drewN | apply below_drew1 | refine below_set ?_ (IsS100.ge HI800.out) | refine below_set ?_ GE804.out | refine below_set ?_ GE808.out) | exact HB.out)⟩⟩
       ·rw [if_neg c34] at H
        have c34b0 : (t810 == 0) = false := beq_eq_false_iff_ne.mpr c34
        have c34b1 : (t810 != 0) = true := bne_iff_ne.mpr c34
        (first | rw [c34b0] | (simp only [i64_w, i32_w]; rw [c34b0]) | skip)
        have H' := Aside0.mk H
        clear H
        try go_wp2
        have n0_ := Aside0.mk (blk_drew BK804.out)
        have n1_ := Aside0.mk (blk_drew BK808.out)
        have n2_ := Aside0.mk (IsS100.drew HI800.out)
        have n3_ := Aside0.mk (below_drew1 HB.out)
        clear BK804
        clear BK808
        clear HI800
        clear HB
        have BK804 := n0_
        have BK808 := n1_
        have HI800 := n2_
        have HB := n3_
        clear n0_ n1_ n2_ n3_
        refine start_ (n := 26) (S := fun w' => True) (ds := []) #[false, false, false, false, false, false, false, false, false, false, false, false, false, false, false, false, false, false, false, false, false, false, false, false, false, false] (by kernel_rfl) rfl rfl trivial (fun hHeld => ?_); refine with_tabW tiklaw23_DeckRates.tab8 tiklaw23_DeckRates.bits8 (fun HT_ HW_ => ?_)
        generalize wc.drew = w52 at BK804 BK808 HI800 HB hHeld ⊢
        refine pure_ (i := 0) (N := some 69) (v := ?_) (a' := ?_) #[true, false, false, false, false, false, false, false, false, false, false, false, false, false, false, false, false, false, false, false, false, false, false, false, false, false] rfl rfl (any_of HT_.out (by kernel_rfl)) (fun _ _ _ h => h) (Or.inl ⟨by rfl, ?_⟩) ?_ ?_
        rotate_left
        ·intro w'
         go_simp
         with_reducible rfl
        rotate_left
        ·simp only [Act.put, List.setIfInBounds_toArray, List.set_cons_zero, List.set_cons_succ, i64_w, i32_w]
         rfl
        refine pure_ (i := 1) (N := some 70) (v := ?_) (a' := ?_) #[true, true, false, false, false, false, false, false, false, false, false, false, false, false, false, false, false, false, false, false, false, false, false, false, false, false] rfl rfl (any_of HT_.out (by kernel_rfl)) (fun _ _ _ h => h) (Or.inl ⟨by rfl, ?_⟩) ?_ ?_
        rotate_left
        ·intro w'
         go_simp
         with_reducible rfl
        rotate_left
        ·simp only [Act.put, List.setIfInBounds_toArray, List.set_cons_zero, List.set_cons_succ, i64_w, i32_w]
         rfl
        refine pure_ (i := 2) (N := some 71) (v := ?_) (a' := ?_) #[true, true, true, false, false, false, false, false, false, false, false, false, false, false, false, false, false, false, false, false, false, false, false, false, false, false] rfl rfl (any_of HT_.out (by kernel_rfl)) (fun _ _ _ h => h) (Or.inl ⟨by rfl, ?_⟩) ?_ ?_
        rotate_left
        ·intro w'
         go_simp
         with_reducible rfl
        rotate_left
        ·simp only [Act.put, List.setIfInBounds_toArray, List.set_cons_zero, List.set_cons_succ, i64_w, i32_w]
         rfl
        refine one_ (i := 3) (N := some 72) #[true, true, true, true, false, false, false, false, false, false, false, false, false, false, false, false, false, false, false, false, false, false, false, false, false, false] rfl rfl (one_of HT_.out (by kernel_rfl)) (by decide) (fun K hK => ?_)
        refine goes_ Tryd.func21 (by kernel_rfl) rfl #[.pointer (some ⟨g800, 0, none⟩), .int .u64 a0, .float .f64 a4] (by rfl) rfl rfl (by (try simp only [List.map_toArray, List.map_cons, List.map_nil]); first | done | rfl | (simp only [List.length_drop, List.length_take]; rfl)) ?_
        with_reducible refine (deck_Deck_Speed.calls kj11 g800 t790 t791 t792 t793 t794 t795 t796 t797 t798 t799 a0 a4 t810 t811 t812 t813 t814 t815 t816 t817 t818 t819 t820 w _ ?side1 ?side2 ?side3 A33.out).mono ?_
        (case side1 => repeat (first | (with_reducible first | exact HI800.out | apply IsS100.alloc | apply IsS100.drewN | apply IsS100.drew | refine IsS100.far ?_ NB800_804.out _ ?_ | exact typ_of BK804 (by decide) (by decide) | refine IsS100.far ?_ NB800_808.out _ ?_ | exact typ_of BK808 (by decide) (by decide) | refine typ_set ?_ _ _ _ | refine typ_alloc ?_ _ | refine typ_drewN ?_ _ | refine typ_drew ?_) | exact HI800.out))
        (case side2 => repeat (first | (with_reducible first | exact HB.out | apply below_alloc | apply pw_below_drewN | apply below_drew1 | refine below_set ?_ (IsS100.ge HI800.out) | refine below_set ?_ GE804.out | refine below_set ?_ GE808.out) | exact HB.out))
        (case side3 => first | (with_reducible exact HT.out) | exact tabAt HT.out (by repeat (first | (with_reducible first | exact HB.out | apply below_alloc | apply pw_below_drewN | apply below_drew1 | refine below_set ?_ (IsS100.ge HI800.out) | refine below_set ?_ GE804.out | refine below_set ?_ GE808.out) | exact HB.out)))
        rintro e w53 ⟨rfl, hi, hb, hk⟩
        refine ⟨_, rfl, ?_⟩
        have n0_ := Aside0.mk (KeepBut.blk hk (g' := gb804) (o := .cells #[.int .u64 t801, .int .u64 t802] 30 (0, 0)) (by (with_reducible repeat (first | refine blk_drewN ?_ _ | refine blk_drew ?_ | refine blk_alloc ?_ _)); exact BK804.out) NB804_800.out (by simp))
        have n1_ := Aside0.mk (KeepBut.blk hk (g' := gb808) (o := .cells #[.int .u64 t805, .int .u64 t806] 30 (0, 0)) (by (with_reducible repeat (first | refine blk_drewN ?_ _ | refine blk_drew ?_ | refine blk_alloc ?_ _)); exact BK808.out) NB808_800.out (by simp))
        have n2_ := Aside0.mk (hb)
        have n3_ := Aside0.mk (hi)
        clear BK804
        clear BK808
        clear HB
        clear HI800
        have BK804 := n0_
        have BK808 := n1_
        have HB := n2_
        have HI800 := n3_
        clear n0_ n1_ n2_ n3_
        (try clear hb)
        (try clear hb2)
        (try clear hk)
        (try clear hi)
        refine hK.out _ _ trivial (fun hHeld => ?_)
        clear hK K
        refine norm_ (a' := ?_) ?_ ?_
        rotate_left
        ·show Act.put _ (some 72) _ = _
         simp only [Act.put, List.setIfInBounds_toArray, List.set_cons_zero, List.set_cons_succ, i64_w, i32_w]
         rfl
        refine pure_ (i := 4) (N := some 73) (v := ?_) (a' := ?_) #[true, true, true, true, true, false, false, false, false, false, false, false, false, false, false, false, false, false, false, false, false, false, false, false, false, false] rfl rfl (any_of HT_.out (by kernel_rfl)) (fun _ _ _ h => h) (Or.inl ⟨by rfl, ?_⟩) ?_ ?_
        rotate_left
        ·intro w'
         go_simp
         with_reducible rfl
        rotate_left
        ·simp only [Act.put, List.setIfInBounds_toArray, List.set_cons_zero, List.set_cons_succ, i64_w, i32_w]
         rfl
        refine pure_ (i := 5) (N := some 74) (v := ?_) (a' := ?_) #[true, true, true, true, true, true, false, false, false, false, false, false, false, false, false, false, false, false, false, false, false, false, false, false, false, false] rfl rfl (any_of HT_.out (by kernel_rfl)) (fun _ _ _ h => h) (Or.inl ⟨by rfl, ?_⟩) ?_ ?_
        rotate_left
        ·intro w'
         go_simp
         with_reducible rfl
        rotate_left
        ·simp only [Act.put, List.setIfInBounds_toArray, List.set_cons_zero, List.set_cons_succ, i64_w, i32_w]
         rfl
        refine pure_ (i := 6) (N := some 75) (v := undef) (a' := ?_) #[true, true, true, true, true, true, true, false, false, false, false, false, false, false, false, false, false, false, false, false, false, false, false, false, false, false] rfl rfl (any_of HT_.out (by kernel_rfl)) (fun _ _ _ h => h) (Or.inr ⟨by rfl, rfl⟩) ?_ ?_
        rotate_left
        ·simp only [Act.put, List.setIfInBounds_toArray, List.set_cons_zero, List.set_cons_succ, i64_w, i32_w]
         rfl
        refine pure_ (i := 7) (N := some 76) (v := undef) (a' := ?_) #[true, true, true, true, true, true, true, true, false, false, false, false, false, false, false, false, false, false, false, false, false, false, false, false, false, false] rfl rfl (any_of HT_.out (by kernel_rfl)) (fun _ _ _ h => h) (Or.inr ⟨by rfl, rfl⟩) ?_ ?_
        rotate_left
        ·simp only [Act.put, List.setIfInBounds_toArray, List.set_cons_zero, List.set_cons_succ, i64_w, i32_w]
         rfl
        refine pure_ (i := 8) (N := some 77) (v := undef) (a' := ?_) #[true, true, true, true, true, true, true, true, true, false, false, false, false, false, false, false, false, false, false, false, false, false, false, false, false, false] rfl rfl (any_of HT_.out (by kernel_rfl)) (fun _ _ _ h => h) (Or.inr ⟨by rfl, rfl⟩) ?_ ?_
        rotate_left
        ·simp only [Act.put, List.setIfInBounds_toArray, List.set_cons_zero, List.set_cons_succ, i64_w, i32_w]
         rfl
        refine pure_ (i := 9) (N := some 78) (v := undef) (a' := ?_) #[true, true, true, true, true, true, true, true, true, true, false, false, false, false, false, false, false, false, false, false, false, false, false, false, false, false] rfl rfl (any_of HT_.out (by kernel_rfl)) (fun _ _ _ h => h) (Or.inr ⟨by rfl, rfl⟩) ?_ ?_
        rotate_left
        ·simp only [Act.put, List.setIfInBounds_toArray, List.set_cons_zero, List.set_cons_succ, i64_w, i32_w]
         rfl
        refine pure_ (i := 10) (N := some 79) (v := undef) (a' := ?_) #[true, true, true, true, true, true, true, true, true, true, true, false, false, false, false, false, false, false, false, false, false, false, false, false, false, false] rfl rfl (any_of HT_.out (by kernel_rfl)) (fun _ _ _ h => h) (Or.inr ⟨by rfl, rfl⟩) ?_ ?_
        rotate_left
        ·simp only [Act.put, List.setIfInBounds_toArray, List.set_cons_zero, List.set_cons_succ, i64_w, i32_w]
         rfl
        refine pure_ (i := 11) (N := some 80) (v := undef) (a' := ?_) #[true, true, true, true, true, true, true, true, true, true, true, true, false, false, false, false, false, false, false, false, false, false, false, false, false, false] rfl rfl (any_of HT_.out (by kernel_rfl)) (fun _ _ _ h => h) (Or.inr ⟨by rfl, rfl⟩) ?_ ?_
        rotate_left
        ·simp only [Act.put, List.setIfInBounds_toArray, List.set_cons_zero, List.set_cons_succ, i64_w, i32_w]
         rfl
        refine pure_ (i := 12) (N := some 81) (v := ?_) (a' := ?_) #[true, true, true, true, true, true, true, true, true, true, true, true, true, false, false, false, false, false, false, false, false, false, false, false, false, false] rfl rfl (any_of HT_.out (by kernel_rfl)) (fun _ _ _ h => h) (Or.inl ⟨by rfl, ?_⟩) ?_ ?_
        rotate_left
        ·intro w'
         go_simp
         with_reducible rfl
        rotate_left
        ·simp only [Act.put, List.setIfInBounds_toArray, List.set_cons_zero, List.set_cons_succ, i64_w, i32_w]
         rfl
        refine pure_ (i := 13) (N := some 82) (v := ?_) (a' := ?_) #[true, true, true, true, true, true, true, true, true, true, true, true, true, true, false, false, false, false, false, false, false, false, false, false, false, false] rfl rfl (any_of HT_.out (by kernel_rfl)) (fun _ _ _ h => h) (Or.inl ⟨by rfl, ?_⟩) ?_ ?_
        rotate_left
        ·intro w'
         go_simp
         with_reducible rfl
        rotate_left
        ·simp only [Act.put, List.setIfInBounds_toArray, List.set_cons_zero, List.set_cons_succ, i64_w, i32_w]
         rfl
        refine pure_ (i := 14) (N := some 83) (v := undef) (a' := ?_) #[true, true, true, true, true, true, true, true, true, true, true, true, true, true, true, false, false, false, false, false, false, false, false, false, false, false] rfl rfl (any_of HT_.out (by kernel_rfl)) (fun _ _ _ h => h) (Or.inr ⟨by rfl, rfl⟩) ?_ ?_
        rotate_left
        ·simp only [Act.put, List.setIfInBounds_toArray, List.set_cons_zero, List.set_cons_succ, i64_w, i32_w]
         rfl
        refine pure_ (i := 15) (N := some 84) (v := undef) (a' := ?_) #[true, true, true, true, true, true, true, true, true, true, true, true, true, true, true, true, false, false, false, false, false, false, false, false, false, false] rfl rfl (any_of HT_.out (by kernel_rfl)) (fun _ _ _ h => h) (Or.inr ⟨by rfl, rfl⟩) ?_ ?_
        rotate_left
        ·simp only [Act.put, List.setIfInBounds_toArray, List.set_cons_zero, List.set_cons_succ, i64_w, i32_w]
         rfl
        refine pure_ (i := 16) (N := some 85) (v := undef) (a' := ?_) #[true, true, true, true, true, true, true, true, true, true, true, true, true, true, true, true, true, false, false, false, false, false, false, false, false, false] rfl rfl (any_of HT_.out (by kernel_rfl)) (fun _ _ _ h => h) (Or.inr ⟨by rfl, rfl⟩) ?_ ?_
        rotate_left
        ·simp only [Act.put, List.setIfInBounds_toArray, List.set_cons_zero, List.set_cons_succ, i64_w, i32_w]
         rfl
        refine pure_ (i := 17) (N := some 86) (v := undef) (a' := ?_) #[true, true, true, true, true, true, true, true, true, true, true, true, true, true, true, true, true, true, false, false, false, false, false, false, false, false] rfl rfl (any_of HT_.out (by kernel_rfl)) (fun _ _ _ h => h) (Or.inr ⟨by rfl, rfl⟩) ?_ ?_
        rotate_left
        ·simp only [Act.put, List.setIfInBounds_toArray, List.set_cons_zero, List.set_cons_succ, i64_w, i32_w]
         rfl
        refine pure_ (i := 18) (N := some 87) (v := undef) (a' := ?_) #[true, true, true, true, true, true, true, true, true, true, true, true, true, true, true, true, true, true, true, false, false, false, false, false, false, false] rfl rfl (any_of HT_.out (by kernel_rfl)) (fun _ _ _ h => h) (Or.inr ⟨by rfl, rfl⟩) ?_ ?_
        rotate_left
        ·simp only [Act.put, List.setIfInBounds_toArray, List.set_cons_zero, List.set_cons_succ, i64_w, i32_w]
         rfl
        refine pure_ (i := 19) (N := some 88) (v := ?_) (a' := ?_) #[true, true, true, true, true, true, true, true, true, true, true, true, true, true, true, true, true, true, true, true, false, false, false, false, false, false] rfl rfl (any_of HT_.out (by kernel_rfl)) (fun _ _ _ h => h) (Or.inl ⟨by rfl, ?_⟩) ?_ ?_
        rotate_left
        ·intro w'
         go_simp
         with_reducible rfl
        rotate_left
        ·simp only [Act.put, List.setIfInBounds_toArray, List.set_cons_zero, List.set_cons_succ, i64_w, i32_w]
         rfl
        refine pure_ (i := 20) (N := some 89) (v := ?_) (a' := ?_) #[true, true, true, true, true, true, true, true, true, true, true, true, true, true, true, true, true, true, true, true, true, false, false, false, false, false] rfl rfl (any_of HT_.out (by kernel_rfl)) (fun _ _ _ h => h) (Or.inl ⟨by rfl, ?_⟩) ?_ ?_
        rotate_left
        ·intro w'
         go_simp
         with_reducible rfl
        rotate_left
        ·simp only [Act.put, List.setIfInBounds_toArray, List.set_cons_zero, List.set_cons_succ, i64_w, i32_w]
         rfl
        refine pure_ (i := 21) (N := some 90) (v := undef) (a' := ?_) #[true, true, true, true, true, true, true, true, true, true, true, true, true, true, true, true, true, true, true, true, true, true, false, false, false, false] rfl rfl (any_of HT_.out (by kernel_rfl)) (fun _ _ _ h => h) (Or.inr ⟨by rfl, rfl⟩) ?_ ?_
        rotate_left
        ·simp only [Act.put, List.setIfInBounds_toArray, List.set_cons_zero, List.set_cons_succ, i64_w, i32_w]
         rfl
        refine pure_ (i := 22) (N := some 91) (v := undef) (a' := ?_) #[true, true, true, true, true, true, true, true, true, true, true, true, true, true, true, true, true, true, true, true, true, true, true, false, false, false] rfl rfl (any_of HT_.out (by kernel_rfl)) (fun _ _ _ h => h) (Or.inr ⟨by rfl, rfl⟩) ?_ ?_
        rotate_left
        ·simp only [Act.put, List.setIfInBounds_toArray, List.set_cons_zero, List.set_cons_succ, i64_w, i32_w]
         rfl
        refine pure_ (i := 23) (N := some 92) (v := undef) (a' := ?_) #[true, true, true, true, true, true, true, true, true, true, true, true, true, true, true, true, true, true, true, true, true, true, true, true, false, false] rfl rfl (any_of HT_.out (by kernel_rfl)) (fun _ _ _ h => h) (Or.inr ⟨by rfl, rfl⟩) ?_ ?_
        rotate_left
        ·simp only [Act.put, List.setIfInBounds_toArray, List.set_cons_zero, List.set_cons_succ, i64_w, i32_w]
         rfl
        refine pure_ (i := 24) (N := some 93) (v := undef) (a' := ?_) #[true, true, true, true, true, true, true, true, true, true, true, true, true, true, true, true, true, true, true, true, true, true, true, true, true, false] rfl rfl (any_of HT_.out (by kernel_rfl)) (fun _ _ _ h => h) (Or.inr ⟨by rfl, rfl⟩) ?_ ?_
        rotate_left
        ·simp only [Act.put, List.setIfInBounds_toArray, List.set_cons_zero, List.set_cons_succ, i64_w, i32_w]
         rfl
        refine pure_ (i := 25) (N := some 94) (v := ?_) (a' := ?_) #[true, true, true, true, true, true, true, true, true, true, true, true, true, true, true, true, true, true, true, true, true, true, true, true, true, true] rfl rfl (any_of HT_.out (by kernel_rfl)) (fun _ _ _ h => h) (Or.inl ⟨by rfl, ?_⟩) ?_ ?_
        rotate_left
        ·intro w'
         go_simp
         with_reducible rfl
        rotate_left
        ·simp only [Act.put, List.setIfInBounds_toArray, List.set_cons_zero, List.set_cons_succ, i64_w, i32_w]
         rfl
        refine done_ (done_of HT_.out (by kernel_rfl)) ?_
        try go_wp2
        go_meet
        case rel => exact ⟨_, (true), (t811), (t812), (t813), (t814), (t815), (t816), (t817), (t818), (t819), (t820), (by first | rfl | (simp; done) | (simp [*]; done)), H', ⟨by have := HJ11.out; first | omega | exact Nat.le_refl _⟩, ⟨by (with_reducible repeat (first | refine blk_drewN ?_ _ | refine blk_drew ?_ | refine blk_alloc ?_ _)); exact BK804.out⟩, ⟨by (with_reducible repeat (first | refine blk_drewN ?_ _ | refine blk_drew ?_ | refine blk_alloc ?_ _)); exact BK808.out⟩, ⟨by repeat (first | (with_reducible first | exact HI800.out | apply IsS100.alloc | apply IsS100.drewN | apply IsS100.drew | refine IsS100.far ?_ NB800_804.out _ ?_ | exact typ_of BK804 (by decide) (by decide) | refine IsS100.far ?_ NB800_808.out _ ?_ | exact typ_of BK808 (by decide) (by decide) | refine typ_set ?_ _ _ _ | refine typ_alloc ?_ _ | refine typ_drewN ?_ _ | refine typ_drew ?_) | exact HI800.out)⟩, ⟨by repeat (first | (with_reducible first | exact HB.out | apply below_alloc | apply pw_below_drewN | apply below_drew1 | refine below_set ?_ (IsS100.ge HI800.out) | refine below_set ?_ GE804.out | refine below_set ?_ GE808.out) | exact HB.out)⟩⟩
      case rest =>
       as_aux_lemma =>
        clear HC32
        try clear c2
        try clear p2
        try clear c3
        try clear c21
        try clear c23
        try clear c24
        try clear c34
        try clear c34b0
        try clear c34b1
        try clear c36
        try clear c36b0
        try clear c36b1
        obtain ⟨kq, x94_31, x801000_31, x801001_31, x801002_31, x801003_31, x801004_31, x801005_31, x801006_31, x801007_31, x801008_31, x801009_31, rfl, HA, HJ31, BK804, BK808, HI800, HB⟩ := hcut
        cases kq with
        | zero => exact absurd HA.out (by simp [tiklaw23_DeckRates.j1])
        | succ kj31 =>
         have H := HA.out
         clear HA
         simp only [tiklaw23_DeckRates.j1] at H
         by_cases c54 : x94_31 = true
         ·subst c54
          have H1 : (some false) = some r := by rw [if_pos rfl] at H; exact H
          clear H
          have H := H1
          clear H1
          exact absurd ((Option.some.inj H).trans hr_.out) (by simp)
         ·replace c54 := Bool.eq_false_iff.mpr c54
          subst c54
          have H1 : ((rate_Scale.f a3 0 t801 t802).bind fun bt855 => ((deck_Deck_Tick.f x801000_31 x801001_31 x801002_31 x801003_31 x801004_31 x801005_31 x801006_31 x801007_31 x801008_31 x801009_31 (IntKind.u64.wrap (a0 + a3)) 0 a1).bind fun bt858 => (if bt855.2.2 = 0 then ((deck_Deck_Pos.f bt858.1 bt858.2.1 bt858.2.2.1 bt858.2.2.2.1 bt858.2.2.2.2.1 bt858.2.2.2.2.2.1 bt858.2.2.2.2.2.2.1 bt858.2.2.2.2.2.2.2.1 bt858.2.2.2.2.2.2.2.2.1 bt858.2.2.2.2.2.2.2.2.2).bind fun bt868 => (if bt868.1 = (mn (IntKind.u64.wrap (a2 + bt855.1)) a1) then ((deck_Deck_Mode.f bt868.2.1 bt868.2.2.1 bt868.2.2.2.1 bt868.2.2.2.2.1 bt868.2.2.2.2.2.1 bt868.2.2.2.2.2.2.1 bt868.2.2.2.2.2.2.2.1 bt868.2.2.2.2.2.2.2.2.1 bt868.2.2.2.2.2.2.2.2.2.1 bt868.2.2.2.2.2.2.2.2.2.2).bind fun bt879 => (tiklaw23_DeckRates.j2 kj31 a0 a1 a2 a3 a5 bt855.1 bt855.2.1 ((bt879.1 == 0) != (decide ((IntKind.u64.wrap (a2 + bt855.1)) ≥ a1))) bt879.2.1 bt879.2.2.1 bt879.2.2.2.1 bt879.2.2.2.2.1 bt879.2.2.2.2.2.1 bt879.2.2.2.2.2.2.1 bt879.2.2.2.2.2.2.2.1 bt879.2.2.2.2.2.2.2.2.1 bt879.2.2.2.2.2.2.2.2.2.1 bt879.2.2.2.2.2.2.2.2.2.2 t801 t802 t805 t806)) else (tiklaw23_DeckRates.j2 kj31 a0 a1 a2 a3 a5 bt855.1 bt855.2.1 true bt868.2.1 bt868.2.2.1 bt868.2.2.2.1 bt868.2.2.2.2.1 bt868.2.2.2.2.2.1 bt868.2.2.2.2.2.2.1 bt868.2.2.2.2.2.2.2.1 bt868.2.2.2.2.2.2.2.2.1 bt868.2.2.2.2.2.2.2.2.2.1 bt868.2.2.2.2.2.2.2.2.2.2 t801 t802 t805 t806))) else (tiklaw23_DeckRates.j2 kj31 a0 a1 a2 a3 a5 bt855.1 bt855.2.1 true bt858.1 bt858.2.1 bt858.2.2.1 bt858.2.2.2.1 bt858.2.2.2.2.1 bt858.2.2.2.2.2.1 bt858.2.2.2.2.2.2.1 bt858.2.2.2.2.2.2.2.1 bt858.2.2.2.2.2.2.2.2.1 bt858.2.2.2.2.2.2.2.2.2 t801 t802 t805 t806)))) = some r := by rw [if_neg (show ¬ (false = true) by decide)] at H; exact H
          clear H
          have H := H1
          clear H1
          replace H := Option.bind_eq_some_iff.mp H
          obtain ⟨⟨t855, t856, t857⟩, A550, H⟩ := H
          replace H : ((deck_Deck_Tick.f x801000_31 x801001_31 x801002_31 x801003_31 x801004_31 x801005_31 x801006_31 x801007_31 x801008_31 x801009_31 (IntKind.u64.wrap (a0 + a3)) 0 a1).bind fun bt858 => (if t857 = 0 then ((deck_Deck_Pos.f bt858.1 bt858.2.1 bt858.2.2.1 bt858.2.2.2.1 bt858.2.2.2.2.1 bt858.2.2.2.2.2.1 bt858.2.2.2.2.2.2.1 bt858.2.2.2.2.2.2.2.1 bt858.2.2.2.2.2.2.2.2.1 bt858.2.2.2.2.2.2.2.2.2).bind fun bt868 => (if bt868.1 = (mn (IntKind.u64.wrap (a2 + t855)) a1) then ((deck_Deck_Mode.f bt868.2.1 bt868.2.2.1 bt868.2.2.2.1 bt868.2.2.2.2.1 bt868.2.2.2.2.2.1 bt868.2.2.2.2.2.2.1 bt868.2.2.2.2.2.2.2.1 bt868.2.2.2.2.2.2.2.2.1 bt868.2.2.2.2.2.2.2.2.2.1 bt868.2.2.2.2.2.2.2.2.2.2).bind fun bt879 => (tiklaw23_DeckRates.j2 kj31 a0 a1 a2 a3 a5 t855 t856 ((bt879.1 == 0) != (decide ((IntKind.u64.wrap (a2 + t855)) ≥ a1))) bt879.2.1 bt879.2.2.1 bt879.2.2.2.1 bt879.2.2.2.2.1 bt879.2.2.2.2.2.1 bt879.2.2.2.2.2.2.1 bt879.2.2.2.2.2.2.2.1 bt879.2.2.2.2.2.2.2.2.1 bt879.2.2.2.2.2.2.2.2.2.1 bt879.2.2.2.2.2.2.2.2.2.2 t801 t802 t805 t806)) else (tiklaw23_DeckRates.j2 kj31 a0 a1 a2 a3 a5 t855 t856 true bt868.2.1 bt868.2.2.1 bt868.2.2.2.1 bt868.2.2.2.2.1 bt868.2.2.2.2.2.1 bt868.2.2.2.2.2.2.1 bt868.2.2.2.2.2.2.2.1 bt868.2.2.2.2.2.2.2.2.1 bt868.2.2.2.2.2.2.2.2.2.1 bt868.2.2.2.2.2.2.2.2.2.2 t801 t802 t805 t806))) else (tiklaw23_DeckRates.j2 kj31 a0 a1 a2 a3 a5 t855 t856 true bt858.1 bt858.2.1 bt858.2.2.1 bt858.2.2.2.1 bt858.2.2.2.2.1 bt858.2.2.2.2.2.1 bt858.2.2.2.2.2.2.1 bt858.2.2.2.2.2.2.2.1 bt858.2.2.2.2.2.2.2.2.1 bt858.2.2.2.2.2.2.2.2.2 t801 t802 t805 t806))) = some r := H
          have A55 := Aside0.mk A550
          clear A550
          replace H := Option.bind_eq_some_iff.mp H
          obtain ⟨⟨t858, t859, t860, t861, t862, t863, t864, t865, t866, t867⟩, A560, H⟩ := H
          replace H : (if t857 = 0 then ((deck_Deck_Pos.f t858 t859 t860 t861 t862 t863 t864 t865 t866 t867).bind fun bt868 => (if bt868.1 = (mn (IntKind.u64.wrap (a2 + t855)) a1) then ((deck_Deck_Mode.f bt868.2.1 bt868.2.2.1 bt868.2.2.2.1 bt868.2.2.2.2.1 bt868.2.2.2.2.2.1 bt868.2.2.2.2.2.2.1 bt868.2.2.2.2.2.2.2.1 bt868.2.2.2.2.2.2.2.2.1 bt868.2.2.2.2.2.2.2.2.2.1 bt868.2.2.2.2.2.2.2.2.2.2).bind fun bt879 => (tiklaw23_DeckRates.j2 kj31 a0 a1 a2 a3 a5 t855 t856 ((bt879.1 == 0) != (decide ((IntKind.u64.wrap (a2 + t855)) ≥ a1))) bt879.2.1 bt879.2.2.1 bt879.2.2.2.1 bt879.2.2.2.2.1 bt879.2.2.2.2.2.1 bt879.2.2.2.2.2.2.1 bt879.2.2.2.2.2.2.2.1 bt879.2.2.2.2.2.2.2.2.1 bt879.2.2.2.2.2.2.2.2.2.1 bt879.2.2.2.2.2.2.2.2.2.2 t801 t802 t805 t806)) else (tiklaw23_DeckRates.j2 kj31 a0 a1 a2 a3 a5 t855 t856 true bt868.2.1 bt868.2.2.1 bt868.2.2.2.1 bt868.2.2.2.2.1 bt868.2.2.2.2.2.1 bt868.2.2.2.2.2.2.1 bt868.2.2.2.2.2.2.2.1 bt868.2.2.2.2.2.2.2.2.1 bt868.2.2.2.2.2.2.2.2.2.1 bt868.2.2.2.2.2.2.2.2.2.2 t801 t802 t805 t806))) else (tiklaw23_DeckRates.j2 kj31 a0 a1 a2 a3 a5 t855 t856 true t858 t859 t860 t861 t862 t863 t864 t865 t866 t867 t801 t802 t805 t806)) = some r := H
          have A56 := Aside0.mk A560
          clear A560
          have HC57 := Aside0.mk H
          clear H
          have hnb58 := NB804_808.out
          have hnc58 := NB808_804.out
          have hnb59 := NB804_800.out
          have hnc59 := NB800_804.out
          have hcz60_0 : wc.cell? ⟨gb804, 0, none⟩ = some (.int .u64 t801) := (blk_cell BK804.out 0).trans rfl
          have hcz60_1 : wc.cell? ⟨gb804, 1, none⟩ = some (.int .u64 t802) := (blk_cell BK804.out 1).trans rfl
          have hfz60_0 := blk_frozen BK804.out 0
          have hfz60_1 := blk_frozen BK804.out 1
          go_upto_region 12 with (first | ((with_reducible refine gate_callee (f := 26) rfl ?_); refine goesL_ (some 98) rfl rfl Tryd.func26 (by kernel_rfl) rfl #[.int .u64 a3, .int .u64 0, .agg #[.int .u64 t801, .int .u64 t802]] rfl (by (try simp only [List.map_toArray, List.map_cons, List.map_nil]); first | done | rfl | (simp only [List.length_drop, List.length_take]; rfl)) ?_; (with_reducible refine (rate_Scale.calls a3 0 t801 t802 t855 t856 t857 _ A55.out).mono ?_); rintro e w61 ⟨rfl, hb⟩; refine ⟨_, rfl, ?_⟩; have n0_ := Aside0.mk (blk_below (g := gb804) (o := .cells #[.int .u64 t801, .int .u64 t802] 30 (0, 0)) (by (with_reducible repeat (first | refine blk_drewN ?_ _ | refine blk_drew ?_ | refine blk_alloc ?_ _)); exact BK804.out) hb); have n1_ := Aside0.mk (blk_below (g := gb808) (o := .cells #[.int .u64 t805, .int .u64 t806] 30 (0, 0)) (by (with_reducible repeat (first | refine blk_drewN ?_ _ | refine blk_drew ?_ | refine blk_alloc ?_ _)); exact BK808.out) hb); have n2_ := Aside0.mk (IsS100.below (by repeat (first | (with_reducible first | exact HI800.out | apply IsS100.alloc | apply IsS100.drewN | apply IsS100.drew | refine IsS100.far ?_ NB800_804.out _ ?_ | exact typ_of BK804 (by decide) (by decide) | refine IsS100.far ?_ NB800_808.out _ ?_ | exact typ_of BK808 (by decide) (by decide) | refine typ_set ?_ _ _ _ | refine typ_alloc ?_ _ | refine typ_drewN ?_ _ | refine typ_drew ?_) | exact HI800.out)) hb); have n3_ := Aside0.mk (below_step (by repeat (first | (with_reducible first | exact HB.out | apply below_alloc | apply pw_below_drewN | apply below_drew1 | refine below_set ?_ (IsS100.ge HI800.out) | refine below_set ?_ GE804.out | refine below_set ?_ GE808.out) | exact HB.out)) hb); clear BK804; clear BK808; clear HI800; clear HB; have BK804 := n0_; have BK808 := n1_; have HI800 := n2_; have HB := n3_; clear n0_ n1_ n2_ n3_; (try clear hb); (try clear hb2); (try clear hk); (try clear hi)) | ((with_reducible refine gate_callee (f := 25) rfl ?_); refine goesL_ (some 107) rfl rfl Tryd.func25 (by kernel_rfl) rfl #[.pointer (some ⟨g800, 0, none⟩), .int .u64 (IntKind.u64.wrap (a0 + a3)), .int .u64 0, .int .u64 a1] rfl (by (try simp only [List.map_toArray, List.map_cons, List.map_nil]); first | done | rfl | (simp only [List.length_drop, List.length_take]; rfl)) ?_; (with_reducible refine (deck_Deck_Tick.calls g800 x801000_31 x801001_31 x801002_31 x801003_31 x801004_31 x801005_31 x801006_31 x801007_31 x801008_31 x801009_31 (IntKind.u64.wrap (a0 + a3)) 0 a1 t858 t859 t860 t861 t862 t863 t864 t865 t866 t867 w _ ?side1 ?side2 A56.out).mono ?_); (case side1 => repeat (first | (with_reducible first | exact HI800.out | apply IsS100.alloc | apply IsS100.drewN | apply IsS100.drew | refine IsS100.far ?_ NB800_804.out _ ?_ | exact typ_of BK804 (by decide) (by decide) | refine IsS100.far ?_ NB800_808.out _ ?_ | exact typ_of BK808 (by decide) (by decide) | refine typ_set ?_ _ _ _ | refine typ_alloc ?_ _ | refine typ_drewN ?_ _ | refine typ_drew ?_) | exact HI800.out)); (case side2 => repeat (first | (with_reducible first | exact HB.out | apply below_alloc | apply pw_below_drewN | apply below_drew1 | refine below_set ?_ (IsS100.ge HI800.out) | refine below_set ?_ GE804.out | refine below_set ?_ GE808.out) | exact HB.out)); rintro e w62 ⟨rfl, hi, hb, hk⟩; refine ⟨_, rfl, ?_⟩; have n0_ := Aside0.mk (KeepBut.blk hk (g' := gb804) (o := .cells #[.int .u64 t801, .int .u64 t802] 30 (0, 0)) (by (with_reducible repeat (first | refine blk_drewN ?_ _ | refine blk_drew ?_ | refine blk_alloc ?_ _)); exact BK804.out) NB804_800.out (by simp)); have n1_ := Aside0.mk (KeepBut.blk hk (g' := gb808) (o := .cells #[.int .u64 t805, .int .u64 t806] 30 (0, 0)) (by (with_reducible repeat (first | refine blk_drewN ?_ _ | refine blk_drew ?_ | refine blk_alloc ?_ _)); exact BK808.out) NB808_800.out (by simp)); have n2_ := Aside0.mk (hb); have n3_ := Aside0.mk (hi); clear BK804; clear BK808; clear HB; clear HI800; have BK804 := n0_; have BK808 := n1_; have HB := n2_; have HI800 := n3_; clear n0_ n1_ n2_ n3_; (try clear hb); (try clear hb2); (try clear hk); (try clear hi)))
          (try simp only [Act.put, List.setIfInBounds_toArray, List.set_cons_zero, List.set_cons_succ])
          go_cut [130] (fun v130 wc => ∃ (kq : Nat) (x130_56 : Bool) (x801000_56 : Int) (x801001_56 : Int) (x801002_56 : Int) (x801003_56 : Int) (x801004_56 : Bool) (x801005_56 : Int) (x801006_56 : Int) (x801007_56 : Int) (x801008_56 : Int) (x801009_56 : Int), v130 = .bool x130_56 ∧ Aside0 (tiklaw23_DeckRates.j2 kq a0 a1 a2 a3 a5 t855 t856 x130_56 x801000_56 x801001_56 x801002_56 x801003_56 x801004_56 x801005_56 x801006_56 x801007_56 x801008_56 x801009_56 t801 t802 t805 t806 = some r) ∧ Aside0 (kq ≤ kj31) ∧ Aside0 (wc.heap[gb804]? = some (.cells #[.int .u64 t801, .int .u64 t802] 30 (0, 0))) ∧ Aside0 (wc.heap[gb808]? = some (.cells #[.int .u64 t805, .int .u64 t806] 30 (0, 0))) ∧ Aside0 (IsS100 w wc g800 x801000_56 x801001_56 x801002_56 x801003_56 x801004_56 x801005_56 x801006_56 x801007_56 x801008_56 x801009_56) ∧ Aside0 (Below w.heap.size w wc))
          case first =>
           have H := HC57.out
           clear HC57
           by_cases c63 : t857 = 0
           ·rw [if_pos c63] at H
            have c63b0 : (t857 == 0) = true := beq_iff_eq.mpr c63
            have c63b1 : (t857 != 0) = false := bne_eq_false_iff_eq.mpr c63
            clear c63
            (first | rw [c63b0] | (simp only [i64_w, i32_w]; rw [c63b0]) | skip)
            replace H := Option.bind_eq_some_iff.mp H
            obtain ⟨⟨t868, t869, t870, t871, t872, t873, t874, t875, t876, t877, t878⟩, A640, H⟩ := H
            replace H : (if t868 = (mn (IntKind.u64.wrap (a2 + t855)) a1) then ((deck_Deck_Mode.f t869 t870 t871 t872 t873 t874 t875 t876 t877 t878).bind fun bt879 => (tiklaw23_DeckRates.j2 kj31 a0 a1 a2 a3 a5 t855 t856 ((bt879.1 == 0) != (decide ((IntKind.u64.wrap (a2 + t855)) ≥ a1))) bt879.2.1 bt879.2.2.1 bt879.2.2.2.1 bt879.2.2.2.2.1 bt879.2.2.2.2.2.1 bt879.2.2.2.2.2.2.1 bt879.2.2.2.2.2.2.2.1 bt879.2.2.2.2.2.2.2.2.1 bt879.2.2.2.2.2.2.2.2.2.1 bt879.2.2.2.2.2.2.2.2.2.2 t801 t802 t805 t806)) else (tiklaw23_DeckRates.j2 kj31 a0 a1 a2 a3 a5 t855 t856 true t869 t870 t871 t872 t873 t874 t875 t876 t877 t878 t801 t802 t805 t806)) = some r := H
            have A64 := Aside0.mk A640
            clear A640
            obtain ⟨ji65, hji65⟩ : ∃ j_ : Int, (mn (IntKind.u64.wrap (a2 + t855)) a1) = j_ := ⟨_, rfl⟩
            replace H : (if t868 = (ji65) then ((deck_Deck_Mode.f t869 t870 t871 t872 t873 t874 t875 t876 t877 t878).bind fun bt879 => (tiklaw23_DeckRates.j2 kj31 a0 a1 a2 a3 a5 t855 t856 ((bt879.1 == 0) != (decide ((IntKind.u64.wrap (a2 + t855)) ≥ a1))) bt879.2.1 bt879.2.2.1 bt879.2.2.2.1 bt879.2.2.2.2.1 bt879.2.2.2.2.2.1 bt879.2.2.2.2.2.2.1 bt879.2.2.2.2.2.2.2.1 bt879.2.2.2.2.2.2.2.2.1 bt879.2.2.2.2.2.2.2.2.2.1 bt879.2.2.2.2.2.2.2.2.2.2 t801 t802 t805 t806)) else (tiklaw23_DeckRates.j2 kj31 a0 a1 a2 a3 a5 t855 t856 true t869 t870 t871 t872 t873 t874 t875 t876 t877 t878 t801 t802 t805 t806)) = some r := by first | (rw [hji65] at H; exact H) | (simp only [hji65] at H ⊢; exact H)
            (try rw [hji65] at A64)
            have hji65_ : (if a1 < (IntKind.u64.wrap (a2 + t855)) then a1 else (IntKind.u64.wrap (a2 + t855))) = ji65 := hji65
            by_cases c66 : t868 = (ji65)
            ·rw [if_pos c66] at H
             have c66b0 : (t868 == (ji65)) = true := beq_iff_eq.mpr c66
             have c66b1 : (t868 != (ji65)) = false := bne_eq_false_iff_eq.mpr c66
             clear c66
             replace H := Option.bind_eq_some_iff.mp H
             obtain ⟨⟨t879, t880, t881, t882, t883, t884, t885, t886, t887, t888, t889⟩, A670, H⟩ := H
             replace H : (tiklaw23_DeckRates.j2 kj31 a0 a1 a2 a3 a5 t855 t856 ((t879 == 0) != (decide ((IntKind.u64.wrap (a2 + t855)) ≥ a1))) t880 t881 t882 t883 t884 t885 t886 t887 t888 t889 t801 t802 t805 t806) = some r := H
             have A67 := Aside0.mk A670
             clear A670
             have H' := Aside0.mk H
             clear H
             go_wp2_with (first | (go_at_call 19; (with_reducible refine (deck_Deck_Pos.calls g800 t858 t859 t860 t861 t862 t863 t864 t865 t866 t867 t868 t869 t870 t871 t872 t873 t874 t875 t876 t877 t878 w _ ?side1 ?side2 A64.out).mono ?_); (case side1 => repeat (first | (with_reducible first | exact HI800.out | apply IsS100.alloc | apply IsS100.drewN | apply IsS100.drew | refine IsS100.far ?_ NB800_804.out _ ?_ | exact typ_of BK804 (by decide) (by decide) | refine IsS100.far ?_ NB800_808.out _ ?_ | exact typ_of BK808 (by decide) (by decide) | refine typ_set ?_ _ _ _ | refine typ_alloc ?_ _ | refine typ_drewN ?_ _ | refine typ_drew ?_) | exact HI800.out)); (case side2 => repeat (first | (with_reducible first | exact HB.out | apply below_alloc | apply pw_below_drewN | apply below_drew1 | refine below_set ?_ (IsS100.ge HI800.out) | refine below_set ?_ GE804.out | refine below_set ?_ GE808.out) | exact HB.out)); rintro e w68 ⟨rfl, hi, hb, hk⟩; have n0_ := Aside0.mk (KeepBut.blk hk (g' := gb804) (o := .cells #[.int .u64 t801, .int .u64 t802] 30 (0, 0)) (by (with_reducible repeat (first | refine blk_drewN ?_ _ | refine blk_drew ?_ | refine blk_alloc ?_ _)); exact BK804.out) NB804_800.out (by simp)); have n1_ := Aside0.mk (KeepBut.blk hk (g' := gb808) (o := .cells #[.int .u64 t805, .int .u64 t806] 30 (0, 0)) (by (with_reducible repeat (first | refine blk_drewN ?_ _ | refine blk_drew ?_ | refine blk_alloc ?_ _)); exact BK808.out) NB808_800.out (by simp)); have n2_ := Aside0.mk (hb); have n3_ := Aside0.mk (hi); clear BK804; clear BK808; clear HB; clear HI800; have BK804 := n0_; have BK808 := n1_; have HB := n2_; have HI800 := n3_; clear n0_ n1_ n2_ n3_; (try clear hb); (try clear hb2); (try clear hk); (try clear hi)) | (go_at_call 18; (with_reducible refine (deck_Deck_Mode.calls g800 t869 t870 t871 t872 t873 t874 t875 t876 t877 t878 t879 t880 t881 t882 t883 t884 t885 t886 t887 t888 t889 w _ ?side1 ?side2 A67.out).mono ?_); (case side1 => repeat (first | (with_reducible first | exact HI800.out | apply IsS100.alloc | apply IsS100.drewN | apply IsS100.drew | refine IsS100.far ?_ NB800_804.out _ ?_ | exact typ_of BK804 (by decide) (by decide) | refine IsS100.far ?_ NB800_808.out _ ?_ | exact typ_of BK808 (by decide) (by decide) | refine typ_set ?_ _ _ _ | refine typ_alloc ?_ _ | refine typ_drewN ?_ _ | refine typ_drew ?_) | exact HI800.out)); (case side2 => repeat (first | (with_reducible first | exact HB.out | apply below_alloc | apply pw_below_drewN | apply below_drew1 | refine below_set ?_ (IsS100.ge HI800.out) | refine below_set ?_ GE804.out | refine below_set ?_ GE808.out) | exact HB.out)); rintro e w69 ⟨rfl, hi, hb, hk⟩; have n0_ := Aside0.mk (KeepBut.blk hk (g' := gb804) (o := .cells #[.int .u64 t801, .int .u64 t802] 30 (0, 0)) (by (with_reducible repeat (first | refine blk_drewN ?_ _ | refine blk_drew ?_ | refine blk_alloc ?_ _)); exact BK804.out) NB804_800.out (by simp)); have n1_ := Aside0.mk (KeepBut.blk hk (g' := gb808) (o := .cells #[.int .u64 t805, .int .u64 t806] 30 (0, 0)) (by (with_reducible repeat (first | refine blk_drewN ?_ _ | refine blk_drew ?_ | refine blk_alloc ?_ _)); exact BK808.out) NB808_800.out (by simp)); have n2_ := Aside0.mk (hb); have n3_ := Aside0.mk (hi); clear BK804; clear BK808; clear HB; clear HI800; have BK804 := n0_; have BK808 := n1_; have HB := n2_; have HI800 := n3_; clear n0_ n1_ n2_ n3_; (try clear hb); (try clear hb2); (try clear hk); (try clear hi)))
             go_meet
             case rel => exact ⟨_, (((t879 == 0) != (decide ((IntKind.u64.wrap (a2 + t855)) ≥ a1)))), (t880), (t881), (t882), (t883), (t884), (t885), (t886), (t887), (t888), (t889), (by first | rfl | (simp; done) | (simp [*]; done)), H', ⟨by have := HJ11.out; have := HJ31.out; first | omega | exact Nat.le_refl _⟩, ⟨by (with_reducible repeat (first | refine blk_drewN ?_ _ | refine blk_drew ?_ | refine blk_alloc ?_ _)); exact BK804.out⟩, ⟨by (with_reducible repeat (first | refine blk_drewN ?_ _ | refine blk_drew ?_ | refine blk_alloc ?_ _)); exact BK808.out⟩, ⟨by repeat (first | (with_reducible first | exact HI800.out | apply IsS100.alloc | apply IsS100.drewN | apply IsS100.drew | refine IsS100.far ?_ NB800_804.out _ ?_ | exact typ_of BK804 (by decide) (by decide) | refine IsS100.far ?_ NB800_808.out _ ?_ | exact typ_of BK808 (by decide) (by decide) | refine typ_set ?_ _ _ _ | refine typ_alloc ?_ _ | refine typ_drewN ?_ _ | refine typ_drew ?_) | exact HI800.out)⟩, ⟨by repeat (first | (with_reducible first | exact HB.out | apply below_alloc | apply pw_below_drewN | apply below_drew1 | refine below_set ?_ (IsS100.ge HI800.out) | refine below_set ?_ GE804.out | refine below_set ?_ GE808.out) | exact HB.out)⟩⟩
            ·rw [if_neg c66] at H
             have c66b0 : (t868 == (ji65)) = false := beq_eq_false_iff_ne.mpr c66
             have c66b1 : (t868 != (ji65)) = true := bne_iff_ne.mpr c66
             have H' := Aside0.mk H
             clear H
             go_wp2_with (first | (go_at_call 19; (with_reducible refine (deck_Deck_Pos.calls g800 t858 t859 t860 t861 t862 t863 t864 t865 t866 t867 t868 t869 t870 t871 t872 t873 t874 t875 t876 t877 t878 w _ ?side1 ?side2 A64.out).mono ?_); (case side1 => repeat (first | (with_reducible first | exact HI800.out | apply IsS100.alloc | apply IsS100.drewN | apply IsS100.drew | refine IsS100.far ?_ NB800_804.out _ ?_ | exact typ_of BK804 (by decide) (by decide) | refine IsS100.far ?_ NB800_808.out _ ?_ | exact typ_of BK808 (by decide) (by decide) | refine typ_set ?_ _ _ _ | refine typ_alloc ?_ _ | refine typ_drewN ?_ _ | refine typ_drew ?_) | exact HI800.out)); (case side2 => repeat (first | (with_reducible first | exact HB.out | apply below_alloc | apply pw_below_drewN | apply below_drew1 | refine below_set ?_ (IsS100.ge HI800.out) | refine below_set ?_ GE804.out | refine below_set ?_ GE808.out) | exact HB.out)); rintro e w70 ⟨rfl, hi, hb, hk⟩; have n0_ := Aside0.mk (KeepBut.blk hk (g' := gb804) (o := .cells #[.int .u64 t801, .int .u64 t802] 30 (0, 0)) (by (with_reducible repeat (first | refine blk_drewN ?_ _ | refine blk_drew ?_ | refine blk_alloc ?_ _)); exact BK804.out) NB804_800.out (by simp)); have n1_ := Aside0.mk (KeepBut.blk hk (g' := gb808) (o := .cells #[.int .u64 t805, .int .u64 t806] 30 (0, 0)) (by (with_reducible repeat (first | refine blk_drewN ?_ _ | refine blk_drew ?_ | refine blk_alloc ?_ _)); exact BK808.out) NB808_800.out (by simp)); have n2_ := Aside0.mk (hb); have n3_ := Aside0.mk (hi); clear BK804; clear BK808; clear HB; clear HI800; have BK804 := n0_; have BK808 := n1_; have HB := n2_; have HI800 := n3_; clear n0_ n1_ n2_ n3_; (try clear hb); (try clear hb2); (try clear hk); (try clear hi)))
             go_meet
             case rel => exact ⟨_, (true), (t869), (t870), (t871), (t872), (t873), (t874), (t875), (t876), (t877), (t878), (by first | rfl | (simp; done) | (simp [*]; done)), H', ⟨by have := HJ11.out; have := HJ31.out; first | omega | exact Nat.le_refl _⟩, ⟨by (with_reducible repeat (first | refine blk_drewN ?_ _ | refine blk_drew ?_ | refine blk_alloc ?_ _)); exact BK804.out⟩, ⟨by (with_reducible repeat (first | refine blk_drewN ?_ _ | refine blk_drew ?_ | refine blk_alloc ?_ _)); exact BK808.out⟩, ⟨by repeat (first | (with_reducible first | exact HI800.out | apply IsS100.alloc | apply IsS100.drewN | apply IsS100.drew | refine IsS100.far ?_ NB800_804.out _ ?_ | exact typ_of BK804 (by decide) (by decide) | refine IsS100.far ?_ NB800_808.out _ ?_ | exact typ_of BK808 (by decide) (by decide) | refine typ_set ?_ _ _ _ | refine typ_alloc ?_ _ | refine typ_drewN ?_ _ | refine typ_drew ?_) | exact HI800.out)⟩, ⟨by repeat (first | (with_reducible first | exact HB.out | apply below_alloc | apply pw_below_drewN | apply below_drew1 | refine below_set ?_ (IsS100.ge HI800.out) | refine below_set ?_ GE804.out | refine below_set ?_ GE808.out) | exact HB.out)⟩⟩
           ·rw [if_neg c63] at H
            have c63b0 : (t857 == 0) = false := beq_eq_false_iff_ne.mpr c63
            have c63b1 : (t857 != 0) = true := bne_iff_ne.mpr c63
            (first | rw [c63b0] | (simp only [i64_w, i32_w]; rw [c63b0]) | skip)
            have H' := Aside0.mk H
            clear H
            go_wp2
            go_meet
            case rel => exact ⟨_, (true), (t858), (t859), (t860), (t861), (t862), (t863), (t864), (t865), (t866), (t867), (by first | rfl | (simp; done) | (simp [*]; done)), H', ⟨by have := HJ11.out; have := HJ31.out; first | omega | exact Nat.le_refl _⟩, ⟨by (with_reducible repeat (first | refine blk_drewN ?_ _ | refine blk_drew ?_ | refine blk_alloc ?_ _)); exact BK804.out⟩, ⟨by (with_reducible repeat (first | refine blk_drewN ?_ _ | refine blk_drew ?_ | refine blk_alloc ?_ _)); exact BK808.out⟩, ⟨by repeat (first | (with_reducible first | exact HI800.out | apply IsS100.alloc | apply IsS100.drewN | apply IsS100.drew | refine IsS100.far ?_ NB800_804.out _ ?_ | exact typ_of BK804 (by decide) (by decide) | refine IsS100.far ?_ NB800_808.out _ ?_ | exact typ_of BK808 (by decide) (by decide) | refine typ_set ?_ _ _ _ | refine typ_alloc ?_ _ | refine typ_drewN ?_ _ | refine typ_drew ?_) | exact HI800.out)⟩, ⟨by repeat (first | (with_reducible first | exact HB.out | apply below_alloc | apply pw_below_drewN | apply below_drew1 | refine below_set ?_ (IsS100.ge HI800.out) | refine below_set ?_ GE804.out | refine below_set ?_ GE808.out) | exact HB.out)⟩⟩
          case rest =>
           as_aux_lemma =>
            clear HC57
            try clear c2
            try clear p2
            try clear c3
            try clear c5
            try clear c6
            try clear c21
            try clear c23
            try clear c24
            try clear c25
            try clear c26
            try clear c34
            try clear c34b0
            try clear c34b1
            try clear c36
            try clear c36b0
            try clear c36b1
            try clear c54
            try clear c58
            try clear c59
            try clear c63
            try clear c63b0
            try clear c63b1
            try clear c66
            try clear c66b0
            try clear c66b1
            try clear hcz60_0
            try clear hcz60_1
            try clear hfz60_0
            try clear hfz60_1
            try clear p2
            obtain ⟨kq, x130_56, x801000_56, x801001_56, x801002_56, x801003_56, x801004_56, x801005_56, x801006_56, x801007_56, x801008_56, x801009_56, rfl, HA, HJ56, BK804, BK808, HI800, HB⟩ := hcut
            cases kq with
            | zero => exact absurd HA.out (by simp [tiklaw23_DeckRates.j2])
            | succ kj56 =>
             have H := HA.out
             clear HA
             simp only [tiklaw23_DeckRates.j2] at H
             by_cases c71 : x130_56 = true
             ·subst c71
              have H1 : (some false) = some r := by rw [if_pos rfl] at H; exact H
              clear H
              have H := H1
              clear H1
              exact absurd ((Option.some.inj H).trans hr_.out) (by simp)
             ·replace c71 := Bool.eq_false_iff.mpr c71
              subst c71
              have H1 : ((deck_Deck_Mode.f x801000_56 x801001_56 x801002_56 x801003_56 x801004_56 x801005_56 x801006_56 x801007_56 x801008_56 x801009_56).bind fun bt890 => (if bt890.1 = 0 then ((tiklaw23_first.f kj56).bind fun t901 => (some t901)) else ((deck_Deck_Speed.f kj56 bt890.2.1 bt890.2.2.1 bt890.2.2.2.1 bt890.2.2.2.2.1 bt890.2.2.2.2.2.1 bt890.2.2.2.2.2.2.1 bt890.2.2.2.2.2.2.2.1 bt890.2.2.2.2.2.2.2.2.1 bt890.2.2.2.2.2.2.2.2.2.1 bt890.2.2.2.2.2.2.2.2.2.2 (IntKind.u64.wrap (a0 + a3)) a5).bind fun bt902 => (if bt902.1 = 0 then ((deck_Deck_Rate.f bt902.2.1 bt902.2.2.1 bt902.2.2.2.1 bt902.2.2.2.2.1 bt902.2.2.2.2.2.1 bt902.2.2.2.2.2.2.1 bt902.2.2.2.2.2.2.2.1 bt902.2.2.2.2.2.2.2.2.1 bt902.2.2.2.2.2.2.2.2.2.1 bt902.2.2.2.2.2.2.2.2.2.2).bind fun bt913 => (tiklaw23_DeckRates.j3 kj56 a0 a1 a2 a3 t855 t856 (!(bt913.1 == t805) || (!(bt913.2.1 == t806))) bt913.2.2.1 bt913.2.2.2.1 bt913.2.2.2.2.1 bt913.2.2.2.2.2.1 bt913.2.2.2.2.2.2.1 bt913.2.2.2.2.2.2.2.1 bt913.2.2.2.2.2.2.2.2.1 bt913.2.2.2.2.2.2.2.2.2.1 bt913.2.2.2.2.2.2.2.2.2.2.1 bt913.2.2.2.2.2.2.2.2.2.2.2 t801 t802 t805 t806)) else (tiklaw23_DeckRates.j3 kj56 a0 a1 a2 a3 t855 t856 true bt902.2.1 bt902.2.2.1 bt902.2.2.2.1 bt902.2.2.2.2.1 bt902.2.2.2.2.2.1 bt902.2.2.2.2.2.2.1 bt902.2.2.2.2.2.2.2.1 bt902.2.2.2.2.2.2.2.2.1 bt902.2.2.2.2.2.2.2.2.2.1 bt902.2.2.2.2.2.2.2.2.2.2 t801 t802 t805 t806))))) = some r := by rw [if_neg (show ¬ (false = true) by decide)] at H; exact H
              clear H
              have H := H1
              clear H1
              replace H := Option.bind_eq_some_iff.mp H
              obtain ⟨⟨t890, t891, t892, t893, t894, t895, t896, t897, t898, t899, t900⟩, A720, H⟩ := H
              replace H : (if t890 = 0 then ((tiklaw23_first.f kj56).bind fun t901 => (some t901)) else ((deck_Deck_Speed.f kj56 t891 t892 t893 t894 t895 t896 t897 t898 t899 t900 (IntKind.u64.wrap (a0 + a3)) a5).bind fun bt902 => (if bt902.1 = 0 then ((deck_Deck_Rate.f bt902.2.1 bt902.2.2.1 bt902.2.2.2.1 bt902.2.2.2.2.1 bt902.2.2.2.2.2.1 bt902.2.2.2.2.2.2.1 bt902.2.2.2.2.2.2.2.1 bt902.2.2.2.2.2.2.2.2.1 bt902.2.2.2.2.2.2.2.2.2.1 bt902.2.2.2.2.2.2.2.2.2.2).bind fun bt913 => (tiklaw23_DeckRates.j3 kj56 a0 a1 a2 a3 t855 t856 (!(bt913.1 == t805) || (!(bt913.2.1 == t806))) bt913.2.2.1 bt913.2.2.2.1 bt913.2.2.2.2.1 bt913.2.2.2.2.2.1 bt913.2.2.2.2.2.2.1 bt913.2.2.2.2.2.2.2.1 bt913.2.2.2.2.2.2.2.2.1 bt913.2.2.2.2.2.2.2.2.2.1 bt913.2.2.2.2.2.2.2.2.2.2.1 bt913.2.2.2.2.2.2.2.2.2.2.2 t801 t802 t805 t806)) else (tiklaw23_DeckRates.j3 kj56 a0 a1 a2 a3 t855 t856 true bt902.2.1 bt902.2.2.1 bt902.2.2.2.1 bt902.2.2.2.2.1 bt902.2.2.2.2.2.1 bt902.2.2.2.2.2.2.1 bt902.2.2.2.2.2.2.2.1 bt902.2.2.2.2.2.2.2.2.1 bt902.2.2.2.2.2.2.2.2.2.1 bt902.2.2.2.2.2.2.2.2.2.2 t801 t802 t805 t806)))) = some r := H
              have A72 := Aside0.mk A720
              clear A720
              by_cases c73 : t890 = 0
              ·rw [if_pos c73] at H
               have c73b0 : (t890 == 0) = true := beq_iff_eq.mpr c73
               have c73b1 : (t890 != 0) = false := bne_eq_false_iff_eq.mpr c73
               clear c73
               replace H := Option.bind_eq_some_iff.mp H
               obtain ⟨t901, A740, H⟩ := H
               replace H : (some t901) = some r := H
               have A74 := Aside0.mk A740
               clear A740
               obtain rfl := Option.some.inj H
               go_wp2_with (first | ((with_reducible refine gate_callee (f := 18) rfl ?_); refine goesL_ (some 132) rfl rfl Tryd.func18 (by kernel_rfl) rfl #[.pointer (some ⟨g800, 0, none⟩)] rfl (by (try simp only [List.map_toArray, List.map_cons, List.map_nil]); first | done | rfl | (simp only [List.length_drop, List.length_take]; rfl)) ?_; (with_reducible refine (deck_Deck_Mode.calls g800 x801000_56 x801001_56 x801002_56 x801003_56 x801004_56 x801005_56 x801006_56 x801007_56 x801008_56 x801009_56 t890 t891 t892 t893 t894 t895 t896 t897 t898 t899 t900 w _ ?side1 ?side2 A72.out).mono ?_); (case side1 => repeat (first | (with_reducible first | exact HI800.out | apply IsS100.alloc | apply IsS100.drewN | apply IsS100.drew | refine IsS100.far ?_ NB800_804.out _ ?_ | exact typ_of BK804 (by decide) (by decide) | refine IsS100.far ?_ NB800_808.out _ ?_ | exact typ_of BK808 (by decide) (by decide) | refine typ_set ?_ _ _ _ | refine typ_alloc ?_ _ | refine typ_drewN ?_ _ | refine typ_drew ?_) | exact HI800.out)); (case side2 => repeat (first | (with_reducible first | exact HB.out | apply below_alloc | apply pw_below_drewN | apply below_drew1 | refine below_set ?_ (IsS100.ge HI800.out) | refine below_set ?_ GE804.out | refine below_set ?_ GE808.out) | exact HB.out)); rintro e w75 ⟨rfl, hi, hb, hk⟩; refine ⟨_, rfl, ?_⟩; have n0_ := Aside0.mk (KeepBut.blk hk (g' := gb804) (o := .cells #[.int .u64 t801, .int .u64 t802] 30 (0, 0)) (by (with_reducible repeat (first | refine blk_drewN ?_ _ | refine blk_drew ?_ | refine blk_alloc ?_ _)); exact BK804.out) NB804_800.out (by simp)); have n1_ := Aside0.mk (KeepBut.blk hk (g' := gb808) (o := .cells #[.int .u64 t805, .int .u64 t806] 30 (0, 0)) (by (with_reducible repeat (first | refine blk_drewN ?_ _ | refine blk_drew ?_ | refine blk_alloc ?_ _)); exact BK808.out) NB808_800.out (by simp)); have n2_ := Aside0.mk (hb); have n3_ := Aside0.mk (hi); clear BK804; clear BK808; clear HB; clear HI800; have BK804 := n0_; have BK808 := n1_; have HB := n2_; have HI800 := n3_; clear n0_ n1_ n2_ n3_; (try clear hb); (try clear hb2); (try clear hk); (try clear hi)) | ((with_reducible refine gate_callee (f := 12) rfl ?_); refine goesL_ (some 134) rfl rfl Tryd.func12 (by kernel_rfl) rfl #[] rfl (by (try simp only [List.map_toArray, List.map_cons, List.map_nil]); first | done | rfl | (simp only [List.length_drop, List.length_take]; rfl)) ?_; (with_reducible refine (tiklaw23_first.calls kj56  t901 _ ?side1 A74.out).mono ?_); (case side1 => first | (with_reducible exact HT.out) | exact tabAt HT.out (by repeat (first | (with_reducible first | exact HB.out | apply below_alloc | apply pw_below_drewN | apply below_drew1 | refine below_set ?_ (IsS100.ge HI800.out) | refine below_set ?_ GE804.out | refine below_set ?_ GE808.out) | exact HB.out))); rintro e w76 ⟨rfl, hb⟩; refine ⟨_, rfl, ?_⟩; have n0_ := Aside0.mk (blk_below (g := gb804) (o := .cells #[.int .u64 t801, .int .u64 t802] 30 (0, 0)) (by (with_reducible repeat (first | refine blk_drewN ?_ _ | refine blk_drew ?_ | refine blk_alloc ?_ _)); exact BK804.out) hb); have n1_ := Aside0.mk (blk_below (g := gb808) (o := .cells #[.int .u64 t805, .int .u64 t806] 30 (0, 0)) (by (with_reducible repeat (first | refine blk_drewN ?_ _ | refine blk_drew ?_ | refine blk_alloc ?_ _)); exact BK808.out) hb); have n2_ := Aside0.mk (IsS100.below (by repeat (first | (with_reducible first | exact HI800.out | apply IsS100.alloc | apply IsS100.drewN | apply IsS100.drew | refine IsS100.far ?_ NB800_804.out _ ?_ | exact typ_of BK804 (by decide) (by decide) | refine IsS100.far ?_ NB800_808.out _ ?_ | exact typ_of BK808 (by decide) (by decide) | refine typ_set ?_ _ _ _ | refine typ_alloc ?_ _ | refine typ_drewN ?_ _ | refine typ_drew ?_) | exact HI800.out)) hb); have n3_ := Aside0.mk (below_step (by repeat (first | (with_reducible first | exact HB.out | apply below_alloc | apply pw_below_drewN | apply below_drew1 | refine below_set ?_ (IsS100.ge HI800.out) | refine below_set ?_ GE804.out | refine below_set ?_ GE808.out) | exact HB.out)) hb); clear BK804; clear BK808; clear HI800; clear HB; have BK804 := n0_; have BK808 := n1_; have HI800 := n2_; have HB := n3_; clear n0_ n1_ n2_ n3_; (try clear hb); (try clear hb2); (try clear hk); (try clear hi)))
               go_ret
               exact ⟨by first | rfl | (simp [errW_none, errW_some] <;> rfl) | (simp [*, errW_none, errW_some] <;> rfl), by repeat (first | (with_reducible first | exact HB.out | apply below_alloc | apply pw_below_drewN | apply below_drew1 | refine below_set ?_ (IsS100.ge HI800.out) | refine below_set ?_ GE804.out | refine below_set ?_ GE808.out) | exact HB.out)⟩
              ·rw [if_neg c73] at H
               have c73b0 : (t890 == 0) = false := beq_eq_false_iff_ne.mpr c73
               have c73b1 : (t890 != 0) = true := bne_iff_ne.mpr c73
               have HC77 := Aside0.mk H
               clear H
               go_upto_region 16 with (first | ((with_reducible refine gate_callee (f := 18) rfl ?_); refine goesL_ (some 132) rfl rfl Tryd.func18 (by kernel_rfl) rfl #[.pointer (some ⟨g800, 0, none⟩)] rfl (by (try simp only [List.map_toArray, List.map_cons, List.map_nil]); first | done | rfl | (simp only [List.length_drop, List.length_take]; rfl)) ?_; (with_reducible refine (deck_Deck_Mode.calls g800 x801000_56 x801001_56 x801002_56 x801003_56 x801004_56 x801005_56 x801006_56 x801007_56 x801008_56 x801009_56 t890 t891 t892 t893 t894 t895 t896 t897 t898 t899 t900 w _ ?side1 ?side2 A72.out).mono ?_); (case side1 => repeat (first | (with_reducible first | exact HI800.out | apply IsS100.alloc | apply IsS100.drewN | apply IsS100.drew | refine IsS100.far ?_ NB800_804.out _ ?_ | exact typ_of BK804 (by decide) (by decide) | refine IsS100.far ?_ NB800_808.out _ ?_ | exact typ_of BK808 (by decide) (by decide) | refine typ_set ?_ _ _ _ | refine typ_alloc ?_ _ | refine typ_drewN ?_ _ | refine typ_drew ?_) | exact HI800.out)); (case side2 => repeat (first | (with_reducible first | exact HB.out | apply below_alloc | apply pw_below_drewN | apply below_drew1 | refine below_set ?_ (IsS100.ge HI800.out) | refine below_set ?_ GE804.out | refine below_set ?_ GE808.out) | exact HB.out)); rintro e w78 ⟨rfl, hi, hb, hk⟩; refine ⟨_, rfl, ?_⟩; have n0_ := Aside0.mk (KeepBut.blk hk (g' := gb804) (o := .cells #[.int .u64 t801, .int .u64 t802] 30 (0, 0)) (by (with_reducible repeat (first | refine blk_drewN ?_ _ | refine blk_drew ?_ | refine blk_alloc ?_ _)); exact BK804.out) NB804_800.out (by simp)); have n1_ := Aside0.mk (KeepBut.blk hk (g' := gb808) (o := .cells #[.int .u64 t805, .int .u64 t806] 30 (0, 0)) (by (with_reducible repeat (first | refine blk_drewN ?_ _ | refine blk_drew ?_ | refine blk_alloc ?_ _)); exact BK808.out) NB808_800.out (by simp)); have n2_ := Aside0.mk (hb); have n3_ := Aside0.mk (hi); clear BK804; clear BK808; clear HB; clear HI800; have BK804 := n0_; have BK808 := n1_; have HB := n2_; have HI800 := n3_; clear n0_ n1_ n2_ n3_; (try clear hb); (try clear hb2); (try clear hk); (try clear hi)))
               (try simp only [Act.put, List.setIfInBounds_toArray, List.set_cons_zero, List.set_cons_succ])
               go_cut [147] (fun v147 wc => ∃ (kq : Nat) (x147_76 : Bool) (x801000_76 : Int) (x801001_76 : Int) (x801002_76 : Int) (x801003_76 : Int) (x801004_76 : Bool) (x801005_76 : Int) (x801006_76 : Int) (x801007_76 : Int) (x801008_76 : Int) (x801009_76 : Int), v147 = .bool x147_76 ∧ Aside0 (tiklaw23_DeckRates.j3 kq a0 a1 a2 a3 t855 t856 x147_76 x801000_76 x801001_76 x801002_76 x801003_76 x801004_76 x801005_76 x801006_76 x801007_76 x801008_76 x801009_76 t801 t802 t805 t806 = some r) ∧ Aside0 (kq ≤ kj56) ∧ Aside0 (wc.heap[gb804]? = some (.cells #[.int .u64 t801, .int .u64 t802] 30 (0, 0))) ∧ Aside0 (wc.heap[gb808]? = some (.cells #[.int .u64 t805, .int .u64 t806] 30 (0, 0))) ∧ Aside0 (IsS100 w wc g800 x801000_76 x801001_76 x801002_76 x801003_76 x801004_76 x801005_76 x801006_76 x801007_76 x801008_76 x801009_76) ∧ Aside0 (Below w.heap.size w wc))
               case first =>
                have H := HC77.out
                clear HC77
                replace H := Option.bind_eq_some_iff.mp H
                obtain ⟨⟨t902, t903, t904, t905, t906, t907, t908, t909, t910, t911, t912⟩, A790, H⟩ := H
                replace H : (if t902 = 0 then ((deck_Deck_Rate.f t903 t904 t905 t906 t907 t908 t909 t910 t911 t912).bind fun bt913 => (tiklaw23_DeckRates.j3 kj56 a0 a1 a2 a3 t855 t856 (!(bt913.1 == t805) || (!(bt913.2.1 == t806))) bt913.2.2.1 bt913.2.2.2.1 bt913.2.2.2.2.1 bt913.2.2.2.2.2.1 bt913.2.2.2.2.2.2.1 bt913.2.2.2.2.2.2.2.1 bt913.2.2.2.2.2.2.2.2.1 bt913.2.2.2.2.2.2.2.2.2.1 bt913.2.2.2.2.2.2.2.2.2.2.1 bt913.2.2.2.2.2.2.2.2.2.2.2 t801 t802 t805 t806)) else (tiklaw23_DeckRates.j3 kj56 a0 a1 a2 a3 t855 t856 true t903 t904 t905 t906 t907 t908 t909 t910 t911 t912 t801 t802 t805 t806)) = some r := H
                have A79 := Aside0.mk A790
                clear A790
                by_cases c80 : t902 = 0
                ·rw [if_pos c80] at H
                 have c80b0 : (t902 == 0) = true := beq_iff_eq.mpr c80
                 have c80b1 : (t902 != 0) = false := bne_eq_false_iff_eq.mpr c80
                 clear c80
                 (first | rw [c80b0] | (simp only [i64_w, i32_w]; rw [c80b0]) | skip)
                 replace H := Option.bind_eq_some_iff.mp H
                 obtain ⟨⟨t913, t914, t915, t916, t917, t918, t919, t920, t921, t922, t923, t924⟩, A810, H⟩ := H
                 replace H : (tiklaw23_DeckRates.j3 kj56 a0 a1 a2 a3 t855 t856 (!(t913 == t805) || (!(t914 == t806))) t915 t916 t917 t918 t919 t920 t921 t922 t923 t924 t801 t802 t805 t806) = some r := H
                 have A81 := Aside0.mk A810
                 clear A810
                 have H' := Aside0.mk H
                 clear H
                 try go_wp2
                 have n0_ := Aside0.mk (blk_drew BK804.out)
                 have n1_ := Aside0.mk (blk_drew BK808.out)
                 have n2_ := Aside0.mk (IsS100.drew HI800.out)
                 have n3_ := Aside0.mk (below_drew1 HB.out)
                 clear BK804
                 clear BK808
                 clear HI800
                 clear HB
                 have BK804 := n0_
                 have BK808 := n1_
                 have HI800 := n2_
                 have HB := n3_
                 clear n0_ n1_ n2_ n3_
                 refine start_ (n := 13) (S := fun w' => w'.cell? ⟨gb808, 0, none⟩ = some (.int .u64 t805) ∧ w'.cell? ⟨gb808, 1, none⟩ = some (.int .u64 t806)) (ds := []) #[false, false, false, false, false, false, false, false, false, false, false, false, false] (by kernel_rfl) rfl rfl ⟨(blk_cell BK808.out 0).trans rfl, (blk_cell BK808.out 1).trans rfl⟩ (fun hHeld => ?_); refine with_tabW tiklaw23_DeckRates.tab16 tiklaw23_DeckRates.bits16 (fun HT_ HW_ => ?_)
                 generalize w78.drew = w82 at BK804 BK808 HI800 HB hHeld ⊢
                 refine pure_ (i := 0) (N := some 135) (v := ?_) (a' := ?_) #[true, false, false, false, false, false, false, false, false, false, false, false, false] rfl rfl (any_of HT_.out (by kernel_rfl)) (fun _ _ _ h => h) (Or.inl ⟨by rfl, ?_⟩) ?_ ?_
                 rotate_left
                 ·intro w'
                  go_simp
                  with_reducible rfl
                 rotate_left
                 ·simp only [Act.put, List.setIfInBounds_toArray, List.set_cons_zero, List.set_cons_succ, i64_w, i32_w]
                  rfl
                 refine pure_ (i := 1) (N := some 136) (v := ?_) (a' := ?_) #[true, true, false, false, false, false, false, false, false, false, false, false, false] rfl rfl (any_of HT_.out (by kernel_rfl)) (fun _ _ _ h => h) (Or.inl ⟨by rfl, ?_⟩) ?_ ?_
                 rotate_left
                 ·intro w'
                  go_simp
                  with_reducible rfl
                 rotate_left
                 ·simp only [Act.put, List.setIfInBounds_toArray, List.set_cons_zero, List.set_cons_succ, i64_w, i32_w]
                  rfl
                 refine pure_ (i := 2) (N := some 137) (v := ?_) (a' := ?_) #[true, true, true, false, false, false, false, false, false, false, false, false, false] rfl rfl (any_of HT_.out (by kernel_rfl)) (fun _ _ _ h => h) (Or.inl ⟨by rfl, ?_⟩) ?_ ?_
                 rotate_left
                 ·intro w'
                  go_simp
                  with_reducible rfl
                 rotate_left
                 ·simp only [Act.put, List.setIfInBounds_toArray, List.set_cons_zero, List.set_cons_succ, i64_w, i32_w]
                  rfl
                 refine pure_ (i := 3) (N := some 138) (v := ?_) (a' := ?_) #[true, true, true, true, false, false, false, false, false, false, false, false, false] rfl rfl (any_of HT_.out (by kernel_rfl)) (fun _ _ _ h => h) (Or.inl ⟨by rfl, ?_⟩) ?_ ?_
                 rotate_left
                 ·intro w'
                  go_simp
                  with_reducible rfl
                 rotate_left
                 ·simp only [Act.put, List.setIfInBounds_toArray, List.set_cons_zero, List.set_cons_succ, i64_w, i32_w]
                  rfl
                 refine pure_ (i := 4) (N := some 139) (v := ?_) (a' := ?_) #[true, true, true, true, true, false, false, false, false, false, false, false, false] rfl rfl (any_of HT_.out (by kernel_rfl)) (fun _ _ _ h => h) (Or.inl ⟨by rfl, ?_⟩) ?_ ?_
                 rotate_left
                 ·intro w'
                  go_simp
                  with_reducible rfl
                 rotate_left
                 ·simp only [Act.put, List.setIfInBounds_toArray, List.set_cons_zero, List.set_cons_succ, i64_w, i32_w]
                  rfl
                 refine one_ (i := 5) (N := some 140) #[true, true, true, true, true, true, false, false, false, false, false, false, false] rfl rfl (one_of HT_.out (by kernel_rfl)) (by decide) (fun K hK => ?_)
                 refine goes_ Tryd.func21 (by kernel_rfl) rfl #[.pointer (some ⟨g800, 0, none⟩), .int .u64 (IntKind.u64.wrap (a0 + a3)), .float .f64 a5] (by rfl) rfl rfl (by (try simp only [List.map_toArray, List.map_cons, List.map_nil]); first | done | rfl | (simp only [List.length_drop, List.length_take]; rfl)) ?_
                 with_reducible refine (deck_Deck_Speed.calls kj56 g800 t891 t892 t893 t894 t895 t896 t897 t898 t899 t900 (IntKind.u64.wrap (a0 + a3)) a5 t902 t903 t904 t905 t906 t907 t908 t909 t910 t911 t912 w _ ?side1 ?side2 ?side3 A79.out).mono ?_
                 (case side1 => repeat (first | (with_reducible first | exact HI800.out | apply IsS100.alloc | apply IsS100.drewN | apply IsS100.drew | refine IsS100.far ?_ NB800_804.out _ ?_ | exact typ_of BK804 (by decide) (by decide) | refine IsS100.far ?_ NB800_808.out _ ?_ | exact typ_of BK808 (by decide) (by decide) | refine typ_set ?_ _ _ _ | refine typ_alloc ?_ _ | refine typ_drewN ?_ _ | refine typ_drew ?_) | exact HI800.out))
                 (case side2 => repeat (first | (with_reducible first | exact HB.out | apply below_alloc | apply pw_below_drewN | apply below_drew1 | refine below_set ?_ (IsS100.ge HI800.out) | refine below_set ?_ GE804.out | refine below_set ?_ GE808.out) | exact HB.out))
                 (case side3 => first | (with_reducible exact HT.out) | exact tabAt HT.out (by repeat (first | (with_reducible first | exact HB.out | apply below_alloc | apply pw_below_drewN | apply below_drew1 | refine below_set ?_ (IsS100.ge HI800.out) | refine below_set ?_ GE804.out | refine below_set ?_ GE808.out) | exact HB.out)))
                 rintro e w83 ⟨rfl, hi, hb, hk⟩
                 refine ⟨_, rfl, ?_⟩
                 have n0_ := Aside0.mk (KeepBut.blk hk (g' := gb804) (o := .cells #[.int .u64 t801, .int .u64 t802] 30 (0, 0)) (by (with_reducible repeat (first | refine blk_drewN ?_ _ | refine blk_drew ?_ | refine blk_alloc ?_ _)); exact BK804.out) NB804_800.out (by simp))
                 have n1_ := Aside0.mk (KeepBut.blk hk (g' := gb808) (o := .cells #[.int .u64 t805, .int .u64 t806] 30 (0, 0)) (by (with_reducible repeat (first | refine blk_drewN ?_ _ | refine blk_drew ?_ | refine blk_alloc ?_ _)); exact BK808.out) NB808_800.out (by simp))
                 have n2_ := Aside0.mk (hb)
                 have n3_ := Aside0.mk (hi)
                 clear BK804
                 clear BK808
                 clear HB
                 clear HI800
                 have BK804 := n0_
                 have BK808 := n1_
                 have HB := n2_
                 have HI800 := n3_
                 clear n0_ n1_ n2_ n3_
                 (try clear hb)
                 (try clear hb2)
                 (try clear hk)
                 (try clear hi)
                 refine hK.out _ _ ⟨(blk_cell BK808.out 0).trans rfl, (blk_cell BK808.out 1).trans rfl⟩ (fun hHeld => ?_)
                 clear hK K
                 refine norm_ (a' := ?_) ?_ ?_
                 rotate_left
                 ·show Act.put _ (some 140) _ = _
                  simp only [Act.put, List.setIfInBounds_toArray, List.set_cons_zero, List.set_cons_succ, i64_w, i32_w]
                  rfl
                 refine pure_ (i := 6) (N := some 141) (v := ?_) (a' := ?_) #[true, true, true, true, true, true, true, false, false, false, false, false, false] rfl rfl (any_of HT_.out (by kernel_rfl)) (fun _ _ _ h => h) (Or.inl ⟨by rfl, ?_⟩) ?_ ?_
                 rotate_left
                 ·intro w'
                  go_simp
                  with_reducible rfl
                 rotate_left
                 ·simp only [Act.put, List.setIfInBounds_toArray, List.set_cons_zero, List.set_cons_succ, i64_w, i32_w]
                  rfl
                 refine pure_ (i := 7) (N := some 142) (v := ?_) (a' := ?_) #[true, true, true, true, true, true, true, true, false, false, false, false, false] rfl rfl (any_of HT_.out (by kernel_rfl)) (fun _ _ _ h => h) (Or.inl ⟨by rfl, ?_⟩) ?_ ?_
                 rotate_left
                 ·intro w'
                  go_simp
                  with_reducible rfl
                 rotate_left
                 ·simp only [Act.put, List.setIfInBounds_toArray, List.set_cons_zero, List.set_cons_succ, i64_w, i32_w]
                  rfl
                 refine pure_ (i := 8) (N := some 143) (v := ?_) (a' := ?_) #[true, true, true, true, true, true, true, true, true, false, false, false, false] rfl rfl (any_of HT_.out (by kernel_rfl)) (fun _ _ _ h => h) (Or.inl ⟨by rfl, ?_⟩) ?_ ?_
                 rotate_left
                 ·intro w'
                  go_simp
                  with_reducible rfl
                 rotate_left
                 ·simp only [Act.put, List.setIfInBounds_toArray, List.set_cons_zero, List.set_cons_succ, i64_w, i32_w]
                  rfl
                 refine take_ (i := 10) (N := some 145) (v := ?_) (a' := ?_) #[true, true, true, true, true, true, true, true, true, false, true, false, false] rfl rfl (take_ofW HT_.out HW_.out (by kernel_rfl)) (fun _ _ _ h => h) (Or.inl ⟨by rfl, ?_⟩) hHeld ?_ ?_
                 rotate_left
                 ·rintro w' ⟨s0, s1⟩
                  go_simp
                  with_reducible rfl
                 rotate_left
                 ·simp only [Act.put, List.setIfInBounds_toArray, List.set_cons_zero, List.set_cons_succ, i64_w, i32_w]
                  rfl
                 refine one_ (i := 9) (N := some 144) #[true, true, true, true, true, true, true, true, true, true, true, false, false] rfl rfl (one_of HT_.out (by kernel_rfl)) (by decide) (fun K hK => ?_)
                 refine goes_ Tryd.func15 (by kernel_rfl) rfl #[.pointer (some ⟨g800, 0, none⟩)] (by rfl) rfl rfl (by (try simp only [List.map_toArray, List.map_cons, List.map_nil]); first | done | rfl | (simp only [List.length_drop, List.length_take]; rfl)) ?_
                 with_reducible refine (deck_Deck_Rate.calls g800 t903 t904 t905 t906 t907 t908 t909 t910 t911 t912 t913 t914 t915 t916 t917 t918 t919 t920 t921 t922 t923 t924 w _ ?side1 ?side2 A81.out).mono ?_
                 (case side1 => repeat (first | (with_reducible first | exact HI800.out | apply IsS100.alloc | apply IsS100.drewN | apply IsS100.drew | refine IsS100.far ?_ NB800_804.out _ ?_ | exact typ_of BK804 (by decide) (by decide) | refine IsS100.far ?_ NB800_808.out _ ?_ | exact typ_of BK808 (by decide) (by decide) | refine typ_set ?_ _ _ _ | refine typ_alloc ?_ _ | refine typ_drewN ?_ _ | refine typ_drew ?_) | exact HI800.out))
                 (case side2 => repeat (first | (with_reducible first | exact HB.out | apply below_alloc | apply pw_below_drewN | apply below_drew1 | refine below_set ?_ (IsS100.ge HI800.out) | refine below_set ?_ GE804.out | refine below_set ?_ GE808.out) | exact HB.out))
                 rintro e w84 ⟨rfl, hi, hb, hk⟩
                 refine ⟨_, rfl, ?_⟩
                 have n0_ := Aside0.mk (KeepBut.blk hk (g' := gb804) (o := .cells #[.int .u64 t801, .int .u64 t802] 30 (0, 0)) (by (with_reducible repeat (first | refine blk_drewN ?_ _ | refine blk_drew ?_ | refine blk_alloc ?_ _)); exact BK804.out) NB804_800.out (by simp))
                 have n1_ := Aside0.mk (KeepBut.blk hk (g' := gb808) (o := .cells #[.int .u64 t805, .int .u64 t806] 30 (0, 0)) (by (with_reducible repeat (first | refine blk_drewN ?_ _ | refine blk_drew ?_ | refine blk_alloc ?_ _)); exact BK808.out) NB808_800.out (by simp))
                 have n2_ := Aside0.mk (hb)
                 have n3_ := Aside0.mk (hi)
                 clear BK804
                 clear BK808
                 clear HB
                 clear HI800
                 have BK804 := n0_
                 have BK808 := n1_
                 have HB := n2_
                 have HI800 := n3_
                 clear n0_ n1_ n2_ n3_
                 (try clear hb)
                 (try clear hb2)
                 (try clear hk)
                 (try clear hi)
                 refine hK.out _ _ ⟨(blk_cell BK808.out 0).trans rfl, (blk_cell BK808.out 1).trans rfl⟩ (fun hHeld => ?_)
                 clear hK K
                 refine norm_ (a' := ?_) ?_ ?_
                 rotate_left
                 ·show Act.put _ (some 144) _ = _
                  simp only [Act.put, List.setIfInBounds_toArray, List.set_cons_zero, List.set_cons_succ, i64_w, i32_w]
                  rfl
                 refine pure_ (i := 11) (N := some 146) (v := ?_) (a' := ?_) #[true, true, true, true, true, true, true, true, true, true, true, true, false] rfl rfl (any_of HT_.out (by kernel_rfl)) (fun _ _ _ h => h) (Or.inl ⟨by rfl, ?_⟩) ?_ ?_
                 rotate_left
                 ·intro w'
                  go_simp
                  with_reducible rfl
                 rotate_left
                 ·simp only [Act.put, List.setIfInBounds_toArray, List.set_cons_zero, List.set_cons_succ, i64_w, i32_w]
                  rfl
                 refine pure_ (i := 12) (N := some 147) (v := ?_) (a' := ?_) #[true, true, true, true, true, true, true, true, true, true, true, true, true] rfl rfl (any_of HT_.out (by kernel_rfl)) (fun _ _ _ h => h) (Or.inl ⟨by rfl, ?_⟩) ?_ ?_
                 rotate_left
                 ·intro w'
                  go_simp
                  with_reducible rfl
                 rotate_left
                 ·simp only [Act.put, List.setIfInBounds_toArray, List.set_cons_zero, List.set_cons_succ, i64_w, i32_w]
                  rfl
                 refine done_ (done_of HT_.out (by kernel_rfl)) ?_
                 try go_wp2
                 go_meet
                 case rel => exact ⟨_, ((!(t913 == t805) || (!(t914 == t806)))), (t915), (t916), (t917), (t918), (t919), (t920), (t921), (t922), (t923), (t924), (by first | rfl | (simp; done) | (simp [*]; done)), H', ⟨by have := HJ11.out; have := HJ31.out; have := HJ56.out; first | omega | exact Nat.le_refl _⟩, ⟨by (with_reducible repeat (first | refine blk_drewN ?_ _ | refine blk_drew ?_ | refine blk_alloc ?_ _)); exact BK804.out⟩, ⟨by (with_reducible repeat (first | refine blk_drewN ?_ _ | refine blk_drew ?_ | refine blk_alloc ?_ _)); exact BK808.out⟩, ⟨by repeat (first | (with_reducible first | exact HI800.out | apply IsS100.alloc | apply IsS100.drewN | apply IsS100.drew | refine IsS100.far ?_ NB800_804.out _ ?_ | exact typ_of BK804 (by decide) (by decide) | refine IsS100.far ?_ NB800_808.out _ ?_ | exact typ_of BK808 (by decide) (by decide) | refine typ_set ?_ _ _ _ | refine typ_alloc ?_ _ | refine typ_drewN ?_ _ | refine typ_drew ?_) | exact HI800.out)⟩, ⟨by repeat (first | (with_reducible first | exact HB.out | apply below_alloc | apply pw_below_drewN | apply below_drew1 | refine below_set ?_ (IsS100.ge HI800.out) | refine below_set ?_ GE804.out | refine below_set ?_ GE808.out) | exact HB.out)⟩⟩
                ·rw [if_neg c80] at H
                 have c80b0 : (t902 == 0) = false := beq_eq_false_iff_ne.mpr c80
                 have c80b1 : (t902 != 0) = true := bne_iff_ne.mpr c80
                 (first | rw [c80b0] | (simp only [i64_w, i32_w]; rw [c80b0]) | skip)
                 have H' := Aside0.mk H
                 clear H
                 try go_wp2
                 have n0_ := Aside0.mk (blk_drew BK804.out)
                 have n1_ := Aside0.mk (blk_drew BK808.out)
                 have n2_ := Aside0.mk (IsS100.drew HI800.out)
                 have n3_ := Aside0.mk (below_drew1 HB.out)
                 clear BK804
                 clear BK808
                 clear HI800
                 clear HB
                 have BK804 := n0_
                 have BK808 := n1_
                 have HI800 := n2_
                 have HB := n3_
                 clear n0_ n1_ n2_ n3_
                 refine start_ (n := 13) (S := fun w' => True) (ds := []) #[false, false, false, false, false, false, false, false, false, false, false, false, false] (by kernel_rfl) rfl rfl trivial (fun hHeld => ?_); refine with_tabW tiklaw23_DeckRates.tab16 tiklaw23_DeckRates.bits16 (fun HT_ HW_ => ?_)
                 generalize w78.drew = w85 at BK804 BK808 HI800 HB hHeld ⊢
                 refine pure_ (i := 0) (N := some 135) (v := ?_) (a' := ?_) #[true, false, false, false, false, false, false, false, false, false, false, false, false] rfl rfl (any_of HT_.out (by kernel_rfl)) (fun _ _ _ h => h) (Or.inl ⟨by rfl, ?_⟩) ?_ ?_
                 rotate_left
                 ·intro w'
                  go_simp
                  with_reducible rfl
                 rotate_left
                 ·simp only [Act.put, List.setIfInBounds_toArray, List.set_cons_zero, List.set_cons_succ, i64_w, i32_w]
                  rfl
                 refine pure_ (i := 1) (N := some 136) (v := ?_) (a' := ?_) #[true, true, false, false, false, false, false, false, false, false, false, false, false] rfl rfl (any_of HT_.out (by kernel_rfl)) (fun _ _ _ h => h) (Or.inl ⟨by rfl, ?_⟩) ?_ ?_
                 rotate_left
                 ·intro w'
                  go_simp
                  with_reducible rfl
                 rotate_left
                 ·simp only [Act.put, List.setIfInBounds_toArray, List.set_cons_zero, List.set_cons_succ, i64_w, i32_w]
                  rfl
                 refine pure_ (i := 2) (N := some 137) (v := ?_) (a' := ?_) #[true, true, true, false, false, false, false, false, false, false, false, false, false] rfl rfl (any_of HT_.out (by kernel_rfl)) (fun _ _ _ h => h) (Or.inl ⟨by rfl, ?_⟩) ?_ ?_
                 rotate_left
                 ·intro w'
                  go_simp
                  with_reducible rfl
                 rotate_left
                 ·simp only [Act.put, List.setIfInBounds_toArray, List.set_cons_zero, List.set_cons_succ, i64_w, i32_w]
                  rfl
                 refine pure_ (i := 3) (N := some 138) (v := ?_) (a' := ?_) #[true, true, true, true, false, false, false, false, false, false, false, false, false] rfl rfl (any_of HT_.out (by kernel_rfl)) (fun _ _ _ h => h) (Or.inl ⟨by rfl, ?_⟩) ?_ ?_
                 rotate_left
                 ·intro w'
                  go_simp
                  with_reducible rfl
                 rotate_left
                 ·simp only [Act.put, List.setIfInBounds_toArray, List.set_cons_zero, List.set_cons_succ, i64_w, i32_w]
                  rfl
                 refine pure_ (i := 4) (N := some 139) (v := ?_) (a' := ?_) #[true, true, true, true, true, false, false, false, false, false, false, false, false] rfl rfl (any_of HT_.out (by kernel_rfl)) (fun _ _ _ h => h) (Or.inl ⟨by rfl, ?_⟩) ?_ ?_
                 rotate_left
                 ·intro w'
                  go_simp
                  with_reducible rfl
                 rotate_left
                 ·simp only [Act.put, List.setIfInBounds_toArray, List.set_cons_zero, List.set_cons_succ, i64_w, i32_w]
                  rfl
                 refine one_ (i := 5) (N := some 140) #[true, true, true, true, true, true, false, false, false, false, false, false, false] rfl rfl (one_of HT_.out (by kernel_rfl)) (by decide) (fun K hK => ?_)
                 refine goes_ Tryd.func21 (by kernel_rfl) rfl #[.pointer (some ⟨g800, 0, none⟩), .int .u64 (IntKind.u64.wrap (a0 + a3)), .float .f64 a5] (by rfl) rfl rfl (by (try simp only [List.map_toArray, List.map_cons, List.map_nil]); first | done | rfl | (simp only [List.length_drop, List.length_take]; rfl)) ?_
                 with_reducible refine (deck_Deck_Speed.calls kj56 g800 t891 t892 t893 t894 t895 t896 t897 t898 t899 t900 (IntKind.u64.wrap (a0 + a3)) a5 t902 t903 t904 t905 t906 t907 t908 t909 t910 t911 t912 w _ ?side1 ?side2 ?side3 A79.out).mono ?_
                 (case side1 => repeat (first | (with_reducible first | exact HI800.out | apply IsS100.alloc | apply IsS100.drewN | apply IsS100.drew | refine IsS100.far ?_ NB800_804.out _ ?_ | exact typ_of BK804 (by decide) (by decide) | refine IsS100.far ?_ NB800_808.out _ ?_ | exact typ_of BK808 (by decide) (by decide) | refine typ_set ?_ _ _ _ | refine typ_alloc ?_ _ | refine typ_drewN ?_ _ | refine typ_drew ?_) | exact HI800.out))
                 (case side2 => repeat (first | (with_reducible first | exact HB.out | apply below_alloc | apply pw_below_drewN | apply below_drew1 | refine below_set ?_ (IsS100.ge HI800.out) | refine below_set ?_ GE804.out | refine below_set ?_ GE808.out) | exact HB.out))
                 (case side3 => first | (with_reducible exact HT.out) | exact tabAt HT.out (by repeat (first | (with_reducible first | exact HB.out | apply below_alloc | apply pw_below_drewN | apply below_drew1 | refine below_set ?_ (IsS100.ge HI800.out) | refine below_set ?_ GE804.out | refine below_set ?_ GE808.out) | exact HB.out)))
                 rintro e w86 ⟨rfl, hi, hb, hk⟩
                 refine ⟨_, rfl, ?_⟩
                 have n0_ := Aside0.mk (KeepBut.blk hk (g' := gb804) (o := .cells #[.int .u64 t801, .int .u64 t802] 30 (0, 0)) (by (with_reducible repeat (first | refine blk_drewN ?_ _ | refine blk_drew ?_ | refine blk_alloc ?_ _)); exact BK804.out) NB804_800.out (by simp))
                 have n1_ := Aside0.mk (KeepBut.blk hk (g' := gb808) (o := .cells #[.int .u64 t805, .int .u64 t806] 30 (0, 0)) (by (with_reducible repeat (first | refine blk_drewN ?_ _ | refine blk_drew ?_ | refine blk_alloc ?_ _)); exact BK808.out) NB808_800.out (by simp))
                 have n2_ := Aside0.mk (hb)
                 have n3_ := Aside0.mk (hi)
                 clear BK804
                 clear BK808
                 clear HB
                 clear HI800
                 have BK804 := n0_
                 have BK808 := n1_
                 have HB := n2_
                 have HI800 := n3_
                 clear n0_ n1_ n2_ n3_
                 (try clear hb)
                 (try clear hb2)
                 (try clear hk)
                 (try clear hi)
                 refine hK.out _ _ trivial (fun hHeld => ?_)
                 clear hK K
                 refine norm_ (a' := ?_) ?_ ?_
                 rotate_left
                 ·show Act.put _ (some 140) _ = _
                  simp only [Act.put, List.setIfInBounds_toArray, List.set_cons_zero, List.set_cons_succ, i64_w, i32_w]
                  rfl
                 refine pure_ (i := 6) (N := some 141) (v := ?_) (a' := ?_) #[true, true, true, true, true, true, true, false, false, false, false, false, false] rfl rfl (any_of HT_.out (by kernel_rfl)) (fun _ _ _ h => h) (Or.inl ⟨by rfl, ?_⟩) ?_ ?_
                 rotate_left
                 ·intro w'
                  go_simp
                  with_reducible rfl
                 rotate_left
                 ·simp only [Act.put, List.setIfInBounds_toArray, List.set_cons_zero, List.set_cons_succ, i64_w, i32_w]
                  rfl
                 refine pure_ (i := 7) (N := some 142) (v := ?_) (a' := ?_) #[true, true, true, true, true, true, true, true, false, false, false, false, false] rfl rfl (any_of HT_.out (by kernel_rfl)) (fun _ _ _ h => h) (Or.inl ⟨by rfl, ?_⟩) ?_ ?_
                 rotate_left
                 ·intro w'
                  go_simp
                  with_reducible rfl
                 rotate_left
                 ·simp only [Act.put, List.setIfInBounds_toArray, List.set_cons_zero, List.set_cons_succ, i64_w, i32_w]
                  rfl
                 refine pure_ (i := 8) (N := some 143) (v := undef) (a' := ?_) #[true, true, true, true, true, true, true, true, true, false, false, false, false] rfl rfl (any_of HT_.out (by kernel_rfl)) (fun _ _ _ h => h) (Or.inr ⟨by rfl, rfl⟩) ?_ ?_
                 rotate_left
                 ·simp only [Act.put, List.setIfInBounds_toArray, List.set_cons_zero, List.set_cons_succ, i64_w, i32_w]
                  rfl
                 refine pure_ (i := 9) (N := some 144) (v := undef) (a' := ?_) #[true, true, true, true, true, true, true, true, true, true, false, false, false] rfl rfl (any_of HT_.out (by kernel_rfl)) (fun _ _ _ h => h) (Or.inr ⟨by rfl, rfl⟩) ?_ ?_
                 rotate_left
                 ·simp only [Act.put, List.setIfInBounds_toArray, List.set_cons_zero, List.set_cons_succ, i64_w, i32_w]
                  rfl
                 refine pure_ (i := 10) (N := some 145) (v := undef) (a' := ?_) #[true, true, true, true, true, true, true, true, true, true, true, false, false] rfl rfl (any_of HT_.out (by kernel_rfl)) (fun _ _ _ h => h) (Or.inr ⟨by rfl, rfl⟩) ?_ ?_
                 rotate_left
                 ·simp only [Act.put, List.setIfInBounds_toArray, List.set_cons_zero, List.set_cons_succ, i64_w, i32_w]
                  rfl
                 refine pure_ (i := 11) (N := some 146) (v := undef) (a' := ?_) #[true, true, true, true, true, true, true, true, true, true, true, true, false] rfl rfl (any_of HT_.out (by kernel_rfl)) (fun _ _ _ h => h) (Or.inr ⟨by rfl, rfl⟩) ?_ ?_
                 rotate_left
                 ·simp only [Act.put, List.setIfInBounds_toArray, List.set_cons_zero, List.set_cons_succ, i64_w, i32_w]
                  rfl
                 refine pure_ (i := 12) (N := some 147) (v := ?_) (a' := ?_) #[true, true, true, true, true, true, true, true, true, true, true, true, true] rfl rfl (any_of HT_.out (by kernel_rfl)) (fun _ _ _ h => h) (Or.inl ⟨by rfl, ?_⟩) ?_ ?_
                 rotate_left
                 ·intro w'
                  go_simp
                  with_reducible rfl
                 rotate_left
                 ·simp only [Act.put, List.setIfInBounds_toArray, List.set_cons_zero, List.set_cons_succ, i64_w, i32_w]
                  rfl
                 refine done_ (done_of HT_.out (by kernel_rfl)) ?_
                 try go_wp2
                 go_meet
                 case rel => exact ⟨_, (true), (t903), (t904), (t905), (t906), (t907), (t908), (t909), (t910), (t911), (t912), (by first | rfl | (simp; done) | (simp [*]; done)), H', ⟨by have := HJ11.out; have := HJ31.out; have := HJ56.out; first | omega | exact Nat.le_refl _⟩, ⟨by (with_reducible repeat (first | refine blk_drewN ?_ _ | refine blk_drew ?_ | refine blk_alloc ?_ _)); exact BK804.out⟩, ⟨by (with_reducible repeat (first | refine blk_drewN ?_ _ | refine blk_drew ?_ | refine blk_alloc ?_ _)); exact BK808.out⟩, ⟨by repeat (first | (with_reducible first | exact HI800.out | apply IsS100.alloc | apply IsS100.drewN | apply IsS100.drew | refine IsS100.far ?_ NB800_804.out _ ?_ | exact typ_of BK804 (by decide) (by decide) | refine IsS100.far ?_ NB800_808.out _ ?_ | exact typ_of BK808 (by decide) (by decide) | refine typ_set ?_ _ _ _ | refine typ_alloc ?_ _ | refine typ_drewN ?_ _ | refine typ_drew ?_) | exact HI800.out)⟩, ⟨by repeat (first | (with_reducible first | exact HB.out | apply below_alloc | apply pw_below_drewN | apply below_drew1 | refine below_set ?_ (IsS100.ge HI800.out) | refine below_set ?_ GE804.out | refine below_set ?_ GE808.out) | exact HB.out)⟩⟩
               case rest =>
                as_aux_lemma =>
                 clear HC77
                 try clear c1
                 try clear c2
                 try clear p2
                 try clear c3
                 try clear c5
                 try clear c6
                 try clear c7
                 try clear c8
                 try clear c12
                 try clear c15
                 try clear c18
                 try clear c21
                 try clear c23
                 try clear c24
                 try clear c25
                 try clear c26
                 try clear c34
                 try clear c34b0
                 try clear c34b1
                 try clear c36
                 try clear c36b0
                 try clear c36b1
                 try clear c54
                 try clear c58
                 try clear c59
                 try clear c63
                 try clear c63b0
                 try clear c63b1
                 try clear c66
                 try clear c66b0
                 try clear c66b1
                 try clear c71
                 try clear c73
                 try clear c73b0
                 try clear c73b1
                 try clear c80
                 try clear c80b0
                 try clear c80b1
                 try clear hcz60_0
                 try clear hcz60_1
                 try clear hfz60_0
                 try clear hfz60_1
                 try clear p2
                 obtain ⟨kq, x147_76, x801000_76, x801001_76, x801002_76, x801003_76, x801004_76, x801005_76, x801006_76, x801007_76, x801008_76, x801009_76, rfl, HA, HJ76, BK804, BK808, HI800, HB⟩ := hcut
                 cases kq with
                 | zero => exact absurd HA.out (by simp [tiklaw23_DeckRates.j3])
                 | succ kj76 =>
                  have H := HA.out
                  clear HA
                  simp only [tiklaw23_DeckRates.j3] at H
                  by_cases c87 : x147_76 = true
                  ·subst c87
                   have H1 : (some false) = some r := by rw [if_pos rfl] at H; exact H
                   clear H
                   have H := H1
                   clear H1
                   exact absurd ((Option.some.inj H).trans hr_.out) (by simp)
                  ·replace c87 := Bool.eq_false_iff.mpr c87
                   subst c87
                   have H1 : (if t802 = 0 then (none) else ((rate_Scale.f a3 (IntKind.u64.wrap (Int.tdiv (IntKind.u64.wrap (t856 * t806)) t802)) t805 t806).bind fun bt925 => ((deck_Deck_Tick.f x801000_76 x801001_76 x801002_76 x801003_76 x801004_76 x801005_76 x801006_76 x801007_76 x801008_76 x801009_76 (IntKind.u64.wrap (a0 + (IntKind.u64.wrap (2 * a3)))) 0 a1).bind fun bt928 => ((tiklaw23_first.f kj76).bind fun t938 => (if t938 = true then (if bt925.2.2 = 0 then ((deck_Deck_Pos.f bt928.1 bt928.2.1 bt928.2.2.1 bt928.2.2.2.1 bt928.2.2.2.2.1 bt928.2.2.2.2.2.1 bt928.2.2.2.2.2.2.1 bt928.2.2.2.2.2.2.2.1 bt928.2.2.2.2.2.2.2.2.1 bt928.2.2.2.2.2.2.2.2.2).bind fun bt939 => (some (bt939.1 == (mn (IntKind.u64.wrap ((IntKind.u64.wrap (a2 + t855)) + bt925.1)) a1)))) else (some false)) else (some false)))))) = some r := by rw [if_neg (show ¬ (false = true) by decide)] at H; exact H
                   clear H
                   have H := H1
                   clear H1
                   by_cases c88 : t802 = 0
                   ·rw [if_pos c88] at H
                    exact absurd H (by simp)
                   ·rw [if_neg c88] at H
                    have c88b0 : (t802 == 0) = false := beq_eq_false_iff_ne.mpr c88
                    have c88b1 : (t802 != 0) = true := bne_iff_ne.mpr c88
                    replace H := Option.bind_eq_some_iff.mp H
                    obtain ⟨⟨t925, t926, t927⟩, A890, H⟩ := H
                    replace H : ((deck_Deck_Tick.f x801000_76 x801001_76 x801002_76 x801003_76 x801004_76 x801005_76 x801006_76 x801007_76 x801008_76 x801009_76 (IntKind.u64.wrap (a0 + (IntKind.u64.wrap (2 * a3)))) 0 a1).bind fun bt928 => ((tiklaw23_first.f kj76).bind fun t938 => (if t938 = true then (if t927 = 0 then ((deck_Deck_Pos.f bt928.1 bt928.2.1 bt928.2.2.1 bt928.2.2.2.1 bt928.2.2.2.2.1 bt928.2.2.2.2.2.1 bt928.2.2.2.2.2.2.1 bt928.2.2.2.2.2.2.2.1 bt928.2.2.2.2.2.2.2.2.1 bt928.2.2.2.2.2.2.2.2.2).bind fun bt939 => (some (bt939.1 == (mn (IntKind.u64.wrap ((IntKind.u64.wrap (a2 + t855)) + t925)) a1)))) else (some false)) else (some false)))) = some r := H
                    have A89 := Aside0.mk A890
                    clear A890
                    replace H := Option.bind_eq_some_iff.mp H
                    obtain ⟨⟨t928, t929, t930, t931, t932, t933, t934, t935, t936, t937⟩, A900, H⟩ := H
                    replace H : ((tiklaw23_first.f kj76).bind fun t938 => (if t938 = true then (if t927 = 0 then ((deck_Deck_Pos.f t928 t929 t930 t931 t932 t933 t934 t935 t936 t937).bind fun bt939 => (some (bt939.1 == (mn (IntKind.u64.wrap ((IntKind.u64.wrap (a2 + t855)) + t925)) a1)))) else (some false)) else (some false))) = some r := H
                    have A90 := Aside0.mk A900
                    clear A900
                    replace H := Option.bind_eq_some_iff.mp H
                    obtain ⟨t938, A910, H⟩ := H
                    replace H : (if t938 = true then (if t927 = 0 then ((deck_Deck_Pos.f t928 t929 t930 t931 t932 t933 t934 t935 t936 t937).bind fun bt939 => (some (bt939.1 == (mn (IntKind.u64.wrap ((IntKind.u64.wrap (a2 + t855)) + t925)) a1)))) else (some false)) else (some false)) = some r := H
                    have A91 := Aside0.mk A910
                    clear A910
                    by_cases c92 : t938 = true
                    ·subst c92
                     have H1 : (if t927 = 0 then ((deck_Deck_Pos.f t928 t929 t930 t931 t932 t933 t934 t935 t936 t937).bind fun bt939 => (some (bt939.1 == (mn (IntKind.u64.wrap ((IntKind.u64.wrap (a2 + t855)) + t925)) a1)))) else (some false)) = some r := by rw [if_pos rfl] at H; exact H
                     clear H
                     have H := H1
                     clear H1
                     by_cases c93 : t927 = 0
                     ·rw [if_pos c93] at H
                      have c93b0 : (t927 == 0) = true := beq_iff_eq.mpr c93
                      have c93b1 : (t927 != 0) = false := bne_eq_false_iff_eq.mpr c93
                      clear c93
                      replace H := Option.bind_eq_some_iff.mp H
                      obtain ⟨⟨t939, t940, t941, t942, t943, t944, t945, t946, t947, t948, t949⟩, A940, H⟩ := H
                      replace H : (some (t939 == (mn (IntKind.u64.wrap ((IntKind.u64.wrap (a2 + t855)) + t925)) a1))) = some r := H
                      have A94 := Aside0.mk A940
                      clear A940
                      obtain ⟨ji95, hji95⟩ : ∃ j_ : Int, (mn (IntKind.u64.wrap ((IntKind.u64.wrap (a2 + t855)) + t925)) a1) = j_ := ⟨_, rfl⟩
                      replace H : (some (t939 == (ji95))) = some r := by first | (rw [hji95] at H; exact H) | (simp only [hji95] at H ⊢; exact H)
                      (try rw [hji95] at A89)
                      (try rw [hji95] at A90)
                      (try rw [hji95] at A91)
                      (try rw [hji95] at A94)
                      have hji95_ : (if a1 < (IntKind.u64.wrap ((IntKind.u64.wrap (a2 + t855)) + t925)) then a1 else (IntKind.u64.wrap ((IntKind.u64.wrap (a2 + t855)) + t925))) = ji95 := hji95
                      obtain rfl := Option.some.inj H
                      try go_wp2
                      have n0_ := Aside0.mk (blk_drew BK804.out)
                      have n1_ := Aside0.mk (blk_drew BK808.out)
                      have n2_ := Aside0.mk (IsS100.drew HI800.out)
                      have n3_ := Aside0.mk (below_drew1 HB.out)
                      clear BK804
                      clear BK808
                      clear HI800
                      clear HB
                      have BK804 := n0_
                      have BK808 := n1_
                      have HI800 := n2_
                      have HB := n3_
                      clear n0_ n1_ n2_ n3_
                      refine start_ (n := 17) (S := fun w' => w'.cell? ⟨gb808, 0, none⟩ = some (.int .u64 t805) ∧ w'.cell? ⟨gb808, 1, none⟩ = some (.int .u64 t806) ∧ w'.cell? ⟨gb804, 0, none⟩ = some (.int .u64 t801) ∧ w'.cell? ⟨gb804, 1, none⟩ = some (.int .u64 t802)) (ds := []) #[false, false, false, false, false, false, false, false, false, false, false, false, false, false, false, false, false] (by kernel_rfl) rfl rfl ⟨(blk_cell BK808.out 0).trans rfl, (blk_cell BK808.out 1).trans rfl, (blk_cell BK804.out 0).trans rfl, (blk_cell BK804.out 1).trans rfl⟩ (fun hHeld => ?_); refine with_tabW tiklaw23_DeckRates.tab18 tiklaw23_DeckRates.bits18 (fun HT_ HW_ => ?_)
                      generalize wc.drew = w96 at BK804 BK808 HI800 HB hHeld ⊢
                      refine pure_ (i := 0) (N := some 149) (v := ?_) (a' := ?_) #[true, false, false, false, false, false, false, false, false, false, false, false, false, false, false, false, false] rfl rfl (any_of HT_.out (by kernel_rfl)) (fun _ _ _ h => h) (Or.inl ⟨by rfl, ?_⟩) ?_ ?_
                      rotate_left
                      ·intro w'
                       go_simp
                       with_reducible rfl
                      rotate_left
                      ·simp only [Act.put, List.setIfInBounds_toArray, List.set_cons_zero, List.set_cons_succ, i64_w, i32_w]
                       rfl
                      refine pure_ (i := 1) (N := some 150) (v := ?_) (a' := ?_) #[true, true, false, false, false, false, false, false, false, false, false, false, false, false, false, false, false] rfl rfl (any_of HT_.out (by kernel_rfl)) (fun _ _ _ h => h) (Or.inl ⟨by rfl, ?_⟩) ?_ ?_
                      rotate_left
                      ·intro w'
                       go_simp
                       with_reducible rfl
                      rotate_left
                      ·simp only [Act.put, List.setIfInBounds_toArray, List.set_cons_zero, List.set_cons_succ, i64_w, i32_w]
                       rfl
                      refine pure_ (i := 2) (N := some 151) (v := ?_) (a' := ?_) #[true, true, true, false, false, false, false, false, false, false, false, false, false, false, false, false, false] rfl rfl (any_of HT_.out (by kernel_rfl)) (fun _ _ _ h => h) (Or.inl ⟨by rfl, ?_⟩) ?_ ?_
                      rotate_left
                      ·intro w'
                       go_simp
                       with_reducible rfl
                      rotate_left
                      ·simp only [Act.put, List.setIfInBounds_toArray, List.set_cons_zero, List.set_cons_succ, i64_w, i32_w]
                       rfl
                      refine pure_ (i := 5) (N := some 154) (v := ?_) (a' := ?_) #[true, true, true, false, false, true, false, false, false, false, false, false, false, false, false, false, false] rfl rfl (any_of HT_.out (by kernel_rfl)) (fun _ _ _ h => h) (Or.inl ⟨by rfl, ?_⟩) ?_ ?_
                      rotate_left
                      ·intro w'
                       go_simp
                       with_reducible rfl
                      rotate_left
                      ·simp only [Act.put, List.setIfInBounds_toArray, List.set_cons_zero, List.set_cons_succ, i64_w, i32_w]
                       rfl
                      refine take_ (i := 3) (N := some 152) (v := ?_) (a' := ?_) #[true, true, true, true, false, true, false, false, false, false, false, false, false, false, false, false, false] rfl rfl (take_ofW HT_.out HW_.out (by kernel_rfl)) (fun _ _ _ h => h) (Or.inl ⟨by rfl, ?_⟩) hHeld ?_ ?_
                      rotate_left
                      ·rintro w' ⟨s0, s1, s2, s3⟩
                       go_simp
                       with_reducible rfl
                      rotate_left
                      ·simp only [Act.put, List.setIfInBounds_toArray, List.set_cons_zero, List.set_cons_succ, i64_w, i32_w]
                       rfl
                      refine pure_ (i := 4) (N := some 153) (v := ?_) (a' := ?_) #[true, true, true, true, true, true, false, false, false, false, false, false, false, false, false, false, false] rfl rfl (any_of HT_.out (by kernel_rfl)) (fun _ _ _ h => h) (Or.inl ⟨by rfl, ?_⟩) ?_ ?_
                      rotate_left
                      ·intro w'
                       go_simp
                       with_reducible rfl
                      rotate_left
                      ·simp only [Act.put, List.setIfInBounds_toArray, List.set_cons_zero, List.set_cons_succ, i64_w, i32_w]
                       rfl
                      refine take_ (i := 6) (N := some 155) (v := ?_) (a' := ?_) #[true, true, true, true, true, true, true, false, false, false, false, false, false, false, false, false, false] rfl rfl (take_ofW HT_.out HW_.out (by kernel_rfl)) (fun _ _ _ h => h) (Or.inl ⟨by rfl, ?_⟩) hHeld ?_ ?_
                      rotate_left
                      ·rintro w' ⟨s0, s1, s2, s3⟩
                       go_simp
                       with_reducible rfl
                      rotate_left
                      ·simp only [Act.put, List.setIfInBounds_toArray, List.set_cons_zero, List.set_cons_succ, i64_w, i32_w]
                       rfl
                      refine pure_ (i := 7) (N := some 156) (v := ?_) (a' := ?_) #[true, true, true, true, true, true, true, true, false, false, false, false, false, false, false, false, false] rfl rfl (any_of HT_.out (by kernel_rfl)) (fun _ _ _ h => h) (Or.inl ⟨by rfl, ?_⟩) ?_ ?_
                      rotate_left
                      ·intro w'
                       go_simp
                       with_reducible rfl
                      rotate_left
                      ·simp only [Act.put, List.setIfInBounds_toArray, List.set_cons_zero, List.set_cons_succ, i64_w, i32_w]
                       rfl
                      refine take_ (i := 8) (N := some 157) (v := ?_) (a' := ?_) #[true, true, true, true, true, true, true, true, true, false, false, false, false, false, false, false, false] rfl rfl (take_ofW HT_.out HW_.out (by kernel_rfl)) (fun _ _ _ h => h) (Or.inl ⟨by rfl, ?_⟩) hHeld ?_ ?_
                      rotate_left
                      ·rintro w' ⟨s0, s1, s2, s3⟩
                       go_simp
                       with_reducible rfl
                      rotate_left
                      ·simp only [Act.put, List.setIfInBounds_toArray, List.set_cons_zero, List.set_cons_succ, i64_w, i32_w]
                       rfl
                      refine one_ (i := 9) (N := some 158) #[true, true, true, true, true, true, true, true, true, true, false, false, false, false, false, false, false] rfl rfl (one_of HT_.out (by kernel_rfl)) (by decide) (fun K hK => ?_)
                      refine goes_ Tryd.func26 (by kernel_rfl) rfl #[.int .u64 a3, .int .u64 (IntKind.u64.wrap (Int.tdiv (IntKind.u64.wrap (t856 * t806)) t802)), .agg #[.int .u64 t805, .int .u64 t806]] (by rfl) rfl rfl (by (try simp only [List.map_toArray, List.map_cons, List.map_nil]); first | done | rfl | (simp only [List.length_drop, List.length_take]; rfl)) ?_
                      with_reducible refine (rate_Scale.calls a3 (IntKind.u64.wrap (Int.tdiv (IntKind.u64.wrap (t856 * t806)) t802)) t805 t806 t925 t926 t927 _ A89.out).mono ?_
                      rintro e w97 ⟨rfl, hb⟩
                      refine ⟨_, rfl, ?_⟩
                      have n0_ := Aside0.mk (blk_below (g := gb804) (o := .cells #[.int .u64 t801, .int .u64 t802] 30 (0, 0)) (by (with_reducible repeat (first | refine blk_drewN ?_ _ | refine blk_drew ?_ | refine blk_alloc ?_ _)); exact BK804.out) hb)
                      have n1_ := Aside0.mk (blk_below (g := gb808) (o := .cells #[.int .u64 t805, .int .u64 t806] 30 (0, 0)) (by (with_reducible repeat (first | refine blk_drewN ?_ _ | refine blk_drew ?_ | refine blk_alloc ?_ _)); exact BK808.out) hb)
                      have n2_ := Aside0.mk (IsS100.below (by repeat (first | (with_reducible first | exact HI800.out | apply IsS100.alloc | apply IsS100.drewN | apply IsS100.drew | refine IsS100.far ?_ NB800_804.out _ ?_ | exact typ_of BK804 (by decide) (by decide) | refine IsS100.far ?_ NB800_808.out _ ?_ | exact typ_of BK808 (by decide) (by decide) | refine typ_set ?_ _ _ _ | refine typ_alloc ?_ _ | refine typ_drewN ?_ _ | refine typ_drew ?_) | exact HI800.out)) hb)
                      have n3_ := Aside0.mk (below_step (by repeat (first | (with_reducible first | exact HB.out | apply below_alloc | apply pw_below_drewN | apply below_drew1 | refine below_set ?_ (IsS100.ge HI800.out) | refine below_set ?_ GE804.out | refine below_set ?_ GE808.out) | exact HB.out)) hb)
                      clear BK804
                      clear BK808
                      clear HI800
                      clear HB
                      have BK804 := n0_
                      have BK808 := n1_
                      have HI800 := n2_
                      have HB := n3_
                      clear n0_ n1_ n2_ n3_
                      (try clear hb)
                      (try clear hb2)
                      (try clear hk)
                      (try clear hi)
                      refine hK.out _ _ ⟨(blk_cell BK808.out 0).trans rfl, (blk_cell BK808.out 1).trans rfl, (blk_cell BK804.out 0).trans rfl, (blk_cell BK804.out 1).trans rfl⟩ (fun hHeld => ?_)
                      clear hK K
                      refine norm_ (a' := ?_) ?_ ?_
                      rotate_left
                      ·show Act.put _ (some 158) _ = _
                       simp only [Act.put, List.setIfInBounds_toArray, List.set_cons_zero, List.set_cons_succ, i64_w, i32_w]
                       rfl
                      refine pure_ (i := 10) (N := some 148) (v := ?_) (a' := ?_) #[true, true, true, true, true, true, true, true, true, true, true, false, false, false, false, false, false] rfl rfl (any_of HT_.out (by kernel_rfl)) (fun _ _ _ h => h) (Or.inl ⟨by rfl, ?_⟩) ?_ ?_
                      rotate_left
                      ·intro w'
                       go_simp
                       with_reducible rfl
                      rotate_left
                      ·simp only [Act.put, List.setIfInBounds_toArray, List.set_cons_zero, List.set_cons_succ, i64_w, i32_w]
                       rfl
                      refine pure_ (i := 11) (N := some 159) (v := ?_) (a' := ?_) #[true, true, true, true, true, true, true, true, true, true, true, true, false, false, false, false, false] rfl rfl (any_of HT_.out (by kernel_rfl)) (fun _ _ _ h => h) (Or.inl ⟨by rfl, ?_⟩) ?_ ?_
                      rotate_left
                      ·intro w'
                       go_simp
                       with_reducible rfl
                      rotate_left
                      ·simp only [Act.put, List.setIfInBounds_toArray, List.set_cons_zero, List.set_cons_succ, i64_w, i32_w]
                       rfl
                      refine pure_ (i := 12) (N := some 160) (v := ?_) (a' := ?_) #[true, true, true, true, true, true, true, true, true, true, true, true, true, false, false, false, false] rfl rfl (any_of HT_.out (by kernel_rfl)) (fun _ _ _ h => h) (Or.inl ⟨by rfl, ?_⟩) ?_ ?_
                      rotate_left
                      ·intro w'
                       go_simp
                       with_reducible rfl
                      rotate_left
                      ·simp only [Act.put, List.setIfInBounds_toArray, List.set_cons_zero, List.set_cons_succ, i64_w, i32_w]
                       rfl
                      refine pure_ (i := 13) (N := some 161) (v := ?_) (a' := ?_) #[true, true, true, true, true, true, true, true, true, true, true, true, true, true, false, false, false] rfl rfl (any_of HT_.out (by kernel_rfl)) (fun _ _ _ h => h) (Or.inl ⟨by rfl, ?_⟩) ?_ ?_
                      rotate_left
                      ·intro w'
                       go_simp
                       with_reducible rfl
                      rotate_left
                      ·simp only [Act.put, List.setIfInBounds_toArray, List.set_cons_zero, List.set_cons_succ, i64_w, i32_w]
                       rfl
                      refine pure_ (i := 14) (N := some 21) (v := ?_) (a' := ?_) #[true, true, true, true, true, true, true, true, true, true, true, true, true, true, true, false, false] rfl rfl (any_of HT_.out (by kernel_rfl)) (fun _ _ _ h => h) (Or.inl ⟨by rfl, ?_⟩) ?_ ?_
                      rotate_left
                      ·intro w'
                       go_simp
                       with_reducible rfl
                      rotate_left
                      ·simp only [Act.put, List.setIfInBounds_toArray, List.set_cons_zero, List.set_cons_succ, i64_w, i32_w]
                       rfl
                      refine pure_ (i := 15) (N := some 22) (v := ?_) (a' := ?_) #[true, true, true, true, true, true, true, true, true, true, true, true, true, true, true, true, false] rfl rfl (any_of HT_.out (by kernel_rfl)) (fun _ _ _ h => h) (Or.inl ⟨by rfl, ?_⟩) ?_ ?_
                      rotate_left
                      ·intro w'
                       go_simp
                       with_reducible rfl
                      rotate_left
                      ·simp only [Act.put, List.setIfInBounds_toArray, List.set_cons_zero, List.set_cons_succ, i64_w, i32_w]
                       rfl
                      refine pure_ (i := 16) (N := some 23) (v := ?_) (a' := ?_) #[true, true, true, true, true, true, true, true, true, true, true, true, true, true, true, true, true] rfl rfl (any_of HT_.out (by kernel_rfl)) (fun _ _ _ h => h) (Or.inl ⟨by rfl, ?_⟩) ?_ ?_
                      rotate_left
                      ·intro w'
                       go_simp
                       with_reducible rfl
                      rotate_left
                      ·simp only [Act.put, List.setIfInBounds_toArray, List.set_cons_zero, List.set_cons_succ, i64_w, i32_w]
                       rfl
                      refine done_ (done_of HT_.out (by kernel_rfl)) ?_
                      try go_wp2_with (first | ((with_reducible refine gate_callee (f := 25) rfl ?_); refine goesL_ (some 168) rfl rfl Tryd.func25 (by kernel_rfl) rfl #[.pointer (some ⟨g800, 0, none⟩), .int .u64 (IntKind.u64.wrap (a0 + (IntKind.u64.wrap (2 * a3)))), .int .u64 0, .int .u64 a1] rfl (by (try simp only [List.map_toArray, List.map_cons, List.map_nil]); first | done | rfl | (simp only [List.length_drop, List.length_take]; rfl)) ?_; (with_reducible refine (deck_Deck_Tick.calls g800 x801000_76 x801001_76 x801002_76 x801003_76 x801004_76 x801005_76 x801006_76 x801007_76 x801008_76 x801009_76 (IntKind.u64.wrap (a0 + (IntKind.u64.wrap (2 * a3)))) 0 a1 t928 t929 t930 t931 t932 t933 t934 t935 t936 t937 w _ ?side1 ?side2 A90.out).mono ?_); (case side1 => repeat (first | (with_reducible first | exact HI800.out | apply IsS100.alloc | apply IsS100.drewN | apply IsS100.drew | refine IsS100.far ?_ NB800_804.out _ ?_ | exact typ_of BK804 (by decide) (by decide) | refine IsS100.far ?_ NB800_808.out _ ?_ | exact typ_of BK808 (by decide) (by decide) | refine typ_set ?_ _ _ _ | refine typ_alloc ?_ _ | refine typ_drewN ?_ _ | refine typ_drew ?_) | exact HI800.out)); (case side2 => repeat (first | (with_reducible first | exact HB.out | apply below_alloc | apply pw_below_drewN | apply below_drew1 | refine below_set ?_ (IsS100.ge HI800.out) | refine below_set ?_ GE804.out | refine below_set ?_ GE808.out) | exact HB.out)); rintro e w98 ⟨rfl, hi, hb, hk⟩; refine ⟨_, rfl, ?_⟩; have n0_ := Aside0.mk (KeepBut.blk hk (g' := gb804) (o := .cells #[.int .u64 t801, .int .u64 t802] 30 (0, 0)) (by (with_reducible repeat (first | refine blk_drewN ?_ _ | refine blk_drew ?_ | refine blk_alloc ?_ _)); exact BK804.out) NB804_800.out (by simp)); have n1_ := Aside0.mk (KeepBut.blk hk (g' := gb808) (o := .cells #[.int .u64 t805, .int .u64 t806] 30 (0, 0)) (by (with_reducible repeat (first | refine blk_drewN ?_ _ | refine blk_drew ?_ | refine blk_alloc ?_ _)); exact BK808.out) NB808_800.out (by simp)); have n2_ := Aside0.mk (hb); have n3_ := Aside0.mk (hi); clear BK804; clear BK808; clear HB; clear HI800; have BK804 := n0_; have BK808 := n1_; have HB := n2_; have HI800 := n3_; clear n0_ n1_ n2_ n3_; (try clear hb); (try clear hb2); (try clear hk); (try clear hi)) | ((with_reducible refine gate_callee (f := 12) rfl ?_); refine goesL_ (some 169) rfl rfl Tryd.func12 (by kernel_rfl) rfl #[] rfl (by (try simp only [List.map_toArray, List.map_cons, List.map_nil]); first | done | rfl | (simp only [List.length_drop, List.length_take]; rfl)) ?_; (with_reducible refine (tiklaw23_first.calls kj76  true _ ?side1 A91.out).mono ?_); (case side1 => first | (with_reducible exact HT.out) | exact tabAt HT.out (by repeat (first | (with_reducible first | exact HB.out | apply below_alloc | apply pw_below_drewN | apply below_drew1 | refine below_set ?_ (IsS100.ge HI800.out) | refine below_set ?_ GE804.out | refine below_set ?_ GE808.out) | exact HB.out))); rintro e w99 ⟨rfl, hb⟩; refine ⟨_, rfl, ?_⟩; have n0_ := Aside0.mk (blk_below (g := gb804) (o := .cells #[.int .u64 t801, .int .u64 t802] 30 (0, 0)) (by (with_reducible repeat (first | refine blk_drewN ?_ _ | refine blk_drew ?_ | refine blk_alloc ?_ _)); exact BK804.out) hb); have n1_ := Aside0.mk (blk_below (g := gb808) (o := .cells #[.int .u64 t805, .int .u64 t806] 30 (0, 0)) (by (with_reducible repeat (first | refine blk_drewN ?_ _ | refine blk_drew ?_ | refine blk_alloc ?_ _)); exact BK808.out) hb); have n2_ := Aside0.mk (IsS100.below (by repeat (first | (with_reducible first | exact HI800.out | apply IsS100.alloc | apply IsS100.drewN | apply IsS100.drew | refine IsS100.far ?_ NB800_804.out _ ?_ | exact typ_of BK804 (by decide) (by decide) | refine IsS100.far ?_ NB800_808.out _ ?_ | exact typ_of BK808 (by decide) (by decide) | refine typ_set ?_ _ _ _ | refine typ_alloc ?_ _ | refine typ_drewN ?_ _ | refine typ_drew ?_) | exact HI800.out)) hb); have n3_ := Aside0.mk (below_step (by repeat (first | (with_reducible first | exact HB.out | apply below_alloc | apply pw_below_drewN | apply below_drew1 | refine below_set ?_ (IsS100.ge HI800.out) | refine below_set ?_ GE804.out | refine below_set ?_ GE808.out) | exact HB.out)) hb); clear BK804; clear BK808; clear HI800; clear HB; have BK804 := n0_; have BK808 := n1_; have HI800 := n2_; have HB := n3_; clear n0_ n1_ n2_ n3_; (try clear hb); (try clear hb2); (try clear hk); (try clear hi)) | (go_at_call 19; (with_reducible refine (deck_Deck_Pos.calls g800 t928 t929 t930 t931 t932 t933 t934 t935 t936 t937 t939 t940 t941 t942 t943 t944 t945 t946 t947 t948 t949 w _ ?side1 ?side2 A94.out).mono ?_); (case side1 => repeat (first | (with_reducible first | exact HI800.out | apply IsS100.alloc | apply IsS100.drewN | apply IsS100.drew | refine IsS100.far ?_ NB800_804.out _ ?_ | exact typ_of BK804 (by decide) (by decide) | refine IsS100.far ?_ NB800_808.out _ ?_ | exact typ_of BK808 (by decide) (by decide) | refine typ_set ?_ _ _ _ | refine typ_alloc ?_ _ | refine typ_drewN ?_ _ | refine typ_drew ?_) | exact HI800.out)); (case side2 => repeat (first | (with_reducible first | exact HB.out | apply below_alloc | apply pw_below_drewN | apply below_drew1 | refine below_set ?_ (IsS100.ge HI800.out) | refine below_set ?_ GE804.out | refine below_set ?_ GE808.out) | exact HB.out)); rintro e w100 ⟨rfl, hi, hb, hk⟩; have n0_ := Aside0.mk (KeepBut.blk hk (g' := gb804) (o := .cells #[.int .u64 t801, .int .u64 t802] 30 (0, 0)) (by (with_reducible repeat (first | refine blk_drewN ?_ _ | refine blk_drew ?_ | refine blk_alloc ?_ _)); exact BK804.out) NB804_800.out (by simp)); have n1_ := Aside0.mk (KeepBut.blk hk (g' := gb808) (o := .cells #[.int .u64 t805, .int .u64 t806] 30 (0, 0)) (by (with_reducible repeat (first | refine blk_drewN ?_ _ | refine blk_drew ?_ | refine blk_alloc ?_ _)); exact BK808.out) NB808_800.out (by simp)); have n2_ := Aside0.mk (hb); have n3_ := Aside0.mk (hi); clear BK804; clear BK808; clear HB; clear HI800; have BK804 := n0_; have BK808 := n1_; have HB := n2_; have HI800 := n3_; clear n0_ n1_ n2_ n3_; (try clear hb); (try clear hb2); (try clear hk); (try clear hi)))
                      go_ret
                      exact ⟨by first | rfl | (simp [errW_none, errW_some] <;> rfl) | (simp only [← hji95]; first | rfl | (simp [errW_none, errW_some] <;> rfl)) | (simp [*, errW_none, errW_some] <;> rfl), by repeat (first | (with_reducible first | exact HB.out | apply below_alloc | apply pw_below_drewN | apply below_drew1 | refine below_set ?_ (IsS100.ge HI800.out) | refine below_set ?_ GE804.out | refine below_set ?_ GE808.out) | exact HB.out)⟩
                     ·rw [if_neg c93] at H
                      have c93b0 : (t927 == 0) = false := beq_eq_false_iff_ne.mpr c93
                      have c93b1 : (t927 != 0) = true := bne_iff_ne.mpr c93
                      exact absurd ((Option.some.inj H).trans hr_.out) (by simp)
                    ·replace c92 := Bool.eq_false_iff.mpr c92
                     subst c92
                     have H1 : (some false) = some r := by rw [if_neg (show ¬ (false = true) by decide)] at H; exact H
                     clear H
                     have H := H1
                     clear H1
                     exact absurd ((Option.some.inj H).trans hr_.out) (by simp)
 ·replace c8 := Bool.eq_false_iff.mpr c8
  subst c8
  have H1 : (some false) = some r := by rw [if_neg (show ¬ (false = true) by decide)] at H; exact H
  clear H
  have H := H1
  clear H1
  exact absurd ((Option.some.inj H).trans hr_.out) (by simp)
end Go.Proofs.YtlgfmmkabnbllaaDoor.PT
namespace Go.Proofs.YtlgfmmkabnbllaaDoor.Hand
open Go.RowKit Go.Proofs.YtlgfmmkabnbllaaDoorW.PrintWords Go.Proofs.YtlgfmmkabnbllaaDoorW.PrintLast Go.Proofs.YtlgfmmkabnbllaaDoorW.PrintMore Go.Proofs.YtlgfmmkabnbllaaDoor.PA Go.Proofs.YtlgfmmkabnbllaaDoor.PB Go.Proofs.YtlgfmmkabnbllaaDoor.PC Go.Proofs.YtlgfmmkabnbllaaDoor.PT
set_option linter.unusedSimpArgs false
set_option linter.unusedVariables false
theorem at_more {s P R n d m : Int} (S : Sp n d) (T : St s P R d) (m0 : 0 ≤ m) (h : P + (m * n + R) / d < 4611686018427387904) : atV s P R n d (s + m) = (P + (m * n + R) / d, (m * n + R) % d) := by
  unfold atV
  rw [show s + m - s = m by omega]
  by_cases q : m = 0
  · subst q
    rw [if_pos (by omega)]
    have e1 : (0 * n + R) / d = 0 := by rw [Int.zero_mul, Int.zero_add]; exact Int.ediv_eq_zero_of_lt T.r0 T.r1
    have e2 : (0 * n + R) % d = R := by rw [Int.zero_mul, Int.zero_add]; exact Int.emod_eq_of_lt T.r0 T.r1
    rw [e1, e2, Int.add_zero]
  · rw [if_neg (by omega), if_neg (by omega)]
theorem go_small {m n d R : Int} (S : Sp n d) (m0 : 0 ≤ m) (m1 : m ≤ 1073741824) (r0 : 0 ≤ R) (r1 : R < d) : 0 ≤ (m * n + R) / d ∧ (m * n + R) / d ≤ 1152921504607895552 := by
  have hd := S.d1
  have hd2 := S.d2
  have h0 : 0 ≤ m * n := Int.mul_nonneg m0 S.n0
  have h1 : m * n ≤ 1073741824 * 1073741824 := Int.mul_le_mul m1 S.n1 S.n0 (by omega)
  generalize m * n = M at *
  refine ⟨Int.ediv_nonneg (by omega) (by omega), ?_⟩
  have := Int.ediv_le_self (a := M + R) d (by omega)
  omega
theorem rates_j3 (K : Nat) {now hi from_ more X Y n d n2 d2 : Int} (S : Sp n d) (S2 : Sp n2 d2) (h0 : 0 ≤ now) (hn : now ≤ 1099511627776) (hh : hi ≤ 1099511627776) (m0 : 0 ≤ more) (m1 : more ≤ 1073741824) (f0 : 0 ≤ from_) (x0 : 0 ≤ X) (hX : from_ + X < hi) (y0 : 0 ≤ Y) (y1 : Y < d) :
    tiklaw23_DeckRates.j3 (K + 2) now hi from_ more X Y false 2 (from_ + X) n2 d2 true (now + more) (from_ + X) (Y * d2 / d) n2 d2 n d n2 d2 = some true := by
  have hd := S.d1
  have hd2 := S.d2
  have ed := S2.d1
  have ed2 := S2.d2
  have r := rest_in y0 y1 (d2 := d2) ed
  have p0 : 0 ≤ Y * d2 := Int.mul_nonneg y0 (by omega)
  have p1 : Y * d2 ≤ 1048576 * 1048576 := Int.mul_le_mul (by omega) ed2 (by omega) (by omega)
  have q0 : 0 ≤ Y * d2 / d := r.1
  have er : IntKind.u64.wrap (Int.tdiv (IntKind.u64.wrap (Y * d2)) d) = Y * d2 / d := by
    rw [IntWalk.u64_in _ ⟨p0, by omega⟩, Int.tdiv_eq_ediv_of_nonneg p0]
    have := Int.ediv_le_self (a := Y * d2) d p0
    exact IntWalk.u64_in _ ⟨q0, by omega⟩
  generalize Y * d2 / d = R at *
  have g := go_small (R := R) S2 m0 m1 r.1 r.2
  have T : St (now + more) (from_ + X) R d2 := ⟨by omega, by omega, by omega, by omega, r.1, r.2⟩
  have e2 : IntKind.u64.wrap (now + IntKind.u64.wrap (2 * more)) = now + more + more := by
    rw [IntWalk.u64_in (2 * more) (by omega), IntWalk.u64_in _ (by omega)]; omega
  have ht := tick_fw (p := from_ + X) (lo := 0) (hi := hi) (mayV_yes (now := now + more + more) (by omega) (by omega) (by omega)) S2 T (by omega) (by omega) (by omega)
  rw [at_more S2 T m0 (by omega)] at ht
  have es : rate_Scale.f more R n2 d2 = some ((more * n2 + R) / d2, (more * n2 + R) % d2, 0) := by
    rw [scale_f S2 ⟨m0, by omega⟩ r.1 r.2]
    unfold scaleV
    rw [if_neg (by omega)]
  rw [tiklaw23_DeckRates.j3, if_neg (by decide), if_neg (by omega), er, es, Option.bind_some, e2, ht, Option.bind_some, dfirst_true, Option.bind_some, if_pos rfl]
  dsimp only
  rw [if_pos rfl]
  generalize (more * n2 + R) / d2 = X2 at *
  rw [IntWalk.u64_in (from_ + X) (by omega), IntWalk.u64_in (from_ + X + X2) (by omega), mn_min5]
  by_cases q : from_ + X + X2 ≥ hi
  · rw [if_pos q]
    dsimp only
    rw [pos_f, Option.bind_some]
    dsimp only
    rw [show min (from_ + X + X2) hi = hi by omega, beq_self_eq_true]
  · rw [if_neg q]
    dsimp only
    rw [pos_f, Option.bind_some]
    dsimp only
    rw [show min (from_ + X + X2) hi = from_ + X + X2 by omega, beq_self_eq_true]
theorem rates_j1 (K : Nat) {now hi from_ more n d n2 d2 : Int} {y : Nat} (hy : y < 18446744073709551616) (ey : ofV y = (n2, d2, 0)) (S : Sp n d) (S2 : Sp n2 d2) (h0 : 0 ≤ now) (hn : now ≤ 1099511627776) (hh : hi ≤ 1099511627776) (m0 : 0 ≤ more) (m1 : more ≤ 1073741824) (f0 : 0 ≤ from_) (f1 : from_ ≤ hi) :
    tiklaw23_DeckRates.j1 (K + 4) now hi from_ more y false 2 from_ n d true now from_ 0 n d n d n2 d2 = some true := by
  have hd := S.d1
  have T : St now from_ 0 d := ⟨h0, by omega, f0, by omega, by omega, by omega⟩
  have g := go_small (R := 0) S m0 m1 (by omega) (by omega)
  have ht := tick_fw (p := from_) (lo := 0) (hi := hi) (mayV_yes (now := now + more) (by omega) (by omega) (by omega)) S T (by omega) (by omega) (by omega)
  rw [at_more S T m0 (by omega)] at ht
  have es : rate_Scale.f more 0 n d = some ((more * n + 0) / d, (more * n + 0) % d, 0) := by
    rw [scale_f S ⟨m0, by omega⟩ (by omega) (by omega)]
    unfold scaleV
    rw [if_neg (by omega)]
  have y0 : 0 ≤ (more * n + 0) % d := Int.emod_nonneg _ (by omega)
  have y1 : (more * n + 0) % d < d := Int.emod_lt_of_pos _ (by omega)
  rw [tiklaw23_DeckRates.j1, if_neg (by decide), es, Option.bind_some, IntWalk.u64_in (now + more) (by omega), ht, Option.bind_some]
  dsimp only
  rw [if_pos rfl]
  generalize (more * n + 0) / d = X at *
  generalize (more * n + 0) % d = Y at *
  rw [IntWalk.u64_in (from_ + X) (by omega), mn_min5]
  by_cases q : from_ + X ≥ hi
  · rw [if_pos q]
    dsimp only
    rw [pos_f, Option.bind_some]
    dsimp only
    rw [if_pos (by omega), mode_f, Option.bind_some]
    dsimp only
    rw [decide_eq_true q, show (((0 : Int) == 0) != true) = false from rfl, tiklaw23_DeckRates.j2, if_neg (by decide), mode_f, Option.bind_some]
    dsimp only
    rw [if_pos rfl, dfirst_true]; rfl
  · rw [if_neg q]
    dsimp only
    rw [pos_f, Option.bind_some]
    dsimp only
    rw [if_pos (by omega), mode_f, Option.bind_some]
    dsimp only
    have hof : rate_Of.f y = some (ofV y) := if_pos hy
    have T1 : St (now + more) (from_ + X) Y d := ⟨by omega, by omega, by omega, by omega, y0, y1⟩
    have hturn := turn_any S S2 T1 (t := now + more) (by omega) (by omega) (K + 1)
    have ea : atV (now + more) (from_ + X) Y n d (now + more) = (from_ + X, Y) := if_pos (by omega)
    rw [ea, if_neg (show ¬ now + more > now + more by omega)] at hturn
    have hs : deck_Deck_Speed.f (K + 2) 2 (from_ + X) n d true (now + more) (from_ + X) Y n d (now + more) y = some (0, 2, from_ + X, n2, d2, true, now + more, from_ + X, Y * d2 / d, n2, d2) := by
      unfold deck_Deck_Speed.f
      rw [hof, Option.bind_some, ey]
      dsimp only
      rw [if_pos rfl, if_neg (by omega), if_pos rfl, if_pos rfl, hturn]; rfl
    rw [decide_eq_false q, show (((2 : Int) == 0) != false) = false from rfl, tiklaw23_DeckRates.j2, if_neg (by decide), mode_f, Option.bind_some]
    dsimp only
    rw [if_neg (by decide), IntWalk.u64_in (now + more) (by omega), hs, Option.bind_some]
    dsimp only
    rw [if_pos rfl, drate_f, Option.bind_some]
    dsimp only
    rw [beq_self_eq_true, beq_self_eq_true, show (!true || !true) = false from rfl]
    exact rates_j3 K S S2 h0 hn hh m0 m1 f0 g.1 (by omega) y0 y1
theorem rates_any (K : Nat) {now hi from_ more : Int} {x y : Nat} (hx : x < 18446744073709551616) (hy : y < 18446744073709551616) (h0 : 0 ≤ now) (f0 : 0 ≤ from_) (m0 : 0 ≤ more) :
    tiklaw23_DeckRates.f (K + 5) now hi from_ more x y = some true := by
  have bad : ∀ s0 s1 s2 s3 s4 s5 s6 s7 s8 s9 a b c d, tiklaw23_DeckRates.j0 (K + 5) now hi from_ more x y true s0 s1 s2 s3 s4 s5 s6 s7 s8 s9 a b c d = some true := by
    intro s0 s1 s2 s3 s4 s5 s6 s7 s8 s9 a b c d
    rw [tiklaw23_DeckRates.j0, if_pos rfl, if_pos rfl, dfirst_true]; rfl
  have hox : rate_Of.f x = some (ofV x) := if_pos hx
  have hoy : rate_Of.f y = some (ofV y) := if_pos hy
  unfold tiklaw23_DeckRates.f
  rw [dfirst_true, Option.bind_some, if_pos rfl, new_f, Option.bind_some, hox, Option.bind_some, hoy, Option.bind_some, if_neg (by decide)]
  rcases of_cases x with ⟨n, d, e, S⟩ | ⟨n, d, c, e, hc⟩
  · rw [e]
    dsimp only
    rw [if_pos rfl]
    rcases of_cases y with ⟨n2, d2, e2, S2⟩ | ⟨n2, d2, c2, e2, hc2⟩
    · rw [e2]
      dsimp only
      rw [if_pos rfl]
      by_cases q1 : hi > 1099511627776
      · rw [if_pos q1, bad]
      rw [if_neg q1]
      by_cases q2 : now > 1099511627776
      · rw [if_pos q2, bad]
      rw [if_neg q2]
      by_cases q3 : more > 1073741824
      · rw [if_pos q3, bad]
      rw [if_neg q3]
      by_cases q4 : from_ > hi
      · rw [decide_eq_true q4, bad]
      have hm : mayV now 0 hi = true := mayV_yes (by omega) (by omega) (by omega)
      have hs : deck_Deck_Speed.f (K + 4) 0 0 1 1 false 0 0 0 0 0 now x = some (0, 0, 0, n, d, false, 0, 0, 0, 0, 0) := by
        unfold deck_Deck_Speed.f
        rw [hox, Option.bind_some, e]
        dsimp only
        rw [if_pos rfl, if_neg (by omega), if_neg (by decide)]
      rw [decide_eq_false q4, tiklaw23_DeckRates.j0, if_neg (by decide), hs, Option.bind_some]
      dsimp only
      rw [if_pos rfl, seek_stands hm (by omega) (by decide), Option.bind_some]
      dsimp only
      rw [if_pos rfl, play_goes (p := from_) hm S.may (by omega), Option.bind_some]
      dsimp only
      rw [if_pos rfl, drate_f, Option.bind_some]
      dsimp only
      rw [beq_self_eq_true, beq_self_eq_true, show (!true || !true) = false from rfl]
      exact rates_j1 K hy e2 S S2 h0 (by omega) (by omega) m0 (by omega) f0 (by omega)
    · rw [e2]
      dsimp only
      rw [if_neg hc2, bad]
  · rw [e]
    dsimp only
    rw [if_neg hc, bad]
end Go.Proofs.YtlgfmmkabnbllaaDoor.Hand
