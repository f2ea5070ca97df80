-- written for this claim by mp.py (this repo), with the kit's print; checked by the kernel alone
import Derived.Test.YtcfndcjbgalnpaaPUx0
namespace Go.Proofs.Ytcfndcjbgalnpaa.PU
open Go.RowKit Go.Proofs.YtcfndcjbgalnpaaW.PrintWords Go.Proofs.YtcfndcjbgalnpaaW.PrintLast Go.Proofs.YtcfndcjbgalnpaaW.PrintMore
attribute [local go_sem] max2_int min2_int max_two min_two max_three min_three max_four min_four   -- for this text's walks alone
open Go.Proofs.Ytcfndcjbgalnpaa.Hand
open Go.Proofs.Ytcfndcjbgalnpaa.PA
open Go.Proofs.Ytcfndcjbgalnpaa.PB
open Go.Proofs.Ytcfndcjbgalnpaa.PC
open Go.Proofs.Ytcfndcjbgalnpaa.PL
set_option linter.unusedVariables false
set_option linter.unusedSimpArgs false

/-! ### tiklaw22_ClockTurns: function 5 -/
mutual
def tiklaw22_ClockTurns.j0 : Nat → Int → Int → Bool → Int → Int → Int → Int → Int → Int → Int → Int → Int → Int → Int → Int → Int → Int → Option (Bool)
  | 0, _, _, _, _, _, _, _, _, _, _, _, _, _, _, _, _, _ => none
  | k + 1, x0, x2, x62, x102000, x102001, x103000, x103001, x110000, x110001, x110002, x110003, x110004, x117000, x117001, x117002, x117003, x117004 => if x62 = true then ((tiklaw22_first.f).bind fun t119 => (some t119)) else ((clock_Clock_Turn.f k x110000 x110001 x110002 x110003 x110004 (IntKind.u64.wrap (x0 + x2)) x102000 x102001).bind fun bt120 => (if bt120.1 = 0 then ((clock_Clock_Go.f bt120.2.1 bt120.2.2.1 bt120.2.2.2.1 bt120.2.2.2.2.1 bt120.2.2.2.2.2 (IntKind.u64.wrap (x0 + x2))).bind fun bt126 => ((clock_Clock_Go.f x117000 x117001 x117002 x117003 x117004 (IntKind.u64.wrap (x0 + x2))).bind fun bt132 => (if bt126.1 = bt132.1 then ((clock_Clock_Rest.f bt126.2.1 bt126.2.2.1 bt126.2.2.2.1 bt126.2.2.2.2.1 bt126.2.2.2.2.2).bind fun bt138 => ((clock_Clock_Rest.f bt132.2.1 bt132.2.2.1 bt132.2.2.2.1 bt132.2.2.2.2.1 bt132.2.2.2.2.2).bind fun bt144 => (tiklaw22_ClockTurns.j1 k x0 x2 (bt138.1 != bt144.1) x103000 x103001 bt138.2.1 bt138.2.2.1 bt138.2.2.2.1 bt138.2.2.2.2.1 bt138.2.2.2.2.2))) else (tiklaw22_ClockTurns.j1 k x0 x2 true x103000 x103001 bt126.2.1 bt126.2.2.1 bt126.2.2.2.1 bt126.2.2.2.2.1 bt126.2.2.2.2.2)))) else (tiklaw22_ClockTurns.j1 k x0 x2 true x103000 x103001 bt120.2.1 bt120.2.2.1 bt120.2.2.2.1 bt120.2.2.2.2.1 bt120.2.2.2.2.2)))
def tiklaw22_ClockTurns.j1 : Nat → Int → Int → Bool → Int → Int → Int → Int → Int → Int → Int → Option (Bool)
  | 0, _, _, _, _, _, _, _, _, _, _ => none
  | k + 1, x0, x2, x90, x103000, x103001, x110000, x110001, x110002, x110003, x110004 => if x90 = true then (some false) else ((clock_Clock_Go.f x110000 x110001 x110002 x110003 x110004 (IntKind.u64.wrap (x0 + x2))).bind fun bt150 => ((clock_Clock_Turn.f k bt150.2.1 bt150.2.2.1 bt150.2.2.2.1 bt150.2.2.2.2.1 bt150.2.2.2.2.2 (IntKind.u64.wrap (x0 + x2)) x103000 x103001).bind fun bt156 => (if bt156.1 = 0 then ((clock_Clock_Go.f bt156.2.1 bt156.2.2.1 bt156.2.2.2.1 bt156.2.2.2.2.1 bt156.2.2.2.2.2 (IntKind.u64.wrap (x0 + x2))).bind fun bt162 => (if bt162.1 = bt150.1 then ((clock_Clock_Turn.f k bt162.2.1 bt162.2.2.1 bt162.2.2.2.1 bt162.2.2.2.2.1 bt162.2.2.2.2.2 (IntKind.u64.wrap (x0 + x2)) 0 1).bind fun bt168 => (if bt168.1 = 0 then ((clock_Clock_Go.f bt168.2.1 bt168.2.2.1 bt168.2.2.2.1 bt168.2.2.2.2.1 bt168.2.2.2.2.2 (IntKind.u64.wrap (x0 + (IntKind.u64.wrap (2 * x2))))).bind fun bt174 => (tiklaw22_ClockTurns.j2 k x0 x2 bt150.1 (bt174.1 != bt150.1) bt174.2.1 bt174.2.2.1 bt174.2.2.2.1 bt174.2.2.2.2.1 bt174.2.2.2.2.2)) else (tiklaw22_ClockTurns.j2 k x0 x2 bt150.1 true bt168.2.1 bt168.2.2.1 bt168.2.2.2.1 bt168.2.2.2.2.1 bt168.2.2.2.2.2))) else (tiklaw22_ClockTurns.j2 k x0 x2 bt150.1 true bt162.2.1 bt162.2.2.1 bt162.2.2.2.1 bt162.2.2.2.2.1 bt162.2.2.2.2.2))) else (tiklaw22_ClockTurns.j2 k x0 x2 bt150.1 true bt156.2.1 bt156.2.2.1 bt156.2.2.2.1 bt156.2.2.2.2.1 bt156.2.2.2.2.2))))
def tiklaw22_ClockTurns.j2 : Nat → Int → Int → Int → Bool → Int → Int → Int → Int → Int → Option (Bool)
  | 0, _, _, _, _, _, _, _, _, _ => none
  | k + 1, x0, x2, x15, x130, x110000, x110001, x110002, x110003, x110004 => if x130 = true then (some false) else ((clock_Clock_Turn.f k x110000 x110001 x110002 x110003 x110004 (IntKind.u64.wrap (x0 + (IntKind.u64.wrap (2 * x2)))) 1 1).bind fun bt180 => (if bt180.1 = 0 then ((clock_Clock_Go.f bt180.2.1 bt180.2.2.1 bt180.2.2.2.1 bt180.2.2.2.2.1 bt180.2.2.2.2.2 (IntKind.u64.wrap (x0 + (IntKind.u64.wrap (3 * x2))))).bind fun bt186 => (tiklaw22_ClockTurns.j3 k x0 (bt186.1 != (mn (IntKind.u64.wrap (x15 + x2)) 4611686018427387904)) bt186.2.1 bt186.2.2.1 bt186.2.2.2.1 bt186.2.2.2.2.1 bt186.2.2.2.2.2)) else (tiklaw22_ClockTurns.j3 k x0 true bt180.2.1 bt180.2.2.1 bt180.2.2.2.1 bt180.2.2.2.2.1 bt180.2.2.2.2.2)))
def tiklaw22_ClockTurns.j3 : Nat → Int → Bool → Int → Int → Int → Int → Int → Option (Bool)
  | 0, _, _, _, _, _, _, _ => none
  | k + 1, x0, x151, x110000, x110001, x110002, x110003, x110004 => if x151 = true then (some false) else ((tiklaw22_first.f).bind fun t192 => (if t192 = true then ((clock_Clock_Set.f x110000 x110001 x110002 x110003 x110004 x0 5).bind fun bt193 => (if bt193.1 = 0 then ((clock_Clock_At.f bt193.2.1 bt193.2.2.1 bt193.2.2.2.1 bt193.2.2.2.2.1 bt193.2.2.2.2.2 x0).bind fun bt199 => (if bt199.1 = 5 then ((clock_Clock_Rest.f bt199.2.1 bt199.2.2.1 bt199.2.2.2.1 bt199.2.2.2.2.1 bt199.2.2.2.2.2).bind fun bt205 => (if bt205.1 = 0 then ((clock_Clock_Turn.f k bt205.2.1 bt205.2.2.1 bt205.2.2.2.1 bt205.2.2.2.2.1 bt205.2.2.2.2.2 x0 0 0).bind fun bt211 => (some (bt211.1 == 1))) else (some false))) else (some false))) else (some false))) else (some false)))
end
def tiklaw22_ClockTurns.f (k : Nat) (a0 : Int) (a1 : Int) (a2 : Int) (a3_0 : Int) (a3_1 : Int) (a4_0 : Int) (a4_1 : Int) : Option (Bool) := (tiklaw22_first.f).bind fun t103 => (if t103 = true then ((clock_New.f a0 a1 a3_0 a3_1).bind fun bt104 => ((clock_New.f a0 a1 a3_0 a3_1).bind fun bt111 => (if false = true then (tiklaw22_ClockTurns.j0 k a0 a2 true a3_0 a3_1 a4_0 a4_1 bt104.1 bt104.2.1 bt104.2.2.1 bt104.2.2.2.1 bt104.2.2.2.2.1 bt111.1 bt111.2.1 bt111.2.2.1 bt111.2.2.2.1 bt111.2.2.2.2.1) else (if bt104.2.2.2.2.2 = 0 then (if bt111.2.2.2.2.2 = 0 then ((rate_May.f a4_0 a4_1).bind fun t118 => (if t118 = true then (if a2 > 1099511627776 then (tiklaw22_ClockTurns.j0 k a0 a2 true a3_0 a3_1 a4_0 a4_1 bt104.1 bt104.2.1 bt104.2.2.1 bt104.2.2.2.1 bt104.2.2.2.2.1 bt111.1 bt111.2.1 bt111.2.2.1 bt111.2.2.2.1 bt111.2.2.2.2.1) else (if a0 > 1152921504606846976 then (tiklaw22_ClockTurns.j0 k a0 a2 true a3_0 a3_1 a4_0 a4_1 bt104.1 bt104.2.1 bt104.2.2.1 bt104.2.2.2.1 bt104.2.2.2.2.1 bt111.1 bt111.2.1 bt111.2.2.1 bt111.2.2.2.1 bt111.2.2.2.2.1) else (tiklaw22_ClockTurns.j0 k a0 a2 (decide (a1 > 1152921504606846976)) a3_0 a3_1 a4_0 a4_1 bt104.1 bt104.2.1 bt104.2.2.1 bt104.2.2.2.1 bt104.2.2.2.2.1 bt111.1 bt111.2.1 bt111.2.2.1 bt111.2.2.2.1 bt111.2.2.2.2.1))) else (tiklaw22_ClockTurns.j0 k a0 a2 true a3_0 a3_1 a4_0 a4_1 bt104.1 bt104.2.1 bt104.2.2.1 bt104.2.2.2.1 bt104.2.2.2.2.1 bt111.1 bt111.2.1 bt111.2.2.1 bt111.2.2.2.1 bt111.2.2.2.2.1))) else (tiklaw22_ClockTurns.j0 k a0 a2 true a3_0 a3_1 a4_0 a4_1 bt104.1 bt104.2.1 bt104.2.2.1 bt104.2.2.2.1 bt104.2.2.2.2.1 bt111.1 bt111.2.1 bt111.2.2.1 bt111.2.2.2.1 bt111.2.2.2.2.1)) else (tiklaw22_ClockTurns.j0 k a0 a2 true a3_0 a3_1 a4_0 a4_1 bt104.1 bt104.2.1 bt104.2.2.1 bt104.2.2.2.1 bt104.2.2.2.2.1 bt111.1 bt111.2.1 bt111.2.2.1 bt111.2.2.2.1 bt111.2.2.2.2.1))))) else (some false))
theorem tiklaw22_ClockTurns.mono_l : ∀ k, (∀ y0 y1 y2 y3 y4 y5 y6 y7 y8 y9 y10 y11 y12 y13 y14 y15 y16, LeO (tiklaw22_ClockTurns.j0 k y0 y1 y2 y3 y4 y5 y6 y7 y8 y9 y10 y11 y12 y13 y14 y15 y16) (tiklaw22_ClockTurns.j0 (k + 1) y0 y1 y2 y3 y4 y5 y6 y7 y8 y9 y10 y11 y12 y13 y14 y15 y16)) ∧ (∀ y0 y1 y2 y3 y4 y5 y6 y7 y8 y9, LeO (tiklaw22_ClockTurns.j1 k y0 y1 y2 y3 y4 y5 y6 y7 y8 y9) (tiklaw22_ClockTurns.j1 (k + 1) y0 y1 y2 y3 y4 y5 y6 y7 y8 y9)) ∧ (∀ y0 y1 y2 y3 y4 y5 y6 y7 y8, LeO (tiklaw22_ClockTurns.j2 k y0 y1 y2 y3 y4 y5 y6 y7 y8) (tiklaw22_ClockTurns.j2 (k + 1) y0 y1 y2 y3 y4 y5 y6 y7 y8)) ∧ (∀ y0 y1 y2 y3 y4 y5 y6, LeO (tiklaw22_ClockTurns.j3 k y0 y1 y2 y3 y4 y5 y6) (tiklaw22_ClockTurns.j3 (k + 1) y0 y1 y2 y3 y4 y5 y6))
  | 0 => ⟨fun _ _ _ _ _ _ _ _ _ _ _ _ _ _ _ _ _ r h => by simp [tiklaw22_ClockTurns.j0] at h, fun _ _ _ _ _ _ _ _ _ _ r h => by simp [tiklaw22_ClockTurns.j1] at h, fun _ _ _ _ _ _ _ _ _ r h => by simp [tiklaw22_ClockTurns.j2] at h, fun _ _ _ _ _ _ _ r h => by simp [tiklaw22_ClockTurns.j3] at h⟩
  | k + 1 => by
    obtain ⟨ih0, ih1, ih2, ih3⟩ := tiklaw22_ClockTurns.mono_l k
    refine ⟨?_, ?_, ?_, ?_⟩
    · intro y0 y1 y2 y3 y4 y5 y6 y7 y8 y9 y10 y11 y12 y13 y14 y15 y16
      unfold tiklaw22_ClockTurns.j0
      repeat' first
      | (with_reducible exact ih0 _ _ _ _ _ _ _ _ _ _ _ _ _ _ _ _ _)
      | (with_reducible exact ih1 _ _ _ _ _ _ _ _ _ _)
      | (with_reducible exact ih2 _ _ _ _ _ _ _ _ _)
      | (with_reducible exact ih3 _ _ _ _ _ _ _)
      | (with_reducible exact clock_Clock_Turn.mono _ _ _ _ _ _ _ _ _)
      | (with_reducible exact LeO.refl _)
      | (with_reducible exact LeO.none _)
      | (with_reducible refine LeO.ite ?_ ?_)
      | (with_reducible refine LeO.bind ?_ (fun _ => ?_))
      | exact ih0 _ _ _ _ _ _ _ _ _ _ _ _ _ _ _ _ _
      | exact ih1 _ _ _ _ _ _ _ _ _ _
      | exact ih2 _ _ _ _ _ _ _ _ _
      | exact ih3 _ _ _ _ _ _ _
      | exact clock_Clock_Turn.mono _ _ _ _ _ _ _ _ _
      | exact LeO.none _
      | refine LeO.ite ?_ ?_
      | refine LeO.bind ?_ (fun _ => ?_)
    · intro y0 y1 y2 y3 y4 y5 y6 y7 y8 y9
      unfold tiklaw22_ClockTurns.j1
      repeat' first
      | (with_reducible exact ih0 _ _ _ _ _ _ _ _ _ _ _ _ _ _ _ _ _)
      | (with_reducible exact ih1 _ _ _ _ _ _ _ _ _ _)
      | (with_reducible exact ih2 _ _ _ _ _ _ _ _ _)
      | (with_reducible exact ih3 _ _ _ _ _ _ _)
      | (with_reducible exact clock_Clock_Turn.mono _ _ _ _ _ _ _ _ _)
      | (with_reducible exact LeO.refl _)
      | (with_reducible exact LeO.none _)
      | (with_reducible refine LeO.ite ?_ ?_)
      | (with_reducible refine LeO.bind ?_ (fun _ => ?_))
      | exact ih0 _ _ _ _ _ _ _ _ _ _ _ _ _ _ _ _ _
      | exact ih1 _ _ _ _ _ _ _ _ _ _
      | exact ih2 _ _ _ _ _ _ _ _ _
      | exact ih3 _ _ _ _ _ _ _
      | exact clock_Clock_Turn.mono _ _ _ _ _ _ _ _ _
      | exact LeO.none _
      | refine LeO.ite ?_ ?_
      | refine LeO.bind ?_ (fun _ => ?_)
    · intro y0 y1 y2 y3 y4 y5 y6 y7 y8
      unfold tiklaw22_ClockTurns.j2
      repeat' first
      | (with_reducible exact ih0 _ _ _ _ _ _ _ _ _ _ _ _ _ _ _ _ _)
      | (with_reducible exact ih1 _ _ _ _ _ _ _ _ _ _)
      | (with_reducible exact ih2 _ _ _ _ _ _ _ _ _)
      | (with_reducible exact ih3 _ _ _ _ _ _ _)
      | (with_reducible exact clock_Clock_Turn.mono _ _ _ _ _ _ _ _ _)
      | (with_reducible exact LeO.refl _)
      | (with_reducible exact LeO.none _)
      | (with_reducible refine LeO.ite ?_ ?_)
      | (with_reducible refine LeO.bind ?_ (fun _ => ?_))
      | exact ih0 _ _ _ _ _ _ _ _ _ _ _ _ _ _ _ _ _
      | exact ih1 _ _ _ _ _ _ _ _ _ _
      | exact ih2 _ _ _ _ _ _ _ _ _
      | exact ih3 _ _ _ _ _ _ _
      | exact clock_Clock_Turn.mono _ _ _ _ _ _ _ _ _
      | exact LeO.none _
      | refine LeO.ite ?_ ?_
      | refine LeO.bind ?_ (fun _ => ?_)
    · intro y0 y1 y2 y3 y4 y5 y6
      unfold tiklaw22_ClockTurns.j3
      repeat' first
      | (with_reducible exact ih0 _ _ _ _ _ _ _ _ _ _ _ _ _ _ _ _ _)
      | (with_reducible exact ih1 _ _ _ _ _ _ _ _ _ _)
      | (with_reducible exact ih2 _ _ _ _ _ _ _ _ _)
      | (with_reducible exact ih3 _ _ _ _ _ _ _)
      | (with_reducible exact clock_Clock_Turn.mono _ _ _ _ _ _ _ _ _)
      | (with_reducible exact LeO.refl _)
      | (with_reducible exact LeO.none _)
      | (with_reducible refine LeO.ite ?_ ?_)
      | (with_reducible refine LeO.bind ?_ (fun _ => ?_))
      | exact ih0 _ _ _ _ _ _ _ _ _ _ _ _ _ _ _ _ _
      | exact ih1 _ _ _ _ _ _ _ _ _ _
      | exact ih2 _ _ _ _ _ _ _ _ _
      | exact ih3 _ _ _ _ _ _ _
      | exact clock_Clock_Turn.mono _ _ _ _ _ _ _ _ _
      | exact LeO.none _
      | refine LeO.ite ?_ ?_
      | refine LeO.bind ?_ (fun _ => ?_)
theorem tiklaw22_ClockTurns.mono : ∀ a0 a1 a2 a3 a4 a5 a6 k, LeO (tiklaw22_ClockTurns.f k a0 a1 a2 a3 a4 a5 a6) (tiklaw22_ClockTurns.f (k + 1) a0 a1 a2 a3 a4 a5 a6) := by
  intro a0 a1 a2 a3 a4 a5 a6 k
  obtain ⟨ih0, ih1, ih2, ih3⟩ := tiklaw22_ClockTurns.mono_l k
  unfold tiklaw22_ClockTurns.f
  repeat' first
      | (with_reducible exact ih0 _ _ _ _ _ _ _ _ _ _ _ _ _ _ _ _ _)
      | (with_reducible exact ih1 _ _ _ _ _ _ _ _ _ _)
      | (with_reducible exact ih2 _ _ _ _ _ _ _ _ _)
      | (with_reducible exact ih3 _ _ _ _ _ _ _)
      | (with_reducible exact clock_Clock_Turn.mono _ _ _ _ _ _ _ _ _)
      | (with_reducible exact LeO.refl _)
      | (with_reducible exact LeO.none _)
      | (with_reducible refine LeO.ite ?_ ?_)
      | (with_reducible refine LeO.bind ?_ (fun _ => ?_))
      | exact ih0 _ _ _ _ _ _ _ _ _ _ _ _ _ _ _ _ _
      | exact ih1 _ _ _ _ _ _ _ _ _ _
      | exact ih2 _ _ _ _ _ _ _ _ _
      | exact ih3 _ _ _ _ _ _ _
      | exact clock_Clock_Turn.mono _ _ _ _ _ _ _ _ _
      | exact LeO.none _
      | refine LeO.ite ?_ ?_
      | refine LeO.bind ?_ (fun _ => ?_)
set_option maxHeartbeats 8000000 in
set_option maxRecDepth 100000 in
theorem tiklaw22_ClockTurns.calls (k : Nat) (a0 : Int) (a1 : Int) (a2 : Int) (a3_0 : Int) (a3_1 : Int) (a4_0 : Int) (a4_1 : Int) (r : Bool) (w : World) (hr_ : Aside0 (r = true)) (h : tiklaw22_ClockTurns.f k a0 a1 a2 a3_0 a3_1 a4_0 a4_1 = some r) :
    Calls Try.prog 5 #[.int .u64 a0, .int .u64 a1, .int .u64 a2, .agg #[.int .u64 a3_0, .int .u64 a3_1], .agg #[.int .u64 a4_0, .int .u64 a4_1]] w fun e w' => e = .returned (.bool r) ∧ Below w.heap.size w w' := by
  have hu24 := Try.underlying24
  have HB := Aside0.mk (Below.refl w.heap.size w)
  have H : ((tiklaw22_first.f).bind fun t103 => (if t103 = true then ((clock_New.f a0 a1 a3_0 a3_1).bind fun bt104 => ((clock_New.f a0 a1 a3_0 a3_1).bind fun bt111 => (if false = true then (tiklaw22_ClockTurns.j0 k a0 a2 true a3_0 a3_1 a4_0 a4_1 bt104.1 bt104.2.1 bt104.2.2.1 bt104.2.2.2.1 bt104.2.2.2.2.1 bt111.1 bt111.2.1 bt111.2.2.1 bt111.2.2.2.1 bt111.2.2.2.2.1) else (if bt104.2.2.2.2.2 = 0 then (if bt111.2.2.2.2.2 = 0 then ((rate_May.f a4_0 a4_1).bind fun t118 => (if t118 = true then (if a2 > 1099511627776 then (tiklaw22_ClockTurns.j0 k a0 a2 true a3_0 a3_1 a4_0 a4_1 bt104.1 bt104.2.1 bt104.2.2.1 bt104.2.2.2.1 bt104.2.2.2.2.1 bt111.1 bt111.2.1 bt111.2.2.1 bt111.2.2.2.1 bt111.2.2.2.2.1) else (if a0 > 1152921504606846976 then (tiklaw22_ClockTurns.j0 k a0 a2 true a3_0 a3_1 a4_0 a4_1 bt104.1 bt104.2.1 bt104.2.2.1 bt104.2.2.2.1 bt104.2.2.2.2.1 bt111.1 bt111.2.1 bt111.2.2.1 bt111.2.2.2.1 bt111.2.2.2.2.1) else (tiklaw22_ClockTurns.j0 k a0 a2 (decide (a1 > 1152921504606846976)) a3_0 a3_1 a4_0 a4_1 bt104.1 bt104.2.1 bt104.2.2.1 bt104.2.2.2.1 bt104.2.2.2.2.1 bt111.1 bt111.2.1 bt111.2.2.1 bt111.2.2.2.1 bt111.2.2.2.2.1))) else (tiklaw22_ClockTurns.j0 k a0 a2 true a3_0 a3_1 a4_0 a4_1 bt104.1 bt104.2.1 bt104.2.2.1 bt104.2.2.2.1 bt104.2.2.2.2.1 bt111.1 bt111.2.1 bt111.2.2.1 bt111.2.2.2.1 bt111.2.2.2.2.1))) else (tiklaw22_ClockTurns.j0 k a0 a2 true a3_0 a3_1 a4_0 a4_1 bt104.1 bt104.2.1 bt104.2.2.1 bt104.2.2.2.1 bt104.2.2.2.2.1 bt111.1 bt111.2.1 bt111.2.2.1 bt111.2.2.2.1 bt111.2.2.2.2.1)) else (tiklaw22_ClockTurns.j0 k a0 a2 true a3_0 a3_1 a4_0 a4_1 bt104.1 bt104.2.1 bt104.2.2.1 bt104.2.2.2.1 bt104.2.2.2.2.1 bt111.1 bt111.2.1 bt111.2.2.1 bt111.2.2.2.1 bt111.2.2.2.2.1))))) else (some false))) = some r := h
  clear h
  replace H := Option.bind_eq_some_iff.mp H
  obtain ⟨t103, A60, H⟩ := H
  replace H : (if t103 = true then ((clock_New.f a0 a1 a3_0 a3_1).bind fun bt104 => ((clock_New.f a0 a1 a3_0 a3_1).bind fun bt111 => (if false = true then (tiklaw22_ClockTurns.j0 k a0 a2 true a3_0 a3_1 a4_0 a4_1 bt104.1 bt104.2.1 bt104.2.2.1 bt104.2.2.2.1 bt104.2.2.2.2.1 bt111.1 bt111.2.1 bt111.2.2.1 bt111.2.2.2.1 bt111.2.2.2.2.1) else (if bt104.2.2.2.2.2 = 0 then (if bt111.2.2.2.2.2 = 0 then ((rate_May.f a4_0 a4_1).bind fun t118 => (if t118 = true then (if a2 > 1099511627776 then (tiklaw22_ClockTurns.j0 k a0 a2 true a3_0 a3_1 a4_0 a4_1 bt104.1 bt104.2.1 bt104.2.2.1 bt104.2.2.2.1 bt104.2.2.2.2.1 bt111.1 bt111.2.1 bt111.2.2.1 bt111.2.2.2.1 bt111.2.2.2.2.1) else (if a0 > 1152921504606846976 then (tiklaw22_ClockTurns.j0 k a0 a2 true a3_0 a3_1 a4_0 a4_1 bt104.1 bt104.2.1 bt104.2.2.1 bt104.2.2.2.1 bt104.2.2.2.2.1 bt111.1 bt111.2.1 bt111.2.2.1 bt111.2.2.2.1 bt111.2.2.2.2.1) else (tiklaw22_ClockTurns.j0 k a0 a2 (decide (a1 > 1152921504606846976)) a3_0 a3_1 a4_0 a4_1 bt104.1 bt104.2.1 bt104.2.2.1 bt104.2.2.2.1 bt104.2.2.2.2.1 bt111.1 bt111.2.1 bt111.2.2.1 bt111.2.2.2.1 bt111.2.2.2.2.1))) else (tiklaw22_ClockTurns.j0 k a0 a2 true a3_0 a3_1 a4_0 a4_1 bt104.1 bt104.2.1 bt104.2.2.1 bt104.2.2.2.1 bt104.2.2.2.2.1 bt111.1 bt111.2.1 bt111.2.2.1 bt111.2.2.2.1 bt111.2.2.2.2.1))) else (tiklaw22_ClockTurns.j0 k a0 a2 true a3_0 a3_1 a4_0 a4_1 bt104.1 bt104.2.1 bt104.2.2.1 bt104.2.2.2.1 bt104.2.2.2.2.1 bt111.1 bt111.2.1 bt111.2.2.1 bt111.2.2.2.1 bt111.2.2.2.2.1)) else (tiklaw22_ClockTurns.j0 k a0 a2 true a3_0 a3_1 a4_0 a4_1 bt104.1 bt104.2.1 bt104.2.2.1 bt104.2.2.2.1 bt104.2.2.2.2.1 bt111.1 bt111.2.1 bt111.2.2.1 bt111.2.2.2.1 bt111.2.2.2.2.1))))) else (some false)) = some r := H
  have A6 := Aside0.mk A60
  clear A60
  by_cases c7 : t103 = true
  · subst c7
    have H1 : ((clock_New.f a0 a1 a3_0 a3_1).bind fun bt104 => ((clock_New.f a0 a1 a3_0 a3_1).bind fun bt111 => (if false = true then (tiklaw22_ClockTurns.j0 k a0 a2 true a3_0 a3_1 a4_0 a4_1 bt104.1 bt104.2.1 bt104.2.2.1 bt104.2.2.2.1 bt104.2.2.2.2.1 bt111.1 bt111.2.1 bt111.2.2.1 bt111.2.2.2.1 bt111.2.2.2.2.1) else (if bt104.2.2.2.2.2 = 0 then (if bt111.2.2.2.2.2 = 0 then ((rate_May.f a4_0 a4_1).bind fun t118 => (if t118 = true then (if a2 > 1099511627776 then (tiklaw22_ClockTurns.j0 k a0 a2 true a3_0 a3_1 a4_0 a4_1 bt104.1 bt104.2.1 bt104.2.2.1 bt104.2.2.2.1 bt104.2.2.2.2.1 bt111.1 bt111.2.1 bt111.2.2.1 bt111.2.2.2.1 bt111.2.2.2.2.1) else (if a0 > 1152921504606846976 then (tiklaw22_ClockTurns.j0 k a0 a2 true a3_0 a3_1 a4_0 a4_1 bt104.1 bt104.2.1 bt104.2.2.1 bt104.2.2.2.1 bt104.2.2.2.2.1 bt111.1 bt111.2.1 bt111.2.2.1 bt111.2.2.2.1 bt111.2.2.2.2.1) else (tiklaw22_ClockTurns.j0 k a0 a2 (decide (a1 > 1152921504606846976)) a3_0 a3_1 a4_0 a4_1 bt104.1 bt104.2.1 bt104.2.2.1 bt104.2.2.2.1 bt104.2.2.2.2.1 bt111.1 bt111.2.1 bt111.2.2.1 bt111.2.2.2.1 bt111.2.2.2.2.1))) else (tiklaw22_ClockTurns.j0 k a0 a2 true a3_0 a3_1 a4_0 a4_1 bt104.1 bt104.2.1 bt104.2.2.1 bt104.2.2.2.1 bt104.2.2.2.2.1 bt111.1 bt111.2.1 bt111.2.2.1 bt111.2.2.2.1 bt111.2.2.2.2.1))) else (tiklaw22_ClockTurns.j0 k a0 a2 true a3_0 a3_1 a4_0 a4_1 bt104.1 bt104.2.1 bt104.2.2.1 bt104.2.2.2.1 bt104.2.2.2.2.1 bt111.1 bt111.2.1 bt111.2.2.1 bt111.2.2.2.1 bt111.2.2.2.2.1)) else (tiklaw22_ClockTurns.j0 k a0 a2 true a3_0 a3_1 a4_0 a4_1 bt104.1 bt104.2.1 bt104.2.2.1 bt104.2.2.2.1 bt104.2.2.2.2.1 bt111.1 bt111.2.1 bt111.2.2.1 bt111.2.2.2.1 bt111.2.2.2.2.1))))) = some r := by rw [if_pos rfl] at H; exact H
    clear H
    have H := H1
    clear H1
    replace H := Option.bind_eq_some_iff.mp H
    obtain ⟨⟨t104, t105, t106, t107, t108, t110⟩, A80, H⟩ := H
    replace H : ((clock_New.f a0 a1 a3_0 a3_1).bind fun bt111 => (if false = true then (tiklaw22_ClockTurns.j0 k a0 a2 true a3_0 a3_1 a4_0 a4_1 t104 t105 t106 t107 t108 bt111.1 bt111.2.1 bt111.2.2.1 bt111.2.2.2.1 bt111.2.2.2.2.1) else (if t110 = 0 then (if bt111.2.2.2.2.2 = 0 then ((rate_May.f a4_0 a4_1).bind fun t118 => (if t118 = true then (if a2 > 1099511627776 then (tiklaw22_ClockTurns.j0 k a0 a2 true a3_0 a3_1 a4_0 a4_1 t104 t105 t106 t107 t108 bt111.1 bt111.2.1 bt111.2.2.1 bt111.2.2.2.1 bt111.2.2.2.2.1) else (if a0 > 1152921504606846976 then (tiklaw22_ClockTurns.j0 k a0 a2 true a3_0 a3_1 a4_0 a4_1 t104 t105 t106 t107 t108 bt111.1 bt111.2.1 bt111.2.2.1 bt111.2.2.2.1 bt111.2.2.2.2.1) else (tiklaw22_ClockTurns.j0 k a0 a2 (decide (a1 > 1152921504606846976)) a3_0 a3_1 a4_0 a4_1 t104 t105 t106 t107 t108 bt111.1 bt111.2.1 bt111.2.2.1 bt111.2.2.2.1 bt111.2.2.2.2.1))) else (tiklaw22_ClockTurns.j0 k a0 a2 true a3_0 a3_1 a4_0 a4_1 t104 t105 t106 t107 t108 bt111.1 bt111.2.1 bt111.2.2.1 bt111.2.2.2.1 bt111.2.2.2.2.1))) else (tiklaw22_ClockTurns.j0 k a0 a2 true a3_0 a3_1 a4_0 a4_1 t104 t105 t106 t107 t108 bt111.1 bt111.2.1 bt111.2.2.1 bt111.2.2.2.1 bt111.2.2.2.2.1)) else (tiklaw22_ClockTurns.j0 k a0 a2 true a3_0 a3_1 a4_0 a4_1 t104 t105 t106 t107 t108 bt111.1 bt111.2.1 bt111.2.2.1 bt111.2.2.2.1 bt111.2.2.2.2.1)))) = some r := H
    have A8 := Aside0.mk A80
    clear A80
    replace H := Option.bind_eq_some_iff.mp H
    obtain ⟨⟨t111, t112, t113, t114, t115, t117⟩, A90, H⟩ := H
    replace H : (if false = true then (tiklaw22_ClockTurns.j0 k a0 a2 true a3_0 a3_1 a4_0 a4_1 t104 t105 t106 t107 t108 t111 t112 t113 t114 t115) else (if t110 = 0 then (if t117 = 0 then ((rate_May.f a4_0 a4_1).bind fun t118 => (if t118 = true then (if a2 > 1099511627776 then (tiklaw22_ClockTurns.j0 k a0 a2 true a3_0 a3_1 a4_0 a4_1 t104 t105 t106 t107 t108 t111 t112 t113 t114 t115) else (if a0 > 1152921504606846976 then (tiklaw22_ClockTurns.j0 k a0 a2 true a3_0 a3_1 a4_0 a4_1 t104 t105 t106 t107 t108 t111 t112 t113 t114 t115) else (tiklaw22_ClockTurns.j0 k a0 a2 (decide (a1 > 1152921504606846976)) a3_0 a3_1 a4_0 a4_1 t104 t105 t106 t107 t108 t111 t112 t113 t114 t115))) else (tiklaw22_ClockTurns.j0 k a0 a2 true a3_0 a3_1 a4_0 a4_1 t104 t105 t106 t107 t108 t111 t112 t113 t114 t115))) else (tiklaw22_ClockTurns.j0 k a0 a2 true a3_0 a3_1 a4_0 a4_1 t104 t105 t106 t107 t108 t111 t112 t113 t114 t115)) else (tiklaw22_ClockTurns.j0 k a0 a2 true a3_0 a3_1 a4_0 a4_1 t104 t105 t106 t107 t108 t111 t112 t113 t114 t115))) = some r := H
    have A9 := Aside0.mk A90
    clear A90
    have HC10 := Aside0.mk H
    clear H
    go_enter Try.func5, Try.ntmps5
    go_upto_region 5 with (first | ((with_reducible refine gate_dst (N := 8) rfl ?_); (try (refine gate_guard (by rfl) ?_; dsimp only)); refine box_event ?hg (N := 8) ?hd (cs := #[.int .u64 a3_0, .int .u64 a3_1]) (t := 24) ?hr ?_; (case hd => rfl); (case hg => rfl); (case hr => first | (go_simp; done) | (go_simp; rfl)); intro gb101 hg w11 hbox hb; have n0_ := Aside0.mk (below_step (by repeat (first | (with_reducible first | exact HB.out | apply below_alloc | apply pw_below_drewN | apply below_drew1) | exact HB.out)) hb); have n1_ := Aside0.mk (hbox); have n2_ := Aside0.mk ((by rw [hg]; exact (below_size (by repeat (first | (with_reducible first | exact HB.out | apply below_alloc | apply pw_below_drewN | apply below_drew1) | exact HB.out))) : w.heap.size ≤ gb101)); have n3_ := Aside0.mk ((by rw [hg]; exact (below_size (by repeat (first | (with_reducible first | exact HB.out | apply below_alloc | apply pw_below_drewN | apply below_drew1) | exact HB.out))) : w.heap.size ≤ gb101)); clear HB; have HB := n0_; have BK101 := n1_; have GW101 := n2_; have GE101 := n3_; clear n0_ n1_ n2_ n3_; clear hb hbox hg) | ((with_reducible refine gate_dst (N := 9) rfl ?_); (try (refine gate_guard (by rfl) ?_; dsimp only)); refine box_event ?hg (N := 9) ?hd (cs := #[.int .u64 a4_0, .int .u64 a4_1]) (t := 24) ?hr ?_; (case hd => rfl); (case hg => rfl); (case hr => first | (go_simp; done) | (go_simp; rfl)); intro gb102 hg w12 hbox hb; have n0_ := Aside0.mk (blk_below (g := gb101) (o := .cells #[.int .u64 a3_0, .int .u64 a3_1] 24 (0, 0)) (by (with_reducible repeat (first | refine blk_drewN ?_ _ | refine blk_drew ?_ | refine blk_alloc ?_ _)); exact BK101.out) hb); have n1_ := Aside0.mk (below_step (by repeat (first | (with_reducible first | exact HB.out | apply below_alloc | apply pw_below_drewN | apply below_drew1 | refine below_set ?_ GE101.out) | exact HB.out)) hb); have n2_ := Aside0.mk (hbox); have n3_ := Aside0.mk ((by rw [hg]; exact (below_size (by repeat (first | (with_reducible first | exact HB.out | apply below_alloc | apply pw_below_drewN | apply below_drew1 | refine below_set ?_ GE101.out) | exact HB.out))) : w.heap.size ≤ gb102)); have n4_ := Aside0.mk ((by rw [hg]; exact (below_size (by repeat (first | (with_reducible first | exact HB.out | apply below_alloc | apply pw_below_drewN | apply below_drew1 | refine below_set ?_ GE101.out) | exact HB.out))) : w.heap.size ≤ gb102)); have n5_ := Aside0.mk ((by rw [hg]; exact Nat.ne_of_lt (blk_lt (g := gb101) (o := .cells #[.int .u64 a3_0, .int .u64 a3_1] 24 (0, 0)) (by (with_reducible repeat (first | refine blk_drewN ?_ _ | refine blk_drew ?_ | refine blk_alloc ?_ _)); exact BK101.out)) : gb101 ≠ gb102)); have n6_ := Aside0.mk ((by rw [hg]; exact Nat.ne_of_gt (blk_lt (g := gb101) (o := .cells #[.int .u64 a3_0, .int .u64 a3_1] 24 (0, 0)) (by (with_reducible repeat (first | refine blk_drewN ?_ _ | refine blk_drew ?_ | refine blk_alloc ?_ _)); exact BK101.out)) : gb102 ≠ gb101)); clear BK101; clear HB; have BK101 := n0_; have HB := n1_; have BK102 := n2_; have GW102 := n3_; have GE102 := n4_; have NB101_102 := n5_; have NB102_101 := n6_; clear n0_ n1_ n2_ n3_ n4_ n5_ n6_; clear hb hbox hg) | ((with_reducible refine gate_callee (f := 7) rfl ?_); refine goesL_ (some 16) rfl rfl Try.func7 (by kernel_rfl) rfl #[] rfl (by (try simp only [List.map_toArray, List.map_cons, List.map_nil]); first | done | rfl | (simp only [List.length_drop, List.length_take]; rfl)) ?_; (with_reducible refine (tiklaw22_first.calls  true _ A6.out).mono ?_); rintro e w13 ⟨rfl, hb⟩; refine ⟨_, rfl, ?_⟩; have n0_ := Aside0.mk (blk_below (g := gb101) (o := .cells #[.int .u64 a3_0, .int .u64 a3_1] 24 (0, 0)) (by (with_reducible repeat (first | refine blk_drewN ?_ _ | refine blk_drew ?_ | refine blk_alloc ?_ _)); exact BK101.out) hb); have n1_ := Aside0.mk (blk_below (g := gb102) (o := .cells #[.int .u64 a4_0, .int .u64 a4_1] 24 (0, 0)) (by (with_reducible repeat (first | refine blk_drewN ?_ _ | refine blk_drew ?_ | refine blk_alloc ?_ _)); exact BK102.out) hb); have n2_ := Aside0.mk (below_step (by repeat (first | (with_reducible first | exact HB.out | apply below_alloc | apply pw_below_drewN | apply below_drew1 | refine below_set ?_ GE101.out | refine below_set ?_ GE102.out) | exact HB.out)) hb); clear BK101; clear BK102; clear HB; have BK101 := n0_; have BK102 := n1_; have HB := n2_; clear n0_ n1_ n2_; (try clear hb); (try clear hb2); (try clear hk); (try clear hi); have hnb14 := NB101_102.out; have hnc14 := NB102_101.out; have hcz15_0 : w13.cell? ⟨gb101, 0, none⟩ = some (.int .u64 a3_0) := (blk_cell BK101.out 0).trans rfl; have hcz15_1 : w13.cell? ⟨gb101, 1, none⟩ = some (.int .u64 a3_1) := (blk_cell BK101.out 1).trans rfl; have hfz15_0 := blk_frozen BK101.out 0; have hfz15_1 := blk_frozen BK101.out 1) | ((with_reducible refine gate_callee (f := 8) rfl ?_); refine goesL_ (some 22) rfl rfl Try.func8 (by kernel_rfl) rfl #[.int .u64 a0, .int .u64 a1, .agg #[.int .u64 a3_0, .int .u64 a3_1]] rfl (by (try simp only [List.map_toArray, List.map_cons, List.map_nil]); first | done | rfl | (simp only [List.length_drop, List.length_take]; rfl)) ?_; (with_reducible refine (clock_New.calls a0 a1 a3_0 a3_1 t104 t105 t106 t107 t108 t110 w _ ?side1 A8.out).mono ?_); (case side1 => repeat (first | (with_reducible first | exact HB.out | apply below_alloc | apply pw_below_drewN | apply below_drew1 | refine below_set ?_ GE101.out | refine below_set ?_ GE102.out) | exact HB.out)); rintro e w16 ⟨g109, rfl, hi, hb, hb2, hnew⟩; refine ⟨_, rfl, ?_⟩; have n0_ := Aside0.mk (blk_below (g := gb101) (o := .cells #[.int .u64 a3_0, .int .u64 a3_1] 24 (0, 0)) (by (with_reducible repeat (first | refine blk_drewN ?_ _ | refine blk_drew ?_ | refine blk_alloc ?_ _)); exact BK101.out) hb2); have n1_ := Aside0.mk (blk_below (g := gb102) (o := .cells #[.int .u64 a4_0, .int .u64 a4_1] 24 (0, 0)) (by (with_reducible repeat (first | refine blk_drewN ?_ _ | refine blk_drew ?_ | refine blk_alloc ?_ _)); exact BK102.out) hb2); have n2_ := Aside0.mk (hb); have n3_ := Aside0.mk (hi); have n4_ := Aside0.mk (IsS55.ne_blk hi (blk_below (g := gb101) (o := .cells #[.int .u64 a3_0, .int .u64 a3_1] 24 (0, 0)) (by (with_reducible repeat (first | refine blk_drewN ?_ _ | refine blk_drew ?_ | refine blk_alloc ?_ _)); exact BK101.out) hb2) (by decide)); have n5_ := Aside0.mk (Ne.symm (IsS55.ne_blk hi (blk_below (g := gb101) (o := .cells #[.int .u64 a3_0, .int .u64 a3_1] 24 (0, 0)) (by (with_reducible repeat (first | refine blk_drewN ?_ _ | refine blk_drew ?_ | refine blk_alloc ?_ _)); exact BK101.out) hb2) (by decide))); have n6_ := Aside0.mk (IsS55.ne_blk hi (blk_below (g := gb102) (o := .cells #[.int .u64 a4_0, .int .u64 a4_1] 24 (0, 0)) (by (with_reducible repeat (first | refine blk_drewN ?_ _ | refine blk_drew ?_ | refine blk_alloc ?_ _)); exact BK102.out) hb2) (by decide)); have n7_ := Aside0.mk (Ne.symm (IsS55.ne_blk hi (blk_below (g := gb102) (o := .cells #[.int .u64 a4_0, .int .u64 a4_1] 24 (0, 0)) (by (with_reducible repeat (first | refine blk_drewN ?_ _ | refine blk_drew ?_ | refine blk_alloc ?_ _)); exact BK102.out) hb2) (by decide))); clear BK101; clear BK102; clear HB; have BK101 := n0_; have BK102 := n1_; have HB := n2_; have HI109 := n3_; have NB109_101 := n4_; have NB101_109 := n5_; have NB109_102 := n6_; have NB102_109 := n7_; clear n0_ n1_ n2_ n3_ n4_ n5_ n6_ n7_; (try clear hb); (try clear hb2); (try clear hk); (try clear hi); have hnb17 := NB101_109.out; have hnc17 := NB109_101.out; have hcz18_0 : w16.cell? ⟨gb101, 0, none⟩ = some (.int .u64 a3_0) := (blk_cell BK101.out 0).trans rfl; have hcz18_1 : w16.cell? ⟨gb101, 1, none⟩ = some (.int .u64 a3_1) := (blk_cell BK101.out 1).trans rfl; have hfz18_0 := blk_frozen BK101.out 0; have hfz18_1 := blk_frozen BK101.out 1) | ((with_reducible refine gate_callee (f := 8) rfl ?_); refine goesL_ (some 29) rfl rfl Try.func8 (by kernel_rfl) rfl #[.int .u64 a0, .int .u64 a1, .agg #[.int .u64 a3_0, .int .u64 a3_1]] rfl (by (try simp only [List.map_toArray, List.map_cons, List.map_nil]); first | done | rfl | (simp only [List.length_drop, List.length_take]; rfl)) ?_; (with_reducible refine (clock_New.calls a0 a1 a3_0 a3_1 t111 t112 t113 t114 t115 t117 w _ ?side1 A9.out).mono ?_); (case side1 => repeat (first | (with_reducible first | exact HB.out | apply below_alloc | apply pw_below_drewN | apply below_drew1 | refine below_set ?_ (IsS55.ge HI109.out) | refine below_set ?_ GE101.out | refine below_set ?_ GE102.out) | exact HB.out)); rintro e w19 ⟨g116, rfl, hi, hb, hb2, hnew⟩; refine ⟨_, rfl, ?_⟩; have n0_ := Aside0.mk ((Nat.ne_of_lt (Nat.lt_of_lt_of_le (IsS55.lt (show IsS55 w _ g109 t104 t105 t106 t107 t108 from by repeat (first | (with_reducible first | exact HI109.out | apply IsS55.alloc | apply IsS55.drewN | apply IsS55.drew | apply IsS55.set_0 | apply IsS55.set_1 | apply IsS55.set_2 | apply IsS55.set_3 | apply IsS55.set_4 | refine IsS55.far ?_ NB109_101.out _ | refine IsS55.far ?_ NB109_102.out _) | exact HI109.out))) hnew) : g109 ≠ g116)); have n1_ := Aside0.mk ((Nat.ne_of_gt (Nat.lt_of_lt_of_le (IsS55.lt (show IsS55 w _ g109 t104 t105 t106 t107 t108 from by repeat (first | (with_reducible first | exact HI109.out | apply IsS55.alloc | apply IsS55.drewN | apply IsS55.drew | apply IsS55.set_0 | apply IsS55.set_1 | apply IsS55.set_2 | apply IsS55.set_3 | apply IsS55.set_4 | refine IsS55.far ?_ NB109_101.out _ | refine IsS55.far ?_ NB109_102.out _) | exact HI109.out))) hnew) : g116 ≠ g109)); have n2_ := Aside0.mk (blk_below (g := gb101) (o := .cells #[.int .u64 a3_0, .int .u64 a3_1] 24 (0, 0)) (by (with_reducible repeat (first | refine blk_drewN ?_ _ | refine blk_drew ?_ | refine blk_alloc ?_ _)); exact BK101.out) hb2); have n3_ := Aside0.mk (blk_below (g := gb102) (o := .cells #[.int .u64 a4_0, .int .u64 a4_1] 24 (0, 0)) (by (with_reducible repeat (first | refine blk_drewN ?_ _ | refine blk_drew ?_ | refine blk_alloc ?_ _)); exact BK102.out) hb2); have n4_ := Aside0.mk (IsS55.below (by repeat (first | (with_reducible first | exact HI109.out | apply IsS55.alloc | apply IsS55.drewN | apply IsS55.drew | apply IsS55.set_0 | apply IsS55.set_1 | apply IsS55.set_2 | apply IsS55.set_3 | apply IsS55.set_4 | refine IsS55.far ?_ NB109_101.out _ | refine IsS55.far ?_ NB109_102.out _) | exact HI109.out)) hb2); have n5_ := Aside0.mk (hb); have n6_ := Aside0.mk (hi); have n7_ := Aside0.mk (IsS55.ne_blk hi (blk_below (g := gb101) (o := .cells #[.int .u64 a3_0, .int .u64 a3_1] 24 (0, 0)) (by (with_reducible repeat (first | refine blk_drewN ?_ _ | refine blk_drew ?_ | refine blk_alloc ?_ _)); exact BK101.out) hb2) (by decide)); have n8_ := Aside0.mk (Ne.symm (IsS55.ne_blk hi (blk_below (g := gb101) (o := .cells #[.int .u64 a3_0, .int .u64 a3_1] 24 (0, 0)) (by (with_reducible repeat (first | refine blk_drewN ?_ _ | refine blk_drew ?_ | refine blk_alloc ?_ _)); exact BK101.out) hb2) (by decide))); have n9_ := Aside0.mk (IsS55.ne_blk hi (blk_below (g := gb102) (o := .cells #[.int .u64 a4_0, .int .u64 a4_1] 24 (0, 0)) (by (with_reducible repeat (first | refine blk_drewN ?_ _ | refine blk_drew ?_ | refine blk_alloc ?_ _)); exact BK102.out) hb2) (by decide)); have n10_ := Aside0.mk (Ne.symm (IsS55.ne_blk hi (blk_below (g := gb102) (o := .cells #[.int .u64 a4_0, .int .u64 a4_1] 24 (0, 0)) (by (with_reducible repeat (first | refine blk_drewN ?_ _ | refine blk_drew ?_ | refine blk_alloc ?_ _)); exact BK102.out) hb2) (by decide))); clear BK101; clear BK102; clear HI109; clear HB; have NB109_116 := n0_; have NB116_109 := n1_; have BK101 := n2_; have BK102 := n3_; have HI109 := n4_; have HB := n5_; have HI116 := n6_; have NB116_101 := n7_; have NB101_116 := n8_; have NB116_102 := n9_; have NB102_116 := n10_; clear n0_ n1_ n2_ n3_ n4_ n5_ n6_ n7_ n8_ n9_ n10_; (try clear hb); (try clear hb2); (try clear hk); (try clear hi)))
    (try simp only [Act.put, List.setIfInBounds_toArray, List.set_cons_zero, List.set_cons_succ])
    go_cut [62] (fun v62 wc => ∃ (kq : Nat) (x62_9 : Bool), v62 = .bool x62_9 ∧ Aside0 (tiklaw22_ClockTurns.j0 kq a0 a2 x62_9 a3_0 a3_1 a4_0 a4_1 t104 t105 t106 t107 t108 t111 t112 t113 t114 t115 = some r) ∧ Aside0 (kq ≤ k) ∧ Aside0 (wc.heap[gb101]? = some (.cells #[.int .u64 a3_0, .int .u64 a3_1] 24 (0, 0))) ∧ Aside0 (wc.heap[gb102]? = some (.cells #[.int .u64 a4_0, .int .u64 a4_1] 24 (0, 0))) ∧ Aside0 (IsS55 w wc g109 t104 t105 t106 t107 t108) ∧ Aside0 (IsS55 w wc g116 t111 t112 t113 t114 t115) ∧ Aside0 (Below w.heap.size w wc))
    case first =>
      have H := HC10.out
      clear HC10
      have H1 : (if t110 = 0 then (if t117 = 0 then ((rate_May.f a4_0 a4_1).bind fun t118 => (if t118 = true then (if a2 > 1099511627776 then (tiklaw22_ClockTurns.j0 k a0 a2 true a3_0 a3_1 a4_0 a4_1 t104 t105 t106 t107 t108 t111 t112 t113 t114 t115) else (if a0 > 1152921504606846976 then (tiklaw22_ClockTurns.j0 k a0 a2 true a3_0 a3_1 a4_0 a4_1 t104 t105 t106 t107 t108 t111 t112 t113 t114 t115) else (tiklaw22_ClockTurns.j0 k a0 a2 (decide (a1 > 1152921504606846976)) a3_0 a3_1 a4_0 a4_1 t104 t105 t106 t107 t108 t111 t112 t113 t114 t115))) else (tiklaw22_ClockTurns.j0 k a0 a2 true a3_0 a3_1 a4_0 a4_1 t104 t105 t106 t107 t108 t111 t112 t113 t114 t115))) else (tiklaw22_ClockTurns.j0 k a0 a2 true a3_0 a3_1 a4_0 a4_1 t104 t105 t106 t107 t108 t111 t112 t113 t114 t115)) else (tiklaw22_ClockTurns.j0 k a0 a2 true a3_0 a3_1 a4_0 a4_1 t104 t105 t106 t107 t108 t111 t112 t113 t114 t115)) = some r := by rw [if_neg (show ¬ (false = true) by decide)] at H; exact H
      clear H
      have H := H1
      clear H1
      by_cases c20 : t110 = 0
      · rw [if_pos c20] at H
        have c20b0 : (t110 == 0) = true := beq_iff_eq.mpr c20
        have c20b1 : (t110 != 0) = false := bne_eq_false_iff_eq.mpr c20
        clear c20
        (first | rw [c20b0] | (simp only [i64_w, i32_w]; rw [c20b0]) | skip)
        by_cases c21 : t117 = 0
        · rw [if_pos c21] at H
          have c21b0 : (t117 == 0) = true := beq_iff_eq.mpr c21
          have c21b1 : (t117 != 0) = false := bne_eq_false_iff_eq.mpr c21
          clear c21
          replace H := Option.bind_eq_some_iff.mp H
          obtain ⟨t118, A220, H⟩ := H
          replace H : (if t118 = true then (if a2 > 1099511627776 then (tiklaw22_ClockTurns.j0 k a0 a2 true a3_0 a3_1 a4_0 a4_1 t104 t105 t106 t107 t108 t111 t112 t113 t114 t115) else (if a0 > 1152921504606846976 then (tiklaw22_ClockTurns.j0 k a0 a2 true a3_0 a3_1 a4_0 a4_1 t104 t105 t106 t107 t108 t111 t112 t113 t114 t115) else (tiklaw22_ClockTurns.j0 k a0 a2 (decide (a1 > 1152921504606846976)) a3_0 a3_1 a4_0 a4_1 t104 t105 t106 t107 t108 t111 t112 t113 t114 t115))) else (tiklaw22_ClockTurns.j0 k a0 a2 true a3_0 a3_1 a4_0 a4_1 t104 t105 t106 t107 t108 t111 t112 t113 t114 t115)) = some r := H
          have A22 := Aside0.mk A220
          clear A220
          by_cases c23 : t118 = true
          · subst c23
            have H1 : (if a2 > 1099511627776 then (tiklaw22_ClockTurns.j0 k a0 a2 true a3_0 a3_1 a4_0 a4_1 t104 t105 t106 t107 t108 t111 t112 t113 t114 t115) else (if a0 > 1152921504606846976 then (tiklaw22_ClockTurns.j0 k a0 a2 true a3_0 a3_1 a4_0 a4_1 t104 t105 t106 t107 t108 t111 t112 t113 t114 t115) else (tiklaw22_ClockTurns.j0 k a0 a2 (decide (a1 > 1152921504606846976)) a3_0 a3_1 a4_0 a4_1 t104 t105 t106 t107 t108 t111 t112 t113 t114 t115))) = some r := by rw [if_pos rfl] at H; exact H
            clear H
            have H := H1
            clear H1
            by_cases c24 : a2 > 1099511627776
            · rw [if_pos c24] at H
              have c24b0 : decide (1099511627776 < a2) = true := decide_eq_true c24
              clear c24
              have H' := Aside0.mk H
              clear H
              have hnb25 := NB102_101.out
              have hnc25 := NB101_102.out
              have hnb26 := NB102_109.out
              have hnc26 := NB109_102.out
              have hnb27 := NB102_116.out
              have hnc27 := NB116_102.out
              have hcz28_0 : w19.cell? ⟨gb102, 0, none⟩ = some (.int .u64 a4_0) := (blk_cell BK102.out 0).trans rfl
              have hcz28_1 : w19.cell? ⟨gb102, 1, none⟩ = some (.int .u64 a4_1) := (blk_cell BK102.out 1).trans rfl
              have hfz28_0 := blk_frozen BK102.out 0
              have hfz28_1 := blk_frozen BK102.out 1
              go_wp2_with (first | (go_at_call 13; (with_reducible refine (rate_May.calls a4_0 a4_1 true _ A22.out).mono ?_); rintro e w29 ⟨rfl, hb⟩; have n0_ := Aside0.mk (blk_below (g := gb101) (o := .cells #[.int .u64 a3_0, .int .u64 a3_1] 24 (0, 0)) (by (with_reducible repeat (first | refine blk_drewN ?_ _ | refine blk_drew ?_ | refine blk_alloc ?_ _)); exact BK101.out) hb); have n1_ := Aside0.mk (blk_below (g := gb102) (o := .cells #[.int .u64 a4_0, .int .u64 a4_1] 24 (0, 0)) (by (with_reducible repeat (first | refine blk_drewN ?_ _ | refine blk_drew ?_ | refine blk_alloc ?_ _)); exact BK102.out) hb); have n2_ := Aside0.mk (IsS55.below (by repeat (first | (with_reducible first | exact HI109.out | apply IsS55.alloc | apply IsS55.drewN | apply IsS55.drew | apply IsS55.set_0 | apply IsS55.set_1 | apply IsS55.set_2 | apply IsS55.set_3 | apply IsS55.set_4 | refine IsS55.far ?_ NB109_101.out _ | refine IsS55.far ?_ NB109_102.out _) | exact HI109.out)) hb); have n3_ := Aside0.mk (IsS55.below (by repeat (first | (with_reducible first | exact HI116.out | apply IsS55.alloc | apply IsS55.drewN | apply IsS55.drew | apply IsS55.set_0 | apply IsS55.set_1 | apply IsS55.set_2 | apply IsS55.set_3 | apply IsS55.set_4 | refine IsS55.far ?_ NB116_101.out _ | refine IsS55.far ?_ NB116_102.out _) | exact HI116.out)) hb); have n4_ := Aside0.mk (below_step (by repeat (first | (with_reducible first | exact HB.out | apply below_alloc | apply pw_below_drewN | apply below_drew1 | refine below_set ?_ (IsS55.ge HI109.out) | refine below_set ?_ (IsS55.ge HI116.out) | refine below_set ?_ GE101.out | refine below_set ?_ GE102.out) | exact HB.out)) hb); clear BK101; clear BK102; clear HI109; clear HI116; clear HB; have BK101 := n0_; have BK102 := n1_; have HI109 := n2_; have HI116 := n3_; have HB := n4_; clear n0_ n1_ n2_ n3_ n4_; (try clear hb); (try clear hb2); (try clear hk); (try clear hi)))
              go_meet
              case rel => exact ⟨_, (true), (by first | rfl | (simp; done) | (simp [*]; done)), H', ⟨by first | omega | exact Nat.le_refl _⟩, ⟨by (with_reducible repeat (first | refine blk_drewN ?_ _ | refine blk_drew ?_ | refine blk_alloc ?_ _)); exact BK101.out⟩, ⟨by (with_reducible repeat (first | refine blk_drewN ?_ _ | refine blk_drew ?_ | refine blk_alloc ?_ _)); exact BK102.out⟩, ⟨by repeat (first | (with_reducible first | exact HI109.out | apply IsS55.alloc | apply IsS55.drewN | apply IsS55.drew | apply IsS55.set_0 | apply IsS55.set_1 | apply IsS55.set_2 | apply IsS55.set_3 | apply IsS55.set_4 | refine IsS55.far ?_ NB109_101.out _ | refine IsS55.far ?_ NB109_102.out _) | exact HI109.out)⟩, ⟨by repeat (first | (with_reducible first | exact HI116.out | apply IsS55.alloc | apply IsS55.drewN | apply IsS55.drew | apply IsS55.set_0 | apply IsS55.set_1 | apply IsS55.set_2 | apply IsS55.set_3 | apply IsS55.set_4 | refine IsS55.far ?_ NB116_101.out _ | refine IsS55.far ?_ NB116_102.out _) | exact HI116.out)⟩, ⟨by repeat (first | (with_reducible first | exact HB.out | apply below_alloc | apply pw_below_drewN | apply below_drew1 | refine below_set ?_ (IsS55.ge HI109.out) | refine below_set ?_ (IsS55.ge HI116.out) | refine below_set ?_ GE101.out | refine below_set ?_ GE102.out) | exact HB.out)⟩⟩
            · rw [if_neg c24] at H
              have c24b0 : decide (1099511627776 < a2) = false := decide_eq_false c24
              clear c24
              by_cases c30 : a0 > 1152921504606846976
              · rw [if_pos c30] at H
                have c30b0 : decide (1152921504606846976 < a0) = true := decide_eq_true c30
                clear c30
                have H' := Aside0.mk H
                clear H
                have hnb31 := NB102_101.out
                have hnc31 := NB101_102.out
                have hnb32 := NB102_109.out
                have hnc32 := NB109_102.out
                have hnb33 := NB102_116.out
                have hnc33 := NB116_102.out
                have hcz34_0 : w19.cell? ⟨gb102, 0, none⟩ = some (.int .u64 a4_0) := (blk_cell BK102.out 0).trans rfl
                have hcz34_1 : w19.cell? ⟨gb102, 1, none⟩ = some (.int .u64 a4_1) := (blk_cell BK102.out 1).trans rfl
                have hfz34_0 := blk_frozen BK102.out 0
                have hfz34_1 := blk_frozen BK102.out 1
                go_wp2_with (first | (go_at_call 13; (with_reducible refine (rate_May.calls a4_0 a4_1 true _ A22.out).mono ?_); rintro e w35 ⟨rfl, hb⟩; have n0_ := Aside0.mk (blk_below (g := gb101) (o := .cells #[.int .u64 a3_0, .int .u64 a3_1] 24 (0, 0)) (by (with_reducible repeat (first | refine blk_drewN ?_ _ | refine blk_drew ?_ | refine blk_alloc ?_ _)); exact BK101.out) hb); have n1_ := Aside0.mk (blk_below (g := gb102) (o := .cells #[.int .u64 a4_0, .int .u64 a4_1] 24 (0, 0)) (by (with_reducible repeat (first | refine blk_drewN ?_ _ | refine blk_drew ?_ | refine blk_alloc ?_ _)); exact BK102.out) hb); have n2_ := Aside0.mk (IsS55.below (by repeat (first | (with_reducible first | exact HI109.out | apply IsS55.alloc | apply IsS55.drewN | apply IsS55.drew | apply IsS55.set_0 | apply IsS55.set_1 | apply IsS55.set_2 | apply IsS55.set_3 | apply IsS55.set_4 | refine IsS55.far ?_ NB109_101.out _ | refine IsS55.far ?_ NB109_102.out _) | exact HI109.out)) hb); have n3_ := Aside0.mk (IsS55.below (by repeat (first | (with_reducible first | exact HI116.out | apply IsS55.alloc | apply IsS55.drewN | apply IsS55.drew | apply IsS55.set_0 | apply IsS55.set_1 | apply IsS55.set_2 | apply IsS55.set_3 | apply IsS55.set_4 | refine IsS55.far ?_ NB116_101.out _ | refine IsS55.far ?_ NB116_102.out _) | exact HI116.out)) hb); have n4_ := Aside0.mk (below_step (by repeat (first | (with_reducible first | exact HB.out | apply below_alloc | apply pw_below_drewN | apply below_drew1 | refine below_set ?_ (IsS55.ge HI109.out) | refine below_set ?_ (IsS55.ge HI116.out) | refine below_set ?_ GE101.out | refine below_set ?_ GE102.out) | exact HB.out)) hb); clear BK101; clear BK102; clear HI109; clear HI116; clear HB; have BK101 := n0_; have BK102 := n1_; have HI109 := n2_; have HI116 := n3_; have HB := n4_; clear n0_ n1_ n2_ n3_ n4_; (try clear hb); (try clear hb2); (try clear hk); (try clear hi)))
                go_meet
                case rel => exact ⟨_, (true), (by first | rfl | (simp; done) | (simp [*]; done)), H', ⟨by first | omega | exact Nat.le_refl _⟩, ⟨by (with_reducible repeat (first | refine blk_drewN ?_ _ | refine blk_drew ?_ | refine blk_alloc ?_ _)); exact BK101.out⟩, ⟨by (with_reducible repeat (first | refine blk_drewN ?_ _ | refine blk_drew ?_ | refine blk_alloc ?_ _)); exact BK102.out⟩, ⟨by repeat (first | (with_reducible first | exact HI109.out | apply IsS55.alloc | apply IsS55.drewN | apply IsS55.drew | apply IsS55.set_0 | apply IsS55.set_1 | apply IsS55.set_2 | apply IsS55.set_3 | apply IsS55.set_4 | refine IsS55.far ?_ NB109_101.out _ | refine IsS55.far ?_ NB109_102.out _) | exact HI109.out)⟩, ⟨by repeat (first | (with_reducible first | exact HI116.out | apply IsS55.alloc | apply IsS55.drewN | apply IsS55.drew | apply IsS55.set_0 | apply IsS55.set_1 | apply IsS55.set_2 | apply IsS55.set_3 | apply IsS55.set_4 | refine IsS55.far ?_ NB116_101.out _ | refine IsS55.far ?_ NB116_102.out _) | exact HI116.out)⟩, ⟨by repeat (first | (with_reducible first | exact HB.out | apply below_alloc | apply pw_below_drewN | apply below_drew1 | refine below_set ?_ (IsS55.ge HI109.out) | refine below_set ?_ (IsS55.ge HI116.out) | refine below_set ?_ GE101.out | refine below_set ?_ GE102.out) | exact HB.out)⟩⟩
              · rw [if_neg c30] at H
                have c30b0 : decide (1152921504606846976 < a0) = false := decide_eq_false c30
                clear c30
                have H' := Aside0.mk H
                clear H
                have hnb36 := NB102_101.out
                have hnc36 := NB101_102.out
                have hnb37 := NB102_109.out
                have hnc37 := NB109_102.out
                have hnb38 := NB102_116.out
                have hnc38 := NB116_102.out
                have hcz39_0 : w19.cell? ⟨gb102, 0, none⟩ = some (.int .u64 a4_0) := (blk_cell BK102.out 0).trans rfl
                have hcz39_1 : w19.cell? ⟨gb102, 1, none⟩ = some (.int .u64 a4_1) := (blk_cell BK102.out 1).trans rfl
                have hfz39_0 := blk_frozen BK102.out 0
                have hfz39_1 := blk_frozen BK102.out 1
                go_wp2_with (first | (go_at_call 13; (with_reducible refine (rate_May.calls a4_0 a4_1 true _ A22.out).mono ?_); rintro e w40 ⟨rfl, hb⟩; have n0_ := Aside0.mk (blk_below (g := gb101) (o := .cells #[.int .u64 a3_0, .int .u64 a3_1] 24 (0, 0)) (by (with_reducible repeat (first | refine blk_drewN ?_ _ | refine blk_drew ?_ | refine blk_alloc ?_ _)); exact BK101.out) hb); have n1_ := Aside0.mk (blk_below (g := gb102) (o := .cells #[.int .u64 a4_0, .int .u64 a4_1] 24 (0, 0)) (by (with_reducible repeat (first | refine blk_drewN ?_ _ | refine blk_drew ?_ | refine blk_alloc ?_ _)); exact BK102.out) hb); have n2_ := Aside0.mk (IsS55.below (by repeat (first | (with_reducible first | exact HI109.out | apply IsS55.alloc | apply IsS55.drewN | apply IsS55.drew | apply IsS55.set_0 | apply IsS55.set_1 | apply IsS55.set_2 | apply IsS55.set_3 | apply IsS55.set_4 | refine IsS55.far ?_ NB109_101.out _ | refine IsS55.far ?_ NB109_102.out _) | exact HI109.out)) hb); have n3_ := Aside0.mk (IsS55.below (by repeat (first | (with_reducible first | exact HI116.out | apply IsS55.alloc | apply IsS55.drewN | apply IsS55.drew | apply IsS55.set_0 | apply IsS55.set_1 | apply IsS55.set_2 | apply IsS55.set_3 | apply IsS55.set_4 | refine IsS55.far ?_ NB116_101.out _ | refine IsS55.far ?_ NB116_102.out _) | exact HI116.out)) hb); have n4_ := Aside0.mk (below_step (by repeat (first | (with_reducible first | exact HB.out | apply below_alloc | apply pw_below_drewN | apply below_drew1 | refine below_set ?_ (IsS55.ge HI109.out) | refine below_set ?_ (IsS55.ge HI116.out) | refine below_set ?_ GE101.out | refine below_set ?_ GE102.out) | exact HB.out)) hb); clear BK101; clear BK102; clear HI109; clear HI116; clear HB; have BK101 := n0_; have BK102 := n1_; have HI109 := n2_; have HI116 := n3_; have HB := n4_; clear n0_ n1_ n2_ n3_ n4_; (try clear hb); (try clear hb2); (try clear hk); (try clear hi)))
                go_meet
                case rel => exact ⟨_, (decide (a1 > 1152921504606846976)), (by first | rfl | (simp; done) | (simp [*]; done)), H', ⟨by first | omega | exact Nat.le_refl _⟩, ⟨by (with_reducible repeat (first | refine blk_drewN ?_ _ | refine blk_drew ?_ | refine blk_alloc ?_ _)); exact BK101.out⟩, ⟨by (with_reducible repeat (first | refine blk_drewN ?_ _ | refine blk_drew ?_ | refine blk_alloc ?_ _)); exact BK102.out⟩, ⟨by repeat (first | (with_reducible first | exact HI109.out | apply IsS55.alloc | apply IsS55.drewN | apply IsS55.drew | apply IsS55.set_0 | apply IsS55.set_1 | apply IsS55.set_2 | apply IsS55.set_3 | apply IsS55.set_4 | refine IsS55.far ?_ NB109_101.out _ | refine IsS55.far ?_ NB109_102.out _) | exact HI109.out)⟩, ⟨by repeat (first | (with_reducible first | exact HI116.out | apply IsS55.alloc | apply IsS55.drewN | apply IsS55.drew | apply IsS55.set_0 | apply IsS55.set_1 | apply IsS55.set_2 | apply IsS55.set_3 | apply IsS55.set_4 | refine IsS55.far ?_ NB116_101.out _ | refine IsS55.far ?_ NB116_102.out _) | exact HI116.out)⟩, ⟨by repeat (first | (with_reducible first | exact HB.out | apply below_alloc | apply pw_below_drewN | apply below_drew1 | refine below_set ?_ (IsS55.ge HI109.out) | refine below_set ?_ (IsS55.ge HI116.out) | refine below_set ?_ GE101.out | refine below_set ?_ GE102.out) | exact HB.out)⟩⟩
          · replace c23 := Bool.eq_false_iff.mpr c23
            subst c23
            have H1 : (tiklaw22_ClockTurns.j0 k a0 a2 true a3_0 a3_1 a4_0 a4_1 t104 t105 t106 t107 t108 t111 t112 t113 t114 t115) = some r := by rw [if_neg (show ¬ (false = true) by decide)] at H; exact H
            clear H
            have H := H1
            clear H1
            have H' := Aside0.mk H
            clear H
            have hnb41 := NB102_101.out
            have hnc41 := NB101_102.out
            have hnb42 := NB102_109.out
            have hnc42 := NB109_102.out
            have hnb43 := NB102_116.out
            have hnc43 := NB116_102.out
            have hcz44_0 : w19.cell? ⟨gb102, 0, none⟩ = some (.int .u64 a4_0) := (blk_cell BK102.out 0).trans rfl
            have hcz44_1 : w19.cell? ⟨gb102, 1, none⟩ = some (.int .u64 a4_1) := (blk_cell BK102.out 1).trans rfl
            have hfz44_0 := blk_frozen BK102.out 0
            have hfz44_1 := blk_frozen BK102.out 1
            go_wp2_with (first | (go_at_call 13; (with_reducible refine (rate_May.calls a4_0 a4_1 false _ A22.out).mono ?_); rintro e w45 ⟨rfl, hb⟩; have n0_ := Aside0.mk (blk_below (g := gb101) (o := .cells #[.int .u64 a3_0, .int .u64 a3_1] 24 (0, 0)) (by (with_reducible repeat (first | refine blk_drewN ?_ _ | refine blk_drew ?_ | refine blk_alloc ?_ _)); exact BK101.out) hb); have n1_ := Aside0.mk (blk_below (g := gb102) (o := .cells #[.int .u64 a4_0, .int .u64 a4_1] 24 (0, 0)) (by (with_reducible repeat (first | refine blk_drewN ?_ _ | refine blk_drew ?_ | refine blk_alloc ?_ _)); exact BK102.out) hb); have n2_ := Aside0.mk (IsS55.below (by repeat (first | (with_reducible first | exact HI109.out | apply IsS55.alloc | apply IsS55.drewN | apply IsS55.drew | apply IsS55.set_0 | apply IsS55.set_1 | apply IsS55.set_2 | apply IsS55.set_3 | apply IsS55.set_4 | refine IsS55.far ?_ NB109_101.out _ | refine IsS55.far ?_ NB109_102.out _) | exact HI109.out)) hb); have n3_ := Aside0.mk (IsS55.below (by repeat (first | (with_reducible first | exact HI116.out | apply IsS55.alloc | apply IsS55.drewN | apply IsS55.drew | apply IsS55.set_0 | apply IsS55.set_1 | apply IsS55.set_2 | apply IsS55.set_3 | apply IsS55.set_4 | refine IsS55.far ?_ NB116_101.out _ | refine IsS55.far ?_ NB116_102.out _) | exact HI116.out)) hb); have n4_ := Aside0.mk (below_step (by repeat (first | (with_reducible first | exact HB.out | apply below_alloc | apply pw_below_drewN | apply below_drew1 | refine below_set ?_ (IsS55.ge HI109.out) | refine below_set ?_ (IsS55.ge HI116.out) | refine below_set ?_ GE101.out | refine below_set ?_ GE102.out) | exact HB.out)) hb); clear BK101; clear BK102; clear HI109; clear HI116; clear HB; have BK101 := n0_; have BK102 := n1_; have HI109 := n2_; have HI116 := n3_; have HB := n4_; clear n0_ n1_ n2_ n3_ n4_; (try clear hb); (try clear hb2); (try clear hk); (try clear hi)))
            go_meet
            case rel => exact ⟨_, (true), (by first | rfl | (simp; done) | (simp [*]; done)), H', ⟨by first | omega | exact Nat.le_refl _⟩, ⟨by (with_reducible repeat (first | refine blk_drewN ?_ _ | refine blk_drew ?_ | refine blk_alloc ?_ _)); exact BK101.out⟩, ⟨by (with_reducible repeat (first | refine blk_drewN ?_ _ | refine blk_drew ?_ | refine blk_alloc ?_ _)); exact BK102.out⟩, ⟨by repeat (first | (with_reducible first | exact HI109.out | apply IsS55.alloc | apply IsS55.drewN | apply IsS55.drew | apply IsS55.set_0 | apply IsS55.set_1 | apply IsS55.set_2 | apply IsS55.set_3 | apply IsS55.set_4 | refine IsS55.far ?_ NB109_101.out _ | refine IsS55.far ?_ NB109_102.out _) | exact HI109.out)⟩, ⟨by repeat (first | (with_reducible first | exact HI116.out | apply IsS55.alloc | apply IsS55.drewN | apply IsS55.drew | apply IsS55.set_0 | apply IsS55.set_1 | apply IsS55.set_2 | apply IsS55.set_3 | apply IsS55.set_4 | refine IsS55.far ?_ NB116_101.out _ | refine IsS55.far ?_ NB116_102.out _) | exact HI116.out)⟩, ⟨by repeat (first | (with_reducible first | exact HB.out | apply below_alloc | apply pw_below_drewN | apply below_drew1 | refine below_set ?_ (IsS55.ge HI109.out) | refine below_set ?_ (IsS55.ge HI116.out) | refine below_set ?_ GE101.out | refine below_set ?_ GE102.out) | exact HB.out)⟩⟩
        · rw [if_neg c21] at H
          have c21b0 : (t117 == 0) = false := beq_eq_false_iff_ne.mpr c21
          have c21b1 : (t117 != 0) = true := bne_iff_ne.mpr c21
          have H' := Aside0.mk H
          clear H
          go_wp2
          go_meet
          case rel => exact ⟨_, (true), (by first | rfl | (simp; done) | (simp [*]; done)), H', ⟨by first | omega | exact Nat.le_refl _⟩, ⟨by (with_reducible repeat (first | refine blk_drewN ?_ _ | refine blk_drew ?_ | refine blk_alloc ?_ _)); exact BK101.out⟩, ⟨by (with_reducible repeat (first | refine blk_drewN ?_ _ | refine blk_drew ?_ | refine blk_alloc ?_ _)); exact BK102.out⟩, ⟨by repeat (first | (with_reducible first | exact HI109.out | apply IsS55.alloc | apply IsS55.drewN | apply IsS55.drew | apply IsS55.set_0 | apply IsS55.set_1 | apply IsS55.set_2 | apply IsS55.set_3 | apply IsS55.set_4 | refine IsS55.far ?_ NB109_101.out _ | refine IsS55.far ?_ NB109_102.out _) | exact HI109.out)⟩, ⟨by repeat (first | (with_reducible first | exact HI116.out | apply IsS55.alloc | apply IsS55.drewN | apply IsS55.drew | apply IsS55.set_0 | apply IsS55.set_1 | apply IsS55.set_2 | apply IsS55.set_3 | apply IsS55.set_4 | refine IsS55.far ?_ NB116_101.out _ | refine IsS55.far ?_ NB116_102.out _) | exact HI116.out)⟩, ⟨by repeat (first | (with_reducible first | exact HB.out | apply below_alloc | apply pw_below_drewN | apply below_drew1 | refine below_set ?_ (IsS55.ge HI109.out) | refine below_set ?_ (IsS55.ge HI116.out) | refine below_set ?_ GE101.out | refine below_set ?_ GE102.out) | exact HB.out)⟩⟩
      · rw [if_neg c20] at H
        have c20b0 : (t110 == 0) = false := beq_eq_false_iff_ne.mpr c20
        have c20b1 : (t110 != 0) = true := bne_iff_ne.mpr c20
        (first | rw [c20b0] | (simp only [i64_w, i32_w]; rw [c20b0]) | skip)
        have H' := Aside0.mk H
        clear H
        go_wp2
        go_meet
        case rel => exact ⟨_, (true), (by first | rfl | (simp; done) | (simp [*]; done)), H', ⟨by first | omega | exact Nat.le_refl _⟩, ⟨by (with_reducible repeat (first | refine blk_drewN ?_ _ | refine blk_drew ?_ | refine blk_alloc ?_ _)); exact BK101.out⟩, ⟨by (with_reducible repeat (first | refine blk_drewN ?_ _ | refine blk_drew ?_ | refine blk_alloc ?_ _)); exact BK102.out⟩, ⟨by repeat (first | (with_reducible first | exact HI109.out | apply IsS55.alloc | apply IsS55.drewN | apply IsS55.drew | apply IsS55.set_0 | apply IsS55.set_1 | apply IsS55.set_2 | apply IsS55.set_3 | apply IsS55.set_4 | refine IsS55.far ?_ NB109_101.out _ | refine IsS55.far ?_ NB109_102.out _) | exact HI109.out)⟩, ⟨by repeat (first | (with_reducible first | exact HI116.out | apply IsS55.alloc | apply IsS55.drewN | apply IsS55.drew | apply IsS55.set_0 | apply IsS55.set_1 | apply IsS55.set_2 | apply IsS55.set_3 | apply IsS55.set_4 | refine IsS55.far ?_ NB116_101.out _ | refine IsS55.far ?_ NB116_102.out _) | exact HI116.out)⟩, ⟨by repeat (first | (with_reducible first | exact HB.out | apply below_alloc | apply pw_below_drewN | apply below_drew1 | refine below_set ?_ (IsS55.ge HI109.out) | refine below_set ?_ (IsS55.ge HI116.out) | refine below_set ?_ GE101.out | refine below_set ?_ GE102.out) | exact HB.out)⟩⟩
    case rest =>
      clear HC10
      try clear c1
      try clear c2
      try clear p2
      try clear c3
      try clear c4
      try clear c5
      try clear c7
      try clear c8
      try clear c14
      try clear c17
      try clear c20
      try clear c20b0
      try clear c20b1
      try clear c21
      try clear c21b0
      try clear c21b1
      try clear c23
      try clear c24
      try clear c24b0
      try clear c25
      try clear c26
      try clear c27
      try clear c30
      try clear c30b0
      try clear c31
      try clear c32
      try clear c33
      try clear c36
      try clear c37
      try clear c38
      try clear c41
      try clear c42
      try clear c43
      try clear hcz15_0
      try clear hcz15_1
      try clear hcz18_0
      try clear hcz18_1
      try clear hcz28_0
      try clear hcz28_1
      try clear hcz34_0
      try clear hcz34_1
      try clear hcz39_0
      try clear hcz39_1
      try clear hcz44_0
      try clear hcz44_1
      try clear hfz15_0
      try clear hfz15_1
      try clear hfz18_0
      try clear hfz18_1
      try clear hfz28_0
      try clear hfz28_1
      try clear hfz34_0
      try clear hfz34_1
      try clear hfz39_0
      try clear hfz39_1
      try clear hfz44_0
      try clear hfz44_1
      obtain ⟨kq, x62_9, rfl, HA, HJ9, BK101, BK102, HI109, HI116, HB⟩ := hcut
      cases kq with
      | zero => exact absurd HA.out (by simp [tiklaw22_ClockTurns.j0])
      | succ kj9 =>
        have H := HA.out
        clear HA
        simp only [tiklaw22_ClockTurns.j0] at H
        by_cases c46 : x62_9 = true
        · subst c46
          have H1 : ((tiklaw22_first.f).bind fun t119 => (some t119)) = some r := by rw [if_pos rfl] at H; exact H
          clear H
          have H := H1
          clear H1
          replace H := Option.bind_eq_some_iff.mp H
          obtain ⟨t119, A470, H⟩ := H
          replace H : (some t119) = some r := H
          have A47 := Aside0.mk A470
          clear A470
          obtain rfl := Option.some.inj H
          go_wp2_with (first | ((with_reducible refine gate_callee (f := 7) rfl ?_); refine goesL_ (some 63) rfl rfl Try.func7 (by kernel_rfl) rfl #[] rfl (by (try simp only [List.map_toArray, List.map_cons, List.map_nil]); first | done | rfl | (simp only [List.length_drop, List.length_take]; rfl)) ?_; (with_reducible refine (tiklaw22_first.calls  t119 _ A47.out).mono ?_); rintro e w48 ⟨rfl, hb⟩; refine ⟨_, rfl, ?_⟩; have n0_ := Aside0.mk (blk_below (g := gb101) (o := .cells #[.int .u64 a3_0, .int .u64 a3_1] 24 (0, 0)) (by (with_reducible repeat (first | refine blk_drewN ?_ _ | refine blk_drew ?_ | refine blk_alloc ?_ _)); exact BK101.out) hb); have n1_ := Aside0.mk (blk_below (g := gb102) (o := .cells #[.int .u64 a4_0, .int .u64 a4_1] 24 (0, 0)) (by (with_reducible repeat (first | refine blk_drewN ?_ _ | refine blk_drew ?_ | refine blk_alloc ?_ _)); exact BK102.out) hb); have n2_ := Aside0.mk (IsS55.below (by repeat (first | (with_reducible first | exact HI109.out | apply IsS55.alloc | apply IsS55.drewN | apply IsS55.drew | apply IsS55.set_0 | apply IsS55.set_1 | apply IsS55.set_2 | apply IsS55.set_3 | apply IsS55.set_4 | refine IsS55.far ?_ NB109_101.out _ | refine IsS55.far ?_ NB109_102.out _) | exact HI109.out)) hb); have n3_ := Aside0.mk (IsS55.below (by repeat (first | (with_reducible first | exact HI116.out | apply IsS55.alloc | apply IsS55.drewN | apply IsS55.drew | apply IsS55.set_0 | apply IsS55.set_1 | apply IsS55.set_2 | apply IsS55.set_3 | apply IsS55.set_4 | refine IsS55.far ?_ NB116_101.out _ | refine IsS55.far ?_ NB116_102.out _) | exact HI116.out)) hb); have n4_ := Aside0.mk (below_step (by repeat (first | (with_reducible first | exact HB.out | apply below_alloc | apply pw_below_drewN | apply below_drew1 | refine below_set ?_ (IsS55.ge HI109.out) | refine below_set ?_ (IsS55.ge HI116.out) | refine below_set ?_ GE101.out | refine below_set ?_ GE102.out) | exact HB.out)) hb); clear BK101; clear BK102; clear HI109; clear HI116; clear HB; have BK101 := n0_; have BK102 := n1_; have HI109 := n2_; have HI116 := n3_; have HB := n4_; clear n0_ n1_ n2_ n3_ n4_; (try clear hb); (try clear hb2); (try clear hk); (try clear hi)))
          go_ret
          exact ⟨by first | rfl | (simp [errW_none, errW_some] <;> rfl) | (simp [*, errW_none, errW_some] <;> rfl), by repeat (first | (with_reducible first | exact HB.out | apply below_alloc | apply pw_below_drewN | apply below_drew1 | refine below_set ?_ (IsS55.ge HI109.out) | refine below_set ?_ (IsS55.ge HI116.out) | refine below_set ?_ GE101.out | refine below_set ?_ GE102.out) | exact HB.out)⟩
        · replace c46 := Bool.eq_false_iff.mpr c46
          subst c46
          have H1 : ((clock_Clock_Turn.f kj9 t104 t105 t106 t107 t108 (IntKind.u64.wrap (a0 + a2)) a3_0 a3_1).bind fun bt120 => (if bt120.1 = 0 then ((clock_Clock_Go.f bt120.2.1 bt120.2.2.1 bt120.2.2.2.1 bt120.2.2.2.2.1 bt120.2.2.2.2.2 (IntKind.u64.wrap (a0 + a2))).bind fun bt126 => ((clock_Clock_Go.f t111 t112 t113 t114 t115 (IntKind.u64.wrap (a0 + a2))).bind fun bt132 => (if bt126.1 = bt132.1 then ((clock_Clock_Rest.f bt126.2.1 bt126.2.2.1 bt126.2.2.2.1 bt126.2.2.2.2.1 bt126.2.2.2.2.2).bind fun bt138 => ((clock_Clock_Rest.f bt132.2.1 bt132.2.2.1 bt132.2.2.2.1 bt132.2.2.2.2.1 bt132.2.2.2.2.2).bind fun bt144 => (tiklaw22_ClockTurns.j1 kj9 a0 a2 (bt138.1 != bt144.1) a4_0 a4_1 bt138.2.1 bt138.2.2.1 bt138.2.2.2.1 bt138.2.2.2.2.1 bt138.2.2.2.2.2))) else (tiklaw22_ClockTurns.j1 kj9 a0 a2 true a4_0 a4_1 bt126.2.1 bt126.2.2.1 bt126.2.2.2.1 bt126.2.2.2.2.1 bt126.2.2.2.2.2)))) else (tiklaw22_ClockTurns.j1 kj9 a0 a2 true a4_0 a4_1 bt120.2.1 bt120.2.2.1 bt120.2.2.2.1 bt120.2.2.2.2.1 bt120.2.2.2.2.2))) = some r := by rw [if_neg (show ¬ (false = true) by decide)] at H; exact H
          clear H
          have H := H1
          clear H1
          have HC49 := Aside0.mk H
          clear H
          go_upto_region 7 with (fail)
          go_cut [90] (fun v90 wc => ∃ (kq : Nat) (x90_48 : Bool) (x110000_48 : Int) (x110001_48 : Int) (x110002_48 : Int) (x110003_48 : Int) (x110004_48 : Int), v90 = .bool x90_48 ∧ Aside0 (tiklaw22_ClockTurns.j1 kq a0 a2 x90_48 a4_0 a4_1 x110000_48 x110001_48 x110002_48 x110003_48 x110004_48 = some r) ∧ Aside0 (kq ≤ kj9) ∧ Aside0 (wc.heap[gb101]? = some (.cells #[.int .u64 a3_0, .int .u64 a3_1] 24 (0, 0))) ∧ Aside0 (wc.heap[gb102]? = some (.cells #[.int .u64 a4_0, .int .u64 a4_1] 24 (0, 0))) ∧ Aside0 (IsS55 w wc g109 x110000_48 x110001_48 x110002_48 x110003_48 x110004_48) ∧ Aside0 (Below w.heap.size w wc))
          case first =>
            have H := HC49.out
            clear HC49
            replace H := Option.bind_eq_some_iff.mp H
            obtain ⟨⟨t120, t121, t122, t123, t124, t125⟩, A500, H⟩ := H
            replace H : (if t120 = 0 then ((clock_Clock_Go.f t121 t122 t123 t124 t125 (IntKind.u64.wrap (a0 + a2))).bind fun bt126 => ((clock_Clock_Go.f t111 t112 t113 t114 t115 (IntKind.u64.wrap (a0 + a2))).bind fun bt132 => (if bt126.1 = bt132.1 then ((clock_Clock_Rest.f bt126.2.1 bt126.2.2.1 bt126.2.2.2.1 bt126.2.2.2.2.1 bt126.2.2.2.2.2).bind fun bt138 => ((clock_Clock_Rest.f bt132.2.1 bt132.2.2.1 bt132.2.2.2.1 bt132.2.2.2.2.1 bt132.2.2.2.2.2).bind fun bt144 => (tiklaw22_ClockTurns.j1 kj9 a0 a2 (bt138.1 != bt144.1) a4_0 a4_1 bt138.2.1 bt138.2.2.1 bt138.2.2.2.1 bt138.2.2.2.2.1 bt138.2.2.2.2.2))) else (tiklaw22_ClockTurns.j1 kj9 a0 a2 true a4_0 a4_1 bt126.2.1 bt126.2.2.1 bt126.2.2.2.1 bt126.2.2.2.2.1 bt126.2.2.2.2.2)))) else (tiklaw22_ClockTurns.j1 kj9 a0 a2 true a4_0 a4_1 t121 t122 t123 t124 t125)) = some r := H
            have A50 := Aside0.mk A500
            clear A500
            by_cases c51 : t120 = 0
            · rw [if_pos c51] at H
              have c51b0 : (t120 == 0) = true := beq_iff_eq.mpr c51
              have c51b1 : (t120 != 0) = false := bne_eq_false_iff_eq.mpr c51
              clear c51
              (first | rw [c51b0] | (simp only [i64_w, i32_w]; rw [c51b0]) | skip)
              replace H := Option.bind_eq_some_iff.mp H
              obtain ⟨⟨t126, t127, t128, t129, t130, t131⟩, A520, H⟩ := H
              replace H : ((clock_Clock_Go.f t111 t112 t113 t114 t115 (IntKind.u64.wrap (a0 + a2))).bind fun bt132 => (if t126 = bt132.1 then ((clock_Clock_Rest.f t127 t128 t129 t130 t131).bind fun bt138 => ((clock_Clock_Rest.f bt132.2.1 bt132.2.2.1 bt132.2.2.2.1 bt132.2.2.2.2.1 bt132.2.2.2.2.2).bind fun bt144 => (tiklaw22_ClockTurns.j1 kj9 a0 a2 (bt138.1 != bt144.1) a4_0 a4_1 bt138.2.1 bt138.2.2.1 bt138.2.2.2.1 bt138.2.2.2.2.1 bt138.2.2.2.2.2))) else (tiklaw22_ClockTurns.j1 kj9 a0 a2 true a4_0 a4_1 t127 t128 t129 t130 t131))) = some r := H
              have A52 := Aside0.mk A520
              clear A520
              replace H := Option.bind_eq_some_iff.mp H
              obtain ⟨⟨t132, t133, t134, t135, t136, t137⟩, A530, H⟩ := H
              replace H : (if t126 = t132 then ((clock_Clock_Rest.f t127 t128 t129 t130 t131).bind fun bt138 => ((clock_Clock_Rest.f t133 t134 t135 t136 t137).bind fun bt144 => (tiklaw22_ClockTurns.j1 kj9 a0 a2 (bt138.1 != bt144.1) a4_0 a4_1 bt138.2.1 bt138.2.2.1 bt138.2.2.2.1 bt138.2.2.2.2.1 bt138.2.2.2.2.2))) else (tiklaw22_ClockTurns.j1 kj9 a0 a2 true a4_0 a4_1 t127 t128 t129 t130 t131)) = some r := H
              have A53 := Aside0.mk A530
              clear A530
              by_cases c54 : t126 = t132
              · rw [if_pos c54] at H
                have c54b0 : (t126 == t132) = true := beq_iff_eq.mpr c54
                have c54b1 : (t126 != t132) = false := bne_eq_false_iff_eq.mpr c54
                clear c54
                replace H := Option.bind_eq_some_iff.mp H
                obtain ⟨⟨t138, t139, t140, t141, t142, t143⟩, A550, H⟩ := H
                replace H : ((clock_Clock_Rest.f t133 t134 t135 t136 t137).bind fun bt144 => (tiklaw22_ClockTurns.j1 kj9 a0 a2 (t138 != bt144.1) a4_0 a4_1 t139 t140 t141 t142 t143)) = some r := H
                have A55 := Aside0.mk A550
                clear A550
                replace H := Option.bind_eq_some_iff.mp H
                obtain ⟨⟨t144, t145, t146, t147, t148, t149⟩, A560, H⟩ := H
                replace H : (tiklaw22_ClockTurns.j1 kj9 a0 a2 (t138 != t144) a4_0 a4_1 t139 t140 t141 t142 t143) = some r := H
                have A56 := Aside0.mk A560
                clear A560
                have H' := Aside0.mk H
                clear H
                have hnb57 := NB101_102.out
                have hnc57 := NB102_101.out
                have hnb58 := NB101_109.out
                have hnc58 := NB109_101.out
                have hnb59 := NB101_116.out
                have hnc59 := NB116_101.out
                have hcz60_0 : wc.cell? ⟨gb101, 0, none⟩ = some (.int .u64 a3_0) := (blk_cell BK101.out 0).trans rfl
                have hcz60_1 : wc.cell? ⟨gb101, 1, none⟩ = some (.int .u64 a3_1) := (blk_cell BK101.out 1).trans rfl
                have hfz60_0 := blk_frozen BK101.out 0
                have hfz60_1 := blk_frozen BK101.out 1
                go_wp2_with (first | ((with_reducible refine gate_callee (f := 14) rfl ?_); refine goesL_ (some 69) rfl rfl Try.func14 (by kernel_rfl) rfl #[.pointer (some ⟨g109, 0, none⟩), .int .u64 (IntKind.u64.wrap (a0 + a2)), .agg #[.int .u64 a3_0, .int .u64 a3_1]] rfl (by (try simp only [List.map_toArray, List.map_cons, List.map_nil]); first | done | rfl | (simp only [List.length_drop, List.length_take]; rfl)) ?_; (with_reducible refine (clock_Clock_Turn.calls kj9 g109 t104 t105 t106 t107 t108 (IntKind.u64.wrap (a0 + a2)) a3_0 a3_1 t120 t121 t122 t123 t124 t125 w _ ?side1 ?side2 A50.out).mono ?_); (case side1 => repeat (first | (with_reducible first | exact HI109.out | apply IsS55.alloc | apply IsS55.drewN | apply IsS55.drew | apply IsS55.set_0 | apply IsS55.set_1 | apply IsS55.set_2 | apply IsS55.set_3 | apply IsS55.set_4 | refine IsS55.far ?_ NB109_101.out _ | refine IsS55.far ?_ NB109_102.out _) | exact HI109.out)); (case side2 => repeat (first | (with_reducible first | exact HB.out | apply below_alloc | apply pw_below_drewN | apply below_drew1 | refine below_set ?_ (IsS55.ge HI109.out) | refine below_set ?_ (IsS55.ge HI116.out) | refine below_set ?_ GE101.out | refine below_set ?_ GE102.out) | exact HB.out)); rintro e w61 ⟨rfl, hi, hb, hk⟩; refine ⟨_, rfl, ?_⟩; have n0_ := Aside0.mk (KeepBut.blk hk (g' := gb101) (o := .cells #[.int .u64 a3_0, .int .u64 a3_1] 24 (0, 0)) (by (with_reducible repeat (first | refine blk_drewN ?_ _ | refine blk_drew ?_ | refine blk_alloc ?_ _)); exact BK101.out) NB101_109.out (by simp)); have n1_ := Aside0.mk (KeepBut.blk hk (g' := gb102) (o := .cells #[.int .u64 a4_0, .int .u64 a4_1] 24 (0, 0)) (by (with_reducible repeat (first | refine blk_drewN ?_ _ | refine blk_drew ?_ | refine blk_alloc ?_ _)); exact BK102.out) NB102_109.out (by simp)); have n2_ := Aside0.mk (IsS55.kept (show IsS55 w _ g116 t111 t112 t113 t114 t115 from by repeat (first | (with_reducible first | exact HI116.out | apply IsS55.alloc | apply IsS55.drewN | apply IsS55.drew | apply IsS55.set_0 | apply IsS55.set_1 | apply IsS55.set_2 | apply IsS55.set_3 | apply IsS55.set_4 | refine IsS55.far ?_ NB116_101.out _ | refine IsS55.far ?_ NB116_102.out _) | exact HI116.out)) ⟨hk.1, fun i_ hi_ hs_ => hk.2 i_ hi_ hs_ (by simp)⟩ (NB116_109.out)); have n3_ := Aside0.mk (hb); have n4_ := Aside0.mk (hi); clear BK101; clear BK102; clear HI116; clear HB; clear HI109; have BK101 := n0_; have BK102 := n1_; have HI116 := n2_; have HB := n3_; have HI109 := n4_; clear n0_ n1_ n2_ n3_ n4_; (try clear hb); (try clear hb2); (try clear hk); (try clear hi)) | (go_at_call 10; (with_reducible refine (clock_Clock_Go.calls g109 t121 t122 t123 t124 t125 (IntKind.u64.wrap (a0 + a2)) t126 t127 t128 t129 t130 t131 w _ ?side1 ?side2 A52.out).mono ?_); (case side1 => repeat (first | (with_reducible first | exact HI109.out | apply IsS55.alloc | apply IsS55.drewN | apply IsS55.drew | apply IsS55.set_0 | apply IsS55.set_1 | apply IsS55.set_2 | apply IsS55.set_3 | apply IsS55.set_4 | refine IsS55.far ?_ NB109_101.out _ | refine IsS55.far ?_ NB109_102.out _) | exact HI109.out)); (case side2 => repeat (first | (with_reducible first | exact HB.out | apply below_alloc | apply pw_below_drewN | apply below_drew1 | refine below_set ?_ (IsS55.ge HI109.out) | refine below_set ?_ (IsS55.ge HI116.out) | refine below_set ?_ GE101.out | refine below_set ?_ GE102.out) | exact HB.out)); rintro e w62 ⟨rfl, hi, hb, hk⟩; have n0_ := Aside0.mk (KeepBut.blk hk (g' := gb101) (o := .cells #[.int .u64 a3_0, .int .u64 a3_1] 24 (0, 0)) (by (with_reducible repeat (first | refine blk_drewN ?_ _ | refine blk_drew ?_ | refine blk_alloc ?_ _)); exact BK101.out) NB101_109.out (by simp)); have n1_ := Aside0.mk (KeepBut.blk hk (g' := gb102) (o := .cells #[.int .u64 a4_0, .int .u64 a4_1] 24 (0, 0)) (by (with_reducible repeat (first | refine blk_drewN ?_ _ | refine blk_drew ?_ | refine blk_alloc ?_ _)); exact BK102.out) NB102_109.out (by simp)); have n2_ := Aside0.mk (IsS55.kept (show IsS55 w _ g116 t111 t112 t113 t114 t115 from by repeat (first | (with_reducible first | exact HI116.out | apply IsS55.alloc | apply IsS55.drewN | apply IsS55.drew | apply IsS55.set_0 | apply IsS55.set_1 | apply IsS55.set_2 | apply IsS55.set_3 | apply IsS55.set_4 | refine IsS55.far ?_ NB116_101.out _ | refine IsS55.far ?_ NB116_102.out _) | exact HI116.out)) ⟨hk.1, fun i_ hi_ hs_ => hk.2 i_ hi_ hs_ (by simp)⟩ (NB116_109.out)); have n3_ := Aside0.mk (hb); have n4_ := Aside0.mk (hi); clear BK101; clear BK102; clear HI116; clear HB; clear HI109; have BK101 := n0_; have BK102 := n1_; have HI116 := n2_; have HB := n3_; have HI109 := n4_; clear n0_ n1_ n2_ n3_ n4_; (try clear hb); (try clear hb2); (try clear hk); (try clear hi)) | (go_at_call 10; (with_reducible refine (clock_Clock_Go.calls g116 t111 t112 t113 t114 t115 (IntKind.u64.wrap (a0 + a2)) t132 t133 t134 t135 t136 t137 w _ ?side1 ?side2 A53.out).mono ?_); (case side1 => repeat (first | (with_reducible first | exact HI116.out | apply IsS55.alloc | apply IsS55.drewN | apply IsS55.drew | apply IsS55.set_0 | apply IsS55.set_1 | apply IsS55.set_2 | apply IsS55.set_3 | apply IsS55.set_4 | refine IsS55.far ?_ NB116_101.out _ | refine IsS55.far ?_ NB116_102.out _) | exact HI116.out)); (case side2 => repeat (first | (with_reducible first | exact HB.out | apply below_alloc | apply pw_below_drewN | apply below_drew1 | refine below_set ?_ (IsS55.ge HI109.out) | refine below_set ?_ (IsS55.ge HI116.out) | refine below_set ?_ GE101.out | refine below_set ?_ GE102.out) | exact HB.out)); rintro e w63 ⟨rfl, hi, hb, hk⟩; have n0_ := Aside0.mk (KeepBut.blk hk (g' := gb101) (o := .cells #[.int .u64 a3_0, .int .u64 a3_1] 24 (0, 0)) (by (with_reducible repeat (first | refine blk_drewN ?_ _ | refine blk_drew ?_ | refine blk_alloc ?_ _)); exact BK101.out) NB101_116.out (by simp)); have n1_ := Aside0.mk (KeepBut.blk hk (g' := gb102) (o := .cells #[.int .u64 a4_0, .int .u64 a4_1] 24 (0, 0)) (by (with_reducible repeat (first | refine blk_drewN ?_ _ | refine blk_drew ?_ | refine blk_alloc ?_ _)); exact BK102.out) NB102_116.out (by simp)); have n2_ := Aside0.mk (IsS55.kept (show IsS55 w _ g109 t127 t128 t129 t130 t131 from by repeat (first | (with_reducible first | exact HI109.out | apply IsS55.alloc | apply IsS55.drewN | apply IsS55.drew | apply IsS55.set_0 | apply IsS55.set_1 | apply IsS55.set_2 | apply IsS55.set_3 | apply IsS55.set_4 | refine IsS55.far ?_ NB109_101.out _ | refine IsS55.far ?_ NB109_102.out _) | exact HI109.out)) ⟨hk.1, fun i_ hi_ hs_ => hk.2 i_ hi_ hs_ (by simp)⟩ (NB109_116.out)); have n3_ := Aside0.mk (hb); have n4_ := Aside0.mk (hi); clear BK101; clear BK102; clear HI109; clear HB; clear HI116; have BK101 := n0_; have BK102 := n1_; have HI109 := n2_; have HB := n3_; have HI116 := n4_; clear n0_ n1_ n2_ n3_ n4_; (try clear hb); (try clear hb2); (try clear hk); (try clear hi)) | (go_at_call 11; (with_reducible refine (clock_Clock_Rest.calls g109 t127 t128 t129 t130 t131 t138 t139 t140 t141 t142 t143 w _ ?side1 ?side2 A55.out).mono ?_); (case side1 => repeat (first | (with_reducible first | exact HI109.out | apply IsS55.alloc | apply IsS55.drewN | apply IsS55.drew | apply IsS55.set_0 | apply IsS55.set_1 | apply IsS55.set_2 | apply IsS55.set_3 | apply IsS55.set_4 | refine IsS55.far ?_ NB109_101.out _ | refine IsS55.far ?_ NB109_102.out _) | exact HI109.out)); (case side2 => repeat (first | (with_reducible first | exact HB.out | apply below_alloc | apply pw_below_drewN | apply below_drew1 | refine below_set ?_ (IsS55.ge HI109.out) | refine below_set ?_ (IsS55.ge HI116.out) | refine below_set ?_ GE101.out | refine below_set ?_ GE102.out) | exact HB.out)); rintro e w64 ⟨rfl, hi, hb, hk⟩; have n0_ := Aside0.mk (KeepBut.blk hk (g' := gb101) (o := .cells #[.int .u64 a3_0, .int .u64 a3_1] 24 (0, 0)) (by (with_reducible repeat (first | refine blk_drewN ?_ _ | refine blk_drew ?_ | refine blk_alloc ?_ _)); exact BK101.out) NB101_109.out (by simp)); have n1_ := Aside0.mk (KeepBut.blk hk (g' := gb102) (o := .cells #[.int .u64 a4_0, .int .u64 a4_1] 24 (0, 0)) (by (with_reducible repeat (first | refine blk_drewN ?_ _ | refine blk_drew ?_ | refine blk_alloc ?_ _)); exact BK102.out) NB102_109.out (by simp)); have n2_ := Aside0.mk (IsS55.kept (show IsS55 w _ g116 t133 t134 t135 t136 t137 from by repeat (first | (with_reducible first | exact HI116.out | apply IsS55.alloc | apply IsS55.drewN | apply IsS55.drew | apply IsS55.set_0 | apply IsS55.set_1 | apply IsS55.set_2 | apply IsS55.set_3 | apply IsS55.set_4 | refine IsS55.far ?_ NB116_101.out _ | refine IsS55.far ?_ NB116_102.out _) | exact HI116.out)) ⟨hk.1, fun i_ hi_ hs_ => hk.2 i_ hi_ hs_ (by simp)⟩ (NB116_109.out)); have n3_ := Aside0.mk (hb); have n4_ := Aside0.mk (hi); clear BK101; clear BK102; clear HI116; clear HB; clear HI109; have BK101 := n0_; have BK102 := n1_; have HI116 := n2_; have HB := n3_; have HI109 := n4_; clear n0_ n1_ n2_ n3_ n4_; (try clear hb); (try clear hb2); (try clear hk); (try clear hi)) | (go_at_call 11; (with_reducible refine (clock_Clock_Rest.calls g116 t133 t134 t135 t136 t137 t144 t145 t146 t147 t148 t149 w _ ?side1 ?side2 A56.out).mono ?_); (case side1 => repeat (first | (with_reducible first | exact HI116.out | apply IsS55.alloc | apply IsS55.drewN | apply IsS55.drew | apply IsS55.set_0 | apply IsS55.set_1 | apply IsS55.set_2 | apply IsS55.set_3 | apply IsS55.set_4 | refine IsS55.far ?_ NB116_101.out _ | refine IsS55.far ?_ NB116_102.out _) | exact HI116.out)); (case side2 => repeat (first | (with_reducible first | exact HB.out | apply below_alloc | apply pw_below_drewN | apply below_drew1 | refine below_set ?_ (IsS55.ge HI109.out) | refine below_set ?_ (IsS55.ge HI116.out) | refine below_set ?_ GE101.out | refine below_set ?_ GE102.out) | exact HB.out)); rintro e w65 ⟨rfl, hi, hb, hk⟩; have n0_ := Aside0.mk (KeepBut.blk hk (g' := gb101) (o := .cells #[.int .u64 a3_0, .int .u64 a3_1] 24 (0, 0)) (by (with_reducible repeat (first | refine blk_drewN ?_ _ | refine blk_drew ?_ | refine blk_alloc ?_ _)); exact BK101.out) NB101_116.out (by simp)); have n1_ := Aside0.mk (KeepBut.blk hk (g' := gb102) (o := .cells #[.int .u64 a4_0, .int .u64 a4_1] 24 (0, 0)) (by (with_reducible repeat (first | refine blk_drewN ?_ _ | refine blk_drew ?_ | refine blk_alloc ?_ _)); exact BK102.out) NB102_116.out (by simp)); have n2_ := Aside0.mk (IsS55.kept (show IsS55 w _ g109 t139 t140 t141 t142 t143 from by repeat (first | (with_reducible first | exact HI109.out | apply IsS55.alloc | apply IsS55.drewN | apply IsS55.drew | apply IsS55.set_0 | apply IsS55.set_1 | apply IsS55.set_2 | apply IsS55.set_3 | apply IsS55.set_4 | refine IsS55.far ?_ NB109_101.out _ | refine IsS55.far ?_ NB109_102.out _) | exact HI109.out)) ⟨hk.1, fun i_ hi_ hs_ => hk.2 i_ hi_ hs_ (by simp)⟩ (NB109_116.out)); have n3_ := Aside0.mk (hb); have n4_ := Aside0.mk (hi); clear BK101; clear BK102; clear HI109; clear HB; clear HI116; have BK101 := n0_; have BK102 := n1_; have HI109 := n2_; have HB := n3_; have HI116 := n4_; clear n0_ n1_ n2_ n3_ n4_; (try clear hb); (try clear hb2); (try clear hk); (try clear hi)))
                go_meet
                case rel => exact ⟨_, ((t138 != t144)), (t139), (t140), (t141), (t142), (t143), (by first | rfl | (simp; done) | (simp [*]; done)), H', ⟨by have := HJ9.out; first | omega | exact Nat.le_refl _⟩, ⟨by (with_reducible repeat (first | refine blk_drewN ?_ _ | refine blk_drew ?_ | refine blk_alloc ?_ _)); exact BK101.out⟩, ⟨by (with_reducible repeat (first | refine blk_drewN ?_ _ | refine blk_drew ?_ | refine blk_alloc ?_ _)); exact BK102.out⟩, ⟨by repeat (first | (with_reducible first | exact HI109.out | apply IsS55.alloc | apply IsS55.drewN | apply IsS55.drew | apply IsS55.set_0 | apply IsS55.set_1 | apply IsS55.set_2 | apply IsS55.set_3 | apply IsS55.set_4 | refine IsS55.far ?_ NB109_101.out _ | refine IsS55.far ?_ NB109_102.out _) | exact HI109.out)⟩, ⟨by repeat (first | (with_reducible first | exact HB.out | apply below_alloc | apply pw_below_drewN | apply below_drew1 | refine below_set ?_ (IsS55.ge HI109.out) | refine below_set ?_ (IsS55.ge HI116.out) | refine below_set ?_ GE101.out | refine below_set ?_ GE102.out) | exact HB.out)⟩⟩
              · rw [if_neg c54] at H
                have c54b0 : (t126 == t132) = false := beq_eq_false_iff_ne.mpr c54
                have c54b1 : (t126 != t132) = true := bne_iff_ne.mpr c54
                have H' := Aside0.mk H
                clear H
                have hnb66 := NB101_102.out
                have hnc66 := NB102_101.out
                have hnb67 := NB101_109.out
                have hnc67 := NB109_101.out
                have hnb68 := NB101_116.out
                have hnc68 := NB116_101.out
                have hcz69_0 : wc.cell? ⟨gb101, 0, none⟩ = some (.int .u64 a3_0) := (blk_cell BK101.out 0).trans rfl
                have hcz69_1 : wc.cell? ⟨gb101, 1, none⟩ = some (.int .u64 a3_1) := (blk_cell BK101.out 1).trans rfl
                have hfz69_0 := blk_frozen BK101.out 0
                have hfz69_1 := blk_frozen BK101.out 1
                go_wp2_with (first | ((with_reducible refine gate_callee (f := 14) rfl ?_); refine goesL_ (some 69) rfl rfl Try.func14 (by kernel_rfl) rfl #[.pointer (some ⟨g109, 0, none⟩), .int .u64 (IntKind.u64.wrap (a0 + a2)), .agg #[.int .u64 a3_0, .int .u64 a3_1]] rfl (by (try simp only [List.map_toArray, List.map_cons, List.map_nil]); first | done | rfl | (simp only [List.length_drop, List.length_take]; rfl)) ?_; (with_reducible refine (clock_Clock_Turn.calls kj9 g109 t104 t105 t106 t107 t108 (IntKind.u64.wrap (a0 + a2)) a3_0 a3_1 t120 t121 t122 t123 t124 t125 w _ ?side1 ?side2 A50.out).mono ?_); (case side1 => repeat (first | (with_reducible first | exact HI109.out | apply IsS55.alloc | apply IsS55.drewN | apply IsS55.drew | apply IsS55.set_0 | apply IsS55.set_1 | apply IsS55.set_2 | apply IsS55.set_3 | apply IsS55.set_4 | refine IsS55.far ?_ NB109_101.out _ | refine IsS55.far ?_ NB109_102.out _) | exact HI109.out)); (case side2 => repeat (first | (with_reducible first | exact HB.out | apply below_alloc | apply pw_below_drewN | apply below_drew1 | refine below_set ?_ (IsS55.ge HI109.out) | refine below_set ?_ (IsS55.ge HI116.out) | refine below_set ?_ GE101.out | refine below_set ?_ GE102.out) | exact HB.out)); rintro e w70 ⟨rfl, hi, hb, hk⟩; refine ⟨_, rfl, ?_⟩; have n0_ := Aside0.mk (KeepBut.blk hk (g' := gb101) (o := .cells #[.int .u64 a3_0, .int .u64 a3_1] 24 (0, 0)) (by (with_reducible repeat (first | refine blk_drewN ?_ _ | refine blk_drew ?_ | refine blk_alloc ?_ _)); exact BK101.out) NB101_109.out (by simp)); have n1_ := Aside0.mk (KeepBut.blk hk (g' := gb102) (o := .cells #[.int .u64 a4_0, .int .u64 a4_1] 24 (0, 0)) (by (with_reducible repeat (first | refine blk_drewN ?_ _ | refine blk_drew ?_ | refine blk_alloc ?_ _)); exact BK102.out) NB102_109.out (by simp)); have n2_ := Aside0.mk (IsS55.kept (show IsS55 w _ g116 t111 t112 t113 t114 t115 from by repeat (first | (with_reducible first | exact HI116.out | apply IsS55.alloc | apply IsS55.drewN | apply IsS55.drew | apply IsS55.set_0 | apply IsS55.set_1 | apply IsS55.set_2 | apply IsS55.set_3 | apply IsS55.set_4 | refine IsS55.far ?_ NB116_101.out _ | refine IsS55.far ?_ NB116_102.out _) | exact HI116.out)) ⟨hk.1, fun i_ hi_ hs_ => hk.2 i_ hi_ hs_ (by simp)⟩ (NB116_109.out)); have n3_ := Aside0.mk (hb); have n4_ := Aside0.mk (hi); clear BK101; clear BK102; clear HI116; clear HB; clear HI109; have BK101 := n0_; have BK102 := n1_; have HI116 := n2_; have HB := n3_; have HI109 := n4_; clear n0_ n1_ n2_ n3_ n4_; (try clear hb); (try clear hb2); (try clear hk); (try clear hi)) | (go_at_call 10; (with_reducible refine (clock_Clock_Go.calls g109 t121 t122 t123 t124 t125 (IntKind.u64.wrap (a0 + a2)) t126 t127 t128 t129 t130 t131 w _ ?side1 ?side2 A52.out).mono ?_); (case side1 => repeat (first | (with_reducible first | exact HI109.out | apply IsS55.alloc | apply IsS55.drewN | apply IsS55.drew | apply IsS55.set_0 | apply IsS55.set_1 | apply IsS55.set_2 | apply IsS55.set_3 | apply IsS55.set_4 | refine IsS55.far ?_ NB109_101.out _ | refine IsS55.far ?_ NB109_102.out _) | exact HI109.out)); (case side2 => repeat (first | (with_reducible first | exact HB.out | apply below_alloc | apply pw_below_drewN | apply below_drew1 | refine below_set ?_ (IsS55.ge HI109.out) | refine below_set ?_ (IsS55.ge HI116.out) | refine below_set ?_ GE101.out | refine below_set ?_ GE102.out) | exact HB.out)); rintro e w71 ⟨rfl, hi, hb, hk⟩; have n0_ := Aside0.mk (KeepBut.blk hk (g' := gb101) (o := .cells #[.int .u64 a3_0, .int .u64 a3_1] 24 (0, 0)) (by (with_reducible repeat (first | refine blk_drewN ?_ _ | refine blk_drew ?_ | refine blk_alloc ?_ _)); exact BK101.out) NB101_109.out (by simp)); have n1_ := Aside0.mk (KeepBut.blk hk (g' := gb102) (o := .cells #[.int .u64 a4_0, .int .u64 a4_1] 24 (0, 0)) (by (with_reducible repeat (first | refine blk_drewN ?_ _ | refine blk_drew ?_ | refine blk_alloc ?_ _)); exact BK102.out) NB102_109.out (by simp)); have n2_ := Aside0.mk (IsS55.kept (show IsS55 w _ g116 t111 t112 t113 t114 t115 from by repeat (first | (with_reducible first | exact HI116.out | apply IsS55.alloc | apply IsS55.drewN | apply IsS55.drew | apply IsS55.set_0 | apply IsS55.set_1 | apply IsS55.set_2 | apply IsS55.set_3 | apply IsS55.set_4 | refine IsS55.far ?_ NB116_101.out _ | refine IsS55.far ?_ NB116_102.out _) | exact HI116.out)) ⟨hk.1, fun i_ hi_ hs_ => hk.2 i_ hi_ hs_ (by simp)⟩ (NB116_109.out)); have n3_ := Aside0.mk (hb); have n4_ := Aside0.mk (hi); clear BK101; clear BK102; clear HI116; clear HB; clear HI109; have BK101 := n0_; have BK102 := n1_; have HI116 := n2_; have HB := n3_; have HI109 := n4_; clear n0_ n1_ n2_ n3_ n4_; (try clear hb); (try clear hb2); (try clear hk); (try clear hi)) | (go_at_call 10; (with_reducible refine (clock_Clock_Go.calls g116 t111 t112 t113 t114 t115 (IntKind.u64.wrap (a0 + a2)) t132 t133 t134 t135 t136 t137 w _ ?side1 ?side2 A53.out).mono ?_); (case side1 => repeat (first | (with_reducible first | exact HI116.out | apply IsS55.alloc | apply IsS55.drewN | apply IsS55.drew | apply IsS55.set_0 | apply IsS55.set_1 | apply IsS55.set_2 | apply IsS55.set_3 | apply IsS55.set_4 | refine IsS55.far ?_ NB116_101.out _ | refine IsS55.far ?_ NB116_102.out _) | exact HI116.out)); (case side2 => repeat (first | (with_reducible first | exact HB.out | apply below_alloc | apply pw_below_drewN | apply below_drew1 | refine below_set ?_ (IsS55.ge HI109.out) | refine below_set ?_ (IsS55.ge HI116.out) | refine below_set ?_ GE101.out | refine below_set ?_ GE102.out) | exact HB.out)); rintro e w72 ⟨rfl, hi, hb, hk⟩; have n0_ := Aside0.mk (KeepBut.blk hk (g' := gb101) (o := .cells #[.int .u64 a3_0, .int .u64 a3_1] 24 (0, 0)) (by (with_reducible repeat (first | refine blk_drewN ?_ _ | refine blk_drew ?_ | refine blk_alloc ?_ _)); exact BK101.out) NB101_116.out (by simp)); have n1_ := Aside0.mk (KeepBut.blk hk (g' := gb102) (o := .cells #[.int .u64 a4_0, .int .u64 a4_1] 24 (0, 0)) (by (with_reducible repeat (first | refine blk_drewN ?_ _ | refine blk_drew ?_ | refine blk_alloc ?_ _)); exact BK102.out) NB102_116.out (by simp)); have n2_ := Aside0.mk (IsS55.kept (show IsS55 w _ g109 t127 t128 t129 t130 t131 from by repeat (first | (with_reducible first | exact HI109.out | apply IsS55.alloc | apply IsS55.drewN | apply IsS55.drew | apply IsS55.set_0 | apply IsS55.set_1 | apply IsS55.set_2 | apply IsS55.set_3 | apply IsS55.set_4 | refine IsS55.far ?_ NB109_101.out _ | refine IsS55.far ?_ NB109_102.out _) | exact HI109.out)) ⟨hk.1, fun i_ hi_ hs_ => hk.2 i_ hi_ hs_ (by simp)⟩ (NB109_116.out)); have n3_ := Aside0.mk (hb); have n4_ := Aside0.mk (hi); clear BK101; clear BK102; clear HI109; clear HB; clear HI116; have BK101 := n0_; have BK102 := n1_; have HI109 := n2_; have HB := n3_; have HI116 := n4_; clear n0_ n1_ n2_ n3_ n4_; (try clear hb); (try clear hb2); (try clear hk); (try clear hi)))
                go_meet
                case rel => exact ⟨_, (true), (t127), (t128), (t129), (t130), (t131), (by first | rfl | (simp; done) | (simp [*]; done)), H', ⟨by have := HJ9.out; first | omega | exact Nat.le_refl _⟩, ⟨by (with_reducible repeat (first | refine blk_drewN ?_ _ | refine blk_drew ?_ | refine blk_alloc ?_ _)); exact BK101.out⟩, ⟨by (with_reducible repeat (first | refine blk_drewN ?_ _ | refine blk_drew ?_ | refine blk_alloc ?_ _)); exact BK102.out⟩, ⟨by repeat (first | (with_reducible first | exact HI109.out | apply IsS55.alloc | apply IsS55.drewN | apply IsS55.drew | apply IsS55.set_0 | apply IsS55.set_1 | apply IsS55.set_2 | apply IsS55.set_3 | apply IsS55.set_4 | refine IsS55.far ?_ NB109_101.out _ | refine IsS55.far ?_ NB109_102.out _) | exact HI109.out)⟩, ⟨by repeat (first | (with_reducible first | exact HB.out | apply below_alloc | apply pw_below_drewN | apply below_drew1 | refine below_set ?_ (IsS55.ge HI109.out) | refine below_set ?_ (IsS55.ge HI116.out) | refine below_set ?_ GE101.out | refine below_set ?_ GE102.out) | exact HB.out)⟩⟩
            · rw [if_neg c51] at H
              have c51b0 : (t120 == 0) = false := beq_eq_false_iff_ne.mpr c51
              have c51b1 : (t120 != 0) = true := bne_iff_ne.mpr c51
              (first | rw [c51b0] | (simp only [i64_w, i32_w]; rw [c51b0]) | skip)
              have H' := Aside0.mk H
              clear H
              have hnb73 := NB101_102.out
              have hnc73 := NB102_101.out
              have hnb74 := NB101_109.out
              have hnc74 := NB109_101.out
              have hnb75 := NB101_116.out
              have hnc75 := NB116_101.out
              have hcz76_0 : wc.cell? ⟨gb101, 0, none⟩ = some (.int .u64 a3_0) := (blk_cell BK101.out 0).trans rfl
              have hcz76_1 : wc.cell? ⟨gb101, 1, none⟩ = some (.int .u64 a3_1) := (blk_cell BK101.out 1).trans rfl
              have hfz76_0 := blk_frozen BK101.out 0
              have hfz76_1 := blk_frozen BK101.out 1
              go_wp2_with (first | ((with_reducible refine gate_callee (f := 14) rfl ?_); refine goesL_ (some 69) rfl rfl Try.func14 (by kernel_rfl) rfl #[.pointer (some ⟨g109, 0, none⟩), .int .u64 (IntKind.u64.wrap (a0 + a2)), .agg #[.int .u64 a3_0, .int .u64 a3_1]] rfl (by (try simp only [List.map_toArray, List.map_cons, List.map_nil]); first | done | rfl | (simp only [List.length_drop, List.length_take]; rfl)) ?_; (with_reducible refine (clock_Clock_Turn.calls kj9 g109 t104 t105 t106 t107 t108 (IntKind.u64.wrap (a0 + a2)) a3_0 a3_1 t120 t121 t122 t123 t124 t125 w _ ?side1 ?side2 A50.out).mono ?_); (case side1 => repeat (first | (with_reducible first | exact HI109.out | apply IsS55.alloc | apply IsS55.drewN | apply IsS55.drew | apply IsS55.set_0 | apply IsS55.set_1 | apply IsS55.set_2 | apply IsS55.set_3 | apply IsS55.set_4 | refine IsS55.far ?_ NB109_101.out _ | refine IsS55.far ?_ NB109_102.out _) | exact HI109.out)); (case side2 => repeat (first | (with_reducible first | exact HB.out | apply below_alloc | apply pw_below_drewN | apply below_drew1 | refine below_set ?_ (IsS55.ge HI109.out) | refine below_set ?_ (IsS55.ge HI116.out) | refine below_set ?_ GE101.out | refine below_set ?_ GE102.out) | exact HB.out)); rintro e w77 ⟨rfl, hi, hb, hk⟩; refine ⟨_, rfl, ?_⟩; have n0_ := Aside0.mk (KeepBut.blk hk (g' := gb101) (o := .cells #[.int .u64 a3_0, .int .u64 a3_1] 24 (0, 0)) (by (with_reducible repeat (first | refine blk_drewN ?_ _ | refine blk_drew ?_ | refine blk_alloc ?_ _)); exact BK101.out) NB101_109.out (by simp)); have n1_ := Aside0.mk (KeepBut.blk hk (g' := gb102) (o := .cells #[.int .u64 a4_0, .int .u64 a4_1] 24 (0, 0)) (by (with_reducible repeat (first | refine blk_drewN ?_ _ | refine blk_drew ?_ | refine blk_alloc ?_ _)); exact BK102.out) NB102_109.out (by simp)); have n2_ := Aside0.mk (IsS55.kept (show IsS55 w _ g116 t111 t112 t113 t114 t115 from by repeat (first | (with_reducible first | exact HI116.out | apply IsS55.alloc | apply IsS55.drewN | apply IsS55.drew | apply IsS55.set_0 | apply IsS55.set_1 | apply IsS55.set_2 | apply IsS55.set_3 | apply IsS55.set_4 | refine IsS55.far ?_ NB116_101.out _ | refine IsS55.far ?_ NB116_102.out _) | exact HI116.out)) ⟨hk.1, fun i_ hi_ hs_ => hk.2 i_ hi_ hs_ (by simp)⟩ (NB116_109.out)); have n3_ := Aside0.mk (hb); have n4_ := Aside0.mk (hi); clear BK101; clear BK102; clear HI116; clear HB; clear HI109; have BK101 := n0_; have BK102 := n1_; have HI116 := n2_; have HB := n3_; have HI109 := n4_; clear n0_ n1_ n2_ n3_ n4_; (try clear hb); (try clear hb2); (try clear hk); (try clear hi)))
              go_meet
              case rel => exact ⟨_, (true), (t121), (t122), (t123), (t124), (t125), (by first | rfl | (simp; done) | (simp [*]; done)), H', ⟨by have := HJ9.out; first | omega | exact Nat.le_refl _⟩, ⟨by (with_reducible repeat (first | refine blk_drewN ?_ _ | refine blk_drew ?_ | refine blk_alloc ?_ _)); exact BK101.out⟩, ⟨by (with_reducible repeat (first | refine blk_drewN ?_ _ | refine blk_drew ?_ | refine blk_alloc ?_ _)); exact BK102.out⟩, ⟨by repeat (first | (with_reducible first | exact HI109.out | apply IsS55.alloc | apply IsS55.drewN | apply IsS55.drew | apply IsS55.set_0 | apply IsS55.set_1 | apply IsS55.set_2 | apply IsS55.set_3 | apply IsS55.set_4 | refine IsS55.far ?_ NB109_101.out _ | refine IsS55.far ?_ NB109_102.out _) | exact HI109.out)⟩, ⟨by repeat (first | (with_reducible first | exact HB.out | apply below_alloc | apply pw_below_drewN | apply below_drew1 | refine below_set ?_ (IsS55.ge HI109.out) | refine below_set ?_ (IsS55.ge HI116.out) | refine below_set ?_ GE101.out | refine below_set ?_ GE102.out) | exact HB.out)⟩⟩
          case rest =>
            clear HC49
            try clear c1
            try clear c2
            try clear p2
            try clear c3
            try clear c4
            try clear c5
            try clear c6
            try clear c7
            try clear c8
            try clear c14
            try clear c17
            try clear c20
            try clear c20b0
            try clear c20b1
            try clear c21
            try clear c21b0
            try clear c21b1
            try clear c23
            try clear c24
            try clear c24b0
            try clear c25
            try clear c26
            try clear c27
            try clear c30
            try clear c30b0
            try clear c31
            try clear c32
            try clear c33
            try clear c36
            try clear c37
            try clear c38
            try clear c41
            try clear c42
            try clear c43
            try clear c46
            try clear c51
            try clear c51b0
            try clear c51b1
            try clear c54
            try clear c54b0
            try clear c54b1
            try clear c57
            try clear c58
            try clear c59
            try clear c66
            try clear c67
            try clear c68
            try clear c73
            try clear c74
            try clear c75
            try clear hcz15_0
            try clear hcz15_1
            try clear hcz18_0
            try clear hcz18_1
            try clear hcz28_0
            try clear hcz28_1
            try clear hcz34_0
            try clear hcz34_1
            try clear hcz39_0
            try clear hcz39_1
            try clear hcz44_0
            try clear hcz44_1
            try clear hcz60_0
            try clear hcz60_1
            try clear hcz69_0
            try clear hcz69_1
            try clear hcz76_0
            try clear hcz76_1
            try clear hfz15_0
            try clear hfz15_1
            try clear hfz18_0
            try clear hfz18_1
            try clear hfz28_0
            try clear hfz28_1
            try clear hfz34_0
            try clear hfz34_1
            try clear hfz39_0
            try clear hfz39_1
            try clear hfz44_0
            try clear hfz44_1
            try clear hfz60_0
            try clear hfz60_1
            try clear hfz69_0
            try clear hfz69_1
            try clear hfz76_0
            try clear hfz76_1
            try clear p2
            obtain ⟨kq, x90_48, x110000_48, x110001_48, x110002_48, x110003_48, x110004_48, rfl, HA, HJ48, BK101, BK102, HI109, HB⟩ := hcut
            cases kq with
            | zero => exact absurd HA.out (by simp [tiklaw22_ClockTurns.j1])
            | succ kj48 =>
              have H := HA.out
              clear HA
              simp only [tiklaw22_ClockTurns.j1] at H
              by_cases c78 : x90_48 = true
              · subst c78
                have H1 : (some false) = some r := by rw [if_pos rfl] at H; exact H
                clear H
                have H := H1
                clear H1
                exact absurd ((Option.some.inj H).trans hr_.out) (by simp)
              · replace c78 := Bool.eq_false_iff.mpr c78
                subst c78
                have H1 : ((clock_Clock_Go.f x110000_48 x110001_48 x110002_48 x110003_48 x110004_48 (IntKind.u64.wrap (a0 + a2))).bind fun bt150 => ((clock_Clock_Turn.f kj48 bt150.2.1 bt150.2.2.1 bt150.2.2.2.1 bt150.2.2.2.2.1 bt150.2.2.2.2.2 (IntKind.u64.wrap (a0 + a2)) a4_0 a4_1).bind fun bt156 => (if bt156.1 = 0 then ((clock_Clock_Go.f bt156.2.1 bt156.2.2.1 bt156.2.2.2.1 bt156.2.2.2.2.1 bt156.2.2.2.2.2 (IntKind.u64.wrap (a0 + a2))).bind fun bt162 => (if bt162.1 = bt150.1 then ((clock_Clock_Turn.f kj48 bt162.2.1 bt162.2.2.1 bt162.2.2.2.1 bt162.2.2.2.2.1 bt162.2.2.2.2.2 (IntKind.u64.wrap (a0 + a2)) 0 1).bind fun bt168 => (if bt168.1 = 0 then ((clock_Clock_Go.f bt168.2.1 bt168.2.2.1 bt168.2.2.2.1 bt168.2.2.2.2.1 bt168.2.2.2.2.2 (IntKind.u64.wrap (a0 + (IntKind.u64.wrap (2 * a2))))).bind fun bt174 => (tiklaw22_ClockTurns.j2 kj48 a0 a2 bt150.1 (bt174.1 != bt150.1) bt174.2.1 bt174.2.2.1 bt174.2.2.2.1 bt174.2.2.2.2.1 bt174.2.2.2.2.2)) else (tiklaw22_ClockTurns.j2 kj48 a0 a2 bt150.1 true bt168.2.1 bt168.2.2.1 bt168.2.2.2.1 bt168.2.2.2.2.1 bt168.2.2.2.2.2))) else (tiklaw22_ClockTurns.j2 kj48 a0 a2 bt150.1 true bt162.2.1 bt162.2.2.1 bt162.2.2.2.1 bt162.2.2.2.2.1 bt162.2.2.2.2.2))) else (tiklaw22_ClockTurns.j2 kj48 a0 a2 bt150.1 true bt156.2.1 bt156.2.2.1 bt156.2.2.2.1 bt156.2.2.2.2.1 bt156.2.2.2.2.2)))) = some r := by rw [if_neg (show ¬ (false = true) by decide)] at H; exact H
                clear H
                have H := H1
                clear H1
                replace H := Option.bind_eq_some_iff.mp H
                obtain ⟨⟨t150, t151, t152, t153, t154, t155⟩, A790, H⟩ := H
                replace H : ((clock_Clock_Turn.f kj48 t151 t152 t153 t154 t155 (IntKind.u64.wrap (a0 + a2)) a4_0 a4_1).bind fun bt156 => (if bt156.1 = 0 then ((clock_Clock_Go.f bt156.2.1 bt156.2.2.1 bt156.2.2.2.1 bt156.2.2.2.2.1 bt156.2.2.2.2.2 (IntKind.u64.wrap (a0 + a2))).bind fun bt162 => (if bt162.1 = t150 then ((clock_Clock_Turn.f kj48 bt162.2.1 bt162.2.2.1 bt162.2.2.2.1 bt162.2.2.2.2.1 bt162.2.2.2.2.2 (IntKind.u64.wrap (a0 + a2)) 0 1).bind fun bt168 => (if bt168.1 = 0 then ((clock_Clock_Go.f bt168.2.1 bt168.2.2.1 bt168.2.2.2.1 bt168.2.2.2.2.1 bt168.2.2.2.2.2 (IntKind.u64.wrap (a0 + (IntKind.u64.wrap (2 * a2))))).bind fun bt174 => (tiklaw22_ClockTurns.j2 kj48 a0 a2 t150 (bt174.1 != t150) bt174.2.1 bt174.2.2.1 bt174.2.2.2.1 bt174.2.2.2.2.1 bt174.2.2.2.2.2)) else (tiklaw22_ClockTurns.j2 kj48 a0 a2 t150 true bt168.2.1 bt168.2.2.1 bt168.2.2.2.1 bt168.2.2.2.2.1 bt168.2.2.2.2.2))) else (tiklaw22_ClockTurns.j2 kj48 a0 a2 t150 true bt162.2.1 bt162.2.2.1 bt162.2.2.2.1 bt162.2.2.2.2.1 bt162.2.2.2.2.2))) else (tiklaw22_ClockTurns.j2 kj48 a0 a2 t150 true bt156.2.1 bt156.2.2.1 bt156.2.2.2.1 bt156.2.2.2.2.1 bt156.2.2.2.2.2))) = some r := H
                have A79 := Aside0.mk A790
                clear A790
                have HC80 := Aside0.mk H
                clear H
                go_upto_region 10 with (first | ((with_reducible refine gate_callee (f := 10) rfl ?_); refine goesL_ (some 95) rfl rfl Try.func10 (by kernel_rfl) rfl #[.pointer (some ⟨g109, 0, none⟩), .int .u64 (IntKind.u64.wrap (a0 + a2))] rfl (by (try simp only [List.map_toArray, List.map_cons, List.map_nil]); first | done | rfl | (simp only [List.length_drop, List.length_take]; rfl)) ?_; (with_reducible refine (clock_Clock_Go.calls g109 x110000_48 x110001_48 x110002_48 x110003_48 x110004_48 (IntKind.u64.wrap (a0 + a2)) t150 t151 t152 t153 t154 t155 w _ ?side1 ?side2 A79.out).mono ?_); (case side1 => repeat (first | (with_reducible first | exact HI109.out | apply IsS55.alloc | apply IsS55.drewN | apply IsS55.drew | apply IsS55.set_0 | apply IsS55.set_1 | apply IsS55.set_2 | apply IsS55.set_3 | apply IsS55.set_4 | refine IsS55.far ?_ NB109_101.out _ | refine IsS55.far ?_ NB109_102.out _) | exact HI109.out)); (case side2 => repeat (first | (with_reducible first | exact HB.out | apply below_alloc | apply pw_below_drewN | apply below_drew1 | refine below_set ?_ (IsS55.ge HI109.out) | refine below_set ?_ GE101.out | refine below_set ?_ GE102.out) | exact HB.out)); rintro e w81 ⟨rfl, hi, hb, hk⟩; refine ⟨_, rfl, ?_⟩; have n0_ := Aside0.mk (KeepBut.blk hk (g' := gb101) (o := .cells #[.int .u64 a3_0, .int .u64 a3_1] 24 (0, 0)) (by (with_reducible repeat (first | refine blk_drewN ?_ _ | refine blk_drew ?_ | refine blk_alloc ?_ _)); exact BK101.out) NB101_109.out (by simp)); have n1_ := Aside0.mk (KeepBut.blk hk (g' := gb102) (o := .cells #[.int .u64 a4_0, .int .u64 a4_1] 24 (0, 0)) (by (with_reducible repeat (first | refine blk_drewN ?_ _ | refine blk_drew ?_ | refine blk_alloc ?_ _)); exact BK102.out) NB102_109.out (by simp)); have n2_ := Aside0.mk (hb); have n3_ := Aside0.mk (hi); clear BK101; clear BK102; clear HB; clear HI109; have BK101 := n0_; have BK102 := n1_; have HB := n2_; have HI109 := n3_; clear n0_ n1_ n2_ n3_; (try clear hb); (try clear hb2); (try clear hk); (try clear hi)))
                (try simp only [Act.put, List.setIfInBounds_toArray, List.set_cons_zero, List.set_cons_succ])
                go_cut [130] (fun v130 wc => ∃ (kq : Nat) (x130_79 : Bool) (x110000_79 : Int) (x110001_79 : Int) (x110002_79 : Int) (x110003_79 : Int) (x110004_79 : Int), v130 = .bool x130_79 ∧ Aside0 (tiklaw22_ClockTurns.j2 kq a0 a2 t150 x130_79 x110000_79 x110001_79 x110002_79 x110003_79 x110004_79 = some r) ∧ Aside0 (kq ≤ kj48) ∧ Aside0 (wc.heap[gb101]? = some (.cells #[.int .u64 a3_0, .int .u64 a3_1] 24 (0, 0))) ∧ Aside0 (wc.heap[gb102]? = some (.cells #[.int .u64 a4_0, .int .u64 a4_1] 24 (0, 0))) ∧ Aside0 (IsS55 w wc g109 x110000_79 x110001_79 x110002_79 x110003_79 x110004_79) ∧ Aside0 (Below w.heap.size w wc))
                case first =>
                  have H := HC80.out
                  clear HC80
                  replace H := Option.bind_eq_some_iff.mp H
                  obtain ⟨⟨t156, t157, t158, t159, t160, t161⟩, A820, H⟩ := H
                  replace H : (if t156 = 0 then ((clock_Clock_Go.f t157 t158 t159 t160 t161 (IntKind.u64.wrap (a0 + a2))).bind fun bt162 => (if bt162.1 = t150 then ((clock_Clock_Turn.f kj48 bt162.2.1 bt162.2.2.1 bt162.2.2.2.1 bt162.2.2.2.2.1 bt162.2.2.2.2.2 (IntKind.u64.wrap (a0 + a2)) 0 1).bind fun bt168 => (if bt168.1 = 0 then ((clock_Clock_Go.f bt168.2.1 bt168.2.2.1 bt168.2.2.2.1 bt168.2.2.2.2.1 bt168.2.2.2.2.2 (IntKind.u64.wrap (a0 + (IntKind.u64.wrap (2 * a2))))).bind fun bt174 => (tiklaw22_ClockTurns.j2 kj48 a0 a2 t150 (bt174.1 != t150) bt174.2.1 bt174.2.2.1 bt174.2.2.2.1 bt174.2.2.2.2.1 bt174.2.2.2.2.2)) else (tiklaw22_ClockTurns.j2 kj48 a0 a2 t150 true bt168.2.1 bt168.2.2.1 bt168.2.2.2.1 bt168.2.2.2.2.1 bt168.2.2.2.2.2))) else (tiklaw22_ClockTurns.j2 kj48 a0 a2 t150 true bt162.2.1 bt162.2.2.1 bt162.2.2.2.1 bt162.2.2.2.2.1 bt162.2.2.2.2.2))) else (tiklaw22_ClockTurns.j2 kj48 a0 a2 t150 true t157 t158 t159 t160 t161)) = some r := H
                  have A82 := Aside0.mk A820
                  clear A820
                  by_cases c83 : t156 = 0
                  · rw [if_pos c83] at H
                    have c83b0 : (t156 == 0) = true := beq_iff_eq.mpr c83
                    have c83b1 : (t156 != 0) = false := bne_eq_false_iff_eq.mpr c83
                    clear c83
                    (first | rw [c83b0] | (simp only [i64_w, i32_w]; rw [c83b0]) | skip)
                    replace H := Option.bind_eq_some_iff.mp H
                    obtain ⟨⟨t162, t163, t164, t165, t166, t167⟩, A840, H⟩ := H
                    replace H : (if t162 = t150 then ((clock_Clock_Turn.f kj48 t163 t164 t165 t166 t167 (IntKind.u64.wrap (a0 + a2)) 0 1).bind fun bt168 => (if bt168.1 = 0 then ((clock_Clock_Go.f bt168.2.1 bt168.2.2.1 bt168.2.2.2.1 bt168.2.2.2.2.1 bt168.2.2.2.2.2 (IntKind.u64.wrap (a0 + (IntKind.u64.wrap (2 * a2))))).bind fun bt174 => (tiklaw22_ClockTurns.j2 kj48 a0 a2 t150 (bt174.1 != t150) bt174.2.1 bt174.2.2.1 bt174.2.2.2.1 bt174.2.2.2.2.1 bt174.2.2.2.2.2)) else (tiklaw22_ClockTurns.j2 kj48 a0 a2 t150 true bt168.2.1 bt168.2.2.1 bt168.2.2.2.1 bt168.2.2.2.2.1 bt168.2.2.2.2.2))) else (tiklaw22_ClockTurns.j2 kj48 a0 a2 t150 true t163 t164 t165 t166 t167)) = some r := H
                    have A84 := Aside0.mk A840
                    clear A840
                    by_cases c85 : t162 = t150
                    · rw [if_pos c85] at H
                      have c85b0 : (t162 == t150) = true := beq_iff_eq.mpr c85
                      have c85b1 : (t162 != t150) = false := bne_eq_false_iff_eq.mpr c85
                      clear c85
                      replace H := Option.bind_eq_some_iff.mp H
                      obtain ⟨⟨t168, t169, t170, t171, t172, t173⟩, A860, H⟩ := H
                      replace H : (if t168 = 0 then ((clock_Clock_Go.f t169 t170 t171 t172 t173 (IntKind.u64.wrap (a0 + (IntKind.u64.wrap (2 * a2))))).bind fun bt174 => (tiklaw22_ClockTurns.j2 kj48 a0 a2 t150 (bt174.1 != t150) bt174.2.1 bt174.2.2.1 bt174.2.2.2.1 bt174.2.2.2.2.1 bt174.2.2.2.2.2)) else (tiklaw22_ClockTurns.j2 kj48 a0 a2 t150 true t169 t170 t171 t172 t173)) = some r := H
                      have A86 := Aside0.mk A860
                      clear A860
                      by_cases c87 : t168 = 0
                      · rw [if_pos c87] at H
                        have c87b0 : (t168 == 0) = true := beq_iff_eq.mpr c87
                        have c87b1 : (t168 != 0) = false := bne_eq_false_iff_eq.mpr c87
                        clear c87
                        replace H := Option.bind_eq_some_iff.mp H
                        obtain ⟨⟨t174, t175, t176, t177, t178, t179⟩, A880, H⟩ := H
                        replace H : (tiklaw22_ClockTurns.j2 kj48 a0 a2 t150 (t174 != t150) t175 t176 t177 t178 t179) = some r := H
                        have A88 := Aside0.mk A880
                        clear A880
                        have H' := Aside0.mk H
                        clear H
                        have hnb89 := NB102_101.out
                        have hnc89 := NB101_102.out
                        have hnb90 := NB102_109.out
                        have hnc90 := NB109_102.out
                        have hcz91_0 : w81.cell? ⟨gb102, 0, none⟩ = some (.int .u64 a4_0) := (blk_cell BK102.out 0).trans rfl
                        have hcz91_1 : w81.cell? ⟨gb102, 1, none⟩ = some (.int .u64 a4_1) := (blk_cell BK102.out 1).trans rfl
                        have hfz91_0 := blk_frozen BK102.out 0
                        have hfz91_1 := blk_frozen BK102.out 1
                        go_wp2_with (first | ((with_reducible refine gate_callee (f := 14) rfl ?_); refine goesL_ (some 101) rfl rfl Try.func14 (by kernel_rfl) rfl #[.pointer (some ⟨g109, 0, none⟩), .int .u64 (IntKind.u64.wrap (a0 + a2)), .agg #[.int .u64 a4_0, .int .u64 a4_1]] rfl (by (try simp only [List.map_toArray, List.map_cons, List.map_nil]); first | done | rfl | (simp only [List.length_drop, List.length_take]; rfl)) ?_; (with_reducible refine (clock_Clock_Turn.calls kj48 g109 t151 t152 t153 t154 t155 (IntKind.u64.wrap (a0 + a2)) a4_0 a4_1 t156 t157 t158 t159 t160 t161 w _ ?side1 ?side2 A82.out).mono ?_); (case side1 => repeat (first | (with_reducible first | exact HI109.out | apply IsS55.alloc | apply IsS55.drewN | apply IsS55.drew | apply IsS55.set_0 | apply IsS55.set_1 | apply IsS55.set_2 | apply IsS55.set_3 | apply IsS55.set_4 | refine IsS55.far ?_ NB109_101.out _ | refine IsS55.far ?_ NB109_102.out _) | exact HI109.out)); (case side2 => repeat (first | (with_reducible first | exact HB.out | apply below_alloc | apply pw_below_drewN | apply below_drew1 | refine below_set ?_ (IsS55.ge HI109.out) | refine below_set ?_ GE101.out | refine below_set ?_ GE102.out) | exact HB.out)); rintro e w92 ⟨rfl, hi, hb, hk⟩; refine ⟨_, rfl, ?_⟩; have n0_ := Aside0.mk (KeepBut.blk hk (g' := gb101) (o := .cells #[.int .u64 a3_0, .int .u64 a3_1] 24 (0, 0)) (by (with_reducible repeat (first | refine blk_drewN ?_ _ | refine blk_drew ?_ | refine blk_alloc ?_ _)); exact BK101.out) NB101_109.out (by simp)); have n1_ := Aside0.mk (KeepBut.blk hk (g' := gb102) (o := .cells #[.int .u64 a4_0, .int .u64 a4_1] 24 (0, 0)) (by (with_reducible repeat (first | refine blk_drewN ?_ _ | refine blk_drew ?_ | refine blk_alloc ?_ _)); exact BK102.out) NB102_109.out (by simp)); have n2_ := Aside0.mk (hb); have n3_ := Aside0.mk (hi); clear BK101; clear BK102; clear HB; clear HI109; have BK101 := n0_; have BK102 := n1_; have HB := n2_; have HI109 := n3_; clear n0_ n1_ n2_ n3_; (try clear hb); (try clear hb2); (try clear hk); (try clear hi)) | (go_at_call 10; (with_reducible refine (clock_Clock_Go.calls g109 t157 t158 t159 t160 t161 (IntKind.u64.wrap (a0 + a2)) t162 t163 t164 t165 t166 t167 w _ ?side1 ?side2 A84.out).mono ?_); (case side1 => repeat (first | (with_reducible first | exact HI109.out | apply IsS55.alloc | apply IsS55.drewN | apply IsS55.drew | apply IsS55.set_0 | apply IsS55.set_1 | apply IsS55.set_2 | apply IsS55.set_3 | apply IsS55.set_4 | refine IsS55.far ?_ NB109_101.out _ | refine IsS55.far ?_ NB109_102.out _) | exact HI109.out)); (case side2 => repeat (first | (with_reducible first | exact HB.out | apply below_alloc | apply pw_below_drewN | apply below_drew1 | refine below_set ?_ (IsS55.ge HI109.out) | refine below_set ?_ GE101.out | refine below_set ?_ GE102.out) | exact HB.out)); rintro e w93 ⟨rfl, hi, hb, hk⟩; have n0_ := Aside0.mk (KeepBut.blk hk (g' := gb101) (o := .cells #[.int .u64 a3_0, .int .u64 a3_1] 24 (0, 0)) (by (with_reducible repeat (first | refine blk_drewN ?_ _ | refine blk_drew ?_ | refine blk_alloc ?_ _)); exact BK101.out) NB101_109.out (by simp)); have n1_ := Aside0.mk (KeepBut.blk hk (g' := gb102) (o := .cells #[.int .u64 a4_0, .int .u64 a4_1] 24 (0, 0)) (by (with_reducible repeat (first | refine blk_drewN ?_ _ | refine blk_drew ?_ | refine blk_alloc ?_ _)); exact BK102.out) NB102_109.out (by simp)); have n2_ := Aside0.mk (hb); have n3_ := Aside0.mk (hi); clear BK101; clear BK102; clear HB; clear HI109; have BK101 := n0_; have BK102 := n1_; have HB := n2_; have HI109 := n3_; clear n0_ n1_ n2_ n3_; (try clear hb); (try clear hb2); (try clear hk); (try clear hi)) | (go_at_call 14; (with_reducible refine (clock_Clock_Turn.calls kj48 g109 t163 t164 t165 t166 t167 (IntKind.u64.wrap (a0 + a2)) 0 1 t168 t169 t170 t171 t172 t173 w _ ?side1 ?side2 A86.out).mono ?_); (case side1 => repeat (first | (with_reducible first | exact HI109.out | apply IsS55.alloc | apply IsS55.drewN | apply IsS55.drew | apply IsS55.set_0 | apply IsS55.set_1 | apply IsS55.set_2 | apply IsS55.set_3 | apply IsS55.set_4 | refine IsS55.far ?_ NB109_101.out _ | refine IsS55.far ?_ NB109_102.out _) | exact HI109.out)); (case side2 => repeat (first | (with_reducible first | exact HB.out | apply below_alloc | apply pw_below_drewN | apply below_drew1 | refine below_set ?_ (IsS55.ge HI109.out) | refine below_set ?_ GE101.out | refine below_set ?_ GE102.out) | exact HB.out)); rintro e w94 ⟨rfl, hi, hb, hk⟩; have n0_ := Aside0.mk (KeepBut.blk hk (g' := gb101) (o := .cells #[.int .u64 a3_0, .int .u64 a3_1] 24 (0, 0)) (by (with_reducible repeat (first | refine blk_drewN ?_ _ | refine blk_drew ?_ | refine blk_alloc ?_ _)); exact BK101.out) NB101_109.out (by simp)); have n1_ := Aside0.mk (KeepBut.blk hk (g' := gb102) (o := .cells #[.int .u64 a4_0, .int .u64 a4_1] 24 (0, 0)) (by (with_reducible repeat (first | refine blk_drewN ?_ _ | refine blk_drew ?_ | refine blk_alloc ?_ _)); exact BK102.out) NB102_109.out (by simp)); have n2_ := Aside0.mk (hb); have n3_ := Aside0.mk (hi); clear BK101; clear BK102; clear HB; clear HI109; have BK101 := n0_; have BK102 := n1_; have HB := n2_; have HI109 := n3_; clear n0_ n1_ n2_ n3_; (try clear hb); (try clear hb2); (try clear hk); (try clear hi)) | (go_at_call 10; (with_reducible refine (clock_Clock_Go.calls g109 t169 t170 t171 t172 t173 (IntKind.u64.wrap (a0 + (IntKind.u64.wrap (2 * a2)))) t174 t175 t176 t177 t178 t179 w _ ?side1 ?side2 A88.out).mono ?_); (case side1 => repeat (first | (with_reducible first | exact HI109.out | apply IsS55.alloc | apply IsS55.drewN | apply IsS55.drew | apply IsS55.set_0 | apply IsS55.set_1 | apply IsS55.set_2 | apply IsS55.set_3 | apply IsS55.set_4 | refine IsS55.far ?_ NB109_101.out _ | refine IsS55.far ?_ NB109_102.out _) | exact HI109.out)); (case side2 => repeat (first | (with_reducible first | exact HB.out | apply below_alloc | apply pw_below_drewN | apply below_drew1 | refine below_set ?_ (IsS55.ge HI109.out) | refine below_set ?_ GE101.out | refine below_set ?_ GE102.out) | exact HB.out)); rintro e w95 ⟨rfl, hi, hb, hk⟩; have n0_ := Aside0.mk (KeepBut.blk hk (g' := gb101) (o := .cells #[.int .u64 a3_0, .int .u64 a3_1] 24 (0, 0)) (by (with_reducible repeat (first | refine blk_drewN ?_ _ | refine blk_drew ?_ | refine blk_alloc ?_ _)); exact BK101.out) NB101_109.out (by simp)); have n1_ := Aside0.mk (KeepBut.blk hk (g' := gb102) (o := .cells #[.int .u64 a4_0, .int .u64 a4_1] 24 (0, 0)) (by (with_reducible repeat (first | refine blk_drewN ?_ _ | refine blk_drew ?_ | refine blk_alloc ?_ _)); exact BK102.out) NB102_109.out (by simp)); have n2_ := Aside0.mk (hb); have n3_ := Aside0.mk (hi); clear BK101; clear BK102; clear HB; clear HI109; have BK101 := n0_; have BK102 := n1_; have HB := n2_; have HI109 := n3_; clear n0_ n1_ n2_ n3_; (try clear hb); (try clear hb2); (try clear hk); (try clear hi)))
                        go_meet
                        case rel => exact ⟨_, ((t174 != t150)), (t175), (t176), (t177), (t178), (t179), (by first | rfl | (simp; done) | (simp [*]; done)), H', ⟨by have := HJ9.out; have := HJ48.out; first | omega | exact Nat.le_refl _⟩, ⟨by (with_reducible repeat (first | refine blk_drewN ?_ _ | refine blk_drew ?_ | refine blk_alloc ?_ _)); exact BK101.out⟩, ⟨by (with_reducible repeat (first | refine blk_drewN ?_ _ | refine blk_drew ?_ | refine blk_alloc ?_ _)); exact BK102.out⟩, ⟨by repeat (first | (with_reducible first | exact HI109.out | apply IsS55.alloc | apply IsS55.drewN | apply IsS55.drew | apply IsS55.set_0 | apply IsS55.set_1 | apply IsS55.set_2 | apply IsS55.set_3 | apply IsS55.set_4 | refine IsS55.far ?_ NB109_101.out _ | refine IsS55.far ?_ NB109_102.out _) | exact HI109.out)⟩, ⟨by repeat (first | (with_reducible first | exact HB.out | apply below_alloc | apply pw_below_drewN | apply below_drew1 | refine below_set ?_ (IsS55.ge HI109.out) | refine below_set ?_ GE101.out | refine below_set ?_ GE102.out) | exact HB.out)⟩⟩
                      · rw [if_neg c87] at H
                        have c87b0 : (t168 == 0) = false := beq_eq_false_iff_ne.mpr c87
                        have c87b1 : (t168 != 0) = true := bne_iff_ne.mpr c87
                        have H' := Aside0.mk H
                        clear H
                        have hnb96 := NB102_101.out
                        have hnc96 := NB101_102.out
                        have hnb97 := NB102_109.out
                        have hnc97 := NB109_102.out
                        have hcz98_0 : w81.cell? ⟨gb102, 0, none⟩ = some (.int .u64 a4_0) := (blk_cell BK102.out 0).trans rfl
                        have hcz98_1 : w81.cell? ⟨gb102, 1, none⟩ = some (.int .u64 a4_1) := (blk_cell BK102.out 1).trans rfl
                        have hfz98_0 := blk_frozen BK102.out 0
                        have hfz98_1 := blk_frozen BK102.out 1
                        go_wp2_with (first | ((with_reducible refine gate_callee (f := 14) rfl ?_); refine goesL_ (some 101) rfl rfl Try.func14 (by kernel_rfl) rfl #[.pointer (some ⟨g109, 0, none⟩), .int .u64 (IntKind.u64.wrap (a0 + a2)), .agg #[.int .u64 a4_0, .int .u64 a4_1]] rfl (by (try simp only [List.map_toArray, List.map_cons, List.map_nil]); first | done | rfl | (simp only [List.length_drop, List.length_take]; rfl)) ?_; (with_reducible refine (clock_Clock_Turn.calls kj48 g109 t151 t152 t153 t154 t155 (IntKind.u64.wrap (a0 + a2)) a4_0 a4_1 t156 t157 t158 t159 t160 t161 w _ ?side1 ?side2 A82.out).mono ?_); (case side1 => repeat (first | (with_reducible first | exact HI109.out | apply IsS55.alloc | apply IsS55.drewN | apply IsS55.drew | apply IsS55.set_0 | apply IsS55.set_1 | apply IsS55.set_2 | apply IsS55.set_3 | apply IsS55.set_4 | refine IsS55.far ?_ NB109_101.out _ | refine IsS55.far ?_ NB109_102.out _) | exact HI109.out)); (case side2 => repeat (first | (with_reducible first | exact HB.out | apply below_alloc | apply pw_below_drewN | apply below_drew1 | refine below_set ?_ (IsS55.ge HI109.out) | refine below_set ?_ GE101.out | refine below_set ?_ GE102.out) | exact HB.out)); rintro e w99 ⟨rfl, hi, hb, hk⟩; refine ⟨_, rfl, ?_⟩; have n0_ := Aside0.mk (KeepBut.blk hk (g' := gb101) (o := .cells #[.int .u64 a3_0, .int .u64 a3_1] 24 (0, 0)) (by (with_reducible repeat (first | refine blk_drewN ?_ _ | refine blk_drew ?_ | refine blk_alloc ?_ _)); exact BK101.out) NB101_109.out (by simp)); have n1_ := Aside0.mk (KeepBut.blk hk (g' := gb102) (o := .cells #[.int .u64 a4_0, .int .u64 a4_1] 24 (0, 0)) (by (with_reducible repeat (first | refine blk_drewN ?_ _ | refine blk_drew ?_ | refine blk_alloc ?_ _)); exact BK102.out) NB102_109.out (by simp)); have n2_ := Aside0.mk (hb); have n3_ := Aside0.mk (hi); clear BK101; clear BK102; clear HB; clear HI109; have BK101 := n0_; have BK102 := n1_; have HB := n2_; have HI109 := n3_; clear n0_ n1_ n2_ n3_; (try clear hb); (try clear hb2); (try clear hk); (try clear hi)) | (go_at_call 10; (with_reducible refine (clock_Clock_Go.calls g109 t157 t158 t159 t160 t161 (IntKind.u64.wrap (a0 + a2)) t162 t163 t164 t165 t166 t167 w _ ?side1 ?side2 A84.out).mono ?_); (case side1 => repeat (first | (with_reducible first | exact HI109.out | apply IsS55.alloc | apply IsS55.drewN | apply IsS55.drew | apply IsS55.set_0 | apply IsS55.set_1 | apply IsS55.set_2 | apply IsS55.set_3 | apply IsS55.set_4 | refine IsS55.far ?_ NB109_101.out _ | refine IsS55.far ?_ NB109_102.out _) | exact HI109.out)); (case side2 => repeat (first | (with_reducible first | exact HB.out | apply below_alloc | apply pw_below_drewN | apply below_drew1 | refine below_set ?_ (IsS55.ge HI109.out) | refine below_set ?_ GE101.out | refine below_set ?_ GE102.out) | exact HB.out)); rintro e w100 ⟨rfl, hi, hb, hk⟩; have n0_ := Aside0.mk (KeepBut.blk hk (g' := gb101) (o := .cells #[.int .u64 a3_0, .int .u64 a3_1] 24 (0, 0)) (by (with_reducible repeat (first | refine blk_drewN ?_ _ | refine blk_drew ?_ | refine blk_alloc ?_ _)); exact BK101.out) NB101_109.out (by simp)); have n1_ := Aside0.mk (KeepBut.blk hk (g' := gb102) (o := .cells #[.int .u64 a4_0, .int .u64 a4_1] 24 (0, 0)) (by (with_reducible repeat (first | refine blk_drewN ?_ _ | refine blk_drew ?_ | refine blk_alloc ?_ _)); exact BK102.out) NB102_109.out (by simp)); have n2_ := Aside0.mk (hb); have n3_ := Aside0.mk (hi); clear BK101; clear BK102; clear HB; clear HI109; have BK101 := n0_; have BK102 := n1_; have HB := n2_; have HI109 := n3_; clear n0_ n1_ n2_ n3_; (try clear hb); (try clear hb2); (try clear hk); (try clear hi)) | (go_at_call 14; (with_reducible refine (clock_Clock_Turn.calls kj48 g109 t163 t164 t165 t166 t167 (IntKind.u64.wrap (a0 + a2)) 0 1 t168 t169 t170 t171 t172 t173 w _ ?side1 ?side2 A86.out).mono ?_); (case side1 => repeat (first | (with_reducible first | exact HI109.out | apply IsS55.alloc | apply IsS55.drewN | apply IsS55.drew | apply IsS55.set_0 | apply IsS55.set_1 | apply IsS55.set_2 | apply IsS55.set_3 | apply IsS55.set_4 | refine IsS55.far ?_ NB109_101.out _ | refine IsS55.far ?_ NB109_102.out _) | exact HI109.out)); (case side2 => repeat (first | (with_reducible first | exact HB.out | apply below_alloc | apply pw_below_drewN | apply below_drew1 | refine below_set ?_ (IsS55.ge HI109.out) | refine below_set ?_ GE101.out | refine below_set ?_ GE102.out) | exact HB.out)); rintro e w101 ⟨rfl, hi, hb, hk⟩; have n0_ := Aside0.mk (KeepBut.blk hk (g' := gb101) (o := .cells #[.int .u64 a3_0, .int .u64 a3_1] 24 (0, 0)) (by (with_reducible repeat (first | refine blk_drewN ?_ _ | refine blk_drew ?_ | refine blk_alloc ?_ _)); exact BK101.out) NB101_109.out (by simp)); have n1_ := Aside0.mk (KeepBut.blk hk (g' := gb102) (o := .cells #[.int .u64 a4_0, .int .u64 a4_1] 24 (0, 0)) (by (with_reducible repeat (first | refine blk_drewN ?_ _ | refine blk_drew ?_ | refine blk_alloc ?_ _)); exact BK102.out) NB102_109.out (by simp)); have n2_ := Aside0.mk (hb); have n3_ := Aside0.mk (hi); clear BK101; clear BK102; clear HB; clear HI109; have BK101 := n0_; have BK102 := n1_; have HB := n2_; have HI109 := n3_; clear n0_ n1_ n2_ n3_; (try clear hb); (try clear hb2); (try clear hk); (try clear hi)))
                        go_meet
                        case rel => exact ⟨_, (true), (t169), (t170), (t171), (t172), (t173), (by first | rfl | (simp; done) | (simp [*]; done)), H', ⟨by have := HJ9.out; have := HJ48.out; first | omega | exact Nat.le_refl _⟩, ⟨by (with_reducible repeat (first | refine blk_drewN ?_ _ | refine blk_drew ?_ | refine blk_alloc ?_ _)); exact BK101.out⟩, ⟨by (with_reducible repeat (first | refine blk_drewN ?_ _ | refine blk_drew ?_ | refine blk_alloc ?_ _)); exact BK102.out⟩, ⟨by repeat (first | (with_reducible first | exact HI109.out | apply IsS55.alloc | apply IsS55.drewN | apply IsS55.drew | apply IsS55.set_0 | apply IsS55.set_1 | apply IsS55.set_2 | apply IsS55.set_3 | apply IsS55.set_4 | refine IsS55.far ?_ NB109_101.out _ | refine IsS55.far ?_ NB109_102.out _) | exact HI109.out)⟩, ⟨by repeat (first | (with_reducible first | exact HB.out | apply below_alloc | apply pw_below_drewN | apply below_drew1 | refine below_set ?_ (IsS55.ge HI109.out) | refine below_set ?_ GE101.out | refine below_set ?_ GE102.out) | exact HB.out)⟩⟩
                    · rw [if_neg c85] at H
                      have c85b0 : (t162 == t150) = false := beq_eq_false_iff_ne.mpr c85
                      have c85b1 : (t162 != t150) = true := bne_iff_ne.mpr c85
                      have H' := Aside0.mk H
                      clear H
                      have hnb102 := NB102_101.out
                      have hnc102 := NB101_102.out
                      have hnb103 := NB102_109.out
                      have hnc103 := NB109_102.out
                      have hcz104_0 : w81.cell? ⟨gb102, 0, none⟩ = some (.int .u64 a4_0) := (blk_cell BK102.out 0).trans rfl
                      have hcz104_1 : w81.cell? ⟨gb102, 1, none⟩ = some (.int .u64 a4_1) := (blk_cell BK102.out 1).trans rfl
                      have hfz104_0 := blk_frozen BK102.out 0
                      have hfz104_1 := blk_frozen BK102.out 1
                      go_wp2_with (first | ((with_reducible refine gate_callee (f := 14) rfl ?_); refine goesL_ (some 101) rfl rfl Try.func14 (by kernel_rfl) rfl #[.pointer (some ⟨g109, 0, none⟩), .int .u64 (IntKind.u64.wrap (a0 + a2)), .agg #[.int .u64 a4_0, .int .u64 a4_1]] rfl (by (try simp only [List.map_toArray, List.map_cons, List.map_nil]); first | done | rfl | (simp only [List.length_drop, List.length_take]; rfl)) ?_; (with_reducible refine (clock_Clock_Turn.calls kj48 g109 t151 t152 t153 t154 t155 (IntKind.u64.wrap (a0 + a2)) a4_0 a4_1 t156 t157 t158 t159 t160 t161 w _ ?side1 ?side2 A82.out).mono ?_); (case side1 => repeat (first | (with_reducible first | exact HI109.out | apply IsS55.alloc | apply IsS55.drewN | apply IsS55.drew | apply IsS55.set_0 | apply IsS55.set_1 | apply IsS55.set_2 | apply IsS55.set_3 | apply IsS55.set_4 | refine IsS55.far ?_ NB109_101.out _ | refine IsS55.far ?_ NB109_102.out _) | exact HI109.out)); (case side2 => repeat (first | (with_reducible first | exact HB.out | apply below_alloc | apply pw_below_drewN | apply below_drew1 | refine below_set ?_ (IsS55.ge HI109.out) | refine below_set ?_ GE101.out | refine below_set ?_ GE102.out) | exact HB.out)); rintro e w105 ⟨rfl, hi, hb, hk⟩; refine ⟨_, rfl, ?_⟩; have n0_ := Aside0.mk (KeepBut.blk hk (g' := gb101) (o := .cells #[.int .u64 a3_0, .int .u64 a3_1] 24 (0, 0)) (by (with_reducible repeat (first | refine blk_drewN ?_ _ | refine blk_drew ?_ | refine blk_alloc ?_ _)); exact BK101.out) NB101_109.out (by simp)); have n1_ := Aside0.mk (KeepBut.blk hk (g' := gb102) (o := .cells #[.int .u64 a4_0, .int .u64 a4_1] 24 (0, 0)) (by (with_reducible repeat (first | refine blk_drewN ?_ _ | refine blk_drew ?_ | refine blk_alloc ?_ _)); exact BK102.out) NB102_109.out (by simp)); have n2_ := Aside0.mk (hb); have n3_ := Aside0.mk (hi); clear BK101; clear BK102; clear HB; clear HI109; have BK101 := n0_; have BK102 := n1_; have HB := n2_; have HI109 := n3_; clear n0_ n1_ n2_ n3_; (try clear hb); (try clear hb2); (try clear hk); (try clear hi)) | (go_at_call 10; (with_reducible refine (clock_Clock_Go.calls g109 t157 t158 t159 t160 t161 (IntKind.u64.wrap (a0 + a2)) t162 t163 t164 t165 t166 t167 w _ ?side1 ?side2 A84.out).mono ?_); (case side1 => repeat (first | (with_reducible first | exact HI109.out | apply IsS55.alloc | apply IsS55.drewN | apply IsS55.drew | apply IsS55.set_0 | apply IsS55.set_1 | apply IsS55.set_2 | apply IsS55.set_3 | apply IsS55.set_4 | refine IsS55.far ?_ NB109_101.out _ | refine IsS55.far ?_ NB109_102.out _) | exact HI109.out)); (case side2 => repeat (first | (with_reducible first | exact HB.out | apply below_alloc | apply pw_below_drewN | apply below_drew1 | refine below_set ?_ (IsS55.ge HI109.out) | refine below_set ?_ GE101.out | refine below_set ?_ GE102.out) | exact HB.out)); rintro e w106 ⟨rfl, hi, hb, hk⟩; have n0_ := Aside0.mk (KeepBut.blk hk (g' := gb101) (o := .cells #[.int .u64 a3_0, .int .u64 a3_1] 24 (0, 0)) (by (with_reducible repeat (first | refine blk_drewN ?_ _ | refine blk_drew ?_ | refine blk_alloc ?_ _)); exact BK101.out) NB101_109.out (by simp)); have n1_ := Aside0.mk (KeepBut.blk hk (g' := gb102) (o := .cells #[.int .u64 a4_0, .int .u64 a4_1] 24 (0, 0)) (by (with_reducible repeat (first | refine blk_drewN ?_ _ | refine blk_drew ?_ | refine blk_alloc ?_ _)); exact BK102.out) NB102_109.out (by simp)); have n2_ := Aside0.mk (hb); have n3_ := Aside0.mk (hi); clear BK101; clear BK102; clear HB; clear HI109; have BK101 := n0_; have BK102 := n1_; have HB := n2_; have HI109 := n3_; clear n0_ n1_ n2_ n3_; (try clear hb); (try clear hb2); (try clear hk); (try clear hi)))
                      go_meet
                      case rel => exact ⟨_, (true), (t163), (t164), (t165), (t166), (t167), (by first | rfl | (simp; done) | (simp [*]; done)), H', ⟨by have := HJ9.out; have := HJ48.out; first | omega | exact Nat.le_refl _⟩, ⟨by (with_reducible repeat (first | refine blk_drewN ?_ _ | refine blk_drew ?_ | refine blk_alloc ?_ _)); exact BK101.out⟩, ⟨by (with_reducible repeat (first | refine blk_drewN ?_ _ | refine blk_drew ?_ | refine blk_alloc ?_ _)); exact BK102.out⟩, ⟨by repeat (first | (with_reducible first | exact HI109.out | apply IsS55.alloc | apply IsS55.drewN | apply IsS55.drew | apply IsS55.set_0 | apply IsS55.set_1 | apply IsS55.set_2 | apply IsS55.set_3 | apply IsS55.set_4 | refine IsS55.far ?_ NB109_101.out _ | refine IsS55.far ?_ NB109_102.out _) | exact HI109.out)⟩, ⟨by repeat (first | (with_reducible first | exact HB.out | apply below_alloc | apply pw_below_drewN | apply below_drew1 | refine below_set ?_ (IsS55.ge HI109.out) | refine below_set ?_ GE101.out | refine below_set ?_ GE102.out) | exact HB.out)⟩⟩
                  · rw [if_neg c83] at H
                    have c83b0 : (t156 == 0) = false := beq_eq_false_iff_ne.mpr c83
                    have c83b1 : (t156 != 0) = true := bne_iff_ne.mpr c83
                    (first | rw [c83b0] | (simp only [i64_w, i32_w]; rw [c83b0]) | skip)
                    have H' := Aside0.mk H
                    clear H
                    have hnb107 := NB102_101.out
                    have hnc107 := NB101_102.out
                    have hnb108 := NB102_109.out
                    have hnc108 := NB109_102.out
                    have hcz109_0 : w81.cell? ⟨gb102, 0, none⟩ = some (.int .u64 a4_0) := (blk_cell BK102.out 0).trans rfl
                    have hcz109_1 : w81.cell? ⟨gb102, 1, none⟩ = some (.int .u64 a4_1) := (blk_cell BK102.out 1).trans rfl
                    have hfz109_0 := blk_frozen BK102.out 0
                    have hfz109_1 := blk_frozen BK102.out 1
                    go_wp2_with (first | ((with_reducible refine gate_callee (f := 14) rfl ?_); refine goesL_ (some 101) rfl rfl Try.func14 (by kernel_rfl) rfl #[.pointer (some ⟨g109, 0, none⟩), .int .u64 (IntKind.u64.wrap (a0 + a2)), .agg #[.int .u64 a4_0, .int .u64 a4_1]] rfl (by (try simp only [List.map_toArray, List.map_cons, List.map_nil]); first | done | rfl | (simp only [List.length_drop, List.length_take]; rfl)) ?_; (with_reducible refine (clock_Clock_Turn.calls kj48 g109 t151 t152 t153 t154 t155 (IntKind.u64.wrap (a0 + a2)) a4_0 a4_1 t156 t157 t158 t159 t160 t161 w _ ?side1 ?side2 A82.out).mono ?_); (case side1 => repeat (first | (with_reducible first | exact HI109.out | apply IsS55.alloc | apply IsS55.drewN | apply IsS55.drew | apply IsS55.set_0 | apply IsS55.set_1 | apply IsS55.set_2 | apply IsS55.set_3 | apply IsS55.set_4 | refine IsS55.far ?_ NB109_101.out _ | refine IsS55.far ?_ NB109_102.out _) | exact HI109.out)); (case side2 => repeat (first | (with_reducible first | exact HB.out | apply below_alloc | apply pw_below_drewN | apply below_drew1 | refine below_set ?_ (IsS55.ge HI109.out) | refine below_set ?_ GE101.out | refine below_set ?_ GE102.out) | exact HB.out)); rintro e w110 ⟨rfl, hi, hb, hk⟩; refine ⟨_, rfl, ?_⟩; have n0_ := Aside0.mk (KeepBut.blk hk (g' := gb101) (o := .cells #[.int .u64 a3_0, .int .u64 a3_1] 24 (0, 0)) (by (with_reducible repeat (first | refine blk_drewN ?_ _ | refine blk_drew ?_ | refine blk_alloc ?_ _)); exact BK101.out) NB101_109.out (by simp)); have n1_ := Aside0.mk (KeepBut.blk hk (g' := gb102) (o := .cells #[.int .u64 a4_0, .int .u64 a4_1] 24 (0, 0)) (by (with_reducible repeat (first | refine blk_drewN ?_ _ | refine blk_drew ?_ | refine blk_alloc ?_ _)); exact BK102.out) NB102_109.out (by simp)); have n2_ := Aside0.mk (hb); have n3_ := Aside0.mk (hi); clear BK101; clear BK102; clear HB; clear HI109; have BK101 := n0_; have BK102 := n1_; have HB := n2_; have HI109 := n3_; clear n0_ n1_ n2_ n3_; (try clear hb); (try clear hb2); (try clear hk); (try clear hi)))
                    go_meet
                    case rel => exact ⟨_, (true), (t157), (t158), (t159), (t160), (t161), (by first | rfl | (simp; done) | (simp [*]; done)), H', ⟨by have := HJ9.out; have := HJ48.out; first | omega | exact Nat.le_refl _⟩, ⟨by (with_reducible repeat (first | refine blk_drewN ?_ _ | refine blk_drew ?_ | refine blk_alloc ?_ _)); exact BK101.out⟩, ⟨by (with_reducible repeat (first | refine blk_drewN ?_ _ | refine blk_drew ?_ | refine blk_alloc ?_ _)); exact BK102.out⟩, ⟨by repeat (first | (with_reducible first | exact HI109.out | apply IsS55.alloc | apply IsS55.drewN | apply IsS55.drew | apply IsS55.set_0 | apply IsS55.set_1 | apply IsS55.set_2 | apply IsS55.set_3 | apply IsS55.set_4 | refine IsS55.far ?_ NB109_101.out _ | refine IsS55.far ?_ NB109_102.out _) | exact HI109.out)⟩, ⟨by repeat (first | (with_reducible first | exact HB.out | apply below_alloc | apply pw_below_drewN | apply below_drew1 | refine below_set ?_ (IsS55.ge HI109.out) | refine below_set ?_ GE101.out | refine below_set ?_ GE102.out) | exact HB.out)⟩⟩
                case rest =>
                  clear HC80
                  try clear c1
                  try clear c2
                  try clear p2
                  try clear c3
                  try clear c4
                  try clear c5
                  try clear c6
                  try clear c7
                  try clear c8
                  try clear c9
                  try clear c10
                  try clear c14
                  try clear c17
                  try clear c20
                  try clear c20b0
                  try clear c20b1
                  try clear c21
                  try clear c21b0
                  try clear c21b1
                  try clear c23
                  try clear c24
                  try clear c24b0
                  try clear c25
                  try clear c26
                  try clear c27
                  try clear c30
                  try clear c30b0
                  try clear c31
                  try clear c32
                  try clear c33
                  try clear c36
                  try clear c37
                  try clear c38
                  try clear c41
                  try clear c42
                  try clear c43
                  try clear c46
                  try clear c51
                  try clear c51b0
                  try clear c51b1
                  try clear c54
                  try clear c54b0
                  try clear c54b1
                  try clear c57
                  try clear c58
                  try clear c59
                  try clear c66
                  try clear c67
                  try clear c68
                  try clear c73
                  try clear c74
                  try clear c75
                  try clear c78
                  try clear c83
                  try clear c83b0
                  try clear c83b1
                  try clear c85
                  try clear c85b0
                  try clear c85b1
                  try clear c87
                  try clear c87b0
                  try clear c87b1
                  try clear c89
                  try clear c90
                  try clear c96
                  try clear c97
                  try clear c102
                  try clear c103
                  try clear c107
                  try clear c108
                  try clear hcz104_0
                  try clear hcz104_1
                  try clear hcz109_0
                  try clear hcz109_1
                  try clear hcz15_0
                  try clear hcz15_1
                  try clear hcz18_0
                  try clear hcz18_1
                  try clear hcz28_0
                  try clear hcz28_1
                  try clear hcz34_0
                  try clear hcz34_1
                  try clear hcz39_0
                  try clear hcz39_1
                  try clear hcz44_0
                  try clear hcz44_1
                  try clear hcz60_0
                  try clear hcz60_1
                  try clear hcz69_0
                  try clear hcz69_1
                  try clear hcz76_0
                  try clear hcz76_1
                  try clear hcz91_0
                  try clear hcz91_1
                  try clear hcz98_0
                  try clear hcz98_1
                  try clear hfz104_0
                  try clear hfz104_1
                  try clear hfz109_0
                  try clear hfz109_1
                  try clear hfz15_0
                  try clear hfz15_1
                  try clear hfz18_0
                  try clear hfz18_1
                  try clear hfz28_0
                  try clear hfz28_1
                  try clear hfz34_0
                  try clear hfz34_1
                  try clear hfz39_0
                  try clear hfz39_1
                  try clear hfz44_0
                  try clear hfz44_1
                  try clear hfz60_0
                  try clear hfz60_1
                  try clear hfz69_0
                  try clear hfz69_1
                  try clear hfz76_0
                  try clear hfz76_1
                  try clear hfz91_0
                  try clear hfz91_1
                  try clear hfz98_0
                  try clear hfz98_1
                  try clear p2
                  obtain ⟨kq, x130_79, x110000_79, x110001_79, x110002_79, x110003_79, x110004_79, rfl, HA, HJ79, BK101, BK102, HI109, HB⟩ := hcut
                  cases kq with
                  | zero => exact absurd HA.out (by simp [tiklaw22_ClockTurns.j2])
                  | succ kj79 =>
                    have H := HA.out
                    clear HA
                    simp only [tiklaw22_ClockTurns.j2] at H
                    by_cases c111 : x130_79 = true
                    · subst c111
                      have H1 : (some false) = some r := by rw [if_pos rfl] at H; exact H
                      clear H
                      have H := H1
                      clear H1
                      exact absurd ((Option.some.inj H).trans hr_.out) (by simp)
                    · replace c111 := Bool.eq_false_iff.mpr c111
                      subst c111
                      have H1 : ((clock_Clock_Turn.f kj79 x110000_79 x110001_79 x110002_79 x110003_79 x110004_79 (IntKind.u64.wrap (a0 + (IntKind.u64.wrap (2 * a2)))) 1 1).bind fun bt180 => (if bt180.1 = 0 then ((clock_Clock_Go.f bt180.2.1 bt180.2.2.1 bt180.2.2.2.1 bt180.2.2.2.2.1 bt180.2.2.2.2.2 (IntKind.u64.wrap (a0 + (IntKind.u64.wrap (3 * a2))))).bind fun bt186 => (tiklaw22_ClockTurns.j3 kj79 a0 (bt186.1 != (mn (IntKind.u64.wrap (t150 + a2)) 4611686018427387904)) bt186.2.1 bt186.2.2.1 bt186.2.2.2.1 bt186.2.2.2.2.1 bt186.2.2.2.2.2)) else (tiklaw22_ClockTurns.j3 kj79 a0 true bt180.2.1 bt180.2.2.1 bt180.2.2.2.1 bt180.2.2.2.2.1 bt180.2.2.2.2.2))) = some r := by rw [if_neg (show ¬ (false = true) by decide)] at H; exact H
                      clear H
                      have H := H1
                      clear H1
                      have HC112 := Aside0.mk H
                      clear H
                      go_upto_region 12 with (fail)
                      go_cut [151] (fun v151 wc => ∃ (kq : Nat) (x151_111 : Bool) (x110000_111 : Int) (x110001_111 : Int) (x110002_111 : Int) (x110003_111 : Int) (x110004_111 : Int), v151 = .bool x151_111 ∧ Aside0 (tiklaw22_ClockTurns.j3 kq a0 x151_111 x110000_111 x110001_111 x110002_111 x110003_111 x110004_111 = some r) ∧ Aside0 (kq ≤ kj79) ∧ Aside0 (wc.heap[gb101]? = some (.cells #[.int .u64 a3_0, .int .u64 a3_1] 24 (0, 0))) ∧ Aside0 (wc.heap[gb102]? = some (.cells #[.int .u64 a4_0, .int .u64 a4_1] 24 (0, 0))) ∧ Aside0 (IsS55 w wc g109 x110000_111 x110001_111 x110002_111 x110003_111 x110004_111) ∧ Aside0 (Below w.heap.size w wc))
                      case first =>
                        have H := HC112.out
                        clear HC112
                        replace H := Option.bind_eq_some_iff.mp H
                        obtain ⟨⟨t180, t181, t182, t183, t184, t185⟩, A1130, H⟩ := H
                        replace H : (if t180 = 0 then ((clock_Clock_Go.f t181 t182 t183 t184 t185 (IntKind.u64.wrap (a0 + (IntKind.u64.wrap (3 * a2))))).bind fun bt186 => (tiklaw22_ClockTurns.j3 kj79 a0 (bt186.1 != (mn (IntKind.u64.wrap (t150 + a2)) 4611686018427387904)) bt186.2.1 bt186.2.2.1 bt186.2.2.2.1 bt186.2.2.2.2.1 bt186.2.2.2.2.2)) else (tiklaw22_ClockTurns.j3 kj79 a0 true t181 t182 t183 t184 t185)) = some r := H
                        have A113 := Aside0.mk A1130
                        clear A1130
                        by_cases c114 : t180 = 0
                        · rw [if_pos c114] at H
                          have c114b0 : (t180 == 0) = true := beq_iff_eq.mpr c114
                          have c114b1 : (t180 != 0) = false := bne_eq_false_iff_eq.mpr c114
                          clear c114
                          (first | rw [c114b0] | (simp only [i64_w, i32_w]; rw [c114b0]) | skip)
                          replace H := Option.bind_eq_some_iff.mp H
                          obtain ⟨⟨t186, t187, t188, t189, t190, t191⟩, A1150, H⟩ := H
                          replace H : (tiklaw22_ClockTurns.j3 kj79 a0 (t186 != (mn (IntKind.u64.wrap (t150 + a2)) 4611686018427387904)) t187 t188 t189 t190 t191) = some r := H
                          have A115 := Aside0.mk A1150
                          clear A1150
                          obtain ⟨ji116, hji116⟩ : ∃ j_ : Int, (mn (IntKind.u64.wrap (t150 + a2)) 4611686018427387904) = j_ := ⟨_, rfl⟩
                          replace H : (tiklaw22_ClockTurns.j3 kj79 a0 (t186 != (ji116)) t187 t188 t189 t190 t191) = some r := by first | (rw [hji116] at H; exact H) | (simp only [hji116] at H ⊢; exact H)
                          (try rw [hji116] at A113)
                          (try rw [hji116] at A115)
                          have hji116_ : (if 4611686018427387904 < (IntKind.u64.wrap (t150 + a2)) then 4611686018427387904 else (IntKind.u64.wrap (t150 + a2))) = ji116 := hji116
                          have H' := Aside0.mk H
                          clear H
                          go_wp2_with (first | ((with_reducible refine gate_callee (f := 14) rfl ?_); refine goesL_ (some 137) rfl rfl Try.func14 (by kernel_rfl) rfl #[.pointer (some ⟨g109, 0, none⟩), .int .u64 (IntKind.u64.wrap (a0 + (IntKind.u64.wrap (2 * a2)))), .agg #[.int .u64 1, .int .u64 1]] rfl (by (try simp only [List.map_toArray, List.map_cons, List.map_nil]); first | done | rfl | (simp only [List.length_drop, List.length_take]; rfl)) ?_; (with_reducible refine (clock_Clock_Turn.calls kj79 g109 x110000_79 x110001_79 x110002_79 x110003_79 x110004_79 (IntKind.u64.wrap (a0 + (IntKind.u64.wrap (2 * a2)))) 1 1 t180 t181 t182 t183 t184 t185 w _ ?side1 ?side2 A113.out).mono ?_); (case side1 => repeat (first | (with_reducible first | exact HI109.out | apply IsS55.alloc | apply IsS55.drewN | apply IsS55.drew | apply IsS55.set_0 | apply IsS55.set_1 | apply IsS55.set_2 | apply IsS55.set_3 | apply IsS55.set_4 | refine IsS55.far ?_ NB109_101.out _ | refine IsS55.far ?_ NB109_102.out _) | exact HI109.out)); (case side2 => repeat (first | (with_reducible first | exact HB.out | apply below_alloc | apply pw_below_drewN | apply below_drew1 | refine below_set ?_ (IsS55.ge HI109.out) | refine below_set ?_ GE101.out | refine below_set ?_ GE102.out) | exact HB.out)); rintro e w117 ⟨rfl, hi, hb, hk⟩; refine ⟨_, rfl, ?_⟩; have n0_ := Aside0.mk (KeepBut.blk hk (g' := gb101) (o := .cells #[.int .u64 a3_0, .int .u64 a3_1] 24 (0, 0)) (by (with_reducible repeat (first | refine blk_drewN ?_ _ | refine blk_drew ?_ | refine blk_alloc ?_ _)); exact BK101.out) NB101_109.out (by simp)); have n1_ := Aside0.mk (KeepBut.blk hk (g' := gb102) (o := .cells #[.int .u64 a4_0, .int .u64 a4_1] 24 (0, 0)) (by (with_reducible repeat (first | refine blk_drewN ?_ _ | refine blk_drew ?_ | refine blk_alloc ?_ _)); exact BK102.out) NB102_109.out (by simp)); have n2_ := Aside0.mk (hb); have n3_ := Aside0.mk (hi); clear BK101; clear BK102; clear HB; clear HI109; have BK101 := n0_; have BK102 := n1_; have HB := n2_; have HI109 := n3_; clear n0_ n1_ n2_ n3_; (try clear hb); (try clear hb2); (try clear hk); (try clear hi)) | (go_at_call 10; (with_reducible refine (clock_Clock_Go.calls g109 t181 t182 t183 t184 t185 (IntKind.u64.wrap (a0 + (IntKind.u64.wrap (3 * a2)))) t186 t187 t188 t189 t190 t191 w _ ?side1 ?side2 A115.out).mono ?_); (case side1 => repeat (first | (with_reducible first | exact HI109.out | apply IsS55.alloc | apply IsS55.drewN | apply IsS55.drew | apply IsS55.set_0 | apply IsS55.set_1 | apply IsS55.set_2 | apply IsS55.set_3 | apply IsS55.set_4 | refine IsS55.far ?_ NB109_101.out _ | refine IsS55.far ?_ NB109_102.out _) | exact HI109.out)); (case side2 => repeat (first | (with_reducible first | exact HB.out | apply below_alloc | apply pw_below_drewN | apply below_drew1 | refine below_set ?_ (IsS55.ge HI109.out) | refine below_set ?_ GE101.out | refine below_set ?_ GE102.out) | exact HB.out)); rintro e w118 ⟨rfl, hi, hb, hk⟩; have n0_ := Aside0.mk (KeepBut.blk hk (g' := gb101) (o := .cells #[.int .u64 a3_0, .int .u64 a3_1] 24 (0, 0)) (by (with_reducible repeat (first | refine blk_drewN ?_ _ | refine blk_drew ?_ | refine blk_alloc ?_ _)); exact BK101.out) NB101_109.out (by simp)); have n1_ := Aside0.mk (KeepBut.blk hk (g' := gb102) (o := .cells #[.int .u64 a4_0, .int .u64 a4_1] 24 (0, 0)) (by (with_reducible repeat (first | refine blk_drewN ?_ _ | refine blk_drew ?_ | refine blk_alloc ?_ _)); exact BK102.out) NB102_109.out (by simp)); have n2_ := Aside0.mk (hb); have n3_ := Aside0.mk (hi); clear BK101; clear BK102; clear HB; clear HI109; have BK101 := n0_; have BK102 := n1_; have HB := n2_; have HI109 := n3_; clear n0_ n1_ n2_ n3_; (try clear hb); (try clear hb2); (try clear hk); (try clear hi)))
                          go_meet
                          case rel => exact ⟨_, ((t186 != (ji116))), (t187), (t188), (t189), (t190), (t191), (by first | rfl | (simp; done) | (simp only [← hji116] <;> (first | rfl | simp)) | (simp [*]; done)), H', ⟨by have := HJ9.out; have := HJ48.out; have := HJ79.out; first | omega | exact Nat.le_refl _⟩, ⟨by (with_reducible repeat (first | refine blk_drewN ?_ _ | refine blk_drew ?_ | refine blk_alloc ?_ _)); exact BK101.out⟩, ⟨by (with_reducible repeat (first | refine blk_drewN ?_ _ | refine blk_drew ?_ | refine blk_alloc ?_ _)); exact BK102.out⟩, ⟨by repeat (first | (with_reducible first | exact HI109.out | apply IsS55.alloc | apply IsS55.drewN | apply IsS55.drew | apply IsS55.set_0 | apply IsS55.set_1 | apply IsS55.set_2 | apply IsS55.set_3 | apply IsS55.set_4 | refine IsS55.far ?_ NB109_101.out _ | refine IsS55.far ?_ NB109_102.out _) | exact HI109.out)⟩, ⟨by repeat (first | (with_reducible first | exact HB.out | apply below_alloc | apply pw_below_drewN | apply below_drew1 | refine below_set ?_ (IsS55.ge HI109.out) | refine below_set ?_ GE101.out | refine below_set ?_ GE102.out) | exact HB.out)⟩⟩
                        · rw [if_neg c114] at H
                          have c114b0 : (t180 == 0) = false := beq_eq_false_iff_ne.mpr c114
                          have c114b1 : (t180 != 0) = true := bne_iff_ne.mpr c114
                          (first | rw [c114b0] | (simp only [i64_w, i32_w]; rw [c114b0]) | skip)
                          have H' := Aside0.mk H
                          clear H
                          go_wp2_with (first | ((with_reducible refine gate_callee (f := 14) rfl ?_); refine goesL_ (some 137) rfl rfl Try.func14 (by kernel_rfl) rfl #[.pointer (some ⟨g109, 0, none⟩), .int .u64 (IntKind.u64.wrap (a0 + (IntKind.u64.wrap (2 * a2)))), .agg #[.int .u64 1, .int .u64 1]] rfl (by (try simp only [List.map_toArray, List.map_cons, List.map_nil]); first | done | rfl | (simp only [List.length_drop, List.length_take]; rfl)) ?_; (with_reducible refine (clock_Clock_Turn.calls kj79 g109 x110000_79 x110001_79 x110002_79 x110003_79 x110004_79 (IntKind.u64.wrap (a0 + (IntKind.u64.wrap (2 * a2)))) 1 1 t180 t181 t182 t183 t184 t185 w _ ?side1 ?side2 A113.out).mono ?_); (case side1 => repeat (first | (with_reducible first | exact HI109.out | apply IsS55.alloc | apply IsS55.drewN | apply IsS55.drew | apply IsS55.set_0 | apply IsS55.set_1 | apply IsS55.set_2 | apply IsS55.set_3 | apply IsS55.set_4 | refine IsS55.far ?_ NB109_101.out _ | refine IsS55.far ?_ NB109_102.out _) | exact HI109.out)); (case side2 => repeat (first | (with_reducible first | exact HB.out | apply below_alloc | apply pw_below_drewN | apply below_drew1 | refine below_set ?_ (IsS55.ge HI109.out) | refine below_set ?_ GE101.out | refine below_set ?_ GE102.out) | exact HB.out)); rintro e w119 ⟨rfl, hi, hb, hk⟩; refine ⟨_, rfl, ?_⟩; have n0_ := Aside0.mk (KeepBut.blk hk (g' := gb101) (o := .cells #[.int .u64 a3_0, .int .u64 a3_1] 24 (0, 0)) (by (with_reducible repeat (first | refine blk_drewN ?_ _ | refine blk_drew ?_ | refine blk_alloc ?_ _)); exact BK101.out) NB101_109.out (by simp)); have n1_ := Aside0.mk (KeepBut.blk hk (g' := gb102) (o := .cells #[.int .u64 a4_0, .int .u64 a4_1] 24 (0, 0)) (by (with_reducible repeat (first | refine blk_drewN ?_ _ | refine blk_drew ?_ | refine blk_alloc ?_ _)); exact BK102.out) NB102_109.out (by simp)); have n2_ := Aside0.mk (hb); have n3_ := Aside0.mk (hi); clear BK101; clear BK102; clear HB; clear HI109; have BK101 := n0_; have BK102 := n1_; have HB := n2_; have HI109 := n3_; clear n0_ n1_ n2_ n3_; (try clear hb); (try clear hb2); (try clear hk); (try clear hi)))
                          go_meet
                          case rel => exact ⟨_, (true), (t181), (t182), (t183), (t184), (t185), (by first | rfl | (simp; done) | (simp [*]; done)), H', ⟨by have := HJ9.out; have := HJ48.out; have := HJ79.out; first | omega | exact Nat.le_refl _⟩, ⟨by (with_reducible repeat (first | refine blk_drewN ?_ _ | refine blk_drew ?_ | refine blk_alloc ?_ _)); exact BK101.out⟩, ⟨by (with_reducible repeat (first | refine blk_drewN ?_ _ | refine blk_drew ?_ | refine blk_alloc ?_ _)); exact BK102.out⟩, ⟨by repeat (first | (with_reducible first | exact HI109.out | apply IsS55.alloc | apply IsS55.drewN | apply IsS55.drew | apply IsS55.set_0 | apply IsS55.set_1 | apply IsS55.set_2 | apply IsS55.set_3 | apply IsS55.set_4 | refine IsS55.far ?_ NB109_101.out _ | refine IsS55.far ?_ NB109_102.out _) | exact HI109.out)⟩, ⟨by repeat (first | (with_reducible first | exact HB.out | apply below_alloc | apply pw_below_drewN | apply below_drew1 | refine below_set ?_ (IsS55.ge HI109.out) | refine below_set ?_ GE101.out | refine below_set ?_ GE102.out) | exact HB.out)⟩⟩
                      case rest =>
                        clear HC112
                        try clear c1
                        try clear c2
                        try clear p2
                        try clear c3
                        try clear c4
                        try clear c5
                        try clear c6
                        try clear c7
                        try clear c8
                        try clear c9
                        try clear c10
                        try clear c11
                        try clear c14
                        try clear c17
                        try clear c20
                        try clear c20b0
                        try clear c20b1
                        try clear c21
                        try clear c21b0
                        try clear c21b1
                        try clear c23
                        try clear c24
                        try clear c24b0
                        try clear c25
                        try clear c26
                        try clear c27
                        try clear c30
                        try clear c30b0
                        try clear c31
                        try clear c32
                        try clear c33
                        try clear c36
                        try clear c37
                        try clear c38
                        try clear c41
                        try clear c42
                        try clear c43
                        try clear c46
                        try clear c51
                        try clear c51b0
                        try clear c51b1
                        try clear c54
                        try clear c54b0
                        try clear c54b1
                        try clear c57
                        try clear c58
                        try clear c59
                        try clear c66
                        try clear c67
                        try clear c68
                        try clear c73
                        try clear c74
                        try clear c75
                        try clear c78
                        try clear c83
                        try clear c83b0
                        try clear c83b1
                        try clear c85
                        try clear c85b0
                        try clear c85b1
                        try clear c87
                        try clear c87b0
                        try clear c87b1
                        try clear c89
                        try clear c90
                        try clear c96
                        try clear c97
                        try clear c102
                        try clear c103
                        try clear c107
                        try clear c108
                        try clear c111
                        try clear c114
                        try clear c114b0
                        try clear c114b1
                        try clear hcz104_0
                        try clear hcz104_1
                        try clear hcz109_0
                        try clear hcz109_1
                        try clear hcz15_0
                        try clear hcz15_1
                        try clear hcz18_0
                        try clear hcz18_1
                        try clear hcz28_0
                        try clear hcz28_1
                        try clear hcz34_0
                        try clear hcz34_1
                        try clear hcz39_0
                        try clear hcz39_1
                        try clear hcz44_0
                        try clear hcz44_1
                        try clear hcz60_0
                        try clear hcz60_1
                        try clear hcz69_0
                        try clear hcz69_1
                        try clear hcz76_0
                        try clear hcz76_1
                        try clear hcz91_0
                        try clear hcz91_1
                        try clear hcz98_0
                        try clear hcz98_1
                        try clear hfz104_0
                        try clear hfz104_1
                        try clear hfz109_0
                        try clear hfz109_1
                        try clear hfz15_0
                        try clear hfz15_1
                        try clear hfz18_0
                        try clear hfz18_1
                        try clear hfz28_0
                        try clear hfz28_1
                        try clear hfz34_0
                        try clear hfz34_1
                        try clear hfz39_0
                        try clear hfz39_1
                        try clear hfz44_0
                        try clear hfz44_1
                        try clear hfz60_0
                        try clear hfz60_1
                        try clear hfz69_0
                        try clear hfz69_1
                        try clear hfz76_0
                        try clear hfz76_1
                        try clear hfz91_0
                        try clear hfz91_1
                        try clear hfz98_0
                        try clear hfz98_1
                        try clear p2
                        obtain ⟨kq, x151_111, x110000_111, x110001_111, x110002_111, x110003_111, x110004_111, rfl, HA, HJ111, BK101, BK102, HI109, HB⟩ := hcut
                        cases kq with
                        | zero => exact absurd HA.out (by simp [tiklaw22_ClockTurns.j3])
                        | succ kj111 =>
                          have H := HA.out
                          clear HA
                          simp only [tiklaw22_ClockTurns.j3] at H
                          by_cases c120 : x151_111 = true
                          · subst c120
                            have H1 : (some false) = some r := by rw [if_pos rfl] at H; exact H
                            clear H
                            have H := H1
                            clear H1
                            exact absurd ((Option.some.inj H).trans hr_.out) (by simp)
                          · replace c120 := Bool.eq_false_iff.mpr c120
                            subst c120
                            have H1 : ((tiklaw22_first.f).bind fun t192 => (if t192 = true then ((clock_Clock_Set.f x110000_111 x110001_111 x110002_111 x110003_111 x110004_111 a0 5).bind fun bt193 => (if bt193.1 = 0 then ((clock_Clock_At.f bt193.2.1 bt193.2.2.1 bt193.2.2.2.1 bt193.2.2.2.2.1 bt193.2.2.2.2.2 a0).bind fun bt199 => (if bt199.1 = 5 then ((clock_Clock_Rest.f bt199.2.1 bt199.2.2.1 bt199.2.2.2.1 bt199.2.2.2.2.1 bt199.2.2.2.2.2).bind fun bt205 => (if bt205.1 = 0 then ((clock_Clock_Turn.f kj111 bt205.2.1 bt205.2.2.1 bt205.2.2.2.1 bt205.2.2.2.2.1 bt205.2.2.2.2.2 a0 0 0).bind fun bt211 => (some (bt211.1 == 1))) else (some false))) else (some false))) else (some false))) else (some false))) = some r := by rw [if_neg (show ¬ (false = true) by decide)] at H; exact H
                            clear H
                            have H := H1
                            clear H1
                            replace H := Option.bind_eq_some_iff.mp H
                            obtain ⟨t192, A1210, H⟩ := H
                            replace H : (if t192 = true then ((clock_Clock_Set.f x110000_111 x110001_111 x110002_111 x110003_111 x110004_111 a0 5).bind fun bt193 => (if bt193.1 = 0 then ((clock_Clock_At.f bt193.2.1 bt193.2.2.1 bt193.2.2.2.1 bt193.2.2.2.2.1 bt193.2.2.2.2.2 a0).bind fun bt199 => (if bt199.1 = 5 then ((clock_Clock_Rest.f bt199.2.1 bt199.2.2.1 bt199.2.2.2.1 bt199.2.2.2.2.1 bt199.2.2.2.2.2).bind fun bt205 => (if bt205.1 = 0 then ((clock_Clock_Turn.f kj111 bt205.2.1 bt205.2.2.1 bt205.2.2.2.1 bt205.2.2.2.2.1 bt205.2.2.2.2.2 a0 0 0).bind fun bt211 => (some (bt211.1 == 1))) else (some false))) else (some false))) else (some false))) else (some false)) = some r := H
                            have A121 := Aside0.mk A1210
                            clear A1210
                            by_cases c122 : t192 = true
                            · subst c122
                              have H1 : ((clock_Clock_Set.f x110000_111 x110001_111 x110002_111 x110003_111 x110004_111 a0 5).bind fun bt193 => (if bt193.1 = 0 then ((clock_Clock_At.f bt193.2.1 bt193.2.2.1 bt193.2.2.2.1 bt193.2.2.2.2.1 bt193.2.2.2.2.2 a0).bind fun bt199 => (if bt199.1 = 5 then ((clock_Clock_Rest.f bt199.2.1 bt199.2.2.1 bt199.2.2.2.1 bt199.2.2.2.2.1 bt199.2.2.2.2.2).bind fun bt205 => (if bt205.1 = 0 then ((clock_Clock_Turn.f kj111 bt205.2.1 bt205.2.2.1 bt205.2.2.2.1 bt205.2.2.2.2.1 bt205.2.2.2.2.2 a0 0 0).bind fun bt211 => (some (bt211.1 == 1))) else (some false))) else (some false))) else (some false))) = some r := by rw [if_pos rfl] at H; exact H
                              clear H
                              have H := H1
                              clear H1
                              replace H := Option.bind_eq_some_iff.mp H
                              obtain ⟨⟨t193, t194, t195, t196, t197, t198⟩, A1230, H⟩ := H
                              replace H : (if t193 = 0 then ((clock_Clock_At.f t194 t195 t196 t197 t198 a0).bind fun bt199 => (if bt199.1 = 5 then ((clock_Clock_Rest.f bt199.2.1 bt199.2.2.1 bt199.2.2.2.1 bt199.2.2.2.2.1 bt199.2.2.2.2.2).bind fun bt205 => (if bt205.1 = 0 then ((clock_Clock_Turn.f kj111 bt205.2.1 bt205.2.2.1 bt205.2.2.2.1 bt205.2.2.2.2.1 bt205.2.2.2.2.2 a0 0 0).bind fun bt211 => (some (bt211.1 == 1))) else (some false))) else (some false))) else (some false)) = some r := H
                              have A123 := Aside0.mk A1230
                              clear A1230
                              by_cases c124 : t193 = 0
                              · rw [if_pos c124] at H
                                have c124b0 : (t193 == 0) = true := beq_iff_eq.mpr c124
                                have c124b1 : (t193 != 0) = false := bne_eq_false_iff_eq.mpr c124
                                clear c124
                                replace H := Option.bind_eq_some_iff.mp H
                                obtain ⟨⟨t199, t200, t201, t202, t203, t204⟩, A1250, H⟩ := H
                                replace H : (if t199 = 5 then ((clock_Clock_Rest.f t200 t201 t202 t203 t204).bind fun bt205 => (if bt205.1 = 0 then ((clock_Clock_Turn.f kj111 bt205.2.1 bt205.2.2.1 bt205.2.2.2.1 bt205.2.2.2.2.1 bt205.2.2.2.2.2 a0 0 0).bind fun bt211 => (some (bt211.1 == 1))) else (some false))) else (some false)) = some r := H
                                have A125 := Aside0.mk A1250
                                clear A1250
                                by_cases c126 : t199 = 5
                                · rw [if_pos c126] at H
                                  have c126b0 : (t199 == 5) = true := beq_iff_eq.mpr c126
                                  have c126b1 : (t199 != 5) = false := bne_eq_false_iff_eq.mpr c126
                                  clear c126
                                  replace H := Option.bind_eq_some_iff.mp H
                                  obtain ⟨⟨t205, t206, t207, t208, t209, t210⟩, A1270, H⟩ := H
                                  replace H : (if t205 = 0 then ((clock_Clock_Turn.f kj111 t206 t207 t208 t209 t210 a0 0 0).bind fun bt211 => (some (bt211.1 == 1))) else (some false)) = some r := H
                                  have A127 := Aside0.mk A1270
                                  clear A1270
                                  by_cases c128 : t205 = 0
                                  · rw [if_pos c128] at H
                                    have c128b0 : (t205 == 0) = true := beq_iff_eq.mpr c128
                                    have c128b1 : (t205 != 0) = false := bne_eq_false_iff_eq.mpr c128
                                    clear c128
                                    replace H := Option.bind_eq_some_iff.mp H
                                    obtain ⟨⟨t211, t212, t213, t214, t215, t216⟩, A1290, H⟩ := H
                                    replace H : (some (t211 == 1)) = some r := H
                                    have A129 := Aside0.mk A1290
                                    clear A1290
                                    obtain rfl := Option.some.inj H
                                    go_wp2_with (first | ((with_reducible refine gate_callee (f := 7) rfl ?_); refine goesL_ (some 152) rfl rfl Try.func7 (by kernel_rfl) rfl #[] rfl (by (try simp only [List.map_toArray, List.map_cons, List.map_nil]); first | done | rfl | (simp only [List.length_drop, List.length_take]; rfl)) ?_; (with_reducible refine (tiklaw22_first.calls  true _ A121.out).mono ?_); rintro e w130 ⟨rfl, hb⟩; refine ⟨_, rfl, ?_⟩; have n0_ := Aside0.mk (blk_below (g := gb101) (o := .cells #[.int .u64 a3_0, .int .u64 a3_1] 24 (0, 0)) (by (with_reducible repeat (first | refine blk_drewN ?_ _ | refine blk_drew ?_ | refine blk_alloc ?_ _)); exact BK101.out) hb); have n1_ := Aside0.mk (blk_below (g := gb102) (o := .cells #[.int .u64 a4_0, .int .u64 a4_1] 24 (0, 0)) (by (with_reducible repeat (first | refine blk_drewN ?_ _ | refine blk_drew ?_ | refine blk_alloc ?_ _)); exact BK102.out) hb); have n2_ := Aside0.mk (IsS55.below (by repeat (first | (with_reducible first | exact HI109.out | apply IsS55.alloc | apply IsS55.drewN | apply IsS55.drew | apply IsS55.set_0 | apply IsS55.set_1 | apply IsS55.set_2 | apply IsS55.set_3 | apply IsS55.set_4 | refine IsS55.far ?_ NB109_101.out _ | refine IsS55.far ?_ NB109_102.out _) | exact HI109.out)) hb); have n3_ := Aside0.mk (below_step (by repeat (first | (with_reducible first | exact HB.out | apply below_alloc | apply pw_below_drewN | apply below_drew1 | refine below_set ?_ (IsS55.ge HI109.out) | refine below_set ?_ GE101.out | refine below_set ?_ GE102.out) | exact HB.out)) hb); clear BK101; clear BK102; clear HI109; clear HB; have BK101 := n0_; have BK102 := n1_; have HI109 := n2_; have HB := n3_; clear n0_ n1_ n2_ n3_; (try clear hb); (try clear hb2); (try clear hk); (try clear hi)) | (go_at_call 15; (with_reducible refine (clock_Clock_Set.calls g109 x110000_111 x110001_111 x110002_111 x110003_111 x110004_111 a0 5 t193 t194 t195 t196 t197 t198 w _ ?side1 ?side2 A123.out).mono ?_); (case side1 => repeat (first | (with_reducible first | exact HI109.out | apply IsS55.alloc | apply IsS55.drewN | apply IsS55.drew | apply IsS55.set_0 | apply IsS55.set_1 | apply IsS55.set_2 | apply IsS55.set_3 | apply IsS55.set_4 | refine IsS55.far ?_ NB109_101.out _ | refine IsS55.far ?_ NB109_102.out _) | exact HI109.out)); (case side2 => repeat (first | (with_reducible first | exact HB.out | apply below_alloc | apply pw_below_drewN | apply below_drew1 | refine below_set ?_ (IsS55.ge HI109.out) | refine below_set ?_ GE101.out | refine below_set ?_ GE102.out) | exact HB.out)); rintro e w131 ⟨rfl, hi, hb, hk⟩; have n0_ := Aside0.mk (KeepBut.blk hk (g' := gb101) (o := .cells #[.int .u64 a3_0, .int .u64 a3_1] 24 (0, 0)) (by (with_reducible repeat (first | refine blk_drewN ?_ _ | refine blk_drew ?_ | refine blk_alloc ?_ _)); exact BK101.out) NB101_109.out (by simp)); have n1_ := Aside0.mk (KeepBut.blk hk (g' := gb102) (o := .cells #[.int .u64 a4_0, .int .u64 a4_1] 24 (0, 0)) (by (with_reducible repeat (first | refine blk_drewN ?_ _ | refine blk_drew ?_ | refine blk_alloc ?_ _)); exact BK102.out) NB102_109.out (by simp)); have n2_ := Aside0.mk (hb); have n3_ := Aside0.mk (hi); clear BK101; clear BK102; clear HB; clear HI109; have BK101 := n0_; have BK102 := n1_; have HB := n2_; have HI109 := n3_; clear n0_ n1_ n2_ n3_; (try clear hb); (try clear hb2); (try clear hk); (try clear hi)) | (go_at_call 9; (with_reducible refine (clock_Clock_At.calls g109 t194 t195 t196 t197 t198 a0 t199 t200 t201 t202 t203 t204 w _ ?side1 ?side2 A125.out).mono ?_); (case side1 => repeat (first | (with_reducible first | exact HI109.out | apply IsS55.alloc | apply IsS55.drewN | apply IsS55.drew | apply IsS55.set_0 | apply IsS55.set_1 | apply IsS55.set_2 | apply IsS55.set_3 | apply IsS55.set_4 | refine IsS55.far ?_ NB109_101.out _ | refine IsS55.far ?_ NB109_102.out _) | exact HI109.out)); (case side2 => repeat (first | (with_reducible first | exact HB.out | apply below_alloc | apply pw_below_drewN | apply below_drew1 | refine below_set ?_ (IsS55.ge HI109.out) | refine below_set ?_ GE101.out | refine below_set ?_ GE102.out) | exact HB.out)); rintro e w132 ⟨rfl, hi, hb, hk⟩; have n0_ := Aside0.mk (KeepBut.blk hk (g' := gb101) (o := .cells #[.int .u64 a3_0, .int .u64 a3_1] 24 (0, 0)) (by (with_reducible repeat (first | refine blk_drewN ?_ _ | refine blk_drew ?_ | refine blk_alloc ?_ _)); exact BK101.out) NB101_109.out (by simp)); have n1_ := Aside0.mk (KeepBut.blk hk (g' := gb102) (o := .cells #[.int .u64 a4_0, .int .u64 a4_1] 24 (0, 0)) (by (with_reducible repeat (first | refine blk_drewN ?_ _ | refine blk_drew ?_ | refine blk_alloc ?_ _)); exact BK102.out) NB102_109.out (by simp)); have n2_ := Aside0.mk (hb); have n3_ := Aside0.mk (hi); clear BK101; clear BK102; clear HB; clear HI109; have BK101 := n0_; have BK102 := n1_; have HB := n2_; have HI109 := n3_; clear n0_ n1_ n2_ n3_; (try clear hb); (try clear hb2); (try clear hk); (try clear hi)) | (go_at_call 11; (with_reducible refine (clock_Clock_Rest.calls g109 t200 t201 t202 t203 t204 t205 t206 t207 t208 t209 t210 w _ ?side1 ?side2 A127.out).mono ?_); (case side1 => repeat (first | (with_reducible first | exact HI109.out | apply IsS55.alloc | apply IsS55.drewN | apply IsS55.drew | apply IsS55.set_0 | apply IsS55.set_1 | apply IsS55.set_2 | apply IsS55.set_3 | apply IsS55.set_4 | refine IsS55.far ?_ NB109_101.out _ | refine IsS55.far ?_ NB109_102.out _) | exact HI109.out)); (case side2 => repeat (first | (with_reducible first | exact HB.out | apply below_alloc | apply pw_below_drewN | apply below_drew1 | refine below_set ?_ (IsS55.ge HI109.out) | refine below_set ?_ GE101.out | refine below_set ?_ GE102.out) | exact HB.out)); rintro e w133 ⟨rfl, hi, hb, hk⟩; have n0_ := Aside0.mk (KeepBut.blk hk (g' := gb101) (o := .cells #[.int .u64 a3_0, .int .u64 a3_1] 24 (0, 0)) (by (with_reducible repeat (first | refine blk_drewN ?_ _ | refine blk_drew ?_ | refine blk_alloc ?_ _)); exact BK101.out) NB101_109.out (by simp)); have n1_ := Aside0.mk (KeepBut.blk hk (g' := gb102) (o := .cells #[.int .u64 a4_0, .int .u64 a4_1] 24 (0, 0)) (by (with_reducible repeat (first | refine blk_drewN ?_ _ | refine blk_drew ?_ | refine blk_alloc ?_ _)); exact BK102.out) NB102_109.out (by simp)); have n2_ := Aside0.mk (hb); have n3_ := Aside0.mk (hi); clear BK101; clear BK102; clear HB; clear HI109; have BK101 := n0_; have BK102 := n1_; have HB := n2_; have HI109 := n3_; clear n0_ n1_ n2_ n3_; (try clear hb); (try clear hb2); (try clear hk); (try clear hi)) | (go_at_call 14; (with_reducible refine (clock_Clock_Turn.calls kj111 g109 t206 t207 t208 t209 t210 a0 0 0 t211 t212 t213 t214 t215 t216 w _ ?side1 ?side2 A129.out).mono ?_); (case side1 => repeat (first | (with_reducible first | exact HI109.out | apply IsS55.alloc | apply IsS55.drewN | apply IsS55.drew | apply IsS55.set_0 | apply IsS55.set_1 | apply IsS55.set_2 | apply IsS55.set_3 | apply IsS55.set_4 | refine IsS55.far ?_ NB109_101.out _ | refine IsS55.far ?_ NB109_102.out _) | exact HI109.out)); (case side2 => repeat (first | (with_reducible first | exact HB.out | apply below_alloc | apply pw_below_drewN | apply below_drew1 | refine below_set ?_ (IsS55.ge HI109.out) | refine below_set ?_ GE101.out | refine below_set ?_ GE102.out) | exact HB.out)); rintro e w134 ⟨rfl, hi, hb, hk⟩; have n0_ := Aside0.mk (KeepBut.blk hk (g' := gb101) (o := .cells #[.int .u64 a3_0, .int .u64 a3_1] 24 (0, 0)) (by (with_reducible repeat (first | refine blk_drewN ?_ _ | refine blk_drew ?_ | refine blk_alloc ?_ _)); exact BK101.out) NB101_109.out (by simp)); have n1_ := Aside0.mk (KeepBut.blk hk (g' := gb102) (o := .cells #[.int .u64 a4_0, .int .u64 a4_1] 24 (0, 0)) (by (with_reducible repeat (first | refine blk_drewN ?_ _ | refine blk_drew ?_ | refine blk_alloc ?_ _)); exact BK102.out) NB102_109.out (by simp)); have n2_ := Aside0.mk (hb); have n3_ := Aside0.mk (hi); clear BK101; clear BK102; clear HB; clear HI109; have BK101 := n0_; have BK102 := n1_; have HB := n2_; have HI109 := n3_; clear n0_ n1_ n2_ n3_; (try clear hb); (try clear hb2); (try clear hk); (try clear hi)))
                                    go_ret
                                    exact ⟨by first | rfl | (simp [errW_none, errW_some] <;> rfl) | (simp [*, errW_none, errW_some] <;> rfl), by repeat (first | (with_reducible first | exact HB.out | apply below_alloc | apply pw_below_drewN | apply below_drew1 | refine below_set ?_ (IsS55.ge HI109.out) | refine below_set ?_ GE101.out | refine below_set ?_ GE102.out) | exact HB.out)⟩
                                  · rw [if_neg c128] at H
                                    have c128b0 : (t205 == 0) = false := beq_eq_false_iff_ne.mpr c128
                                    have c128b1 : (t205 != 0) = true := bne_iff_ne.mpr c128
                                    exact absurd ((Option.some.inj H).trans hr_.out) (by simp)
                                · rw [if_neg c126] at H
                                  have c126b0 : (t199 == 5) = false := beq_eq_false_iff_ne.mpr c126
                                  have c126b1 : (t199 != 5) = true := bne_iff_ne.mpr c126
                                  exact absurd ((Option.some.inj H).trans hr_.out) (by simp)
                              · rw [if_neg c124] at H
                                have c124b0 : (t193 == 0) = false := beq_eq_false_iff_ne.mpr c124
                                have c124b1 : (t193 != 0) = true := bne_iff_ne.mpr c124
                                exact absurd ((Option.some.inj H).trans hr_.out) (by simp)
                            · replace c122 := Bool.eq_false_iff.mpr c122
                              subst c122
                              have H1 : (some false) = some r := by rw [if_neg (show ¬ (false = true) by decide)] at H; exact H
                              clear H
                              have H := H1
                              clear H1
                              exact absurd ((Option.some.inj H).trans hr_.out) (by simp)
  · replace c7 := Bool.eq_false_iff.mpr c7
    subst c7
    have H1 : (some false) = some r := by rw [if_neg (show ¬ (false = true) by decide)] at H; exact H
    clear H
    have H := H1
    clear H1
    exact absurd ((Option.some.inj H).trans hr_.out) (by simp)

end Go.Proofs.Ytcfndcjbgalnpaa.PU
