/-
  A number read, or why not.
-/
import Derived.Test.YtabljieejnhefaaWire1
namespace Go.Proofs.Ytabljieejnhefaa.Hand
open Go.RowKit Go.Proofs.YtabljieejnhefaaW.PrintWords Go.Proofs.YtabljieejnhefaaW.PrintLast

def stopV (e : Int) : List PanicEntry := [{ v := .iface 63 (.agg #[.int .i64 e]), recovered := false }]
/-- What a reading comes to: a value and the place behind it, or an error. -/
def vstep (n c : Int) (i : Nat) : Int := Go.bits .or .u64 n (IntKind.u64.wrap (IntKind.u64.wrap (Go.bits .andNot .u8 c 128) * 2 ^ (7 * i)))
def numL (l : List Int) : Nat → Nat → Int → Int → Except Int (Int × Int)
  | 0, _, _, _ => .error 2
  | k + 1, i, n, at_ => if at_ = l.length then .error 3 else if (i = 9 ∧ rd l at_ > 1) ∨ (rd l at_ = 0 ∧ 0 < i) then .error 2 else
    if rd l at_ < 128 then .ok (vstep n (rd l at_) i, at_ + 1) else numL l k (i + 1) (vstep n (rd l at_) i) (at_ + 1)
def NumPost (F : Nat → Prop) (g : Nat) (l : List Int) (e : Int) (w : World) (enc : Int → Value) : Except Int (Int × Int) → Ending → World → Prop
  | .ok (n, at'), en, w' => en = .returned (enc n) ∧ IsRd w' F g l at' e ∧ at' ≤ l.length ∧ 0 ≤ at' ∧ Mu (· = g) w w'
  | .error x, en, w' => en = .panicked (stopV x) ∧ (∃ at', IsRd w' F g l at' e) ∧ Mu (· = g) w w'
set_option maxHeartbeats 2000000 in
theorem num_as {w : World} {F : Nat → Prop} {g : Nat} {l : List Int} {at_ e : Int} {R : Except Int (Int × Int)} (hR : numL l 10 0 0 at_ = R) (hI : IsRd w F g l at_ e) (h0 : 0 ≤ at_) (h1 : at_ ≤ l.length) :
    Calls Try.prog 33 #[.pointer (some ⟨g, 0, none⟩)] w (NumPost F g l e w (Value.int .u64) R) := by
  have HI := Aside0.mk hI
  have HR0 := Aside0.mk hR
  clear hR
  have hlen := hI.len
  clear hI
  go_enter Try.func33, Try.ntmps33
  go_wp2
  go_loopw [3, 6] (fun v3 v6 wr => ∃ (i : Nat) (n p : Int), i ≤ 10 ∧ v6 = .int .i64 i ∧ v3 = .int .u64 n ∧ 0 ≤ p ∧ p ≤ l.length ∧ Aside0 (numL l (10 - i) i n p = R) ∧ Aside0 (IsRd wr F g l p e) ∧ Aside0 (Mu (· = g) w wr)) (fun _ v6 _ => 10 - (intOf v6).toNat)
  case atStart => exact ⟨0, 0, at_, by omega, rfl, rfl, h0, h1, HR0, HI, ⟨Mu.refl _ _⟩⟩
  case round =>
    obtain ⟨i, n, p, hi, rfl, rfl, p0, p1, HN, HR, HM⟩ := hrel
    clear HI HR0 h0 h1
    by_cases hlt : i < 10
    · have hk : 10 - i = (9 - i) + 1 := by omega
      by_cases hp : p = l.length
      · have hr : R = .error 3 := by rw [← HN.out, hk]; simp only [numL]; rw [if_pos hp]
        have HP := Aside0.mk hp
        clear hp hk
        have Hr := Aside0.mk hr
        clear hr HN
        go_wp2_with fail
        refine (byte_short HR.out HP.out).mono ?_
        rintro en w1 ⟨rfl, hI1, hm1⟩
        refine ⟨rfl, ?_⟩
        rw [Hr.out]
        exact ⟨rfl, ⟨_, hI1⟩, HM.out.trans hm1⟩
      · have hp' : p < l.length := by omega
        have hr : R = if (i = 9 ∧ rd l p > 1) ∨ (rd l p = 0 ∧ 0 < i) then .error 2 else if rd l p < 128 then .ok (vstep n (rd l p) i, p + 1) else numL l (9 - i) (i + 1) (vstep n (rd l p) i) (p + 1) := by
          rw [← HN.out, hk]; simp only [numL]; rw [if_neg hp]
        have HP := Aside0.mk hp
        clear hp hk HN
        go_wp2_with fail
        refine (byte_ok HR.out p0 hp').mono ?_
        rintro en w1 ⟨rfl, hI1, hm1⟩
        have HI1 := Aside0.mk hI1
        have HM1 := Aside0.mk (HM.out.trans hm1)
        clear hI1 hm1 HR HM
        generalize rd l p = c at *
        by_cases hA : i = 9 ∧ 1 < c
        · rw [if_pos (.inl hA)] at hr
          obtain ⟨a1, a2⟩ := hA
          have e1 : ((i : Int) == 9) = true := beq_iff_eq.2 (by omega)
          clear a1
          have Hr := Aside0.mk hr
          clear hr
          go_wp2
          refine ⟨rfl, ?_⟩
          rw [Hr.out]
          exact ⟨rfl, ⟨_, HI1.out⟩, HM1.out⟩
        · have e1 : (((i : Int) == 9) && decide (1 < c)) = false := by
            rw [Bool.and_eq_false_iff]
            by_cases h9 : i = 9
            · right; exact decide_eq_false (fun h => hA ⟨h9, h⟩)
            · left; exact beq_eq_false_iff_ne.2 (by omega)
          by_cases hB : c = 0 ∧ 0 < i
          · rw [if_pos (.inr hB)] at hr
            obtain ⟨a1, a2⟩ := hB
            have e2 : (c == 0) = true := beq_iff_eq.2 a1
            have e3 : decide (1 < c) = false := decide_eq_false (by omega)
            clear a1 e1 hA
            have Hr := Aside0.mk hr
            clear hr
            go_wp2
            all_goals
              refine ⟨rfl, ?_⟩
              rw [Hr.out]
              exact ⟨rfl, ⟨_, HI1.out⟩, HM1.out⟩
          · rw [if_neg (by rintro (h | h); exact hA h; exact hB h)] at hr
            have e2 : ((c == 0) && decide (0 < i)) = false := by
              rw [Bool.and_eq_false_iff]
              by_cases h9 : c = 0
              · right; exact decide_eq_false (fun h => hB ⟨h9, by omega⟩)
              · left; exact beq_eq_false_iff_ne.2 (by omega)
            clear hA hB
            have key : ∀ (x y : Bool), ((i : Int) == 9) = x → (c == 0) = y → (x = true → decide (1 < c) = false) ∧ (y = true → decide (0 < i) = false) := by
              intro x y hx hy
              rw [hx] at e1
              rw [hy] at e2
              constructor
              · rintro rfl; simpa using e1
              · rintro rfl; simpa using e2
            clear e1 e2
            by_cases h128 : c < 128
            · rw [if_pos h128] at hr
              have Hr := Aside0.mk hr
              clear hr
              cases e1 : ((i : Int) == 9) <;> cases e2 : (c == 0) <;> obtain ⟨k1, k2⟩ := key _ _ e1 e2 <;> clear key
              all_goals
                first | (have k3 := k1 rfl) | skip
                first | (have k4 := k2 rfl) | skip
                clear k1 k2
                first | (exfalso; simp at e1 k4; omega) | (go_wp2; go_ret; rw [Hr.out]; exact ⟨rfl, HI1.out, by omega, by omega, HM1.out⟩)
            · rw [if_neg h128] at hr
              have HN1 := Aside0.mk hr.symm
              clear hr
              cases e1 : ((i : Int) == 9) <;> cases e2 : (c == 0) <;> obtain ⟨k1, k2⟩ := key _ _ e1 e2 <;> clear key
              all_goals
                first | (have k3 := k1 rfl) | skip
                first | (have k4 := k2 rfl) | skip
                clear k1 k2
                first | (exfalso; simp at k3; omega) | (exfalso; simp at e2; omega) | (go_wp2; go_roundw)
                try case rel => exact ⟨i + 1, vstep n c i, p + 1, by omega, by go_num, rfl, by omega, by omega, ⟨by rw [show 10 - (i + 1) = 9 - i by omega]; exact HN1.out⟩, HI1, HM1⟩
                try case measure => simp [intOf]; omega
    · have hr : R = .error 2 := by rw [← HN.out, show 10 - i = 0 by omega]; rfl
      have Hr := Aside0.mk hr
      clear hr HN
      go_wp2
      refine ⟨rfl, ?_⟩
      rw [Hr.out]
      exact ⟨rfl, ⟨_, HR.out⟩, HM.out⟩
end Go.Proofs.Ytabljieejnhefaa.Hand
