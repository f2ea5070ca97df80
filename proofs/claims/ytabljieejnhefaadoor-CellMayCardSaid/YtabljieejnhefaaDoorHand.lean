import Derived.Test.YtabljieejnhefaaDoorPAx1
namespace Go.Proofs.YtabljieejnhefaaDoor.Hand
open Go.RowKit Go.Proofs.YtabljieejnhefaaDoorW.PrintWords Go.Proofs.YtabljieejnhefaaDoorW.PrintLast Go.Proofs.YtabljieejnhefaaDoorW.PrintMore
open Go.Proofs.YtabljieejnhefaaDoor.PA

def noneL : List S37 := [⟨0, 31⟩, ⟨127, 159⟩, ⟨768, 879⟩, ⟨55296, 57343⟩]
def wideL : List S37 := [⟨4352, 4447⟩, ⟨11904, 42191⟩, ⟨44032, 55203⟩, ⟨63744, 64255⟩, ⟨65072, 65135⟩, ⟨65280, 65376⟩, ⟨65504, 65510⟩, ⟨127744, 128591⟩, ⟨129280, 129535⟩, ⟨131072, 262141⟩]
/-- What the two tables hold. -/
def TabW (w : World) : Prop := 2 ≤ w.heap.size ∧ Kd.C k37 w (some ⟨0, 0, none⟩) 4 noneL ∧ Kd.C k37 w (some ⟨1, 0, none⟩) 10 wideL
theorem tabAt {w W : World} (h : TabW w) (hb : Below w.heap.size w W) : TabW W :=
  ⟨Nat.le_trans h.1 hb.size, Kd.C_below h.2.1 hb, Kd.C_below h.2.2 hb⟩

def inL (l : List S37) (r : Int) : Bool := l.any fun s => decide (s.f0 ≤ r) && decide (r ≤ s.f1)
def wd (r : Int) : Int := if r < 0 ∨ r > 1114111 ∨ inL noneL r = true then 0 else if inL wideL r = true then 2 else 1
def cell_Width.f (a0 : Int) : Option Int := some (wd a0)

theorem l0_any (r : Int) (l : List S37) (hl : l.length ≤ 100) : ∀ (d k : Nat) (i : Nat), i + d = l.length → d < k → cell_among.l0 k r l (l.length : Int) (i : Int) = some (inL (l.drop i) r) := by
  intro d
  induction d with
  | zero =>
    intro k i hi hk
    obtain ⟨k, rfl⟩ : ∃ m, k = m + 1 := ⟨k - 1, by omega⟩
    simp only [cell_among.l0]
    rw [if_neg (by omega), List.drop_of_length_le (by omega)]
    rfl
  | succ d ih =>
    intro k i hi hk
    obtain ⟨k, rfl⟩ : ∃ m, k = m + 1 := ⟨k - 1, by omega⟩
    have hlt : i < l.length := by omega
    have hw : wrap64 ((i : Int) + 1) = ((i + 1 : Nat) : Int) := by unfold wrap64; omega
    have hd : l.drop i = l[i] :: l.drop (i + 1) := List.drop_eq_getElem_cons hlt
    have hr : rd_T37 l (i : Int) = l[i] := by simp [rd_T37, hlt]
    simp only [cell_among.l0]
    rw [if_pos (by omega), if_pos (by omega), if_pos (by omega), hr, hw, ih k (i + 1) (by omega) (by omega), hd]
    have hc : inL (l[i] :: l.drop (i + 1)) r = ((decide (l[i].f0 ≤ r) && decide (r ≤ l[i].f1)) || inL (l.drop (i + 1)) r) := rfl
    rw [hc]
    by_cases h1 : r ≥ l[i].f0
    · rw [if_pos h1]
      by_cases h2 : r ≤ l[i].f1
      · rw [if_pos h2]; simp [h1, h2]
      · rw [if_neg h2]; simp [h2]
    · rw [if_neg h1]
      have : ¬ l[i].f0 ≤ r := h1
      simp [this]
theorem among_any (r : Int) (l : List S37) (hl : l.length ≤ 100) : cell_among.f 200 r l = some (inL l r) := by
  have := l0_any r l hl l.length 200 0 (by omega) (by omega)
  simpa [cell_among.f] using this

theorem among_none (r : Int) (w : World) (h : TabW w) : Calls Tryd.prog 15 #[.int .i32 r, .slice (some ⟨0, 0, none⟩) 4 4] w fun e w' => e = .returned (.bool (inL noneL r)) ∧ Below w.heap.size w w' :=
  cell_among.calls 200 r (some ⟨0, 0, none⟩) 4 noneL _ w h.2.1 (by decide) (among_any r noneL (by decide))
theorem among_wide (r : Int) (w : World) (h : TabW w) : Calls Tryd.prog 15 #[.int .i32 r, .slice (some ⟨1, 0, none⟩) 10 10] w fun e w' => e = .returned (.bool (inL wideL r)) ∧ Below w.heap.size w w' :=
  cell_among.calls 200 r (some ⟨1, 0, none⟩) 10 wideL _ w h.2.2 (by decide) (among_any r wideL (by decide))

set_option maxHeartbeats 1000000 in
theorem cell_Width.calls (a0 : Int) (r : Int) (w : World) (hT : TabW w) (h : cell_Width.f a0 = some r) :
    Calls Tryd.prog 7 #[.int .i32 a0] w fun e w' => e = .returned (.int .i64 r) ∧ Below w.heap.size w w' := by
  obtain rfl : wd a0 = r := Option.some.inj h
  clear h
  have HT := Aside0.mk hT
  clear hT
  by_cases h1 : a0 < 0
  · have e : wd a0 = 0 := if_pos (.inl h1)
    rw [e]
    clear e
    go_enter Tryd.func7, Tryd.ntmps7
    go_wp2
    go_ret
    exact ⟨rfl, Below.refl _ _⟩
  by_cases h2 : a0 > 1114111
  · have e : wd a0 = 0 := if_pos (.inr (.inl h2))
    rw [e]
    clear e
    go_enter Tryd.func7, Tryd.ntmps7
    go_wp2
    go_ret
    exact ⟨rfl, Below.refl _ _⟩
  cases h3 : inL noneL a0 with
  | true =>
    have e : wd a0 = 0 := if_pos (.inr (.inr h3))
    rw [e]
    clear e
    have H3 := Aside0.mk h3
    clear h3
    go_enter Tryd.func7, Tryd.ntmps7
    go_wp2_with fail
    refine (among_none a0 _ HT.out).mono ?_
    rintro e w' ⟨rfl, hb⟩
    rw [H3.out]
    go_wp2_with fail
    go_ret
    exact ⟨rfl, hb⟩
  | false =>
    cases h4 : inL wideL a0 with
    | true =>
      have e : wd a0 = 2 := by unfold wd; rw [if_neg (by rw [h3]; simp; omega), if_pos h4]
      rw [e]
      clear e
      have H3 := Aside0.mk h3
      clear h3
      have H4 := Aside0.mk h4
      clear h4
      go_enter Tryd.func7, Tryd.ntmps7
      go_wp2_with fail
      refine (among_none a0 _ HT.out).mono ?_
      rintro e w' ⟨rfl, hb⟩
      rw [H3.out]
      go_wp2_with fail
      refine (among_wide a0 _ (tabAt HT.out hb)).mono ?_
      rintro e w' ⟨rfl, hb2⟩
      rw [H4.out]
      go_wp2_with fail
      go_ret
      exact ⟨rfl, below_step hb hb2⟩
    | false =>
      have e : wd a0 = 1 := by unfold wd; rw [if_neg (by rw [h3]; simp; omega), if_neg (by rw [h4]; simp)]
      rw [e]
      clear e
      have H3 := Aside0.mk h3
      clear h3
      have H4 := Aside0.mk h4
      clear h4
      go_enter Tryd.func7, Tryd.ntmps7
      go_wp2_with fail
      refine (among_none a0 _ HT.out).mono ?_
      rintro e w' ⟨rfl, hb⟩
      rw [H3.out]
      go_wp2_with fail
      refine (among_wide a0 _ (tabAt HT.out hb)).mono ?_
      rintro e w' ⟨rfl, hb2⟩
      rw [H4.out]
      go_wp2_with fail
      go_ret
      exact ⟨rfl, below_step hb hb2⟩
end Go.Proofs.YtabljieejnhefaaDoor.Hand
