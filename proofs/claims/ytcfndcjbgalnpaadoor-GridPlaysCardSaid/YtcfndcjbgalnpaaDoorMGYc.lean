/- Texts of this claim, put together. -/
import Derived.Test.YtcfndcjbgalnpaaDoorMGYb
import Derived.Test.YtcfndcjbgalnpaaDoorMGYa
set_option linter.unusedVariables false
set_option linter.unusedSimpArgs false
namespace Go.Proofs.YtcfndcjbgalnpaaDoor.Hand
open Go.RowKit Go.Proofs.YtcfndcjbgalnpaaDoorW.PrintWords Go.Proofs.YtcfndcjbgalnpaaDoorW.PrintLast
set_option maxRecDepth 100000 in
set_option maxHeartbeats 8000000 in
theorem rmend_calls {w : World} {base g b r c : Nat} {L : List C5} (h : RefAt w base g b r c L) (n : Nat) (hn : n < r) :
    Calls Tryd.prog 54 #[.pointer (some ⟨g, 0, none⟩), .int .i64 n] w (fun e w' => e = .returned (.tuple #[]) ∧ RowAt w' b (mendRow c L n) ∧ w.grownBy w' (some b)) := by
  have HN := Aside0.mk h.row
  have hle := place_le (c := c) hn
  rw [← h.len] at hle
  have hsm := h.small
  have hc1 := h.c1
  have hc2 := h.c2
  have hr2 := h.r2
  have HRd := Aside0.mk (h.row.below (below_drew (Below.refl w.heap.size w)))
  obtain ⟨cap, k1, k2, hk⟩ := h.kbase (below_drew (Below.refl w.heap.size w))
  have HKd := Aside0.mk hk
  clear h hk
  obtain ⟨o, ho⟩ : ∃ o, n * c = o := ⟨_, rfl⟩
  have hcl : c ≤ 9223372036854775807 := by omega
  have hbyt : (([] : List C5).length + c) * 40 ≤ 140737488355328 := by rw [List.length_nil]; omega
  have hw1 := wrap_mul ho (by omega)
  have hcut := fun W => cut_row0 (b := b) (n := L.length) (cap := cap) (lo := o) (hi := o + c) (by omega) (by omega) k1 (by omega) W
  rw [show o + c - o = c by omega] at hcut
  have hw2 : IntKind.i64.wrap ((o : Int) + (c : Int)) = ((o + c : Nat) : Int) := by rw [i64_w]; unfold wrap64; omega
  have hw3 : (o : Int) + (c : Int) = ((o + c : Nat) : Int) := by omega
  rw [ho] at hle
  have HOE := Aside0.mk ho
  obtain ⟨hi, hhi⟩ : ∃ hi, o + c = hi := ⟨_, rfl⟩
  rw [hhi] at hcut hw2 hw3
  have hw4 : wrap64 (hi : Int) = (hi : Int) := by unfold wrap64; omega
  have hw5 : IntKind.i64.wrap (hi : Int) = (hi : Int) := by rw [i64_w]; exact hw4
  go_enter Tryd.func54, Tryd.ntmps54
  go_wp2
  refine start_ (n := 25) (S := fun w' => w'.cell? ⟨g, 1, none⟩ = some (.int .i64 (c : Int)) ∧ w'.cell? ⟨g, 2, none⟩ = some (.slice (some ⟨b, 0, none⟩) L.length cap) ∧ KBase w g b r c L.length cap [] w') (ds := []) #[false, false, false, false, false, false, false, false, false, false, false, false, false, false, false, false, false, false, false, false, false, false, false, false, false] (by kernel_rfl) rfl rfl ⟨HKd.out.c1, HKd.out.c2, HKd.out⟩ (fun hHeld => ?_)
  refine pure_ (i := 1) (N := some 9) (v := ?_) (a' := ?_) #[false, true, false, false, false, false, false, false, false, false, false, false, false, false, false, false, false, false, false, false, false, false, false, false, false] rfl rfl (by kernel_rfl) (fun _ _ _ h => h) (Or.inl ⟨by rfl, ?_⟩) ?_ ?_
  rotate_left
  · intro w'
    go_simp
    with_reducible rfl
  rotate_left
  · simp only [Act.put, List.setIfInBounds_toArray, List.set_cons_zero, List.set_cons_succ, i64_w, i32_w]
    rfl
  refine pure_ (i := 2) (N := some 10) (v := ?_) (a' := ?_) #[false, true, true, false, false, false, false, false, false, false, false, false, false, false, false, false, false, false, false, false, false, false, false, false, false] rfl rfl (by kernel_rfl) (fun _ _ _ h => h) (Or.inl ⟨by rfl, ?_⟩) ?_ ?_
  rotate_left
  · intro w'
    go_simp
    with_reducible rfl
  rotate_left
  · simp only [Act.put, List.setIfInBounds_toArray, List.set_cons_zero, List.set_cons_succ, i64_w, i32_w]
    rfl
  refine pure_ (i := 3) (N := some 11) (v := ?_) (a' := ?_) #[false, true, true, true, false, false, false, false, false, false, false, false, false, false, false, false, false, false, false, false, false, false, false, false, false] rfl rfl (by kernel_rfl) (fun _ _ _ h => h) (Or.inl ⟨by rfl, ?_⟩) ?_ ?_
  rotate_left
  · intro w'
    go_simp
    with_reducible rfl
  rotate_left
  · simp only [Act.put, List.setIfInBounds_toArray, List.set_cons_zero, List.set_cons_succ, i64_w, i32_w]
    rfl
  refine pure_ (i := 5) (N := some 13) (v := ?_) (a' := ?_) #[false, true, true, true, false, true, false, false, false, false, false, false, false, false, false, false, false, false, false, false, false, false, false, false, false] rfl rfl (by kernel_rfl) (fun _ _ _ h => h) (Or.inl ⟨by rfl, ?_⟩) ?_ ?_
  rotate_left
  · intro w'
    go_simp
    with_reducible rfl
  rotate_left
  · simp only [Act.put, List.setIfInBounds_toArray, List.set_cons_zero, List.set_cons_succ, i64_w, i32_w]
    rfl
  refine pure_ (i := 6) (N := some 14) (v := ?_) (a' := ?_) #[false, true, true, true, false, true, true, false, false, false, false, false, false, false, false, false, false, false, false, false, false, false, false, false, false] rfl rfl (by kernel_rfl) (fun _ _ _ h => h) (Or.inl ⟨by rfl, ?_⟩) ?_ ?_
  rotate_left
  · intro w'
    go_simp
    with_reducible rfl
  rotate_left
  · simp only [Act.put, List.setIfInBounds_toArray, List.set_cons_zero, List.set_cons_succ, i64_w, i32_w]
    rfl
  refine pure_ (i := 7) (N := some 15) (v := ?_) (a' := ?_) #[false, true, true, true, false, true, true, true, false, false, false, false, false, false, false, false, false, false, false, false, false, false, false, false, false] rfl rfl (by kernel_rfl) (fun _ _ _ h => h) (Or.inl ⟨by rfl, ?_⟩) ?_ ?_
  rotate_left
  · intro w'
    go_simp
    with_reducible rfl
  rotate_left
  · simp only [Act.put, List.setIfInBounds_toArray, List.set_cons_zero, List.set_cons_succ, i64_w, i32_w]
    rfl
  refine pure_ (i := 8) (N := some 16) (v := ?_) (a' := ?_) #[false, true, true, true, false, true, true, true, true, false, false, false, false, false, false, false, false, false, false, false, false, false, false, false, false] rfl rfl (by kernel_rfl) (fun _ _ _ h => h) (Or.inl ⟨by rfl, ?_⟩) ?_ ?_
  rotate_left
  · intro w'
    go_simp
    with_reducible rfl
  rotate_left
  · simp only [Act.put, List.setIfInBounds_toArray, List.set_cons_zero, List.set_cons_succ, i64_w, i32_w]
    rfl
  refine pure_ (i := 11) (N := some 19) (v := ?_) (a' := ?_) #[false, true, true, true, false, true, true, true, true, false, false, true, false, false, false, false, false, false, false, false, false, false, false, false, false] rfl rfl (by kernel_rfl) (fun _ _ _ h => h) (Or.inl ⟨by rfl, ?_⟩) ?_ ?_
  rotate_left
  · intro w'
    go_simp
    with_reducible rfl
  rotate_left
  · simp only [Act.put, List.setIfInBounds_toArray, List.set_cons_zero, List.set_cons_succ, i64_w, i32_w]
    rfl
  refine pure_ (i := 12) (N := some 20) (v := ?_) (a' := ?_) #[false, true, true, true, false, true, true, true, true, false, false, true, true, false, false, false, false, false, false, false, false, false, false, false, false] rfl rfl (by kernel_rfl) (fun _ _ _ h => h) (Or.inl ⟨by rfl, ?_⟩) ?_ ?_
  rotate_left
  · intro w'
    go_simp
    with_reducible rfl
  rotate_left
  · simp only [Act.put, List.setIfInBounds_toArray, List.set_cons_zero, List.set_cons_succ, i64_w, i32_w]
    rfl
  refine pure_ (i := 13) (N := some 21) (v := ?_) (a' := ?_) #[false, true, true, true, false, true, true, true, true, false, false, true, true, true, false, false, false, false, false, false, false, false, false, false, false] rfl rfl (by kernel_rfl) (fun _ _ _ h => h) (Or.inl ⟨by rfl, ?_⟩) ?_ ?_
  rotate_left
  · intro w'
    go_simp
    with_reducible rfl
  rotate_left
  · simp only [Act.put, List.setIfInBounds_toArray, List.set_cons_zero, List.set_cons_succ, i64_w, i32_w]
    rfl
  refine pure_ (i := 14) (N := some 22) (v := ?_) (a' := ?_) #[false, true, true, true, false, true, true, true, true, false, false, true, true, true, true, false, false, false, false, false, false, false, false, false, false] rfl rfl (by kernel_rfl) (fun _ _ _ h => h) (Or.inl ⟨by rfl, ?_⟩) ?_ ?_
  rotate_left
  · intro w'
    go_simp
    with_reducible rfl
  rotate_left
  · simp only [Act.put, List.setIfInBounds_toArray, List.set_cons_zero, List.set_cons_succ, i64_w, i32_w]
    rfl
  refine pure_ (i := 17) (N := some 25) (v := ?_) (a' := ?_) #[false, true, true, true, false, true, true, true, true, false, false, true, true, true, true, false, false, true, false, false, false, false, false, false, false] rfl rfl (by kernel_rfl) (fun _ _ _ h => h) (Or.inl ⟨by rfl, ?_⟩) ?_ ?_
  rotate_left
  · intro w'
    go_simp
    with_reducible rfl
  rotate_left
  · simp only [Act.put, List.setIfInBounds_toArray, List.set_cons_zero, List.set_cons_succ, i64_w, i32_w]
    rfl
  refine pure_ (i := 18) (N := some 26) (v := ?_) (a' := ?_) #[false, true, true, true, false, true, true, true, true, false, false, true, true, true, true, false, false, true, true, false, false, false, false, false, false] rfl rfl (by kernel_rfl) (fun _ _ _ h => h) (Or.inl ⟨by rfl, ?_⟩) ?_ ?_
  rotate_left
  · intro w'
    go_simp
    with_reducible rfl
  rotate_left
  · simp only [Act.put, List.setIfInBounds_toArray, List.set_cons_zero, List.set_cons_succ, i64_w, i32_w]
    rfl
  refine pure_ (i := 19) (N := some 27) (v := ?_) (a' := ?_) #[false, true, true, true, false, true, true, true, true, false, false, true, true, true, true, false, false, true, true, true, false, false, false, false, false] rfl rfl (by kernel_rfl) (fun _ _ _ h => h) (Or.inl ⟨by rfl, ?_⟩) ?_ ?_
  rotate_left
  · intro w'
    go_simp
    with_reducible rfl
  rotate_left
  · simp only [Act.put, List.setIfInBounds_toArray, List.set_cons_zero, List.set_cons_succ, i64_w, i32_w]
    rfl
  refine take_ (i := 4) (N := some 12) (v := ?_) (a' := ?_) #[false, true, true, true, true, true, true, true, true, false, false, true, true, true, true, false, false, true, true, true, false, false, false, false, false] rfl rfl (by kernel_rfl) (fun _ _ _ h => h) (Or.inl ⟨by rfl, ?_⟩) hHeld ?_ ?_
  rotate_left
  · rintro w' ⟨s0, s1, s2⟩
    go_simp
    with_reducible rfl
  rotate_left
  · simp only [Act.put, List.setIfInBounds_toArray, List.set_cons_zero, List.set_cons_succ, i64_w, i32_w]
    rfl
  refine take_ (i := 9) (N := some 17) (v := ?_) (a' := ?_) #[false, true, true, true, true, true, true, true, true, true, false, true, true, true, true, false, false, true, true, true, false, false, false, false, false] rfl rfl (by kernel_rfl) (fun _ _ _ h => h) (Or.inl ⟨by rfl, ?_⟩) hHeld ?_ ?_
  rotate_left
  · rintro w' ⟨s0, s1, s2⟩
    go_simp
    with_reducible rfl
  rotate_left
  · simp only [Act.put, List.setIfInBounds_toArray, List.set_cons_zero, List.set_cons_succ, i64_w, i32_w]
    rfl
  refine pure_ (i := 10) (N := some 18) (v := ?_) (a' := ?_) #[false, true, true, true, true, true, true, true, true, true, true, true, true, true, true, false, false, true, true, true, false, false, false, false, false] rfl rfl (by kernel_rfl) (fun _ _ _ h => h) (Or.inl ⟨by rfl, ?_⟩) ?_ ?_
  rotate_left
  · intro w'
    go_simp
    with_reducible rfl
  rotate_left
  · simp only [Act.put, List.setIfInBounds_toArray, List.set_cons_zero, List.set_cons_succ, i64_w, i32_w]
    rfl
  refine take_ (i := 15) (N := some 23) (v := ?_) (a' := ?_) #[false, true, true, true, true, true, true, true, true, true, true, true, true, true, true, true, false, true, true, true, false, false, false, false, false] rfl rfl (by kernel_rfl) (fun _ _ _ h => h) (Or.inl ⟨by rfl, ?_⟩) hHeld ?_ ?_
  rotate_left
  · rintro w' ⟨s0, s1, s2⟩
    go_simp
    with_reducible rfl
  rotate_left
  · simp only [Act.put, List.setIfInBounds_toArray, List.set_cons_zero, List.set_cons_succ, i64_w, i32_w]
    rfl
  refine pure_ (i := 16) (N := some 24) (v := ?_) (a' := ?_) #[false, true, true, true, true, true, true, true, true, true, true, true, true, true, true, true, true, true, true, true, false, false, false, false, false] rfl rfl (by kernel_rfl) (fun _ _ _ h => h) (Or.inl ⟨by rfl, ?_⟩) ?_ ?_
  rotate_left
  · intro w'
    go_simp
    with_reducible rfl
  rotate_left
  · simp only [Act.put, List.setIfInBounds_toArray, List.set_cons_zero, List.set_cons_succ, i64_w, i32_w]
    rfl
  refine take_ (i := 20) (N := some 28) (v := ?_) (a' := ?_) #[false, true, true, true, true, true, true, true, true, true, true, true, true, true, true, true, true, true, true, true, true, false, false, false, false] rfl rfl (by kernel_rfl) (fun _ _ _ h => h) (Or.inl ⟨by rfl, ?_⟩) hHeld ?_ ?_
  rotate_left
  · rintro w' ⟨s0, s1, s2⟩
    go_simp
    with_reducible rfl
  rotate_left
  · simp only [Act.put, List.setIfInBounds_toArray, List.set_cons_zero, List.set_cons_succ, i64_w, i32_w]
    rfl
  refine pure_ (i := 21) (N := some 29) (v := ?_) (a' := ?_) #[false, true, true, true, true, true, true, true, true, true, true, true, true, true, true, true, true, true, true, true, true, true, false, false, false] rfl rfl (by kernel_rfl) (fun _ _ _ h => h) (Or.inl ⟨by rfl, ?_⟩) ?_ ?_
  rotate_left
  · intro w'
    go_simp
    with_reducible rfl
  rotate_left
  · simp only [Act.put, List.setIfInBounds_toArray, List.set_cons_zero, List.set_cons_succ, i64_w, i32_w]
    rfl
  refine pure_ (i := 22) (N := some 30) (v := ?_) (a' := ?_) #[false, true, true, true, true, true, true, true, true, true, true, true, true, true, true, true, true, true, true, true, true, true, true, false, false] rfl rfl (by kernel_rfl) (fun _ _ _ h => h) (Or.inl ⟨by rfl, ?_⟩) ?_ ?_
  rotate_left
  · intro w'
    go_simp
    with_reducible rfl
  rotate_left
  · simp only [Act.put, List.setIfInBounds_toArray, List.set_cons_zero, List.set_cons_succ, i64_w, i32_w]
    rfl
  refine one_ (i := 0) (N := some 8) #[true, true, true, true, true, true, true, true, true, true, true, true, true, true, true, true, true, true, true, true, true, true, true, false, false] rfl rfl (by kernel_rfl) (by decide) (fun K hK => ?_)
  refine Kd.R_lit_step kC (w0 := w.drew) w.drew.heap.size 32 ?hg (N := 8) ?hd (xs := ([] : List C5)) (inner := []) (ok := fun _ => True) (okp := fun _ => True) ?hr ?hp (fun _ hk => hk) trivial (Below.refl _ _) (Nat.le_refl _) (by simp) ?_; (case hd => rfl); (case hg => rfl); (case hr => first | (go_simp; done) | (go_simp; rfl)); (case hp => exact (Reps.none _ _))
  intro v8 w8 ho8 hb8 hg8 hn8
  clear hg8 hn8
  have HO8 := Aside0.mk ho8
  have HB8 := Aside0.mk hb8
  have HK8 := Aside0.mk (HKd.out.next hb8)
  have HR8 := Aside0.mk (HRd.out.below hb8)
  clear ho8 hb8
  refine hK.out _ _ ⟨HK8.out.c1, HK8.out.c2, HK8.out⟩ (fun hHeld => ?_)
  clear hK K
  refine norm_ (a' := ?_) ?_ ?_
  rotate_left
  · show Act.put _ (some 8) _ = _
    simp only [Act.put, List.setIfInBounds_toArray, List.set_cons_zero, List.set_cons_succ, i64_w, i32_w]
    rfl
  refine one_ (i := 23) (N := some 31) #[true, true, true, true, true, true, true, true, true, true, true, true, true, true, true, true, true, true, true, true, true, true, true, true, false] rfl rfl (by kernel_rfl) (by decide) (fun K hK => ?_)
  refine Kd.R_append_rows_step kC (w0 := w.drew) w.drew.heap.size (by rfl) (.tmp 8) (.tmp 30) 49 32 (C5.agg ⟨0, 0, 0, 0, 0⟩) 40 rfl Tryd.underlying49 info_cell3 rfl (by decide) (by decide) v8 [] ((L.drop (o)).take c) _ _ _ (fun _ => True) (fun _ => False) (by rfl) (by rfl) HO8.out (HR8.out.reads (o) c hle hcl) (fun _ _ h => kC_M.2 (kC_Kv h)) (fun _ h => h.elim) (fun _ _ => trivial) HB8.out HB8.out.size hbyt ?_
  intro v9 w9 ho9 hb9 hg9 hat9
  have HO9 := Aside0.mk ho9
  have HB9 := Aside0.mk hb9
  have HK9 := Aside0.mk (HKd.out.next hb9)
  have HR9 := Aside0.mk (HRd.out.below hb9)
  clear ho9 hb9 hg9 hat9
  refine hK.out _ _ ⟨HK9.out.c1, HK9.out.c2, HK9.out⟩ (fun hHeld => ?_)
  clear hK K
  refine norm_ (a' := ?_) ?_ ?_
  rotate_left
  · show Act.put _ (some 31) _ = _
    simp only [Act.put, List.setIfInBounds_toArray, List.set_cons_zero, List.set_cons_succ, i64_w, i32_w]
    rfl
  refine pure_ (i := 24) (N := some 4) (v := ?_) (a' := ?_) #[true, true, true, true, true, true, true, true, true, true, true, true, true, true, true, true, true, true, true, true, true, true, true, true, true] rfl rfl (by kernel_rfl) (fun _ _ _ h => h) (Or.inl ⟨by rfl, ?_⟩) ?_ ?_
  rotate_left
  · intro w'
    go_simp
    with_reducible rfl
  rotate_left
  · simp only [Act.put, List.setIfInBounds_toArray, List.set_cons_zero, List.set_cons_succ, i64_w, i32_w]
    rfl
  refine done_ (by kernel_rfl) ?_
  clear hw1 hw2 hw3 hw4 hw5 hcut HO8 HB8 HK8 HR8
  have hMl0 : ((L.drop o).take c).length = c := part_length L o c (by omega)
  obtain ⟨b9, cap9, rfl, hbb9, _, hM9, hc9, hm9⟩ := rowAt_of_R HO9.out (by rw [List.nil_append, hMl0]; exact hc1)
  rw [List.nil_append] at hM9 hc9 ⊢
  rw [hMl0] at hc9 ⊢
  have hbw := HN.out.lt
  have hsz : w.heap.size ≤ w.drew.heap.size := (below_drew (Below.refl w.heap.size w)).size
  have hb9 : b9 ≠ b := by omega
  generalize hM : (L.drop o).take c = M at *
  have hMg : ∀ i x, M[i]? = some x → L[o + i]? = some x := fun i x h => by
    have hi : i < c := by have := (List.getElem?_eq_some_iff.1 h).1; omega
    rw [← hM, List.getElem?_take_of_lt hi, List.getElem?_drop] at h
    exact h
  have HM9 := Aside0.mk hM9
  have MEQ := Aside0.mk hM
  have HB9N := Aside0.mk hb9
  have hMl := hMl0
  clear hM9 hM HO9 HB9 HKd HRd hMl0 hsz hbb9 hb9
  go_wp2
  go_loopw [5] (fun v5 wr => ∃ i : Nat, i ≤ c ∧ v5 = .int .i64 i ∧ Aside0 (RowAt wr b (splice L o (mendTo M i))) ∧ Aside0 (RowAt wr b9 M) ∧ Aside0 (KBase w g b r c L.length cap [] wr)) (fun v5 _ => c - (intOf v5).toNat)
  case atStart => exact ⟨0, Nat.zero_le _, rfl, ⟨by simpa [splice, mendTo] using HR9.out⟩, HM9, HK9⟩
  case round =>
    obtain ⟨i, hi, rfl, HR2, HM2, HK2⟩ := hrel
    clear HR9 HM9 HK9
    have z1 := HK2.out.c1
    by_cases hlt : i < c
    · obtain ⟨x, hc⟩ : ∃ x, M[i]? = some x := ⟨M[i], List.getElem?_eq_getElem (by omega)⟩
      have hgd := getD_of hc
      have hlen : o + i < (splice L o (mendTo M i)).length := by rw [splice_length _ _ _ (by rw [mendTo_length]; omega)]; omega
      obtain ⟨p, hp⟩ : ∃ p, o + i = p := ⟨_, rfl⟩
      rw [hp] at hlen
      have hlenp : p < L.length := by omega
      have HL := Aside0.mk hlen
      clear hlen
      have yes : ∀ w6, aloneL M i = true → RowAt w6 b ((splice L o (mendTo M i)).set p ⟨32, x.f, x.g, x.b, 0⟩) → RowAt w6 b (splice L o (mendTo M (i + 1))) := by
        intro w6 ha h
        have hs := splice_next L (mendTo M i) o ⟨32, x.f, x.g, x.b, 0⟩ (by rw [mendTo_length]; omega)
        rw [mendTo_length, hp] at hs
        rw [hs] at h
        rw [mendTo_succ, mendC, if_pos ha, hgd]
        exact h
      have no : ∀ w6, aloneL M i = false → RowAt w6 b (splice L o (mendTo M i)) → RowAt w6 b (splice L o (mendTo M (i + 1))) := by
        intro w6 ha h
        have hs := splice_keep L (mendTo M i) o x (by rw [mendTo_length]; exact hMg i x hc)
        rw [mendTo_succ, mendC, if_neg (by rw [ha]; decide), hgd, ← hs]
        exact h
      have YES := Aside0.mk yes
      have NO := Aside0.mk no
      clear yes no
      have cases7 : (x.w = 1 ∧ ((i : Int) + 1 == (c : Int)) = true) ∨ (∃ n, M[i + 1]? = some n ∧ x.w = 1 ∧ ((i : Int) + 1 == (c : Int)) = false ∧ i + 1 < c ∧ n.w = 2) ∨ (∃ n, M[i + 1]? = some n ∧ x.w = 1 ∧ ((i : Int) + 1 == (c : Int)) = false ∧ i + 1 < c ∧ (n.w != 2) = true)
          ∨ (x.w = 2 ∧ i = 0 ∧ ((i : Int) == 0) = true) ∨ (∃ j n, i = j + 1 ∧ M[j]? = some n ∧ x.w = 2 ∧ n.w = 1 ∧ ((i : Int) == 0) = false ∧ (i : Int) - 1 = (j : Int) ∧ j < c) ∨ (∃ j n, i = j + 1 ∧ M[j]? = some n ∧ x.w = 2 ∧ (n.w != 1) = true ∧ ((i : Int) == 0) = false ∧ (i : Int) - 1 = (j : Int) ∧ j < c) ∨ ((x.w == 1) = false ∧ (x.w == 2) = false) := by
        by_cases h1 : x.w = 1
        · by_cases h2 : i + 1 = c
          · exact .inl ⟨h1, beq_iff_eq.2 (by omega)⟩
          · have h3 : i + 1 < M.length := by omega
            by_cases h4 : (M[i + 1]).w = 2
            · exact .inr (.inl ⟨M[i + 1], List.getElem?_eq_getElem h3, h1, beq_eq_false_iff_ne.2 (by omega), by omega, h4⟩)
            · exact .inr (.inr (.inl ⟨M[i + 1], List.getElem?_eq_getElem h3, h1, beq_eq_false_iff_ne.2 (by omega), by omega, by simpa using h4⟩))
        · by_cases h2 : x.w = 2
          · by_cases h0 : i = 0
            · exact .inr (.inr (.inr (.inl ⟨h2, h0, beq_iff_eq.2 (by omega)⟩)))
            · obtain ⟨j, hj⟩ : ∃ j, i = j + 1 := ⟨i - 1, by omega⟩
              have h3 : j < M.length := by omega
              by_cases h4 : (M[j]).w = 1
              · exact .inr (.inr (.inr (.inr (.inl ⟨j, M[j], hj, List.getElem?_eq_getElem h3, h2, h4, beq_eq_false_iff_ne.2 (by omega), by omega, by omega⟩))))
              · exact .inr (.inr (.inr (.inr (.inr (.inl ⟨j, M[j], hj, List.getElem?_eq_getElem h3, h2, by simpa using h4, beq_eq_false_iff_ne.2 (by omega), by omega, by omega⟩)))))
          · exact .inr (.inr (.inr (.inr (.inr (.inr ⟨beq_eq_false_iff_ne.2 h1, beq_eq_false_iff_ne.2 h2⟩)))))
      have HC5 := Aside0.mk hc
      have hz4 : wr.cell? ⟨b9, i * 5 + 4, none⟩ = some (.int .i64 x.w) := by rw [Nat.mul_comm]; exact HM2.out.cell hc 4 (by omega)
      have HPQ : Aside0 ((o : Int) + (i : Int) = (p : Int) ∧ wrap64 (p : Int) = (p : Int)) := ⟨by omega, by unfold wrap64; omega⟩
      have HWN := Aside0.mk (wrap_mul HOE.out (by omega))
      rcases cases7 with ⟨hw, e1⟩ | ⟨n2, hn2, hw, e1, hl1, hnw⟩ | ⟨n2, hn2, hw, e1, hl1, hnw⟩ | ⟨hw, h00, e1⟩ | ⟨j, n2, hj1, hn2, hw, hnw, e1, e2, hjc⟩ | ⟨j, n2, hj1, hn2, hw, hnw, e1, e2, hjc⟩ | ⟨hw, hw2⟩
      · skip
        have ha : aloneL M i = true := by
          have e2 : i + 1 = c := by have := beq_iff_eq.1 e1; omega
          unfold aloneL
          rw [hgd, hw, hMl, e2]
          simp
        have HA := Aside0.mk ha
        clear ha hgd hc
        go_wp2
        have HR7 := Aside0.mk (HR2.out.below (below_drew (Below.refl _ _)))
        have HM7 := Aside0.mk (HM2.out.below (below_drew (Below.refl _ _)))
        have HK7 := Aside0.mk (HK2.out.next (below_drew (Below.refl _ _)))
        obtain ⟨hq1, hq3⟩ := HPQ.out
        have hq2 : IntKind.i64.wrap (p : Int) = (p : Int) := by rw [i64_w]; exact hq3
        have hw1 := HWN.out
        refine start_ (n := 20) (S := fun w' => w'.cell? ⟨b9, i * 5 + 1, none⟩ = some (.int .i64 x.f) ∧ w'.cell? ⟨b9, i * 5 + 2, none⟩ = some (.int .i64 x.g) ∧ w'.cell? ⟨b9, i * 5 + 3, none⟩ = some (.int .i64 x.b) ∧ w'.cell? ⟨g, 1, none⟩ = some (.int .i64 (c : Int)) ∧ w'.cell? ⟨g, 2, none⟩ = some (.slice (some ⟨b, 0, none⟩) L.length cap) ∧ KBase w g b r c L.length cap [] w') (ds := [19]) #[false, false, false, false, false, false, false, false, false, false, false, false, false, false, false, false, false, false, false, false] (by kernel_rfl) rfl rfl ⟨(by rw [Nat.mul_comm]; exact HM7.out.cell HC5.out 1 (by decide)), (by rw [Nat.mul_comm]; exact HM7.out.cell HC5.out 2 (by decide)), (by rw [Nat.mul_comm]; exact HM7.out.cell HC5.out 3 (by decide)), HK7.out.c1, HK7.out.c2, HK7.out⟩ (fun hHeld => ?_)
        refine pure_ (i := 0) (N := some 87) (v := ?_) (a' := ?_) #[true, false, false, false, false, false, false, false, false, false, false, false, false, false, false, false, false, false, false, false] rfl rfl (by kernel_rfl) (fun _ _ _ h => h) (Or.inl ⟨by rfl, ?_⟩) ?_ ?_
        rotate_left
        · intro w'
          go_simp
          with_reducible rfl
        rotate_left
        · simp only [Act.put, List.setIfInBounds_toArray, List.set_cons_zero, List.set_cons_succ, i64_w, i32_w]
          rfl
        refine pure_ (i := 1) (N := some 88) (v := ?_) (a' := ?_) #[true, true, false, false, false, false, false, false, false, false, false, false, false, false, false, false, false, false, false, false] rfl rfl (by kernel_rfl) (fun _ _ _ h => h) (Or.inl ⟨by rfl, ?_⟩) ?_ ?_
        rotate_left
        · intro w'
          go_simp
          with_reducible rfl
        rotate_left
        · simp only [Act.put, List.setIfInBounds_toArray, List.set_cons_zero, List.set_cons_succ, i64_w, i32_w]
          rfl
        refine pure_ (i := 2) (N := some 89) (v := ?_) (a' := ?_) #[true, true, true, false, false, false, false, false, false, false, false, false, false, false, false, false, false, false, false, false] rfl rfl (by kernel_rfl) (fun _ _ _ h => h) (Or.inl ⟨by rfl, ?_⟩) ?_ ?_
        rotate_left
        · intro w'
          go_simp
          with_reducible rfl
        rotate_left
        · simp only [Act.put, List.setIfInBounds_toArray, List.set_cons_zero, List.set_cons_succ, i64_w, i32_w]
          rfl
        refine pure_ (i := 4) (N := some 91) (v := ?_) (a' := ?_) #[true, true, true, false, true, false, false, false, false, false, false, false, false, false, false, false, false, false, false, false] rfl rfl (by kernel_rfl) (fun _ _ _ h => h) (Or.inl ⟨by rfl, ?_⟩) ?_ ?_
        rotate_left
        · intro w'
          go_simp
          with_reducible rfl
        rotate_left
        · simp only [Act.put, List.setIfInBounds_toArray, List.set_cons_zero, List.set_cons_succ, i64_w, i32_w]
          rfl
        refine pure_ (i := 5) (N := some 92) (v := ?_) (a' := ?_) #[true, true, true, false, true, true, false, false, false, false, false, false, false, false, false, false, false, false, false, false] rfl rfl (by kernel_rfl) (fun _ _ _ h => h) (Or.inl ⟨by rfl, ?_⟩) ?_ ?_
        rotate_left
        · intro w'
          go_simp
          with_reducible rfl
        rotate_left
        · simp only [Act.put, List.setIfInBounds_toArray, List.set_cons_zero, List.set_cons_succ, i64_w, i32_w]
          rfl
        refine pure_ (i := 6) (N := some 93) (v := ?_) (a' := ?_) #[true, true, true, false, true, true, true, false, false, false, false, false, false, false, false, false, false, false, false, false] rfl rfl (by kernel_rfl) (fun _ _ _ h => h) (Or.inl ⟨by rfl, ?_⟩) ?_ ?_
        rotate_left
        · intro w'
          go_simp
          with_reducible rfl
        rotate_left
        · simp only [Act.put, List.setIfInBounds_toArray, List.set_cons_zero, List.set_cons_succ, i64_w, i32_w]
          rfl
        refine pure_ (i := 7) (N := some 94) (v := ?_) (a' := ?_) #[true, true, true, false, true, true, true, true, false, false, false, false, false, false, false, false, false, false, false, false] rfl rfl (by kernel_rfl) (fun _ _ _ h => h) (Or.inl ⟨by rfl, ?_⟩) ?_ ?_
        rotate_left
        · intro w'
          go_simp
          with_reducible rfl
        rotate_left
        · simp only [Act.put, List.setIfInBounds_toArray, List.set_cons_zero, List.set_cons_succ, i64_w, i32_w]
          rfl
        refine pure_ (i := 10) (N := some 97) (v := ?_) (a' := ?_) #[true, true, true, false, true, true, true, true, false, false, true, false, false, false, false, false, false, false, false, false] rfl rfl (by kernel_rfl) (fun _ _ _ h => h) (Or.inl ⟨by rfl, ?_⟩) ?_ ?_
        rotate_left
        · intro w'
          go_simp
          with_reducible rfl
        rotate_left
        · simp only [Act.put, List.setIfInBounds_toArray, List.set_cons_zero, List.set_cons_succ, i64_w, i32_w]
          rfl
        refine pure_ (i := 12) (N := some 99) (v := ?_) (a' := ?_) #[true, true, true, false, true, true, true, true, false, false, true, false, true, false, false, false, false, false, false, false] rfl rfl (by kernel_rfl) (fun _ _ _ h => h) (Or.inl ⟨by rfl, ?_⟩) ?_ ?_
        rotate_left
        · intro w'
          go_simp
          with_reducible rfl
        rotate_left
        · simp only [Act.put, List.setIfInBounds_toArray, List.set_cons_zero, List.set_cons_succ, i64_w, i32_w]
          rfl
        refine pure_ (i := 13) (N := some 100) (v := ?_) (a' := ?_) #[true, true, true, false, true, true, true, true, false, false, true, false, true, true, false, false, false, false, false, false] rfl rfl (by kernel_rfl) (fun _ _ _ h => h) (Or.inl ⟨by rfl, ?_⟩) ?_ ?_
        rotate_left
        · intro w'
          go_simp
          with_reducible rfl
        rotate_left
        · simp only [Act.put, List.setIfInBounds_toArray, List.set_cons_zero, List.set_cons_succ, i64_w, i32_w]
          rfl
        refine pure_ (i := 14) (N := some 101) (v := ?_) (a' := ?_) #[true, true, true, false, true, true, true, true, false, false, true, false, true, true, true, false, false, false, false, false] rfl rfl (by kernel_rfl) (fun _ _ _ h => h) (Or.inl ⟨by rfl, ?_⟩) ?_ ?_
        rotate_left
        · intro w'
          go_simp
          with_reducible rfl
        rotate_left
        · simp only [Act.put, List.setIfInBounds_toArray, List.set_cons_zero, List.set_cons_succ, i64_w, i32_w]
          rfl
        refine pure_ (i := 15) (N := some 102) (v := ?_) (a' := ?_) #[true, true, true, false, true, true, true, true, false, false, true, false, true, true, true, true, false, false, false, false] rfl rfl (by kernel_rfl) (fun _ _ _ h => h) (Or.inl ⟨by rfl, ?_⟩) ?_ ?_
        rotate_left
        · intro w'
          go_simp
          with_reducible rfl
        rotate_left
        · simp only [Act.put, List.setIfInBounds_toArray, List.set_cons_zero, List.set_cons_succ, i64_w, i32_w]
          rfl
        refine take_ (i := 3) (N := some 90) (v := ?_) (a' := ?_) #[true, true, true, true, true, true, true, true, false, false, true, false, true, true, true, true, false, false, false, false] rfl rfl (by kernel_rfl) (fun _ _ _ h => h) (Or.inl ⟨by rfl, ?_⟩) hHeld ?_ ?_
        rotate_left
        · rintro w' ⟨s0, s1, s2, s3, s4, s5⟩
          go_simp
          with_reducible rfl
        rotate_left
        · simp only [Act.put, List.setIfInBounds_toArray, List.set_cons_zero, List.set_cons_succ, i64_w, i32_w]
          rfl
        refine take_ (i := 8) (N := some 95) (v := ?_) (a' := ?_) #[true, true, true, true, true, true, true, true, true, false, true, false, true, true, true, true, false, false, false, false] rfl rfl (by kernel_rfl) (fun _ _ _ h => h) (Or.inl ⟨by rfl, ?_⟩) hHeld ?_ ?_
        rotate_left
        · rintro w' ⟨s0, s1, s2, s3, s4, s5⟩
          go_simp
          with_reducible rfl
        rotate_left
        · simp only [Act.put, List.setIfInBounds_toArray, List.set_cons_zero, List.set_cons_succ, i64_w, i32_w]
          rfl
        refine pure_ (i := 9) (N := some 96) (v := ?_) (a' := ?_) #[true, true, true, true, true, true, true, true, true, true, true, false, true, true, true, true, false, false, false, false] rfl rfl (by kernel_rfl) (fun _ _ _ h => h) (Or.inl ⟨by rfl, ?_⟩) ?_ ?_
        rotate_left
        · intro w'
          go_simp
          with_reducible rfl
        rotate_left
        · simp only [Act.put, List.setIfInBounds_toArray, List.set_cons_zero, List.set_cons_succ, i64_w, i32_w]
          rfl
        refine pure_ (i := 11) (N := some 98) (v := ?_) (a' := ?_) #[true, true, true, true, true, true, true, true, true, true, true, true, true, true, true, true, false, false, false, false] rfl rfl (by kernel_rfl) (fun _ _ _ h => h) (Or.inl ⟨by rfl, ?_⟩) ?_ ?_
        rotate_left
        · intro w'
          go_simp
          with_reducible rfl
        rotate_left
        · simp only [Act.put, List.setIfInBounds_toArray, List.set_cons_zero, List.set_cons_succ, i64_w, i32_w]
          rfl
        refine take_ (i := 16) (N := some 103) (v := ?_) (a' := ?_) #[true, true, true, true, true, true, true, true, true, true, true, true, true, true, true, true, true, false, false, false] rfl rfl (by kernel_rfl) (fun _ _ _ h => h) (Or.inl ⟨by rfl, ?_⟩) hHeld ?_ ?_
        rotate_left
        · rintro w' ⟨s0, s1, s2, s3, s4, s5⟩
          go_simp
          with_reducible rfl
        rotate_left
        · simp only [Act.put, List.setIfInBounds_toArray, List.set_cons_zero, List.set_cons_succ, i64_w, i32_w]
          rfl
        refine one_ (i := 17) (N := some 104) #[true, true, true, true, true, true, true, true, true, true, true, true, true, true, true, true, true, true, false, false] rfl rfl (by kernel_rfl) (by decide) (fun K hK => ?_)
        refine goes_ Tryd.func59 (by kernel_rfl) rfl #[.agg #[.int .i64 x.f, .int .i64 x.g, .int .i64 x.b]] (by rfl) rfl rfl (by simp only [List.map_toArray, List.map_cons, List.map_nil]; rfl) ?_
        refine (PD.tikref6_space.calls x.f x.g x.b 32 x.f x.g x.b 0 _ rfl).mono ?_
        rintro e w18 ⟨rfl, hb18⟩
        refine ⟨_, rfl, ?_⟩
        have HM18 := Aside0.mk (HM7.out.below hb18)
        have HR18 := Aside0.mk (HR7.out.below hb18)
        have HK18 := Aside0.mk (HK7.out.next hb18)
        clear hb18
        refine hK.out _ _ ⟨(by rw [Nat.mul_comm]; exact HM18.out.cell HC5.out 1 (by decide)), (by rw [Nat.mul_comm]; exact HM18.out.cell HC5.out 2 (by decide)), (by rw [Nat.mul_comm]; exact HM18.out.cell HC5.out 3 (by decide)), HK18.out.c1, HK18.out.c2, HK18.out⟩ (fun hHeld => ?_)
        clear hK K
        refine norm_ (a' := ?_) ?_ ?_
        rotate_left
        · show Act.put _ (some 104) _ = _
          simp only [Act.put, List.setIfInBounds_toArray, List.set_cons_zero, List.set_cons_succ, i64_w, i32_w]
          rfl
        refine pure_ (i := 18) (N := some 105) (v := ?_) (a' := ?_) #[true, true, true, true, true, true, true, true, true, true, true, true, true, true, true, true, true, true, true, false] rfl rfl (by kernel_rfl) (fun _ _ _ h => h) (Or.inl ⟨by rfl, ?_⟩) ?_ ?_
        rotate_left
        · intro w'
          go_simp
          with_reducible rfl
        rotate_left
        · simp only [Act.put, List.setIfInBounds_toArray, List.set_cons_zero, List.set_cons_succ, i64_w, i32_w]
          rfl
        refine last_ (i := 19) (N := none) #[true, true, true, true, true, true, true, true, true, true, true, true, true, true, true, true, true, true, true, true] rfl rfl (by kernel_rfl) (by decide) (fun K hK => ?_)
        refine skip_store_cell (by rfl) rfl rfl HR18.out p HL.out ⟨32, x.f, x.g, x.b, 0⟩ info_cell (by rfl) (Nat.mul_comm _ _) (by rfl) ?_
        intro w20 hR20 hg20
        have HR20 := Aside0.mk (YES.out w20 HA.out hR20)
        have HM20 := Aside0.mk (HM18.out.grown hg20 (fun e => HB9N.out (Option.some.inj e)))
        have HK20 := Aside0.mk (HK18.out.wrote hR20 hg20)
        clear hR20 hg20
        refine hK.out _ _ ?_
        clear hK K
        refine done_ (by kernel_rfl) ?_
        clear hq1 hq2 hq3 hw1 HR7 HM7 HK7 HR18 HM18 HK18 HR2 HM2 HK2
        go_wp2
        go_roundw
        case rel => exact ⟨i + 1, hlt, by go_num, HR20, HM20, HK20⟩
        case measure => simp [intOf]; omega
      · skip
        have ha : aloneL M i = false := by
          unfold aloneL
          rw [hgd, hw, getD_of hn2, hnw, hMl]
          simp
          omega
        have hzn : wr.cell? ⟨b9, (i + 1) * 5 + 4, none⟩ = some (.int .i64 n2.w) := by rw [Nat.mul_comm]; exact HM2.out.cell hn2 4 (by omega)
        have HA := Aside0.mk ha
        clear ha hgd hc
        go_wp2
        go_roundw
        case rel => exact ⟨i + 1, hlt, by go_num, ⟨NO.out wr HA.out HR2.out⟩, HM2, HK2⟩
        case measure => simp [intOf]; omega
      · skip
        have ha : aloneL M i = true := by
          unfold aloneL
          rw [hgd, hw, getD_of hn2, hnw, hMl]
          simp
        have hzn : wr.cell? ⟨b9, (i + 1) * 5 + 4, none⟩ = some (.int .i64 n2.w) := by rw [Nat.mul_comm]; exact HM2.out.cell hn2 4 (by omega)
        have HA := Aside0.mk ha
        clear ha hgd hc
        go_wp2
        have HR7 := Aside0.mk (HR2.out.below (below_drew (Below.refl _ _)))
        have HM7 := Aside0.mk (HM2.out.below (below_drew (Below.refl _ _)))
        have HK7 := Aside0.mk (HK2.out.next (below_drew (Below.refl _ _)))
        obtain ⟨hq1, hq3⟩ := HPQ.out
        have hq2 : IntKind.i64.wrap (p : Int) = (p : Int) := by rw [i64_w]; exact hq3
        have hw1 := HWN.out
        refine start_ (n := 20) (S := fun w' => w'.cell? ⟨b9, i * 5 + 1, none⟩ = some (.int .i64 x.f) ∧ w'.cell? ⟨b9, i * 5 + 2, none⟩ = some (.int .i64 x.g) ∧ w'.cell? ⟨b9, i * 5 + 3, none⟩ = some (.int .i64 x.b) ∧ w'.cell? ⟨g, 1, none⟩ = some (.int .i64 (c : Int)) ∧ w'.cell? ⟨g, 2, none⟩ = some (.slice (some ⟨b, 0, none⟩) L.length cap) ∧ KBase w g b r c L.length cap [] w') (ds := [19]) #[false, false, false, false, false, false, false, false, false, false, false, false, false, false, false, false, false, false, false, false] (by kernel_rfl) rfl rfl ⟨(by rw [Nat.mul_comm]; exact HM7.out.cell HC5.out 1 (by decide)), (by rw [Nat.mul_comm]; exact HM7.out.cell HC5.out 2 (by decide)), (by rw [Nat.mul_comm]; exact HM7.out.cell HC5.out 3 (by decide)), HK7.out.c1, HK7.out.c2, HK7.out⟩ (fun hHeld => ?_)
        refine pure_ (i := 0) (N := some 87) (v := ?_) (a' := ?_) #[true, false, false, false, false, false, false, false, false, false, false, false, false, false, false, false, false, false, false, false] rfl rfl (by kernel_rfl) (fun _ _ _ h => h) (Or.inl ⟨by rfl, ?_⟩) ?_ ?_
        rotate_left
        · intro w'
          go_simp
          with_reducible rfl
        rotate_left
        · simp only [Act.put, List.setIfInBounds_toArray, List.set_cons_zero, List.set_cons_succ, i64_w, i32_w]
          rfl
        refine pure_ (i := 1) (N := some 88) (v := ?_) (a' := ?_) #[true, true, false, false, false, false, false, false, false, false, false, false, false, false, false, false, false, false, false, false] rfl rfl (by kernel_rfl) (fun _ _ _ h => h) (Or.inl ⟨by rfl, ?_⟩) ?_ ?_
        rotate_left
        · intro w'
          go_simp
          with_reducible rfl
        rotate_left
        · simp only [Act.put, List.setIfInBounds_toArray, List.set_cons_zero, List.set_cons_succ, i64_w, i32_w]
          rfl
        refine pure_ (i := 2) (N := some 89) (v := ?_) (a' := ?_) #[true, true, true, false, false, false, false, false, false, false, false, false, false, false, false, false, false, false, false, false] rfl rfl (by kernel_rfl) (fun _ _ _ h => h) (Or.inl ⟨by rfl, ?_⟩) ?_ ?_
        rotate_left
        · intro w'
          go_simp
          with_reducible rfl
        rotate_left
        · simp only [Act.put, List.setIfInBounds_toArray, List.set_cons_zero, List.set_cons_succ, i64_w, i32_w]
          rfl
        refine pure_ (i := 4) (N := some 91) (v := ?_) (a' := ?_) #[true, true, true, false, true, false, false, false, false, false, false, false, false, false, false, false, false, false, false, false] rfl rfl (by kernel_rfl) (fun _ _ _ h => h) (Or.inl ⟨by rfl, ?_⟩) ?_ ?_
        rotate_left
        · intro w'
          go_simp
          with_reducible rfl
        rotate_left
        · simp only [Act.put, List.setIfInBounds_toArray, List.set_cons_zero, List.set_cons_succ, i64_w, i32_w]
          rfl
        refine pure_ (i := 5) (N := some 92) (v := ?_) (a' := ?_) #[true, true, true, false, true, true, false, false, false, false, false, false, false, false, false, false, false, false, false, false] rfl rfl (by kernel_rfl) (fun _ _ _ h => h) (Or.inl ⟨by rfl, ?_⟩) ?_ ?_
        rotate_left
        · intro w'
          go_simp
          with_reducible rfl
        rotate_left
        · simp only [Act.put, List.setIfInBounds_toArray, List.set_cons_zero, List.set_cons_succ, i64_w, i32_w]
          rfl
        refine pure_ (i := 6) (N := some 93) (v := ?_) (a' := ?_) #[true, true, true, false, true, true, true, false, false, false, false, false, false, false, false, false, false, false, false, false] rfl rfl (by kernel_rfl) (fun _ _ _ h => h) (Or.inl ⟨by rfl, ?_⟩) ?_ ?_
        rotate_left
        · intro w'
          go_simp
          with_reducible rfl
        rotate_left
        · simp only [Act.put, List.setIfInBounds_toArray, List.set_cons_zero, List.set_cons_succ, i64_w, i32_w]
          rfl
        refine pure_ (i := 7) (N := some 94) (v := ?_) (a' := ?_) #[true, true, true, false, true, true, true, true, false, false, false, false, false, false, false, false, false, false, false, false] rfl rfl (by kernel_rfl) (fun _ _ _ h => h) (Or.inl ⟨by rfl, ?_⟩) ?_ ?_
        rotate_left
        · intro w'
          go_simp
          with_reducible rfl
        rotate_left
        · simp only [Act.put, List.setIfInBounds_toArray, List.set_cons_zero, List.set_cons_succ, i64_w, i32_w]
          rfl
        refine pure_ (i := 10) (N := some 97) (v := ?_) (a' := ?_) #[true, true, true, false, true, true, true, true, false, false, true, false, false, false, false, false, false, false, false, false] rfl rfl (by kernel_rfl) (fun _ _ _ h => h) (Or.inl ⟨by rfl, ?_⟩) ?_ ?_
        rotate_left
        · intro w'
          go_simp
          with_reducible rfl
        rotate_left
        · simp only [Act.put, List.setIfInBounds_toArray, List.set_cons_zero, List.set_cons_succ, i64_w, i32_w]
          rfl
        refine pure_ (i := 12) (N := some 99) (v := ?_) (a' := ?_) #[true, true, true, false, true, true, true, true, false, false, true, false, true, false, false, false, false, false, false, false] rfl rfl (by kernel_rfl) (fun _ _ _ h => h) (Or.inl ⟨by rfl, ?_⟩) ?_ ?_
        rotate_left
        · intro w'
          go_simp
          with_reducible rfl
        rotate_left
        · simp only [Act.put, List.setIfInBounds_toArray, List.set_cons_zero, List.set_cons_succ, i64_w, i32_w]
          rfl
        refine pure_ (i := 13) (N := some 100) (v := ?_) (a' := ?_) #[true, true, true, false, true, true, true, true, false, false, true, false, true, true, false, false, false, false, false, false] rfl rfl (by kernel_rfl) (fun _ _ _ h => h) (Or.inl ⟨by rfl, ?_⟩) ?_ ?_
        rotate_left
        · intro w'
          go_simp
          with_reducible rfl
        rotate_left
        · simp only [Act.put, List.setIfInBounds_toArray, List.set_cons_zero, List.set_cons_succ, i64_w, i32_w]
          rfl
        refine pure_ (i := 14) (N := some 101) (v := ?_) (a' := ?_) #[true, true, true, false, true, true, true, true, false, false, true, false, true, true, true, false, false, false, false, false] rfl rfl (by kernel_rfl) (fun _ _ _ h => h) (Or.inl ⟨by rfl, ?_⟩) ?_ ?_
        rotate_left
        · intro w'
          go_simp
          with_reducible rfl
        rotate_left
        · simp only [Act.put, List.setIfInBounds_toArray, List.set_cons_zero, List.set_cons_succ, i64_w, i32_w]
          rfl
        refine pure_ (i := 15) (N := some 102) (v := ?_) (a' := ?_) #[true, true, true, false, true, true, true, true, false, false, true, false, true, true, true, true, false, false, false, false] rfl rfl (by kernel_rfl) (fun _ _ _ h => h) (Or.inl ⟨by rfl, ?_⟩) ?_ ?_
        rotate_left
        · intro w'
          go_simp
          with_reducible rfl
        rotate_left
        · simp only [Act.put, List.setIfInBounds_toArray, List.set_cons_zero, List.set_cons_succ, i64_w, i32_w]
          rfl
        refine take_ (i := 3) (N := some 90) (v := ?_) (a' := ?_) #[true, true, true, true, true, true, true, true, false, false, true, false, true, true, true, true, false, false, false, false] rfl rfl (by kernel_rfl) (fun _ _ _ h => h) (Or.inl ⟨by rfl, ?_⟩) hHeld ?_ ?_
        rotate_left
        · rintro w' ⟨s0, s1, s2, s3, s4, s5⟩
          go_simp
          with_reducible rfl
        rotate_left
        · simp only [Act.put, List.setIfInBounds_toArray, List.set_cons_zero, List.set_cons_succ, i64_w, i32_w]
          rfl
        refine take_ (i := 8) (N := some 95) (v := ?_) (a' := ?_) #[true, true, true, true, true, true, true, true, true, false, true, false, true, true, true, true, false, false, false, false] rfl rfl (by kernel_rfl) (fun _ _ _ h => h) (Or.inl ⟨by rfl, ?_⟩) hHeld ?_ ?_
        rotate_left
        · rintro w' ⟨s0, s1, s2, s3, s4, s5⟩
          go_simp
          with_reducible rfl
        rotate_left
        · simp only [Act.put, List.setIfInBounds_toArray, List.set_cons_zero, List.set_cons_succ, i64_w, i32_w]
          rfl
        refine pure_ (i := 9) (N := some 96) (v := ?_) (a' := ?_) #[true, true, true, true, true, true, true, true, true, true, true, false, true, true, true, true, false, false, false, false] rfl rfl (by kernel_rfl) (fun _ _ _ h => h) (Or.inl ⟨by rfl, ?_⟩) ?_ ?_
        rotate_left
        · intro w'
          go_simp
          with_reducible rfl
        rotate_left
        · simp only [Act.put, List.setIfInBounds_toArray, List.set_cons_zero, List.set_cons_succ, i64_w, i32_w]
          rfl
        refine pure_ (i := 11) (N := some 98) (v := ?_) (a' := ?_) #[true, true, true, true, true, true, true, true, true, true, true, true, true, true, true, true, false, false, false, false] rfl rfl (by kernel_rfl) (fun _ _ _ h => h) (Or.inl ⟨by rfl, ?_⟩) ?_ ?_
        rotate_left
        · intro w'
          go_simp
          with_reducible rfl
        rotate_left
        · simp only [Act.put, List.setIfInBounds_toArray, List.set_cons_zero, List.set_cons_succ, i64_w, i32_w]
          rfl
        refine take_ (i := 16) (N := some 103) (v := ?_) (a' := ?_) #[true, true, true, true, true, true, true, true, true, true, true, true, true, true, true, true, true, false, false, false] rfl rfl (by kernel_rfl) (fun _ _ _ h => h) (Or.inl ⟨by rfl, ?_⟩) hHeld ?_ ?_
        rotate_left
        · rintro w' ⟨s0, s1, s2, s3, s4, s5⟩
          go_simp
          with_reducible rfl
        rotate_left
        · simp only [Act.put, List.setIfInBounds_toArray, List.set_cons_zero, List.set_cons_succ, i64_w, i32_w]
          rfl
        refine one_ (i := 17) (N := some 104) #[true, true, true, true, true, true, true, true, true, true, true, true, true, true, true, true, true, true, false, false] rfl rfl (by kernel_rfl) (by decide) (fun K hK => ?_)
        refine goes_ Tryd.func59 (by kernel_rfl) rfl #[.agg #[.int .i64 x.f, .int .i64 x.g, .int .i64 x.b]] (by rfl) rfl rfl (by simp only [List.map_toArray, List.map_cons, List.map_nil]; rfl) ?_
        refine (PD.tikref6_space.calls x.f x.g x.b 32 x.f x.g x.b 0 _ rfl).mono ?_
        rintro e w18 ⟨rfl, hb18⟩
        refine ⟨_, rfl, ?_⟩
        have HM18 := Aside0.mk (HM7.out.below hb18)
        have HR18 := Aside0.mk (HR7.out.below hb18)
        have HK18 := Aside0.mk (HK7.out.next hb18)
        clear hb18
        refine hK.out _ _ ⟨(by rw [Nat.mul_comm]; exact HM18.out.cell HC5.out 1 (by decide)), (by rw [Nat.mul_comm]; exact HM18.out.cell HC5.out 2 (by decide)), (by rw [Nat.mul_comm]; exact HM18.out.cell HC5.out 3 (by decide)), HK18.out.c1, HK18.out.c2, HK18.out⟩ (fun hHeld => ?_)
        clear hK K
        refine norm_ (a' := ?_) ?_ ?_
        rotate_left
        · show Act.put _ (some 104) _ = _
          simp only [Act.put, List.setIfInBounds_toArray, List.set_cons_zero, List.set_cons_succ, i64_w, i32_w]
          rfl
        refine pure_ (i := 18) (N := some 105) (v := ?_) (a' := ?_) #[true, true, true, true, true, true, true, true, true, true, true, true, true, true, true, true, true, true, true, false] rfl rfl (by kernel_rfl) (fun _ _ _ h => h) (Or.inl ⟨by rfl, ?_⟩) ?_ ?_
        rotate_left
        · intro w'
          go_simp
          with_reducible rfl
        rotate_left
        · simp only [Act.put, List.setIfInBounds_toArray, List.set_cons_zero, List.set_cons_succ, i64_w, i32_w]
          rfl
        refine last_ (i := 19) (N := none) #[true, true, true, true, true, true, true, true, true, true, true, true, true, true, true, true, true, true, true, true] rfl rfl (by kernel_rfl) (by decide) (fun K hK => ?_)
        refine skip_store_cell (by rfl) rfl rfl HR18.out p HL.out ⟨32, x.f, x.g, x.b, 0⟩ info_cell (by rfl) (Nat.mul_comm _ _) (by rfl) ?_
        intro w20 hR20 hg20
        have HR20 := Aside0.mk (YES.out w20 HA.out hR20)
        have HM20 := Aside0.mk (HM18.out.grown hg20 (fun e => HB9N.out (Option.some.inj e)))
        have HK20 := Aside0.mk (HK18.out.wrote hR20 hg20)
        clear hR20 hg20
        refine hK.out _ _ ?_
        clear hK K
        refine done_ (by kernel_rfl) ?_
        clear hq1 hq2 hq3 hw1 HR7 HM7 HK7 HR18 HM18 HK18 HR2 HM2 HK2
        go_wp2
        go_roundw
        case rel => exact ⟨i + 1, hlt, by go_num, HR20, HM20, HK20⟩
        case measure => simp [intOf]; omega
      · skip
        have ha : aloneL M i = true := by
          unfold aloneL
          rw [hgd, hw, h00]
          simp
        clear h00
        have HA := Aside0.mk ha
        clear ha hgd hc
        go_wp2
        have HR7 := Aside0.mk (HR2.out.below (below_drew (Below.refl _ _)))
        have HM7 := Aside0.mk (HM2.out.below (below_drew (Below.refl _ _)))
        have HK7 := Aside0.mk (HK2.out.next (below_drew (Below.refl _ _)))
        obtain ⟨hq1, hq3⟩ := HPQ.out
        have hq2 : IntKind.i64.wrap (p : Int) = (p : Int) := by rw [i64_w]; exact hq3
        have hw1 := HWN.out
        refine start_ (n := 20) (S := fun w' => w'.cell? ⟨b9, i * 5 + 1, none⟩ = some (.int .i64 x.f) ∧ w'.cell? ⟨b9, i * 5 + 2, none⟩ = some (.int .i64 x.g) ∧ w'.cell? ⟨b9, i * 5 + 3, none⟩ = some (.int .i64 x.b) ∧ w'.cell? ⟨g, 1, none⟩ = some (.int .i64 (c : Int)) ∧ w'.cell? ⟨g, 2, none⟩ = some (.slice (some ⟨b, 0, none⟩) L.length cap) ∧ KBase w g b r c L.length cap [] w') (ds := [19]) #[false, false, false, false, false, false, false, false, false, false, false, false, false, false, false, false, false, false, false, false] (by kernel_rfl) rfl rfl ⟨(by rw [Nat.mul_comm]; exact HM7.out.cell HC5.out 1 (by decide)), (by rw [Nat.mul_comm]; exact HM7.out.cell HC5.out 2 (by decide)), (by rw [Nat.mul_comm]; exact HM7.out.cell HC5.out 3 (by decide)), HK7.out.c1, HK7.out.c2, HK7.out⟩ (fun hHeld => ?_)
        refine pure_ (i := 0) (N := some 87) (v := ?_) (a' := ?_) #[true, false, false, false, false, false, false, false, false, false, false, false, false, false, false, false, false, false, false, false] rfl rfl (by kernel_rfl) (fun _ _ _ h => h) (Or.inl ⟨by rfl, ?_⟩) ?_ ?_
        rotate_left
        · intro w'
          go_simp
          with_reducible rfl
        rotate_left
        · simp only [Act.put, List.setIfInBounds_toArray, List.set_cons_zero, List.set_cons_succ, i64_w, i32_w]
          rfl
        refine pure_ (i := 1) (N := some 88) (v := ?_) (a' := ?_) #[true, true, false, false, false, false, false, false, false, false, false, false, false, false, false, false, false, false, false, false] rfl rfl (by kernel_rfl) (fun _ _ _ h => h) (Or.inl ⟨by rfl, ?_⟩) ?_ ?_
        rotate_left
        · intro w'
          go_simp
          with_reducible rfl
        rotate_left
        · simp only [Act.put, List.setIfInBounds_toArray, List.set_cons_zero, List.set_cons_succ, i64_w, i32_w]
          rfl
        refine pure_ (i := 2) (N := some 89) (v := ?_) (a' := ?_) #[true, true, true, false, false, false, false, false, false, false, false, false, false, false, false, false, false, false, false, false] rfl rfl (by kernel_rfl) (fun _ _ _ h => h) (Or.inl ⟨by rfl, ?_⟩) ?_ ?_
        rotate_left
        · intro w'
          go_simp
          with_reducible rfl
        rotate_left
        · simp only [Act.put, List.setIfInBounds_toArray, List.set_cons_zero, List.set_cons_succ, i64_w, i32_w]
          rfl
        refine pure_ (i := 4) (N := some 91) (v := ?_) (a' := ?_) #[true, true, true, false, true, false, false, false, false, false, false, false, false, false, false, false, false, false, false, false] rfl rfl (by kernel_rfl) (fun _ _ _ h => h) (Or.inl ⟨by rfl, ?_⟩) ?_ ?_
        rotate_left
        · intro w'
          go_simp
          with_reducible rfl
        rotate_left
        · simp only [Act.put, List.setIfInBounds_toArray, List.set_cons_zero, List.set_cons_succ, i64_w, i32_w]
          rfl
        refine pure_ (i := 5) (N := some 92) (v := ?_) (a' := ?_) #[true, true, true, false, true, true, false, false, false, false, false, false, false, false, false, false, false, false, false, false] rfl rfl (by kernel_rfl) (fun _ _ _ h => h) (Or.inl ⟨by rfl, ?_⟩) ?_ ?_
        rotate_left
        · intro w'
          go_simp
          with_reducible rfl
        rotate_left
        · simp only [Act.put, List.setIfInBounds_toArray, List.set_cons_zero, List.set_cons_succ, i64_w, i32_w]
          rfl
        refine pure_ (i := 6) (N := some 93) (v := ?_) (a' := ?_) #[true, true, true, false, true, true, true, false, false, false, false, false, false, false, false, false, false, false, false, false] rfl rfl (by kernel_rfl) (fun _ _ _ h => h) (Or.inl ⟨by rfl, ?_⟩) ?_ ?_
        rotate_left
        · intro w'
          go_simp
          with_reducible rfl
        rotate_left
        · simp only [Act.put, List.setIfInBounds_toArray, List.set_cons_zero, List.set_cons_succ, i64_w, i32_w]
          rfl
        refine pure_ (i := 7) (N := some 94) (v := ?_) (a' := ?_) #[true, true, true, false, true, true, true, true, false, false, false, false, false, false, false, false, false, false, false, false] rfl rfl (by kernel_rfl) (fun _ _ _ h => h) (Or.inl ⟨by rfl, ?_⟩) ?_ ?_
        rotate_left
        · intro w'
          go_simp
          with_reducible rfl
        rotate_left
        · simp only [Act.put, List.setIfInBounds_toArray, List.set_cons_zero, List.set_cons_succ, i64_w, i32_w]
          rfl
        refine pure_ (i := 10) (N := some 97) (v := ?_) (a' := ?_) #[true, true, true, false, true, true, true, true, false, false, true, false, false, false, false, false, false, false, false, false] rfl rfl (by kernel_rfl) (fun _ _ _ h => h) (Or.inl ⟨by rfl, ?_⟩) ?_ ?_
        rotate_left
        · intro w'
          go_simp
          with_reducible rfl
        rotate_left
        · simp only [Act.put, List.setIfInBounds_toArray, List.set_cons_zero, List.set_cons_succ, i64_w, i32_w]
          rfl
        refine pure_ (i := 12) (N := some 99) (v := ?_) (a' := ?_) #[true, true, true, false, true, true, true, true, false, false, true, false, true, false, false, false, false, false, false, false] rfl rfl (by kernel_rfl) (fun _ _ _ h => h) (Or.inl ⟨by rfl, ?_⟩) ?_ ?_
        rotate_left
        · intro w'
          go_simp
          with_reducible rfl
        rotate_left
        · simp only [Act.put, List.setIfInBounds_toArray, List.set_cons_zero, List.set_cons_succ, i64_w, i32_w]
          rfl
        refine pure_ (i := 13) (N := some 100) (v := ?_) (a' := ?_) #[true, true, true, false, true, true, true, true, false, false, true, false, true, true, false, false, false, false, false, false] rfl rfl (by kernel_rfl) (fun _ _ _ h => h) (Or.inl ⟨by rfl, ?_⟩) ?_ ?_
        rotate_left
        · intro w'
          go_simp
          with_reducible rfl
        rotate_left
        · simp only [Act.put, List.setIfInBounds_toArray, List.set_cons_zero, List.set_cons_succ, i64_w, i32_w]
          rfl
        refine pure_ (i := 14) (N := some 101) (v := ?_) (a' := ?_) #[true, true, true, false, true, true, true, true, false, false, true, false, true, true, true, false, false, false, false, false] rfl rfl (by kernel_rfl) (fun _ _ _ h => h) (Or.inl ⟨by rfl, ?_⟩) ?_ ?_
        rotate_left
        · intro w'
          go_simp
          with_reducible rfl
        rotate_left
        · simp only [Act.put, List.setIfInBounds_toArray, List.set_cons_zero, List.set_cons_succ, i64_w, i32_w]
          rfl
        refine pure_ (i := 15) (N := some 102) (v := ?_) (a' := ?_) #[true, true, true, false, true, true, true, true, false, false, true, false, true, true, true, true, false, false, false, false] rfl rfl (by kernel_rfl) (fun _ _ _ h => h) (Or.inl ⟨by rfl, ?_⟩) ?_ ?_
        rotate_left
        · intro w'
          go_simp
          with_reducible rfl
        rotate_left
        · simp only [Act.put, List.setIfInBounds_toArray, List.set_cons_zero, List.set_cons_succ, i64_w, i32_w]
          rfl
        refine take_ (i := 3) (N := some 90) (v := ?_) (a' := ?_) #[true, true, true, true, true, true, true, true, false, false, true, false, true, true, true, true, false, false, false, false] rfl rfl (by kernel_rfl) (fun _ _ _ h => h) (Or.inl ⟨by rfl, ?_⟩) hHeld ?_ ?_
        rotate_left
        · rintro w' ⟨s0, s1, s2, s3, s4, s5⟩
          go_simp
          with_reducible rfl
        rotate_left
        · simp only [Act.put, List.setIfInBounds_toArray, List.set_cons_zero, List.set_cons_succ, i64_w, i32_w]
          rfl
        refine take_ (i := 8) (N := some 95) (v := ?_) (a' := ?_) #[true, true, true, true, true, true, true, true, true, false, true, false, true, true, true, true, false, false, false, false] rfl rfl (by kernel_rfl) (fun _ _ _ h => h) (Or.inl ⟨by rfl, ?_⟩) hHeld ?_ ?_
        rotate_left
        · rintro w' ⟨s0, s1, s2, s3, s4, s5⟩
          go_simp
          with_reducible rfl
        rotate_left
        · simp only [Act.put, List.setIfInBounds_toArray, List.set_cons_zero, List.set_cons_succ, i64_w, i32_w]
          rfl
        refine pure_ (i := 9) (N := some 96) (v := ?_) (a' := ?_) #[true, true, true, true, true, true, true, true, true, true, true, false, true, true, true, true, false, false, false, false] rfl rfl (by kernel_rfl) (fun _ _ _ h => h) (Or.inl ⟨by rfl, ?_⟩) ?_ ?_
        rotate_left
        · intro w'
          go_simp
          with_reducible rfl
        rotate_left
        · simp only [Act.put, List.setIfInBounds_toArray, List.set_cons_zero, List.set_cons_succ, i64_w, i32_w]
          rfl
        refine pure_ (i := 11) (N := some 98) (v := ?_) (a' := ?_) #[true, true, true, true, true, true, true, true, true, true, true, true, true, true, true, true, false, false, false, false] rfl rfl (by kernel_rfl) (fun _ _ _ h => h) (Or.inl ⟨by rfl, ?_⟩) ?_ ?_
        rotate_left
        · intro w'
          go_simp
          with_reducible rfl
        rotate_left
        · simp only [Act.put, List.setIfInBounds_toArray, List.set_cons_zero, List.set_cons_succ, i64_w, i32_w]
          rfl
        refine take_ (i := 16) (N := some 103) (v := ?_) (a' := ?_) #[true, true, true, true, true, true, true, true, true, true, true, true, true, true, true, true, true, false, false, false] rfl rfl (by kernel_rfl) (fun _ _ _ h => h) (Or.inl ⟨by rfl, ?_⟩) hHeld ?_ ?_
        rotate_left
        · rintro w' ⟨s0, s1, s2, s3, s4, s5⟩
          go_simp
          with_reducible rfl
        rotate_left
        · simp only [Act.put, List.setIfInBounds_toArray, List.set_cons_zero, List.set_cons_succ, i64_w, i32_w]
          rfl
        refine one_ (i := 17) (N := some 104) #[true, true, true, true, true, true, true, true, true, true, true, true, true, true, true, true, true, true, false, false] rfl rfl (by kernel_rfl) (by decide) (fun K hK => ?_)
        refine goes_ Tryd.func59 (by kernel_rfl) rfl #[.agg #[.int .i64 x.f, .int .i64 x.g, .int .i64 x.b]] (by rfl) rfl rfl (by simp only [List.map_toArray, List.map_cons, List.map_nil]; rfl) ?_
        refine (PD.tikref6_space.calls x.f x.g x.b 32 x.f x.g x.b 0 _ rfl).mono ?_
        rintro e w18 ⟨rfl, hb18⟩
        refine ⟨_, rfl, ?_⟩
        have HM18 := Aside0.mk (HM7.out.below hb18)
        have HR18 := Aside0.mk (HR7.out.below hb18)
        have HK18 := Aside0.mk (HK7.out.next hb18)
        clear hb18
        refine hK.out _ _ ⟨(by rw [Nat.mul_comm]; exact HM18.out.cell HC5.out 1 (by decide)), (by rw [Nat.mul_comm]; exact HM18.out.cell HC5.out 2 (by decide)), (by rw [Nat.mul_comm]; exact HM18.out.cell HC5.out 3 (by decide)), HK18.out.c1, HK18.out.c2, HK18.out⟩ (fun hHeld => ?_)
        clear hK K
        refine norm_ (a' := ?_) ?_ ?_
        rotate_left
        · show Act.put _ (some 104) _ = _
          simp only [Act.put, List.setIfInBounds_toArray, List.set_cons_zero, List.set_cons_succ, i64_w, i32_w]
          rfl
        refine pure_ (i := 18) (N := some 105) (v := ?_) (a' := ?_) #[true, true, true, true, true, true, true, true, true, true, true, true, true, true, true, true, true, true, true, false] rfl rfl (by kernel_rfl) (fun _ _ _ h => h) (Or.inl ⟨by rfl, ?_⟩) ?_ ?_
        rotate_left
        · intro w'
          go_simp
          with_reducible rfl
        rotate_left
        · simp only [Act.put, List.setIfInBounds_toArray, List.set_cons_zero, List.set_cons_succ, i64_w, i32_w]
          rfl
        refine last_ (i := 19) (N := none) #[true, true, true, true, true, true, true, true, true, true, true, true, true, true, true, true, true, true, true, true] rfl rfl (by kernel_rfl) (by decide) (fun K hK => ?_)
        refine skip_store_cell (by rfl) rfl rfl HR18.out p HL.out ⟨32, x.f, x.g, x.b, 0⟩ info_cell (by rfl) (Nat.mul_comm _ _) (by rfl) ?_
        intro w20 hR20 hg20
        have HR20 := Aside0.mk (YES.out w20 HA.out hR20)
        have HM20 := Aside0.mk (HM18.out.grown hg20 (fun e => HB9N.out (Option.some.inj e)))
        have HK20 := Aside0.mk (HK18.out.wrote hR20 hg20)
        clear hR20 hg20
        refine hK.out _ _ ?_
        clear hK K
        refine done_ (by kernel_rfl) ?_
        clear hq1 hq2 hq3 hw1 HR7 HM7 HK7 HR18 HM18 HK18 HR2 HM2 HK2
        go_wp2
        go_roundw
        case rel => exact ⟨i + 1, hlt, by go_num, HR20, HM20, HK20⟩
        case measure => simp [intOf]; omega
      · skip
        have ha : aloneL M i = false := by
          unfold aloneL
          rw [hgd, hw, show i - 1 = j by omega, getD_of hn2, hnw, hj1]
          simp
        clear hj1
        have hzn : wr.cell? ⟨b9, j * 5 + 4, none⟩ = some (.int .i64 n2.w) := by rw [Nat.mul_comm]; exact HM2.out.cell hn2 4 (by omega)
        have HA := Aside0.mk ha
        clear ha hgd hc
        go_wp2
        go_roundw
        case rel => exact ⟨i + 1, hlt, by go_num, ⟨NO.out wr HA.out HR2.out⟩, HM2, HK2⟩
        case measure => simp [intOf]; omega
      · skip
        have ha : aloneL M i = true := by
          unfold aloneL
          rw [hgd, hw, show i - 1 = j by omega, getD_of hn2, hnw]
          simp
        clear hj1
        have hzn : wr.cell? ⟨b9, j * 5 + 4, none⟩ = some (.int .i64 n2.w) := by rw [Nat.mul_comm]; exact HM2.out.cell hn2 4 (by omega)
        have HA := Aside0.mk ha
        clear ha hgd hc
        go_wp2
        have HR7 := Aside0.mk (HR2.out.below (below_drew (Below.refl _ _)))
        have HM7 := Aside0.mk (HM2.out.below (below_drew (Below.refl _ _)))
        have HK7 := Aside0.mk (HK2.out.next (below_drew (Below.refl _ _)))
        obtain ⟨hq1, hq3⟩ := HPQ.out
        have hq2 : IntKind.i64.wrap (p : Int) = (p : Int) := by rw [i64_w]; exact hq3
        have hw1 := HWN.out
        refine start_ (n := 20) (S := fun w' => w'.cell? ⟨b9, i * 5 + 1, none⟩ = some (.int .i64 x.f) ∧ w'.cell? ⟨b9, i * 5 + 2, none⟩ = some (.int .i64 x.g) ∧ w'.cell? ⟨b9, i * 5 + 3, none⟩ = some (.int .i64 x.b) ∧ w'.cell? ⟨g, 1, none⟩ = some (.int .i64 (c : Int)) ∧ w'.cell? ⟨g, 2, none⟩ = some (.slice (some ⟨b, 0, none⟩) L.length cap) ∧ KBase w g b r c L.length cap [] w') (ds := [19]) #[false, false, false, false, false, false, false, false, false, false, false, false, false, false, false, false, false, false, false, false] (by kernel_rfl) rfl rfl ⟨(by rw [Nat.mul_comm]; exact HM7.out.cell HC5.out 1 (by decide)), (by rw [Nat.mul_comm]; exact HM7.out.cell HC5.out 2 (by decide)), (by rw [Nat.mul_comm]; exact HM7.out.cell HC5.out 3 (by decide)), HK7.out.c1, HK7.out.c2, HK7.out⟩ (fun hHeld => ?_)
        refine pure_ (i := 0) (N := some 87) (v := ?_) (a' := ?_) #[true, false, false, false, false, false, false, false, false, false, false, false, false, false, false, false, false, false, false, false] rfl rfl (by kernel_rfl) (fun _ _ _ h => h) (Or.inl ⟨by rfl, ?_⟩) ?_ ?_
        rotate_left
        · intro w'
          go_simp
          with_reducible rfl
        rotate_left
        · simp only [Act.put, List.setIfInBounds_toArray, List.set_cons_zero, List.set_cons_succ, i64_w, i32_w]
          rfl
        refine pure_ (i := 1) (N := some 88) (v := ?_) (a' := ?_) #[true, true, false, false, false, false, false, false, false, false, false, false, false, false, false, false, false, false, false, false] rfl rfl (by kernel_rfl) (fun _ _ _ h => h) (Or.inl ⟨by rfl, ?_⟩) ?_ ?_
        rotate_left
        · intro w'
          go_simp
          with_reducible rfl
        rotate_left
        · simp only [Act.put, List.setIfInBounds_toArray, List.set_cons_zero, List.set_cons_succ, i64_w, i32_w]
          rfl
        refine pure_ (i := 2) (N := some 89) (v := ?_) (a' := ?_) #[true, true, true, false, false, false, false, false, false, false, false, false, false, false, false, false, false, false, false, false] rfl rfl (by kernel_rfl) (fun _ _ _ h => h) (Or.inl ⟨by rfl, ?_⟩) ?_ ?_
        rotate_left
        · intro w'
          go_simp
          with_reducible rfl
        rotate_left
        · simp only [Act.put, List.setIfInBounds_toArray, List.set_cons_zero, List.set_cons_succ, i64_w, i32_w]
          rfl
        refine pure_ (i := 4) (N := some 91) (v := ?_) (a' := ?_) #[true, true, true, false, true, false, false, false, false, false, false, false, false, false, false, false, false, false, false, false] rfl rfl (by kernel_rfl) (fun _ _ _ h => h) (Or.inl ⟨by rfl, ?_⟩) ?_ ?_
        rotate_left
        · intro w'
          go_simp
          with_reducible rfl
        rotate_left
        · simp only [Act.put, List.setIfInBounds_toArray, List.set_cons_zero, List.set_cons_succ, i64_w, i32_w]
          rfl
        refine pure_ (i := 5) (N := some 92) (v := ?_) (a' := ?_) #[true, true, true, false, true, true, false, false, false, false, false, false, false, false, false, false, false, false, false, false] rfl rfl (by kernel_rfl) (fun _ _ _ h => h) (Or.inl ⟨by rfl, ?_⟩) ?_ ?_
        rotate_left
        · intro w'
          go_simp
          with_reducible rfl
        rotate_left
        · simp only [Act.put, List.setIfInBounds_toArray, List.set_cons_zero, List.set_cons_succ, i64_w, i32_w]
          rfl
        refine pure_ (i := 6) (N := some 93) (v := ?_) (a' := ?_) #[true, true, true, false, true, true, true, false, false, false, false, false, false, false, false, false, false, false, false, false] rfl rfl (by kernel_rfl) (fun _ _ _ h => h) (Or.inl ⟨by rfl, ?_⟩) ?_ ?_
        rotate_left
        · intro w'
          go_simp
          with_reducible rfl
        rotate_left
        · simp only [Act.put, List.setIfInBounds_toArray, List.set_cons_zero, List.set_cons_succ, i64_w, i32_w]
          rfl
        refine pure_ (i := 7) (N := some 94) (v := ?_) (a' := ?_) #[true, true, true, false, true, true, true, true, false, false, false, false, false, false, false, false, false, false, false, false] rfl rfl (by kernel_rfl) (fun _ _ _ h => h) (Or.inl ⟨by rfl, ?_⟩) ?_ ?_
        rotate_left
        · intro w'
          go_simp
          with_reducible rfl
        rotate_left
        · simp only [Act.put, List.setIfInBounds_toArray, List.set_cons_zero, List.set_cons_succ, i64_w, i32_w]
          rfl
        refine pure_ (i := 10) (N := some 97) (v := ?_) (a' := ?_) #[true, true, true, false, true, true, true, true, false, false, true, false, false, false, false, false, false, false, false, false] rfl rfl (by kernel_rfl) (fun _ _ _ h => h) (Or.inl ⟨by rfl, ?_⟩) ?_ ?_
        rotate_left
        · intro w'
          go_simp
          with_reducible rfl
        rotate_left
        · simp only [Act.put, List.setIfInBounds_toArray, List.set_cons_zero, List.set_cons_succ, i64_w, i32_w]
          rfl
        refine pure_ (i := 12) (N := some 99) (v := ?_) (a' := ?_) #[true, true, true, false, true, true, true, true, false, false, true, false, true, false, false, false, false, false, false, false] rfl rfl (by kernel_rfl) (fun _ _ _ h => h) (Or.inl ⟨by rfl, ?_⟩) ?_ ?_
        rotate_left
        · intro w'
          go_simp
          with_reducible rfl
        rotate_left
        · simp only [Act.put, List.setIfInBounds_toArray, List.set_cons_zero, List.set_cons_succ, i64_w, i32_w]
          rfl
        refine pure_ (i := 13) (N := some 100) (v := ?_) (a' := ?_) #[true, true, true, false, true, true, true, true, false, false, true, false, true, true, false, false, false, false, false, false] rfl rfl (by kernel_rfl) (fun _ _ _ h => h) (Or.inl ⟨by rfl, ?_⟩) ?_ ?_
        rotate_left
        · intro w'
          go_simp
          with_reducible rfl
        rotate_left
        · simp only [Act.put, List.setIfInBounds_toArray, List.set_cons_zero, List.set_cons_succ, i64_w, i32_w]
          rfl
        refine pure_ (i := 14) (N := some 101) (v := ?_) (a' := ?_) #[true, true, true, false, true, true, true, true, false, false, true, false, true, true, true, false, false, false, false, false] rfl rfl (by kernel_rfl) (fun _ _ _ h => h) (Or.inl ⟨by rfl, ?_⟩) ?_ ?_
        rotate_left
        · intro w'
          go_simp
          with_reducible rfl
        rotate_left
        · simp only [Act.put, List.setIfInBounds_toArray, List.set_cons_zero, List.set_cons_succ, i64_w, i32_w]
          rfl
        refine pure_ (i := 15) (N := some 102) (v := ?_) (a' := ?_) #[true, true, true, false, true, true, true, true, false, false, true, false, true, true, true, true, false, false, false, false] rfl rfl (by kernel_rfl) (fun _ _ _ h => h) (Or.inl ⟨by rfl, ?_⟩) ?_ ?_
        rotate_left
        · intro w'
          go_simp
          with_reducible rfl
        rotate_left
        · simp only [Act.put, List.setIfInBounds_toArray, List.set_cons_zero, List.set_cons_succ, i64_w, i32_w]
          rfl
        refine take_ (i := 3) (N := some 90) (v := ?_) (a' := ?_) #[true, true, true, true, true, true, true, true, false, false, true, false, true, true, true, true, false, false, false, false] rfl rfl (by kernel_rfl) (fun _ _ _ h => h) (Or.inl ⟨by rfl, ?_⟩) hHeld ?_ ?_
        rotate_left
        · rintro w' ⟨s0, s1, s2, s3, s4, s5⟩
          go_simp
          with_reducible rfl
        rotate_left
        · simp only [Act.put, List.setIfInBounds_toArray, List.set_cons_zero, List.set_cons_succ, i64_w, i32_w]
          rfl
        refine take_ (i := 8) (N := some 95) (v := ?_) (a' := ?_) #[true, true, true, true, true, true, true, true, true, false, true, false, true, true, true, true, false, false, false, false] rfl rfl (by kernel_rfl) (fun _ _ _ h => h) (Or.inl ⟨by rfl, ?_⟩) hHeld ?_ ?_
        rotate_left
        · rintro w' ⟨s0, s1, s2, s3, s4, s5⟩
          go_simp
          with_reducible rfl
        rotate_left
        · simp only [Act.put, List.setIfInBounds_toArray, List.set_cons_zero, List.set_cons_succ, i64_w, i32_w]
          rfl
        refine pure_ (i := 9) (N := some 96) (v := ?_) (a' := ?_) #[true, true, true, true, true, true, true, true, true, true, true, false, true, true, true, true, false, false, false, false] rfl rfl (by kernel_rfl) (fun _ _ _ h => h) (Or.inl ⟨by rfl, ?_⟩) ?_ ?_
        rotate_left
        · intro w'
          go_simp
          with_reducible rfl
        rotate_left
        · simp only [Act.put, List.setIfInBounds_toArray, List.set_cons_zero, List.set_cons_succ, i64_w, i32_w]
          rfl
        refine pure_ (i := 11) (N := some 98) (v := ?_) (a' := ?_) #[true, true, true, true, true, true, true, true, true, true, true, true, true, true, true, true, false, false, false, false] rfl rfl (by kernel_rfl) (fun _ _ _ h => h) (Or.inl ⟨by rfl, ?_⟩) ?_ ?_
        rotate_left
        · intro w'
          go_simp
          with_reducible rfl
        rotate_left
        · simp only [Act.put, List.setIfInBounds_toArray, List.set_cons_zero, List.set_cons_succ, i64_w, i32_w]
          rfl
        refine take_ (i := 16) (N := some 103) (v := ?_) (a' := ?_) #[true, true, true, true, true, true, true, true, true, true, true, true, true, true, true, true, true, false, false, false] rfl rfl (by kernel_rfl) (fun _ _ _ h => h) (Or.inl ⟨by rfl, ?_⟩) hHeld ?_ ?_
        rotate_left
        · rintro w' ⟨s0, s1, s2, s3, s4, s5⟩
          go_simp
          with_reducible rfl
        rotate_left
        · simp only [Act.put, List.setIfInBounds_toArray, List.set_cons_zero, List.set_cons_succ, i64_w, i32_w]
          rfl
        refine one_ (i := 17) (N := some 104) #[true, true, true, true, true, true, true, true, true, true, true, true, true, true, true, true, true, true, false, false] rfl rfl (by kernel_rfl) (by decide) (fun K hK => ?_)
        refine goes_ Tryd.func59 (by kernel_rfl) rfl #[.agg #[.int .i64 x.f, .int .i64 x.g, .int .i64 x.b]] (by rfl) rfl rfl (by simp only [List.map_toArray, List.map_cons, List.map_nil]; rfl) ?_
        refine (PD.tikref6_space.calls x.f x.g x.b 32 x.f x.g x.b 0 _ rfl).mono ?_
        rintro e w18 ⟨rfl, hb18⟩
        refine ⟨_, rfl, ?_⟩
        have HM18 := Aside0.mk (HM7.out.below hb18)
        have HR18 := Aside0.mk (HR7.out.below hb18)
        have HK18 := Aside0.mk (HK7.out.next hb18)
        clear hb18
        refine hK.out _ _ ⟨(by rw [Nat.mul_comm]; exact HM18.out.cell HC5.out 1 (by decide)), (by rw [Nat.mul_comm]; exact HM18.out.cell HC5.out 2 (by decide)), (by rw [Nat.mul_comm]; exact HM18.out.cell HC5.out 3 (by decide)), HK18.out.c1, HK18.out.c2, HK18.out⟩ (fun hHeld => ?_)
        clear hK K
        refine norm_ (a' := ?_) ?_ ?_
        rotate_left
        · show Act.put _ (some 104) _ = _
          simp only [Act.put, List.setIfInBounds_toArray, List.set_cons_zero, List.set_cons_succ, i64_w, i32_w]
          rfl
        refine pure_ (i := 18) (N := some 105) (v := ?_) (a' := ?_) #[true, true, true, true, true, true, true, true, true, true, true, true, true, true, true, true, true, true, true, false] rfl rfl (by kernel_rfl) (fun _ _ _ h => h) (Or.inl ⟨by rfl, ?_⟩) ?_ ?_
        rotate_left
        · intro w'
          go_simp
          with_reducible rfl
        rotate_left
        · simp only [Act.put, List.setIfInBounds_toArray, List.set_cons_zero, List.set_cons_succ, i64_w, i32_w]
          rfl
        refine last_ (i := 19) (N := none) #[true, true, true, true, true, true, true, true, true, true, true, true, true, true, true, true, true, true, true, true] rfl rfl (by kernel_rfl) (by decide) (fun K hK => ?_)
        refine skip_store_cell (by rfl) rfl rfl HR18.out p HL.out ⟨32, x.f, x.g, x.b, 0⟩ info_cell (by rfl) (Nat.mul_comm _ _) (by rfl) ?_
        intro w20 hR20 hg20
        have HR20 := Aside0.mk (YES.out w20 HA.out hR20)
        have HM20 := Aside0.mk (HM18.out.grown hg20 (fun e => HB9N.out (Option.some.inj e)))
        have HK20 := Aside0.mk (HK18.out.wrote hR20 hg20)
        clear hR20 hg20
        refine hK.out _ _ ?_
        clear hK K
        refine done_ (by kernel_rfl) ?_
        clear hq1 hq2 hq3 hw1 HR7 HM7 HK7 HR18 HM18 HK18 HR2 HM2 HK2
        go_wp2
        go_roundw
        case rel => exact ⟨i + 1, hlt, by go_num, HR20, HM20, HK20⟩
        case measure => simp [intOf]; omega
      · skip
        have ha : aloneL M i = false := by
          unfold aloneL
          rw [hgd, hw, hw2]
          rfl
        have HA := Aside0.mk ha
        clear ha hgd hc
        go_wp2
        go_roundw
        case rel => exact ⟨i + 1, hlt, by go_num, ⟨NO.out wr HA.out HR2.out⟩, HM2, HK2⟩
        case measure => simp [intOf]; omega
    · obtain rfl : i = c := by omega
      go_wp2
      go_end0
      refine ⟨rfl, ?_, HK2.out.grown⟩
      rw [mendRow, HOE.out, MEQ.out, mendL, hMl]
      exact HR2.out
end Go.Proofs.YtcfndcjbgalnpaaDoor.Hand
namespace Go.Proofs.YtcfndcjbgalnpaaDoor.PureC
open Go.RowKit Go.Proofs.YtcfndcjbgalnpaaDoorW.PrintWords Go.Proofs.YtcfndcjbgalnpaaDoorW.PrintLast Go.Proofs.YtcfndcjbgalnpaaDoorW.PrintMore
open Go.Proofs.YtcfndcjbgalnpaaDoor.Hand
open Go.Proofs.YtcfndcjbgalnpaaDoor.PB (cell_colour.f cell_MayAttr.f cell_May.f cell_May.j0)
open Go.Proofs.YtcfndcjbgalnpaaDoor.PD (tikref6_in.f tikref6_colour.f tikref6_MayAttr.f tikref2_Sign.f tikref6_Width.f tikref6_Width.j0 tikref6_May.f)
def inr (a b c : Int) : Bool := decide (b ≤ a) && decide (a ≤ c)
theorem in_any (a b c : Int) : tikref6_in.f a b c = some (inr a b c) := by
  unfold tikref6_in.f inr
  split <;> simp_all
  omega
def colB (n : Int) : Bool := (decide (0 ≤ n) && decide (n ≤ 256)) || (decide (16777216 ≤ n) && decide (n < 33554432))
theorem col_any (n : Int) : cell_colour.f n = some (colB n) := by
  unfold cell_colour.f colB
  repeat' split
  all_goals first | (simp_all; done) | (simp_all; omega) | (simp; omega)
def mayB (a b c : Int) : Bool := (decide (0 ≤ a) && decide (a ≤ 255)) && (colB b && colB c)
theorem may_any (a b c : Int) : cell_MayAttr.f a b c = some (mayB a b c) := by
  unfold cell_MayAttr.f mayB
  simp only [col_any, Option.bind_some]
  by_cases h1 : a ≥ 0
  · by_cases h2 : a ≤ 255
    · simp [h1, h2]; cases colB b <;> simp
    · simp [h2]
  · have : ¬ 0 ≤ a := h1
    simp [this]
theorem mayR_any (a b c : Int) : tikref6_MayAttr.f a b c = some (mayB a b c) := may_any a b c
theorem sign_any (a : Int) : tikref2_Sign.f a = some ((decide (0 ≤ a) && decide (a < 55296)) || (decide (57343 < a) && decide (a ≤ 1114111))) := by
  unfold tikref2_Sign.f
  repeat' split
  all_goals first | (simp_all; done) | (simp_all; omega) | (simp; omega)
theorem width_any (k : Nat) (a : Int) : tikref6_Width.f (k + 1) a = some (wd a) := by
  unfold tikref6_Width.f tikref6_Width.j0
  simp only [in_any, sign_any, Option.bind_some]
  have e1 : inL noneL a = (inr a 0 31 || (inr a 127 159 || (inr a 768 879 || (inr a 55296 57343 || false)))) := rfl
  have e2 : inL wideL a = (inr a 4352 4447 || (inr a 11904 42191 || (inr a 44032 55203 || (inr a 63744 64255 || (inr a 65072 65135 || (inr a 65280 65376 || (inr a 65504 65510 || (inr a 127744 128591 || (inr a 129280 129535 || (inr a 131072 262141 || false)))))))))) := rfl
  by_cases h0 : a < 0 ∨ a > 1114111 ∨ inr a 55296 57343 = true
  · have hs : ((decide (0 ≤ a) && decide (a < 55296)) || (decide (57343 < a) && decide (a ≤ 1114111))) = false := by
      simp only [inr, Bool.and_eq_true, decide_eq_true_eq] at h0
      rcases h0 with h | h | h
      · simp; omega
      · simp; omega
      · simp; omega
    have hw : wd a = 0 := by
      unfold wd
      rw [if_pos]
      rcases h0 with h | h | h
      · exact .inl h
      · exact .inr (.inl h)
      · right; right; rw [e1, h]; simp
    rw [hs, hw]
    simp
  · have hs : ((decide (0 ≤ a) && decide (a < 55296)) || (decide (57343 < a) && decide (a ≤ 1114111))) = true := by
      simp only [inr, Bool.and_eq_true, decide_eq_true_eq] at h0
      simp
      omega
    have h1 : ¬ a < 0 := fun h => h0 (.inl h)
    have h2 : ¬ a > 1114111 := fun h => h0 (.inr (.inl h))
    have h3 : inr a 55296 57343 = false := by
      cases h : inr a 55296 57343 with
      | false => rfl
      | true => exact absurd (.inr (.inr h)) h0
    unfold wd
    rw [hs, e1, e2, h3]
    simp only [h1, h2, false_or, if_true, Bool.or_false]
    generalize inr a 0 31 = x1
    generalize inr a 127 159 = x2
    generalize inr a 768 879 = x3
    generalize inr a 4352 4447 = y1
    generalize inr a 11904 42191 = y2
    generalize inr a 44032 55203 = y3
    generalize inr a 63744 64255 = y4
    generalize inr a 65072 65135 = y5
    generalize inr a 65280 65376 = y6
    generalize inr a 65504 65510 = y7
    generalize inr a 127744 128591 = y8
    generalize inr a 129280 129535 = y9
    generalize inr a 131072 262141 = y10
    cases x1
    · cases x2
      · cases x3
        · cases y1 <;> simp
          cases y2 <;> simp
          cases y3 <;> simp
          cases y4 <;> simp
          cases y5 <;> simp
          cases y6 <;> simp
          cases y7 <;> simp
          cases y8 <;> simp
          cases y9 <;> simp
          cases y10 <;> simp
        · simp
      · simp
    · simp
def cmayB (r f g b w : Int) : Bool := ((w == 0 && wd r == 1) || ((w == 1 && wd r == 2) || (w == 2 && r == 0))) && mayB f g b
theorem cmay_any (k : Nat) (r f g b w : Int) : cell_May.f (k + 1) r f g b w = some (cmayB r f g b w) := by
  have e1 : wrap64 (0 + 1) = 1 := by decide +kernel
  have e2 : wrap64 (1 + 1) = 2 := by decide +kernel
  unfold cell_May.f cell_May.j0 cmayB
  simp only [may_any, cell_Width.f, Option.bind_some]
  by_cases h0 : w = 0
  · subst h0
    rw [if_pos rfl, if_pos (beq_self_eq_true _), e1]
    by_cases h : wd r = 1 <;> simp [h]
  · rw [if_neg h0]
    by_cases h1 : w = 1
    · subst h1
      rw [if_pos (beq_self_eq_true _), e2]
      by_cases h : wd r = 2 <;> simp [h]
    · rw [if_neg (by simpa using h1)]
      by_cases h2 : w = 2
      · subst h2
        rw [if_pos rfl]
        by_cases h : r = 0 <;> simp [h]
      · simp [h0, h1, h2]
theorem cmayR_any (k : Nat) (r f g b w : Int) : tikref6_May.f (k + 1) r f g b w = some (cmayB r f g b w) := by
  unfold tikref6_May.f cmayB
  simp only [width_any, mayR_any, Option.bind_some]
  cases mayB f g b
  · simp
  · by_cases h0 : w = 0
    · subst h0
      by_cases h : wd r = 1 <;> simp [h]
    · by_cases h1 : w = 1
      · subst h1
        by_cases h : wd r = 2 <;> simp [h]
      · by_cases h2 : w = 2
        · subst h2
          simp
        · simp [h0, h1, h2]
end Go.Proofs.YtcfndcjbgalnpaaDoor.PureC
namespace Go.Proofs.YtcfndcjbgalnpaaDoor.Hand
open Go.RowKit Go.Proofs.YtcfndcjbgalnpaaDoorW.PrintWords Go.Proofs.YtcfndcjbgalnpaaDoorW.PrintLast
theorem splice_rep1 {L : List C5} {o i : Nat} (x : C5) (h : o + i < L.length) : (splice L o (List.replicate i x)).set (o + i) x = splice L o (List.replicate (i + 1) x) := by
  have := splice_next L (List.replicate i x) o x (by rw [List.length_replicate]; exact h)
  rw [List.length_replicate] at this
  rw [this, List.replicate_succ']
theorem splice_none {L : List C5} {o : Nat} : splice L o [] = L := by
  simp [splice]
set_option maxRecDepth 100000 in
set_option maxHeartbeats 4000000 in
theorem rfill_calls {w : World} {base g b r c : Nat} {L : List C5} (h : RefAt w base g b r c L) (x : C5) (m : Bool) (hm : PD.tikref6_May.f 9 x.r x.f x.g x.b x.w = some m) :
    Calls Tryd.prog 49 #[.pointer (some ⟨g, 0, none⟩), x.agg] w (fun e w' => e = .returned (.tuple #[]) ∧ RowAt w' b (fillG L x m) ∧ w.grownBy w' (some b)) := by
  have HG := Aside0.mk h
  have HM := Aside0.mk hm
  clear h hm
  have EO : Aside0 (fillG L x m = if (m && (x.w == 0)) = true then List.replicate L.length x else L) := ⟨rfl⟩
  go_enter Tryd.func49, Tryd.ntmps49
  go_upto_region 1 with ((with_reducible refine gate_dst (N := 3) rfl ?_); refine box_event ?hg (N := 3) ?hd (cs := #[.int .i32 x.r, .int .i64 x.f, .int .i64 x.g, .int .i64 x.b, .int .i64 x.w]) (t := 32) ?hr ?_; (case hd => rfl); (case hg => rfl); (case hr => first | (go_simp; done) | (go_simp; rfl)); intro gb hg w3 hbox hb; have HX := Aside0.mk hbox; have HB3 := Aside0.mk hb; have HGE := Aside0.mk (Nat.le_of_eq hg.symm); clear hbox hb hg)
  have z0 : w3.cell? ⟨gb, 0, none⟩ = some (.int .i32 x.r) := (blk_cell HX.out 0).trans rfl
  have z1 : w3.cell? ⟨gb, 1, none⟩ = some (.int .i64 x.f) := (blk_cell HX.out 1).trans rfl
  have z2 : w3.cell? ⟨gb, 2, none⟩ = some (.int .i64 x.g) := (blk_cell HX.out 2).trans rfl
  have z3 : w3.cell? ⟨gb, 3, none⟩ = some (.int .i64 x.b) := (blk_cell HX.out 3).trans rfl
  have z4 : w3.cell? ⟨gb, 4, none⟩ = some (.int .i64 x.w) := (blk_cell HX.out 4).trans rfl
  go_wp2_with fail
  refine (PD.tikref6_May.calls 9 x.r x.f x.g x.b x.w m w3 HM.out).mono ?_
  rintro e w2 ⟨rfl, hb2⟩
  have HB5 := Aside0.mk (below_step HB3.out hb2)
  have HX2 := Aside0.mk (blk_below HX.out hb2)
  clear hb2 z0 z1 z2 z3 z4 HX HB3
  have HG2 := Aside0.mk (HG.out.below HB5.out)
  have HNE := Aside0.mk (show gb ≠ b by have := HG.out.row.lt; have := HGE.out; omega)
  cases m with
  | false =>
    go_wp2
    rw [EO.out, Bool.false_and, if_neg (by decide)]
    first | (refine ⟨rfl, .tuple #[], results_none rfl _ _ _, ?_⟩; exact ⟨rfl, HG2.out.row, grown_of_none HB5.out⟩) | (go_end0; exact ⟨rfl, HG2.out.row, grown_of_none HB5.out⟩)
  | true =>
  have z4 : w2.cell? ⟨gb, 4, none⟩ = some (.int .i64 x.w) := (blk_cell HX2.out 4).trans rfl
  by_cases hw : x.w = 0
  case neg =>
    have hw2 : (x.w == 0) = false := beq_eq_false_iff_ne.2 hw
    rw [hw2] at EO
    go_wp2
    rw [EO.out, Bool.and_false, if_neg (by decide)]
    first | (refine ⟨rfl, .tuple #[], results_none rfl _ _ _, ?_⟩; exact ⟨rfl, HG2.out.row, grown_of_none HB5.out⟩) | (go_end0; exact ⟨rfl, HG2.out.row, grown_of_none HB5.out⟩)
  have hw2 : (x.w == 0) = true := beq_iff_eq.2 hw
  rw [hw2, Bool.true_and, if_pos rfl] at EO
  have HWZ := Aside0.mk hw
  obtain ⟨cap, k1, k2, hk⟩ := HG.out.kbase HB5.out
  have HK2 := Aside0.mk (hk.more (k := gb) HX2.out HNE.out)
  have HR2 := Aside0.mk HG2.out.row
  have hsm := HG.out.small
  clear hk HX2
  go_wp2
  clear z4 hw hw2
  go_loopw [4] (fun v4 wr => ∃ i : Nat, i ≤ L.length ∧ v4 = .int .i64 i ∧ Aside0 (RowAt wr b (splice L 0 (List.replicate i x))) ∧ Aside0 (KBase w g b r c L.length cap [(gb, .cells #[.int .i32 x.r, .int .i64 x.f, .int .i64 x.g, .int .i64 x.b, .int .i64 x.w] 32 (0, 0))] wr)) (fun v4 _ => L.length - (intOf v4).toNat)
  case atStart => exact ⟨0, Nat.zero_le _, rfl, ⟨by rw [List.replicate_zero, splice_none]; exact HR2.out⟩, HK2⟩
  case round =>
    obtain ⟨i, hi, rfl, HR3, HK3⟩ := hrel
    clear HR2 HK2
    have zc := HK3.out.c2
    by_cases hlt : i < L.length
    · go_wp2
      have HKd := Aside0.mk (HK3.out.next (below_drew (Below.refl _ _)))
      have HRd := Aside0.mk (HR3.out.below (below_drew (Below.refl _ _)))
      have HLI : Aside0 (i < (splice L 0 (List.replicate i x)).length) := ⟨by rw [splice_length _ _ _ (by rw [List.length_replicate]; omega)]; exact hlt⟩
      refine start_ (n := 8) (S := fun w' => w'.cell? ⟨g, 2, none⟩ = some (.slice (some ⟨b, 0, none⟩) L.length cap) ∧ w'.cell? ⟨gb, 0, none⟩ = some (.int .i32 x.r) ∧ w'.cell? ⟨gb, 1, none⟩ = some (.int .i64 x.f) ∧ w'.cell? ⟨gb, 2, none⟩ = some (.int .i64 x.g) ∧ w'.cell? ⟨gb, 3, none⟩ = some (.int .i64 x.b) ∧ w'.cell? ⟨gb, 4, none⟩ = some (.int .i64 x.w) ∧ KBase w g b r c L.length cap [(gb, .cells #[.int .i32 x.r, .int .i64 x.f, .int .i64 x.g, .int .i64 x.b, .int .i64 x.w] 32 (0, 0))] w' ∧ RowAt w' b (splice L 0 (List.replicate i x))) (ds := [7]) #[false, false, false, false, false, false, false, false] (by kernel_rfl) rfl rfl ⟨HKd.out.c2, (blk_cell HKd.out.top 0).trans rfl, (blk_cell HKd.out.top 1).trans rfl, (blk_cell HKd.out.top 2).trans rfl, (blk_cell HKd.out.top 3).trans rfl, (blk_cell HKd.out.top 4).trans rfl, HKd.out, HRd.out⟩ (fun hHeld => ?_)
      refine pure_ (i := 0) (N := some 22) (v := ?_) (a' := ?_) #[true, false, false, false, false, false, false, false] rfl rfl (by kernel_rfl) (fun _ _ _ h => h) (Or.inl ⟨by rfl, ?_⟩) ?_ ?_
      rotate_left
      · intro w'
        go_simp
        with_reducible rfl
      rotate_left
      · simp only [Act.put, List.setIfInBounds_toArray, List.set_cons_zero, List.set_cons_succ, i64_w, i32_w]
        rfl
      refine pure_ (i := 1) (N := some 23) (v := ?_) (a' := ?_) #[true, true, false, false, false, false, false, false] rfl rfl (by kernel_rfl) (fun _ _ _ h => h) (Or.inl ⟨by rfl, ?_⟩) ?_ ?_
      rotate_left
      · intro w'
        go_simp
        with_reducible rfl
      rotate_left
      · simp only [Act.put, List.setIfInBounds_toArray, List.set_cons_zero, List.set_cons_succ, i64_w, i32_w]
        rfl
      refine pure_ (i := 2) (N := some 24) (v := ?_) (a' := ?_) #[true, true, true, false, false, false, false, false] rfl rfl (by kernel_rfl) (fun _ _ _ h => h) (Or.inl ⟨by rfl, ?_⟩) ?_ ?_
      rotate_left
      · intro w'
        go_simp
        with_reducible rfl
      rotate_left
      · simp only [Act.put, List.setIfInBounds_toArray, List.set_cons_zero, List.set_cons_succ, i64_w, i32_w]
        rfl
      refine pure_ (i := 4) (N := some 26) (v := ?_) (a' := ?_) #[true, true, true, false, true, false, false, false] rfl rfl (by kernel_rfl) (fun _ _ _ h => h) (Or.inl ⟨by rfl, ?_⟩) ?_ ?_
      rotate_left
      · intro w'
        go_simp
        with_reducible rfl
      rotate_left
      · simp only [Act.put, List.setIfInBounds_toArray, List.set_cons_zero, List.set_cons_succ, i64_w, i32_w]
        rfl
      refine take_ (i := 3) (N := some 25) (v := ?_) (a' := ?_) #[true, true, true, true, true, false, false, false] rfl rfl (by kernel_rfl) (fun _ _ _ h => h) (Or.inl ⟨by rfl, ?_⟩) hHeld ?_ ?_
      rotate_left
      · rintro w' ⟨s0, s1, s2, s3, s4, s5, s6, s7⟩
        go_simp
        with_reducible rfl
      rotate_left
      · simp only [Act.put, List.setIfInBounds_toArray, List.set_cons_zero, List.set_cons_succ, i64_w, i32_w]
        rfl
      refine take_ (i := 5) (N := some 27) (v := ?_) (a' := ?_) #[true, true, true, true, true, true, false, false] rfl rfl (by kernel_rfl) (fun _ _ _ h => h) (Or.inl ⟨by rfl, ?_⟩) hHeld ?_ ?_
      rotate_left
      · rintro w' ⟨s0, s1, s2, s3, s4, s5, s6, s7⟩
        go_simp
        with_reducible rfl
      rotate_left
      · simp only [Act.put, List.setIfInBounds_toArray, List.set_cons_zero, List.set_cons_succ, i64_w, i32_w]
        rfl
      refine pure_ (i := 6) (N := some 28) (v := ?_) (a' := ?_) #[true, true, true, true, true, true, true, false] rfl rfl (by kernel_rfl) (fun _ _ _ h => h) (Or.inl ⟨by rfl, ?_⟩) ?_ ?_
      rotate_left
      · intro w'
        go_simp
        with_reducible rfl
      rotate_left
      · simp only [Act.put, List.setIfInBounds_toArray, List.set_cons_zero, List.set_cons_succ, i64_w, i32_w]
        rfl
      refine last_ (i := 7) (N := none) #[true, true, true, true, true, true, true, true] rfl rfl (by kernel_rfl) (by decide) (fun K hK => ?_)
      refine skip_store_cell (by rfl) rfl rfl HRd.out i HLI.out x info_cell (by rfl) (Nat.mul_comm _ _) (by rfl) ?_
      intro w14 hR14 hg14
      have HK14 := Aside0.mk (HKd.out.wrote hR14 hg14)
      have HR14 := Aside0.mk hR14
      clear hR14 hg14
      refine hK.out _ _ ?_
      clear hK K
      refine done_ (by kernel_rfl) ?_
      go_wp2
      go_roundw
      case rel => exact ⟨i + 1, hlt, by go_num, ⟨by have := HR14.out; have e := splice_rep1 (L := L) (o := 0) (i := i) x (by omega); rw [Nat.zero_add] at e; rw [e] at this; exact this⟩, HK14⟩
      case measure => simp [intOf]; omega
    · obtain rfl : i = L.length := by omega
      go_wp2
      go_end0
      refine ⟨rfl, ?_, HK3.out.grown⟩
      rw [EO.out]
      have := HR3.out
      rw [splice_all _ _ (List.length_replicate ..)] at this
      exact this
end Go.Proofs.YtcfndcjbgalnpaaDoor.Hand
namespace Go.Proofs.YtcfndcjbgalnpaaDoor.Hand
open Go.RowKit Go.Proofs.YtcfndcjbgalnpaaDoorW.PrintWords Go.Proofs.YtcfndcjbgalnpaaDoorW.PrintLast
def reraseG (r c : Nat) (L : List C5) (row p q : Int) (a2 : Int) (m : Bool) : List C5 := if (decide (0 ≤ row ∧ row < r) && m) = true then mendRow c (splice L (row.toNat * c + (max p 0).toNat) (List.replicate ((min q c).toNat - (max p 0).toNat) (blankC a2))) row.toNat else L
set_option maxRecDepth 100000 in
set_option maxHeartbeats 4000000 in
theorem rerase_calls {w : World} {base g b r c : Nat} {L : List C5} (h : RefAt w base g b r c L) (row p q a0 a1 a2 : Int) (m : Bool) (hm : PD.tikref6_MayAttr.f a0 a1 a2 = some m) :
    Calls Tryd.prog 45 #[.pointer (some ⟨g, 0, none⟩), .int .i64 row, .int .i64 p, .int .i64 q, .agg #[.int .i64 a0, .int .i64 a1, .int .i64 a2]] w (fun e w' => e = .returned (.tuple #[]) ∧ RowAt w' b (reraseG r c L row p q a2 m) ∧ w.grownBy w' (some b)) := by
  have HG := Aside0.mk h
  have HM := Aside0.mk hm
  clear h hm
  have EO : Aside0 (reraseG r c L row p q a2 m = if (decide (0 ≤ row ∧ row < r) && m) = true then mendRow c (splice L (row.toNat * c + (max p 0).toNat) (List.replicate ((min q c).toNat - (max p 0).toNat) (blankC a2))) row.toNat else L) := ⟨rfl⟩
  go_enter Tryd.func45, Tryd.ntmps45
  go_upto_region 1 with ((with_reducible refine gate_dst (N := 9) rfl ?_); refine box_event ?hg (N := 9) ?hd (cs := #[.int .i64 a0, .int .i64 a1, .int .i64 a2]) (t := 23) ?hr ?_; (case hd => rfl); (case hg => rfl); (case hr => first | (go_simp; done) | (go_simp; rfl)); intro gb hg w3 hbox hb; have HX := Aside0.mk hbox; have HB3 := Aside0.mk hb; have HGB := Aside0.mk (Nat.le_of_eq hg.symm); clear hbox hb hg)
  obtain ⟨cap, k1, k2, hk⟩ := HG.out.kbase HB3.out
  have hnb : gb ≠ b := by have := HG.out.row.lt; have := HGB.out; omega
  have HK3 := Aside0.mk (hk.more (k := gb) HX.out hnb)
  have HR3 := Aside0.mk (HG.out.row.below HB3.out)
  clear hk HX hnb
  have zr := HK3.out.c0
  have x0 : w3.cell? ⟨gb, 0, none⟩ = some (.int .i64 a0) := (blk_cell HK3.out.top 0).trans rfl
  have x1 : w3.cell? ⟨gb, 1, none⟩ = some (.int .i64 a1) := (blk_cell HK3.out.top 1).trans rfl
  have x2 : w3.cell? ⟨gb, 2, none⟩ = some (.int .i64 a2) := (blk_cell HK3.out.top 2).trans rfl
  by_cases h1 : row < 0
  · go_wp2_with fail
    refine ⟨rfl, .tuple #[], results_none rfl _ _ _, ?_⟩
    rw [EO.out, decide_eq_false (by omega), Bool.false_and, if_neg (by decide)]
    exact ⟨rfl, HR3.out, HK3.out.grown⟩
  by_cases h2 : row ≥ (r : Int)
  · go_wp2_with fail
    refine ⟨rfl, .tuple #[], results_none rfl _ _ _, ?_⟩
    rw [EO.out, decide_eq_false (by omega), Bool.false_and, if_neg (by decide)]
    exact ⟨rfl, HR3.out, HK3.out.grown⟩
  rw [decide_eq_true (show 0 ≤ row ∧ row < r by omega), Bool.true_and] at EO
  go_wp2_with fail
  refine (PD.tikref6_MayAttr.calls a0 a1 a2 m w3 HM.out).mono ?_
  rintro e w4 ⟨rfl, hb4⟩
  have HK4 := Aside0.mk (HK3.out.next hb4)
  have HR4 := Aside0.mk (HR3.out.below hb4)
  clear hb4 HK3 HR3 zr x0 x1 x2
  cases m with
  | false =>
    go_wp2_with fail
    refine ⟨rfl, .tuple #[], results_none rfl _ _ _, ?_⟩
    rw [EO.out, if_neg (by decide)]
    exact ⟨rfl, HR4.out, HK4.out.grown⟩
  | true =>
  rw [if_pos rfl] at EO
  obtain ⟨n, rfl⟩ := Int.eq_ofNat_of_zero_le (show 0 ≤ row by omega)
  have hn : n < r := by omega
  rw [Int.toNat_natCast] at EO
  clear h1 h2
  have hle := place_le (c := c) hn
  rw [← HG.out.len] at hle
  have hsm := HG.out.small
  have hc2 := HG.out.c2
  obtain ⟨o, ho⟩ : ∃ o, n * c = o := ⟨_, rfl⟩
  have HW1 := Aside0.mk (wrap_mul ho (by omega))
  rw [ho] at hle EO
  have HOE := Aside0.mk ho
  clear ho
  have hPe : (if p < 0 then 0 else p) = max p 0 := by omega
  have hQe : (if (c : Int) < q then (c : Int) else q) = min q c := by omega
  obtain ⟨P, hP⟩ : ∃ P : Nat, max p 0 = P := ⟨(max p 0).toNat, by omega⟩
  rw [hP] at EO hPe
  rw [Int.toNat_natCast] at EO
  have hQc : min q (c : Int) ≤ c := by omega
  generalize min q (c : Int) = Q at *
  obtain ⟨d, hd⟩ : ∃ d, Q.toNat - P = d := ⟨_, rfl⟩
  rw [hd] at EO
  have hdc : d = 0 ∧ Q ≤ P ∨ Q = ((P + d : Nat) : Int) ∧ P + d ≤ c := by omega
  have HDC := Aside0.mk hdc
  have hd1 : Q.toNat - P = d := hd
  clear hd hdc
  have HQE := Aside0.mk hQe
  go_upto_region 3 with fail
  try rw [hPe]
  clear hPe hQe hP hQc
  go_wp2
  go_loopw [10] (fun v10 wr => ∃ i : Nat, i ≤ d ∧ v10 = .int .i64 ((P + i : Nat) : Int) ∧ Aside0 (RowAt wr b (splice L (o + P) (List.replicate i (blankC a2)))) ∧ Aside0 (KBase w g b r c L.length cap [(gb, .cells #[.int .i64 a0, .int .i64 a1, .int .i64 a2] 23 (0, 0))] wr)) (fun v10 _ => d - ((intOf v10).toNat - P))
  case atStart => exact ⟨0, Nat.zero_le _, by rw [Nat.add_zero], ⟨by rw [List.replicate_zero, splice_none]; exact HR4.out⟩, HK4⟩
  case round =>
    obtain ⟨i, hi, rfl, HR5, HK5⟩ := hrel
    clear HR4 HK4
    have zc := HK5.out.c1
    obtain ⟨s, hs⟩ : ∃ s, P + i = s := ⟨_, rfl⟩
    rw [hs]
    have HS := Aside0.mk hs
    clear hs
    have hQe := HQE.out
    by_cases hlt : i < d
    · have HLT := Aside0.mk hlt
      have hsQ : (s : Int) < Q := by have := HDC.out; have := HS.out; omega
      have hsc : s < c := by have := HDC.out; have := HS.out; omega
      obtain ⟨q, hq⟩ : ∃ q, o + s = q := ⟨_, rfl⟩
      have HQ := Aside0.mk (show q = o + P + i by have := HS.out; omega)
      have hspl : (splice L (o + P) (List.replicate i (blankC a2))).length = L.length := splice_length _ _ _ (by rw [List.length_replicate]; have := HS.out; omega)
      have hqL : q < L.length := by omega
      have HLI : Aside0 (q < (splice L (o + P) (List.replicate i (blankC a2))).length) := ⟨by rw [hspl]; exact hqL⟩
      clear hspl
      have hq1 : (o : Int) + (s : Int) = (q : Int) := by omega
      have hq3 : wrap64 (q : Int) = (q : Int) := by unfold wrap64; omega
      have hq2 : IntKind.i64.wrap (q : Int) = (q : Int) := by rw [i64_w]; exact hq3
      have hw1 := HW1.out
      clear hq
      go_wp2
      clear hQe zc hsQ hlt
      have HKd := Aside0.mk (HK5.out.next (below_drew (Below.refl _ _)))
      have HRd := Aside0.mk (HR5.out.below (below_drew (Below.refl _ _)))
      refine start_ (n := 16) (S := fun w' => w'.cell? ⟨g, 1, none⟩ = some (.int .i64 (c : Int)) ∧ w'.cell? ⟨g, 2, none⟩ = some (.slice (some ⟨b, 0, none⟩) L.length cap) ∧ w'.cell? ⟨gb, 0, none⟩ = some (.int .i64 a0) ∧ w'.cell? ⟨gb, 1, none⟩ = some (.int .i64 a1) ∧ w'.cell? ⟨gb, 2, none⟩ = some (.int .i64 a2) ∧ KBase w g b r c L.length cap [(gb, .cells #[.int .i64 a0, .int .i64 a1, .int .i64 a2] 23 (0, 0))] w' ∧ RowAt w' b (splice L (o + P) (List.replicate i (blankC a2)))) (ds := [15]) #[false, false, false, false, false, false, false, false, false, false, false, false, false, false, false, false] (by kernel_rfl) rfl rfl ⟨HKd.out.c1, HKd.out.c2, (blk_cell HKd.out.top 0).trans rfl, (blk_cell HKd.out.top 1).trans rfl, (blk_cell HKd.out.top 2).trans rfl, HKd.out, HRd.out⟩ (fun hHeld => ?_)
      refine pure_ (i := 0) (N := some 38) (v := ?_) (a' := ?_) #[true, false, false, false, false, false, false, false, false, false, false, false, false, false, false, false] rfl rfl (by kernel_rfl) (fun _ _ _ h => h) (Or.inl ⟨by rfl, ?_⟩) ?_ ?_
      rotate_left
      · intro w'
        go_simp
        with_reducible rfl
      rotate_left
      · simp only [Act.put, List.setIfInBounds_toArray, List.set_cons_zero, List.set_cons_succ, i64_w, i32_w]
        rfl
      refine pure_ (i := 1) (N := some 39) (v := ?_) (a' := ?_) #[true, true, false, false, false, false, false, false, false, false, false, false, false, false, false, false] rfl rfl (by kernel_rfl) (fun _ _ _ h => h) (Or.inl ⟨by rfl, ?_⟩) ?_ ?_
      rotate_left
      · intro w'
        go_simp
        with_reducible rfl
      rotate_left
      · simp only [Act.put, List.setIfInBounds_toArray, List.set_cons_zero, List.set_cons_succ, i64_w, i32_w]
        rfl
      refine pure_ (i := 2) (N := some 40) (v := ?_) (a' := ?_) #[true, true, true, false, false, false, false, false, false, false, false, false, false, false, false, false] rfl rfl (by kernel_rfl) (fun _ _ _ h => h) (Or.inl ⟨by rfl, ?_⟩) ?_ ?_
      rotate_left
      · intro w'
        go_simp
        with_reducible rfl
      rotate_left
      · simp only [Act.put, List.setIfInBounds_toArray, List.set_cons_zero, List.set_cons_succ, i64_w, i32_w]
        rfl
      refine pure_ (i := 4) (N := some 42) (v := ?_) (a' := ?_) #[true, true, true, false, true, false, false, false, false, false, false, false, false, false, false, false] rfl rfl (by kernel_rfl) (fun _ _ _ h => h) (Or.inl ⟨by rfl, ?_⟩) ?_ ?_
      rotate_left
      · intro w'
        go_simp
        with_reducible rfl
      rotate_left
      · simp only [Act.put, List.setIfInBounds_toArray, List.set_cons_zero, List.set_cons_succ, i64_w, i32_w]
        rfl
      refine pure_ (i := 5) (N := some 43) (v := ?_) (a' := ?_) #[true, true, true, false, true, true, false, false, false, false, false, false, false, false, false, false] rfl rfl (by kernel_rfl) (fun _ _ _ h => h) (Or.inl ⟨by rfl, ?_⟩) ?_ ?_
      rotate_left
      · intro w'
        go_simp
        with_reducible rfl
      rotate_left
      · simp only [Act.put, List.setIfInBounds_toArray, List.set_cons_zero, List.set_cons_succ, i64_w, i32_w]
        rfl
      refine pure_ (i := 6) (N := some 44) (v := ?_) (a' := ?_) #[true, true, true, false, true, true, true, false, false, false, false, false, false, false, false, false] rfl rfl (by kernel_rfl) (fun _ _ _ h => h) (Or.inl ⟨by rfl, ?_⟩) ?_ ?_
      rotate_left
      · intro w'
        go_simp
        with_reducible rfl
      rotate_left
      · simp only [Act.put, List.setIfInBounds_toArray, List.set_cons_zero, List.set_cons_succ, i64_w, i32_w]
        rfl
      refine pure_ (i := 7) (N := some 45) (v := ?_) (a' := ?_) #[true, true, true, false, true, true, true, true, false, false, false, false, false, false, false, false] rfl rfl (by kernel_rfl) (fun _ _ _ h => h) (Or.inl ⟨by rfl, ?_⟩) ?_ ?_
      rotate_left
      · intro w'
        go_simp
        with_reducible rfl
      rotate_left
      · simp only [Act.put, List.setIfInBounds_toArray, List.set_cons_zero, List.set_cons_succ, i64_w, i32_w]
        rfl
      refine pure_ (i := 10) (N := some 48) (v := ?_) (a' := ?_) #[true, true, true, false, true, true, true, true, false, false, true, false, false, false, false, false] rfl rfl (by kernel_rfl) (fun _ _ _ h => h) (Or.inl ⟨by rfl, ?_⟩) ?_ ?_
      rotate_left
      · intro w'
        go_simp
        with_reducible rfl
      rotate_left
      · simp only [Act.put, List.setIfInBounds_toArray, List.set_cons_zero, List.set_cons_succ, i64_w, i32_w]
        rfl
      refine take_ (i := 3) (N := some 41) (v := ?_) (a' := ?_) #[true, true, true, true, true, true, true, true, false, false, true, false, false, false, false, false] rfl rfl (by kernel_rfl) (fun _ _ _ h => h) (Or.inl ⟨by rfl, ?_⟩) hHeld ?_ ?_
      rotate_left
      · rintro w' ⟨s0, s1, s2, s3, s4, s5, s6⟩
        go_simp
        with_reducible rfl
      rotate_left
      · simp only [Act.put, List.setIfInBounds_toArray, List.set_cons_zero, List.set_cons_succ, i64_w, i32_w]
        rfl
      refine take_ (i := 8) (N := some 46) (v := ?_) (a' := ?_) #[true, true, true, true, true, true, true, true, true, false, true, false, false, false, false, false] rfl rfl (by kernel_rfl) (fun _ _ _ h => h) (Or.inl ⟨by rfl, ?_⟩) hHeld ?_ ?_
      rotate_left
      · rintro w' ⟨s0, s1, s2, s3, s4, s5, s6⟩
        go_simp
        with_reducible rfl
      rotate_left
      · simp only [Act.put, List.setIfInBounds_toArray, List.set_cons_zero, List.set_cons_succ, i64_w, i32_w]
        rfl
      refine pure_ (i := 9) (N := some 47) (v := ?_) (a' := ?_) #[true, true, true, true, true, true, true, true, true, true, true, false, false, false, false, false] rfl rfl (by kernel_rfl) (fun _ _ _ h => h) (Or.inl ⟨by rfl, ?_⟩) ?_ ?_
      rotate_left
      · intro w'
        go_simp
        with_reducible rfl
      rotate_left
      · simp only [Act.put, List.setIfInBounds_toArray, List.set_cons_zero, List.set_cons_succ, i64_w, i32_w]
        rfl
      refine pure_ (i := 11) (N := some 49) (v := ?_) (a' := ?_) #[true, true, true, true, true, true, true, true, true, true, true, true, false, false, false, false] rfl rfl (by kernel_rfl) (fun _ _ _ h => h) (Or.inl ⟨by rfl, ?_⟩) ?_ ?_
      rotate_left
      · intro w'
        go_simp
        with_reducible rfl
      rotate_left
      · simp only [Act.put, List.setIfInBounds_toArray, List.set_cons_zero, List.set_cons_succ, i64_w, i32_w]
        rfl
      refine take_ (i := 12) (N := some 50) (v := ?_) (a' := ?_) #[true, true, true, true, true, true, true, true, true, true, true, true, true, false, false, false] rfl rfl (by kernel_rfl) (fun _ _ _ h => h) (Or.inl ⟨by rfl, ?_⟩) hHeld ?_ ?_
      rotate_left
      · rintro w' ⟨s0, s1, s2, s3, s4, s5, s6⟩
        go_simp
        with_reducible rfl
      rotate_left
      · simp only [Act.put, List.setIfInBounds_toArray, List.set_cons_zero, List.set_cons_succ, i64_w, i32_w]
        rfl
      refine one_ (i := 13) (N := some 51) #[true, true, true, true, true, true, true, true, true, true, true, true, true, true, false, false] rfl rfl (by kernel_rfl) (by decide) (fun K hK => ?_)
      refine goes_ Tryd.func43 (by kernel_rfl) rfl #[.agg #[.int .i64 a0, .int .i64 a1, .int .i64 a2]] (by rfl) rfl rfl (by simp only [List.map_toArray, List.map_cons, List.map_nil]; rfl) ?_
      refine (PD.tikref6_Blank.calls a0 a1 a2 32 0 0 a2 0 _ rfl).mono ?_
      rintro e w6 ⟨rfl, hbw6⟩
      refine ⟨_, rfl, ?_⟩
      have HK6 := Aside0.mk (HKd.out.next hbw6)
      have HR6 := Aside0.mk (HRd.out.below hbw6)
      clear hbw6
      refine hK.out _ _ ⟨HK6.out.c1, HK6.out.c2, (blk_cell HK6.out.top 0).trans rfl, (blk_cell HK6.out.top 1).trans rfl, (blk_cell HK6.out.top 2).trans rfl, HK6.out, HR6.out⟩ (fun hHeld => ?_)
      clear hK K
      refine norm_ (a' := ?_) ?_ ?_
      rotate_left
      · show Act.put _ (some 51) _ = _
        simp only [Act.put, List.setIfInBounds_toArray, List.set_cons_zero, List.set_cons_succ, i64_w, i32_w]
        rfl
      refine pure_ (i := 14) (N := some 52) (v := ?_) (a' := ?_) #[true, true, true, true, true, true, true, true, true, true, true, true, true, true, true, false] rfl rfl (by kernel_rfl) (fun _ _ _ h => h) (Or.inl ⟨by rfl, ?_⟩) ?_ ?_
      rotate_left
      · intro w'
        go_simp
        with_reducible rfl
      rotate_left
      · simp only [Act.put, List.setIfInBounds_toArray, List.set_cons_zero, List.set_cons_succ, i64_w, i32_w]
        rfl
      refine last_ (i := 15) (N := none) #[true, true, true, true, true, true, true, true, true, true, true, true, true, true, true, true] rfl rfl (by kernel_rfl) (by decide) (fun K hK => ?_)
      refine skip_store_cell (by rfl) rfl rfl HR6.out q HLI.out (blankC a2) info_cell (by rfl) (Nat.mul_comm _ _) (by rfl) ?_
      intro w14 hR14 hg14
      have HK14 := Aside0.mk (HK6.out.wrote hR14 hg14)
      have HR14 := Aside0.mk hR14
      clear hR14 hg14
      refine hK.out _ _ ?_
      clear hK K
      refine done_ (by kernel_rfl) ?_
      clear hq1 hq2 hq3 hw1
      go_wp2
      go_roundw
      case rel => exact ⟨i + 1, HLT.out, by rw [← Nat.add_assoc, HS.out]; go_num, ⟨by have := HR14.out; rw [HQ.out, splice_rep1 (blankC a2) (by have := HS.out; have := HLT.out; omega)] at this; exact this⟩, HK14⟩
      case measure => have := HS.out; have := HLT.out; simp [intOf]; omega
    · have hsQ : ¬ (s : Int) < Q := by have := HDC.out; have := HS.out; omega
      obtain rfl : i = d := by omega
      go_wp2_with fail
      have hl' : (splice L (o + P) (List.replicate i (blankC a2))).length = L.length := by
        rcases HDC.out with ⟨h0, _⟩ | ⟨_, h1⟩
        · rw [h0, List.replicate_zero, splice_none]
        · exact splice_length _ _ _ (by rw [List.length_replicate]; omega)
      refine (rmend_calls (HG.out.wrote HK5.out.grown HR5.out hl') n hn).mono ?_
      rintro e w10 ⟨rfl, hR10, hg10⟩
      go_wp2
      go_end0
      rw [EO.out]
      exact ⟨rfl, hR10, grown_trans HK5.out.grown hg10⟩
end Go.Proofs.YtcfndcjbgalnpaaDoor.Hand
namespace Go.Proofs.YtcfndcjbgalnpaaDoor.Hand
open Go.RowKit Go.Proofs.YtcfndcjbgalnpaaDoorW.PrintWords Go.Proofs.YtcfndcjbgalnpaaDoorW.PrintLast
def movA (l : List C5) (D : Int) (x : C5) (k : Nat) : C5 := if 0 ≤ (k : Int) + D ∧ (k : Int) + D < l.length then l.getD ((k : Int) + D).toNat z5 else x
def movd (l : List C5) (D : Int) (x : C5) (i : Nat) : List C5 := (List.range i).map (movA l D x)
theorem movd_length (l : List C5) (D : Int) (x : C5) (i : Nat) : (movd l D x i).length = i := by simp [movd]
theorem movd_succ (l : List C5) (D : Int) (x : C5) (i : Nat) : movd l D x (i + 1) = movd l D x i ++ [movA l D x i] := by simp [movd, List.range_succ]
def rshiftG (r c : Nat) (L : List C5) (row col n : Int) (a2 : Int) (m : Bool) : List C5 :=
  if (isB r c row col && m) = true then mendRow c (splice L (row.toNat * c + col.toNat) (movd ((L.drop (row.toNat * c + col.toNat)).take (c - col.toNat)) (-(min (max n (-((c - col.toNat : Nat) : Int))) ((c - col.toNat : Nat) : Int))) (blankC a2) (c - col.toNat))) row.toNat else L
set_option maxRecDepth 100000 in
set_option maxHeartbeats 8000000 in
theorem rshift_calls {w : World} {base g b r c : Nat} {L : List C5} (h : RefAt w base g b r c L) (row col d a0 a1 a2 : Int) (mm : Bool) (hm : PD.tikref6_MayAttr.f a0 a1 a2 = some mm) :
    Calls Tryd.prog 46 #[.pointer (some ⟨g, 0, none⟩), .int .i64 row, .int .i64 col, .int .i64 d, .agg #[.int .i64 a0, .int .i64 a1, .int .i64 a2]] w (fun e w' => e = .returned (.tuple #[]) ∧ RowAt w' b (rshiftG r c L row col d a2 mm) ∧ w.grownBy w' (some b)) := by
  have HG := Aside0.mk h
  have HM := Aside0.mk hm
  clear h hm
  have EO : Aside0 (rshiftG r c L row col d a2 mm = if (isB r c row col && mm) = true then mendRow c (splice L (row.toNat * c + col.toNat) (movd ((L.drop (row.toNat * c + col.toNat)).take (c - col.toNat)) (-(min (max d (-((c - col.toNat : Nat) : Int))) ((c - col.toNat : Nat) : Int))) (blankC a2) (c - col.toNat))) row.toNat else L) := ⟨rfl⟩
  go_enter Tryd.func46, Tryd.ntmps46
  go_wp2_with ((with_reducible refine gate_dst (N := 9) rfl ?_); refine box_event ?hg (N := 9) ?hd (cs := #[.int .i64 a0, .int .i64 a1, .int .i64 a2]) (t := 23) ?hr ?_; (case hd => rfl); (case hg => rfl); (case hr => first | (go_simp; done) | (go_simp; rfl)); intro gb hg w3 hbox hb; have HX := Aside0.mk hbox; have HB3 := Aside0.mk hb; have HGB := Aside0.mk (Nat.le_of_eq hg.symm); clear hbox hb hg)
  obtain ⟨cap, k1, k2, hk⟩ := HG.out.kbase HB3.out
  have hnb : gb ≠ b := by have := HG.out.row.lt; have := HGB.out; omega
  have HK3 := Aside0.mk (hk.more (k := gb) HX.out hnb)
  have HR3 := Aside0.mk (HG.out.row.below HB3.out)
  clear hk HX hnb
  refine (there_calls (HG.out.below HB3.out) row col).mono ?_
  rintro e w1 ⟨rfl, rfl⟩
  cases hi : isB r c row col with
  | false =>
    go_wp2_with fail
    refine ⟨rfl, .tuple #[], results_none rfl _ _ _, ?_⟩
    rw [EO.out, hi, Bool.false_and, if_neg (by decide)]
    exact ⟨rfl, HR3.out, HK3.out.grown⟩
  | true =>
  rw [hi, Bool.true_and] at EO
  have x0 : w1.cell? ⟨gb, 0, none⟩ = some (.int .i64 a0) := (blk_cell HK3.out.top 0).trans rfl
  have x1 : w1.cell? ⟨gb, 1, none⟩ = some (.int .i64 a1) := (blk_cell HK3.out.top 1).trans rfl
  have x2 : w1.cell? ⟨gb, 2, none⟩ = some (.int .i64 a2) := (blk_cell HK3.out.top 2).trans rfl
  go_wp2_with fail
  refine (PD.tikref6_MayAttr.calls a0 a1 a2 mm w1 HM.out).mono ?_
  rintro e w6 ⟨rfl, hb4⟩
  have HK6 := Aside0.mk (HK3.out.next hb4)
  have HR6 := Aside0.mk (HR3.out.below hb4)
  clear hb4 HK3 HR3 x0 x1 x2
  cases mm with
  | false =>
    go_wp2_with fail
    refine ⟨rfl, .tuple #[], results_none rfl _ _ _, ?_⟩
    rw [EO.out, if_neg (by decide)]
    exact ⟨rfl, HR6.out, HK6.out.grown⟩
  | true =>
  rw [if_pos rfl] at EO
  obtain ⟨p1, p2, p3, p4⟩ : 0 ≤ row ∧ row < r ∧ 0 ≤ col ∧ col < c := by simpa [isB] using hi
  obtain ⟨n, rfl⟩ := Int.eq_ofNat_of_zero_le p1
  obtain ⟨j, rfl⟩ := Int.eq_ofNat_of_zero_le p3
  have hn : n < r := by omega
  have hj : j < c := by omega
  rw [Int.toNat_natCast, Int.toNat_natCast] at EO
  clear p1 p2 p3 p4 hi
  have hle := place_le (c := c) hn
  rw [← HG.out.len] at hle
  have hsm := HG.out.small
  have hc2 := HG.out.c2
  obtain ⟨o, ho⟩ : ∃ o, n * c = o := ⟨_, rfl⟩
  obtain ⟨p, hp⟩ : ∃ p, o + j = p := ⟨_, rfl⟩
  obtain ⟨hi, hhi⟩ : ∃ hi, o + c = hi := ⟨_, rfl⟩
  obtain ⟨m, hmm⟩ : ∃ m, c - j = m := ⟨_, rfl⟩
  have HW1 := Aside0.mk (wrap_mul ho (by omega))
  rw [ho] at hle EO
  rw [hp, hmm] at EO
  have HHN := Aside0.mk hn
  have hpm : p + m ≤ L.length := by omega
  have hm0 : 0 < m := by omega
  have hm2 : m ≤ 200 := by omega
  have hpl0 : ((L.drop p).take m).length = m := part_length L p m hpm
  have HPM := Aside0.mk hpm
  have HML : Aside0 (m ≤ 9223372036854775807) := ⟨by omega⟩
  have hbyt : (([] : List C5).length + m) * 40 ≤ 140737488355328 := by rw [List.length_nil]; omega
  have hcut := fun W => cut_row0 (b := b) (n := L.length) (cap := cap) (lo := p) (hi := hi) (by omega) (by omega) k1 (by omega) W
  rw [show hi - p = m by omega] at hcut
  have HCUT2 := Aside0.mk (fun W => cut_from0 (b := b) (n := L.length) (cap := cap) (i := p) (by omega) k1 W)
  have hq1 : (o : Int) + (j : Int) = (p : Int) := by omega
  have hq4 : (o : Int) + (c : Int) = (hi : Int) := by omega
  have hD : ∃ X D : Int, max d (-(m : Int)) = X ∧ min X (m : Int) = D ∧ (if d < -(m : Int) then -(m : Int) else d) = X ∧ (if (m : Int) < X then (m : Int) else X) = D ∧ -(m : Int) ≤ D ∧ D ≤ m := ⟨max d (-(m : Int)), min (max d (-(m : Int))) (m : Int), rfl, rfl, by omega, by omega, by omega, by omega⟩
  obtain ⟨X, D, hX, hD, hX2, hD2, hDl, hDu⟩ := hD
  rw [hX, hD] at EO
  clear hX hD ho hhi hmm
  have HOJ := Aside0.mk hp
  clear hp
  have HN1 : Aside0 (wrap64 (-(m : Int)) = -(m : Int)) := ⟨by unfold wrap64; omega⟩
  have HQ3 : Aside0 (wrap64 (p : Int) = (p : Int)) := ⟨by unfold wrap64; omega⟩
  have HQ6 : Aside0 (wrap64 (hi : Int) = (hi : Int)) := ⟨by unfold wrap64; omega⟩
  have hq3 := HQ3.out
  have hq2 : IntKind.i64.wrap (p : Int) = (p : Int) := by rw [i64_w]; exact hq3
  have hq6 := HQ6.out
  have hq5 : IntKind.i64.wrap (hi : Int) = (hi : Int) := by rw [i64_w]; exact hq6
  have HX2 := Aside0.mk hX2
  have HD2 := Aside0.mk hD2
  have HDl := Aside0.mk hDl
  have HDu := Aside0.mk hDu
  clear hX2 hD2 hDl hDu
  have hw1 := HW1.out
  go_wp2
  have HKd := Aside0.mk (HK6.out.next (below_drew (Below.refl _ _)))
  have HRd := Aside0.mk (HR6.out.below (below_drew (Below.refl _ _)))
  refine start_ (n := 27) (S := fun w' => w'.cell? ⟨g, 1, none⟩ = some (.int .i64 (c : Int)) ∧ w'.cell? ⟨g, 2, none⟩ = some (.slice (some ⟨b, 0, none⟩) L.length cap) ∧ KBase w g b r c L.length cap [(gb, .cells #[.int .i64 a0, .int .i64 a1, .int .i64 a2] 23 (0, 0))] w') (ds := []) #[false, false, false, false, false, false, false, false, false, false, false, false, false, false, false, false, false, false, false, false, false, false, false, false, false, false, false] (by kernel_rfl) rfl rfl ⟨HKd.out.c1, HKd.out.c2, HKd.out⟩ (fun hHeld => ?_)
  refine pure_ (i := 1) (N := some 25) (v := ?_) (a' := ?_) #[false, true, false, false, false, false, false, false, false, false, false, false, false, false, false, false, false, false, false, false, false, false, false, false, false, false, false] rfl rfl (by kernel_rfl) (fun _ _ _ h => h) (Or.inl ⟨by rfl, ?_⟩) ?_ ?_
  rotate_left
  · intro w'
    go_simp
    with_reducible rfl
  rotate_left
  · simp only [Act.put, List.setIfInBounds_toArray, List.set_cons_zero, List.set_cons_succ, i64_w, i32_w]
    rfl
  refine pure_ (i := 2) (N := some 26) (v := ?_) (a' := ?_) #[false, true, true, false, false, false, false, false, false, false, false, false, false, false, false, false, false, false, false, false, false, false, false, false, false, false, false] rfl rfl (by kernel_rfl) (fun _ _ _ h => h) (Or.inl ⟨by rfl, ?_⟩) ?_ ?_
  rotate_left
  · intro w'
    go_simp
    with_reducible rfl
  rotate_left
  · simp only [Act.put, List.setIfInBounds_toArray, List.set_cons_zero, List.set_cons_succ, i64_w, i32_w]
    rfl
  refine pure_ (i := 3) (N := some 27) (v := ?_) (a' := ?_) #[false, true, true, true, false, false, false, false, false, false, false, false, false, false, false, false, false, false, false, false, false, false, false, false, false, false, false] rfl rfl (by kernel_rfl) (fun _ _ _ h => h) (Or.inl ⟨by rfl, ?_⟩) ?_ ?_
  rotate_left
  · intro w'
    go_simp
    with_reducible rfl
  rotate_left
  · simp only [Act.put, List.setIfInBounds_toArray, List.set_cons_zero, List.set_cons_succ, i64_w, i32_w]
    rfl
  refine pure_ (i := 5) (N := some 29) (v := ?_) (a' := ?_) #[false, true, true, true, false, true, false, false, false, false, false, false, false, false, false, false, false, false, false, false, false, false, false, false, false, false, false] rfl rfl (by kernel_rfl) (fun _ _ _ h => h) (Or.inl ⟨by rfl, ?_⟩) ?_ ?_
  rotate_left
  · intro w'
    go_simp
    with_reducible rfl
  rotate_left
  · simp only [Act.put, List.setIfInBounds_toArray, List.set_cons_zero, List.set_cons_succ, i64_w, i32_w]
    rfl
  refine pure_ (i := 6) (N := some 30) (v := ?_) (a' := ?_) #[false, true, true, true, false, true, true, false, false, false, false, false, false, false, false, false, false, false, false, false, false, false, false, false, false, false, false] rfl rfl (by kernel_rfl) (fun _ _ _ h => h) (Or.inl ⟨by rfl, ?_⟩) ?_ ?_
  rotate_left
  · intro w'
    go_simp
    with_reducible rfl
  rotate_left
  · simp only [Act.put, List.setIfInBounds_toArray, List.set_cons_zero, List.set_cons_succ, i64_w, i32_w]
    rfl
  refine pure_ (i := 7) (N := some 31) (v := ?_) (a' := ?_) #[false, true, true, true, false, true, true, true, false, false, false, false, false, false, false, false, false, false, false, false, false, false, false, false, false, false, false] rfl rfl (by kernel_rfl) (fun _ _ _ h => h) (Or.inl ⟨by rfl, ?_⟩) ?_ ?_
  rotate_left
  · intro w'
    go_simp
    with_reducible rfl
  rotate_left
  · simp only [Act.put, List.setIfInBounds_toArray, List.set_cons_zero, List.set_cons_succ, i64_w, i32_w]
    rfl
  refine pure_ (i := 8) (N := some 32) (v := ?_) (a' := ?_) #[false, true, true, true, false, true, true, true, true, false, false, false, false, false, false, false, false, false, false, false, false, false, false, false, false, false, false] rfl rfl (by kernel_rfl) (fun _ _ _ h => h) (Or.inl ⟨by rfl, ?_⟩) ?_ ?_
  rotate_left
  · intro w'
    go_simp
    with_reducible rfl
  rotate_left
  · simp only [Act.put, List.setIfInBounds_toArray, List.set_cons_zero, List.set_cons_succ, i64_w, i32_w]
    rfl
  refine pure_ (i := 11) (N := some 35) (v := ?_) (a' := ?_) #[false, true, true, true, false, true, true, true, true, false, false, true, false, false, false, false, false, false, false, false, false, false, false, false, false, false, false] rfl rfl (by kernel_rfl) (fun _ _ _ h => h) (Or.inl ⟨by rfl, ?_⟩) ?_ ?_
  rotate_left
  · intro w'
    go_simp
    with_reducible rfl
  rotate_left
  · simp only [Act.put, List.setIfInBounds_toArray, List.set_cons_zero, List.set_cons_succ, i64_w, i32_w]
    rfl
  refine pure_ (i := 13) (N := some 37) (v := ?_) (a' := ?_) #[false, true, true, true, false, true, true, true, true, false, false, true, false, true, false, false, false, false, false, false, false, false, false, false, false, false, false] rfl rfl (by kernel_rfl) (fun _ _ _ h => h) (Or.inl ⟨by rfl, ?_⟩) ?_ ?_
  rotate_left
  · intro w'
    go_simp
    with_reducible rfl
  rotate_left
  · simp only [Act.put, List.setIfInBounds_toArray, List.set_cons_zero, List.set_cons_succ, i64_w, i32_w]
    rfl
  refine pure_ (i := 14) (N := some 38) (v := ?_) (a' := ?_) #[false, true, true, true, false, true, true, true, true, false, false, true, false, true, true, false, false, false, false, false, false, false, false, false, false, false, false] rfl rfl (by kernel_rfl) (fun _ _ _ h => h) (Or.inl ⟨by rfl, ?_⟩) ?_ ?_
  rotate_left
  · intro w'
    go_simp
    with_reducible rfl
  rotate_left
  · simp only [Act.put, List.setIfInBounds_toArray, List.set_cons_zero, List.set_cons_succ, i64_w, i32_w]
    rfl
  refine pure_ (i := 15) (N := some 39) (v := ?_) (a' := ?_) #[false, true, true, true, false, true, true, true, true, false, false, true, false, true, true, true, false, false, false, false, false, false, false, false, false, false, false] rfl rfl (by kernel_rfl) (fun _ _ _ h => h) (Or.inl ⟨by rfl, ?_⟩) ?_ ?_
  rotate_left
  · intro w'
    go_simp
    with_reducible rfl
  rotate_left
  · simp only [Act.put, List.setIfInBounds_toArray, List.set_cons_zero, List.set_cons_succ, i64_w, i32_w]
    rfl
  refine pure_ (i := 16) (N := some 40) (v := ?_) (a' := ?_) #[false, true, true, true, false, true, true, true, true, false, false, true, false, true, true, true, true, false, false, false, false, false, false, false, false, false, false] rfl rfl (by kernel_rfl) (fun _ _ _ h => h) (Or.inl ⟨by rfl, ?_⟩) ?_ ?_
  rotate_left
  · intro w'
    go_simp
    with_reducible rfl
  rotate_left
  · simp only [Act.put, List.setIfInBounds_toArray, List.set_cons_zero, List.set_cons_succ, i64_w, i32_w]
    rfl
  refine pure_ (i := 19) (N := some 43) (v := ?_) (a' := ?_) #[false, true, true, true, false, true, true, true, true, false, false, true, false, true, true, true, true, false, false, true, false, false, false, false, false, false, false] rfl rfl (by kernel_rfl) (fun _ _ _ h => h) (Or.inl ⟨by rfl, ?_⟩) ?_ ?_
  rotate_left
  · intro w'
    go_simp
    with_reducible rfl
  rotate_left
  · simp only [Act.put, List.setIfInBounds_toArray, List.set_cons_zero, List.set_cons_succ, i64_w, i32_w]
    rfl
  refine pure_ (i := 20) (N := some 44) (v := ?_) (a' := ?_) #[false, true, true, true, false, true, true, true, true, false, false, true, false, true, true, true, true, false, false, true, true, false, false, false, false, false, false] rfl rfl (by kernel_rfl) (fun _ _ _ h => h) (Or.inl ⟨by rfl, ?_⟩) ?_ ?_
  rotate_left
  · intro w'
    go_simp
    with_reducible rfl
  rotate_left
  · simp only [Act.put, List.setIfInBounds_toArray, List.set_cons_zero, List.set_cons_succ, i64_w, i32_w]
    rfl
  refine pure_ (i := 21) (N := some 45) (v := ?_) (a' := ?_) #[false, true, true, true, false, true, true, true, true, false, false, true, false, true, true, true, true, false, false, true, true, true, false, false, false, false, false] rfl rfl (by kernel_rfl) (fun _ _ _ h => h) (Or.inl ⟨by rfl, ?_⟩) ?_ ?_
  rotate_left
  · intro w'
    go_simp
    with_reducible rfl
  rotate_left
  · simp only [Act.put, List.setIfInBounds_toArray, List.set_cons_zero, List.set_cons_succ, i64_w, i32_w]
    rfl
  refine take_ (i := 4) (N := some 28) (v := ?_) (a' := ?_) #[false, true, true, true, true, true, true, true, true, false, false, true, false, true, true, true, true, false, false, true, true, true, false, false, false, false, false] rfl rfl (by kernel_rfl) (fun _ _ _ h => h) (Or.inl ⟨by rfl, ?_⟩) hHeld ?_ ?_
  rotate_left
  · rintro w' ⟨s0, s1, s2⟩
    go_simp
    with_reducible rfl
  rotate_left
  · simp only [Act.put, List.setIfInBounds_toArray, List.set_cons_zero, List.set_cons_succ, i64_w, i32_w]
    rfl
  refine take_ (i := 9) (N := some 33) (v := ?_) (a' := ?_) #[false, true, true, true, true, true, true, true, true, true, false, true, false, true, true, true, true, false, false, true, true, true, false, false, false, false, false] rfl rfl (by kernel_rfl) (fun _ _ _ h => h) (Or.inl ⟨by rfl, ?_⟩) hHeld ?_ ?_
  rotate_left
  · rintro w' ⟨s0, s1, s2⟩
    go_simp
    with_reducible rfl
  rotate_left
  · simp only [Act.put, List.setIfInBounds_toArray, List.set_cons_zero, List.set_cons_succ, i64_w, i32_w]
    rfl
  refine pure_ (i := 10) (N := some 34) (v := ?_) (a' := ?_) #[false, true, true, true, true, true, true, true, true, true, true, true, false, true, true, true, true, false, false, true, true, true, false, false, false, false, false] rfl rfl (by kernel_rfl) (fun _ _ _ h => h) (Or.inl ⟨by rfl, ?_⟩) ?_ ?_
  rotate_left
  · intro w'
    go_simp
    with_reducible rfl
  rotate_left
  · simp only [Act.put, List.setIfInBounds_toArray, List.set_cons_zero, List.set_cons_succ, i64_w, i32_w]
    rfl
  refine pure_ (i := 12) (N := some 36) (v := ?_) (a' := ?_) #[false, true, true, true, true, true, true, true, true, true, true, true, true, true, true, true, true, false, false, true, true, true, false, false, false, false, false] rfl rfl (by kernel_rfl) (fun _ _ _ h => h) (Or.inl ⟨by rfl, ?_⟩) ?_ ?_
  rotate_left
  · intro w'
    go_simp
    with_reducible rfl
  rotate_left
  · simp only [Act.put, List.setIfInBounds_toArray, List.set_cons_zero, List.set_cons_succ, i64_w, i32_w]
    rfl
  refine take_ (i := 17) (N := some 41) (v := ?_) (a' := ?_) #[false, true, true, true, true, true, true, true, true, true, true, true, true, true, true, true, true, true, false, true, true, true, false, false, false, false, false] rfl rfl (by kernel_rfl) (fun _ _ _ h => h) (Or.inl ⟨by rfl, ?_⟩) hHeld ?_ ?_
  rotate_left
  · rintro w' ⟨s0, s1, s2⟩
    go_simp
    with_reducible rfl
  rotate_left
  · simp only [Act.put, List.setIfInBounds_toArray, List.set_cons_zero, List.set_cons_succ, i64_w, i32_w]
    rfl
  refine pure_ (i := 18) (N := some 42) (v := ?_) (a' := ?_) #[false, true, true, true, true, true, true, true, true, true, true, true, true, true, true, true, true, true, true, true, true, true, false, false, false, false, false] rfl rfl (by kernel_rfl) (fun _ _ _ h => h) (Or.inl ⟨by rfl, ?_⟩) ?_ ?_
  rotate_left
  · intro w'
    go_simp
    with_reducible rfl
  rotate_left
  · simp only [Act.put, List.setIfInBounds_toArray, List.set_cons_zero, List.set_cons_succ, i64_w, i32_w]
    rfl
  refine take_ (i := 22) (N := some 46) (v := ?_) (a' := ?_) #[false, true, true, true, true, true, true, true, true, true, true, true, true, true, true, true, true, true, true, true, true, true, true, false, false, false, false] rfl rfl (by kernel_rfl) (fun _ _ _ h => h) (Or.inl ⟨by rfl, ?_⟩) hHeld ?_ ?_
  rotate_left
  · rintro w' ⟨s0, s1, s2⟩
    go_simp
    with_reducible rfl
  rotate_left
  · simp only [Act.put, List.setIfInBounds_toArray, List.set_cons_zero, List.set_cons_succ, i64_w, i32_w]
    rfl
  refine pure_ (i := 23) (N := some 47) (v := ?_) (a' := ?_) #[false, true, true, true, true, true, true, true, true, true, true, true, true, true, true, true, true, true, true, true, true, true, true, true, false, false, false] rfl rfl (by kernel_rfl) (fun _ _ _ h => h) (Or.inl ⟨by rfl, ?_⟩) ?_ ?_
  rotate_left
  · intro w'
    go_simp
    with_reducible rfl
  rotate_left
  · simp only [Act.put, List.setIfInBounds_toArray, List.set_cons_zero, List.set_cons_succ, i64_w, i32_w]
    rfl
  refine pure_ (i := 24) (N := some 48) (v := ?_) (a' := ?_) #[false, true, true, true, true, true, true, true, true, true, true, true, true, true, true, true, true, true, true, true, true, true, true, true, true, false, false] rfl rfl (by kernel_rfl) (fun _ _ _ h => h) (Or.inl ⟨by rfl, ?_⟩) ?_ ?_
  rotate_left
  · intro w'
    go_simp
    with_reducible rfl
  rotate_left
  · simp only [Act.put, List.setIfInBounds_toArray, List.set_cons_zero, List.set_cons_succ, i64_w, i32_w]
    rfl
  refine one_ (i := 0) (N := some 24) #[true, true, true, true, true, true, true, true, true, true, true, true, true, true, true, true, true, true, true, true, true, true, true, true, true, false, false] rfl rfl (by kernel_rfl) (by decide) (fun K hK => ?_)
  refine Kd.R_lit_step kC (w0 := w6.drew) w6.drew.heap.size 32 ?hg (N := 24) ?hd (xs := ([] : List C5)) (inner := []) (ok := fun _ => True) (okp := fun _ => True) ?hr ?hp (fun _ hk => hk) trivial (Below.refl _ _) (Nat.le_refl _) (by simp) ?_; (case hd => rfl); (case hg => rfl); (case hr => first | (go_simp; done) | (go_simp; rfl)); (case hp => exact (Reps.none _ _))
  intro v8 w8 ho8 hb8 hg8 hn8
  clear hg8 hn8
  have HO8 := Aside0.mk ho8
  have HB8 := Aside0.mk hb8
  have HK8 := Aside0.mk (HKd.out.next hb8)
  have HR8 := Aside0.mk (HRd.out.below hb8)
  clear ho8 hb8
  refine hK.out _ _ ⟨HK8.out.c1, HK8.out.c2, HK8.out⟩ (fun hHeld => ?_)
  clear hK K
  refine norm_ (a' := ?_) ?_ ?_
  rotate_left
  · show Act.put _ (some 24) _ = _
    simp only [Act.put, List.setIfInBounds_toArray, List.set_cons_zero, List.set_cons_succ, i64_w, i32_w]
    rfl
  refine one_ (i := 25) (N := some 49) #[true, true, true, true, true, true, true, true, true, true, true, true, true, true, true, true, true, true, true, true, true, true, true, true, true, true, false] rfl rfl (by kernel_rfl) (by decide) (fun K hK => ?_)
  refine Kd.R_append_rows_step kC (w0 := w6.drew) w6.drew.heap.size (by rfl) (.tmp 24) (.tmp 48) 49 32 (C5.agg ⟨0, 0, 0, 0, 0⟩) 40 rfl Tryd.underlying49 info_cell3 rfl (by decide) (by decide) v8 [] ((L.drop p).take m) _ _ _ (fun _ => True) (fun _ => False) (by rfl) (by rfl) HO8.out (HR8.out.reads p m HPM.out HML.out) (fun _ _ h => kC_M.2 (kC_Kv h)) (fun _ h => h.elim) (fun _ _ => trivial) HB8.out HB8.out.size hbyt ?_
  intro v9 w9 ho9 hb9 hg9 hat9
  have HO9 := Aside0.mk ho9
  have HB9 := Aside0.mk hb9
  have HK9 := Aside0.mk (HKd.out.next hb9)
  have HR9 := Aside0.mk (HRd.out.below hb9)
  clear ho9 hb9 hg9 hat9
  refine hK.out _ _ ⟨HK9.out.c1, HK9.out.c2, HK9.out⟩ (fun hHeld => ?_)
  clear hK K
  refine norm_ (a' := ?_) ?_ ?_
  rotate_left
  · show Act.put _ (some 49) _ = _
    simp only [Act.put, List.setIfInBounds_toArray, List.set_cons_zero, List.set_cons_succ, i64_w, i32_w]
    rfl
  refine pure_ (i := 26) (N := some 10) (v := ?_) (a' := ?_) #[true, true, true, true, true, true, true, true, true, true, true, true, true, true, true, true, true, true, true, true, true, true, true, true, true, true, true] rfl rfl (by kernel_rfl) (fun _ _ _ h => h) (Or.inl ⟨by rfl, ?_⟩) ?_ ?_
  rotate_left
  · intro w'
    go_simp
    with_reducible rfl
  rotate_left
  · simp only [Act.put, List.setIfInBounds_toArray, List.set_cons_zero, List.set_cons_succ, i64_w, i32_w]
    rfl
  refine done_ (by kernel_rfl) ?_
  clear hw1 hq1 hq2 hq3 hq4 hq5 hq6 hcut HO8 HB8 HK8 HR8
  obtain ⟨b9, cap9, rfl, hbb9, _, hM9, hc9, hm9⟩ := rowAt_of_R HO9.out (by rw [List.nil_append, hpl0]; exact hm0)
  rw [List.nil_append] at hM9 hc9 ⊢
  rw [hpl0] at hc9 ⊢
  have HM9 := Aside0.mk hM9
  clear hM9 HO9 HB9 HKd HRd hbb9 HK6 HR6
  obtain ⟨M, hM⟩ : ∃ M, (L.drop p).take m = M := ⟨_, rfl⟩
  rw [hM] at EO HM9 hpl0
  clear hM
  have hX2 := HX2.out
  have hD2 := HD2.out
  have hN1 := HN1.out
  have hN2 : IntKind.i64.wrap (-(m : Int)) = -(m : Int) := by rw [i64_w]; exact hN1
  go_upto_region 4 with fail
  clear hX2 hD2 hN1 hN2
  go_wp2
  obtain ⟨ws, hws⟩ : ∃ ws, ws = w9 := ⟨_, rfl⟩
  rw [← hws] at HM9 HK9 HR9 ⊢
  clear hws
  go_loopw [11, 12] (fun v11 v12 wr => ∃ i : Nat, i ≤ m ∧ v12 = .int .i64 i ∧ Aside0 (Kd.R kC 32 wr ws.heap.size (fun _ => True) v11 (movd M (-D) (blankC a2) i)) ∧ Aside0 (Below ws.heap.size ws wr)) (fun _ v12 _ => m - (intOf v12).toNat)
  case atStart => exact ⟨0, Nat.zero_le _, rfl, ⟨Kd.R_nil _ _ _ _ _⟩, ⟨Below.refl _ _⟩⟩
  case round =>
    obtain ⟨i, hi, rfl, HO5, HB5⟩ := hrel
    by_cases hlt : i < m
    · have HK5 := Aside0.mk (HK9.out.next HB5.out)
      have HLT := Aside0.mk hlt
      obtain ⟨K, hK⟩ : ∃ K, (i : Int) - D = K := ⟨_, rfl⟩
      have HK3 : Aside0 (wrap64 K = K) := ⟨by have := HDl.out; have := HDu.out; unfold wrap64; omega⟩
      have HBY : Aside0 (((movd M (-D) (blankC a2) i).length + 1) * 40 ≤ 140737488355328) := ⟨by rw [movd_length]; omega⟩
      have HKD := Aside0.mk (show K = (i : Int) + -D by omega)
      by_cases hin : 0 ≤ K ∧ K < (m : Int)
      · obtain ⟨q, rfl⟩ := Int.eq_ofNat_of_zero_le hin.1
        have hqm : q < m := by omega
        obtain ⟨y, hy⟩ : ∃ y, M[q]? = some y := ⟨M[q], List.getElem?_eq_getElem (by omega)⟩
        have HMA : Aside0 (movA M (-D) (blankC a2) i = y) := ⟨by unfold movA; rw [← HKD.out, if_pos (by rw [hpl0]; exact hin), Int.toNat_natCast]; exact getD_of hy⟩
        have HM5 := Aside0.mk (HM9.out.below HB5.out)
        have z0 : wr.cell? ⟨b9, q * 5, none⟩ = some (.int .i32 y.r) := by rw [Nat.mul_comm]; exact HM5.out.cell hy 0 (by decide)
        have z1 : wr.cell? ⟨b9, q * 5 + 1, none⟩ = some (.int .i64 y.f) := by rw [Nat.mul_comm]; exact HM5.out.cell hy 1 (by decide)
        have z2 : wr.cell? ⟨b9, q * 5 + 2, none⟩ = some (.int .i64 y.g) := by rw [Nat.mul_comm]; exact HM5.out.cell hy 2 (by decide)
        have z3 : wr.cell? ⟨b9, q * 5 + 3, none⟩ = some (.int .i64 y.b) := by rw [Nat.mul_comm]; exact HM5.out.cell hy 3 (by decide)
        have z4 : wr.cell? ⟨b9, q * 5 + 4, none⟩ = some (.int .i64 y.w) := by rw [Nat.mul_comm]; exact HM5.out.cell hy 4 (by decide)
        have hb1 : decide ((q : Int) < 0) = false := decide_eq_false (by omega)
        have hb2 : decide ((m : Int) ≤ (q : Int)) = false := decide_eq_false (by omega)
        have hb3 : ¬ m ≤ q := by omega
        have hb4 : ¬ ((m : Int) ≤ (q : Int)) := by omega
        have hb5 : ¬ ((q : Int) < 0) := by omega
        clear hin hy
        have hK3 := HK3.out
        have hK2 : IntKind.i64.wrap (q : Int) = (q : Int) := by rw [i64_w]; exact hK3
        go_upto_region 7 with (first
          | ((with_reducible refine gate_dst (N := 85) rfl ?_); refine Kd.R_lit kC (w0 := ws) ws.heap.size 32 ?hg (N := 85) ?hd (xs := [y]) (inner := (y).vs) (ok := fun _ => True) (okp := fun _ => True) ?hr ?hp (fun _ hk => hk) trivial HB5.out HB5.out.size (by simp) ?_; (case hd => rfl); (case hg => rfl); (case hr => first | (go_simp; done) | (go_simp; rfl)); (case hp => exact ⟨rfl, fun j p hj => by (rcases j with _ | j); (obtain rfl := Option.some.inj hj; exact kC_M.2 rfl); (simp at hj)⟩); intro v1 w7 ho hb hg_ hnew_; have HB7 := Aside0.mk hb; have HO7 := Aside0.mk (Kd.R_grown HO5.out hg_ (fun k _ => by simp)); clear hg_ hnew_ hb; obtain ⟨A1, cp1, rfl, _, hC1⟩ := Kd.R_reads ho; rw [show ([y] : List C5).length = 1 from rfl] at hC1 ⊢; have HC1 := Aside0.mk hC1; clear ho hC1)
          | ((with_reducible refine gate_builtin (b := .append) (xs := #[.tmp 80, .tmp 85]) rfl ?_); at_builtin; refine Kd.R_append_rows kC (w0 := ws) ws.heap.size rfl (.tmp 80) (.tmp 85) 49 32 (C5.agg ⟨0, 0, 0, 0, 0⟩) 40 rfl Tryd.underlying49 info_cell3 rfl (by decide) (by decide) _ _ [y] _ _ _ (fun _ => True) (fun _ => False) rfl rfl HO7.out HC1.out (fun _ _ h => kC_M.2 (kC_Kv h)) (fun _ h => h.elim) (fun _ _ => trivial) HB7.out HB7.out.size HBY.out ?_; intro v2 w8 ho hb hg hat; have HO8 := Aside0.mk ho; have HB8 := Aside0.mk hb; clear ho hb hg hat))
        clear z0 z1 z2 z3 z4 hK3 hK2 hb1 hb2 hb3 hb4 hb5
        go_wp2
        go_roundw
        case rel => exact ⟨i + 1, HLT.out, by go_num, ⟨by rw [movd_succ, HMA.out]; exact HO8.out⟩, HB8⟩
        case measure => simp [intOf]; omega
      · have HMA : Aside0 (movA M (-D) (blankC a2) i = blankC a2) := ⟨by unfold movA; rw [← HKD.out, if_neg (by rw [hpl0]; exact hin)]⟩
        have x0 : wr.cell? ⟨gb, 0, none⟩ = some (.int .i64 a0) := (blk_cell HK5.out.top 0).trans rfl
        have x1 : wr.cell? ⟨gb, 1, none⟩ = some (.int .i64 a1) := (blk_cell HK5.out.top 1).trans rfl
        have x2 : wr.cell? ⟨gb, 2, none⟩ = some (.int .i64 a2) := (blk_cell HK5.out.top 2).trans rfl
        rcases (show K < 0 ∨ (¬ K < 0 ∧ K ≥ (m : Int)) by omega) with hk | ⟨hkn, hk⟩
        all_goals
          clear hin
          have hK3 := HK3.out
          have hK2 : IntKind.i64.wrap K = K := by rw [i64_w]; exact hK3
          go_wp2_with fail
          refine (PD.tikref6_Blank.calls a0 a1 a2 32 0 0 a2 0 _ rfl).mono ?_
          rintro e w6b ⟨rfl, hb6⟩
          have HB6 := Aside0.mk (below_step HB5.out hb6)
          have HO6 := Aside0.mk (Kd.R_below HO5.out hb6)
          clear hb6 x0 x1 x2
          go_upto_region 7 with (first
            | ((with_reducible refine gate_dst (N := 78) rfl ?_); refine Kd.R_lit kC (w0 := ws) ws.heap.size 32 ?hg (N := 78) ?hd (xs := [blankC a2]) (inner := (blankC a2).vs) (ok := fun _ => True) (okp := fun _ => True) ?hr ?hp (fun _ hk => hk) trivial HB6.out HB6.out.size (by simp) ?_; (case hd => rfl); (case hg => rfl); (case hr => first | (go_simp; done) | (go_simp; rfl)); (case hp => exact ⟨rfl, fun j p hj => by (rcases j with _ | j); (obtain rfl := Option.some.inj hj; exact kC_M.2 rfl); (simp at hj)⟩); intro v1 w7 ho hb hg_ hnew_; have HB7 := Aside0.mk hb; have HO7 := Aside0.mk (Kd.R_grown HO6.out hg_ (fun k _ => by simp)); clear hg_ hnew_ hb; obtain ⟨A1, cp1, rfl, _, hC1⟩ := Kd.R_reads ho; rw [show ([blankC a2] : List C5).length = 1 from rfl] at hC1 ⊢; have HC1 := Aside0.mk hC1; clear ho hC1)
            | ((with_reducible refine gate_builtin (b := .append) (xs := #[.tmp 75, .tmp 78]) rfl ?_); at_builtin; refine Kd.R_append_rows kC (w0 := ws) ws.heap.size rfl (.tmp 75) (.tmp 78) 49 32 (C5.agg ⟨0, 0, 0, 0, 0⟩) 40 rfl Tryd.underlying49 info_cell3 rfl (by decide) (by decide) _ _ [blankC a2] _ _ _ (fun _ => True) (fun _ => False) rfl rfl HO7.out HC1.out (fun _ _ h => kC_M.2 (kC_Kv h)) (fun _ h => h.elim) (fun _ _ => trivial) HB7.out HB7.out.size HBY.out ?_; intro v2 w8 ho hb hg hat; have HO8 := Aside0.mk ho; have HB8 := Aside0.mk hb; clear ho hb hg hat))
          clear hK3 hK2
          go_wp2
          go_roundw
          case rel => exact ⟨i + 1, HLT.out, by go_num, ⟨by rw [movd_succ, HMA.out]; exact HO8.out⟩, HB8⟩
          case measure => simp [intOf]; omega
    · obtain rfl : i = m := by omega
      have HKe := Aside0.mk (HK9.out.next HB5.out)
      have HRe := Aside0.mk (HR9.out.below HB5.out)
      obtain ⟨bo, capo, rfl, hbbo, _, hMo, hco, hmo⟩ := rowAt_of_R HO5.out (by rw [movd_length]; exact hm0)
      rw [movd_length] at hco ⊢
      obtain ⟨O, hO⟩ : ∃ O, movd M (-D) (blankC a2) i = O := ⟨_, rfl⟩
      have hOl : O.length = i := by rw [← hO, movd_length]
      rw [hO] at hMo EO
      clear hO
      have hbn : bo ≠ b := by have := HR9.out.lt; omega
      have HMo := Aside0.mk hMo
      have hcut := HCUT2.out
      have hq1 : (o : Int) + (j : Int) = (p : Int) := by have := HOJ.out; omega
      have hcp1 : p + (L.length - p) ≤ L.length := by omega
      have hcp2 : 0 + i ≤ O.length := by omega
      have hq3 := HQ3.out
      have hq2 : IntKind.i64.wrap (p : Int) = (p : Int) := by rw [i64_w]; exact hq3
      have hw1 := HW1.out
      clear hMo
      go_wp2
      have HKc := Aside0.mk (HKe.out.next (below_drew (Below.refl _ _)))
      have HRc := Aside0.mk (HRe.out.below (below_drew (Below.refl _ _)))
      have HOc := Aside0.mk (HMo.out.below (below_drew (Below.refl _ _)))
      refine start_ (n := 15) (S := fun w' => w'.cell? ⟨g, 1, none⟩ = some (.int .i64 (c : Int)) ∧ w'.cell? ⟨g, 2, none⟩ = some (.slice (some ⟨b, 0, none⟩) L.length cap) ∧ KBase w g b r c L.length cap [(gb, .cells #[.int .i64 a0, .int .i64 a1, .int .i64 a2] 23 (0, 0))] w') (ds := []) #[false, false, false, false, false, false, false, false, false, false, false, false, false, false, false] (by kernel_rfl) rfl rfl ⟨HKc.out.c1, HKc.out.c2, HKc.out⟩ (fun hHeld => ?_)
      refine pure_ (i := 0) (N := some 87) (v := ?_) (a' := ?_) #[true, false, false, false, false, false, false, false, false, false, false, false, false, false, false] rfl rfl (by kernel_rfl) (fun _ _ _ h => h) (Or.inl ⟨by rfl, ?_⟩) ?_ ?_
      rotate_left
      · intro w'
        go_simp
        with_reducible rfl
      rotate_left
      · simp only [Act.put, List.setIfInBounds_toArray, List.set_cons_zero, List.set_cons_succ, i64_w, i32_w]
        rfl
      refine pure_ (i := 1) (N := some 88) (v := ?_) (a' := ?_) #[true, true, false, false, false, false, false, false, false, false, false, false, false, false, false] rfl rfl (by kernel_rfl) (fun _ _ _ h => h) (Or.inl ⟨by rfl, ?_⟩) ?_ ?_
      rotate_left
      · intro w'
        go_simp
        with_reducible rfl
      rotate_left
      · simp only [Act.put, List.setIfInBounds_toArray, List.set_cons_zero, List.set_cons_succ, i64_w, i32_w]
        rfl
      refine pure_ (i := 2) (N := some 89) (v := ?_) (a' := ?_) #[true, true, true, false, false, false, false, false, false, false, false, false, false, false, false] rfl rfl (by kernel_rfl) (fun _ _ _ h => h) (Or.inl ⟨by rfl, ?_⟩) ?_ ?_
      rotate_left
      · intro w'
        go_simp
        with_reducible rfl
      rotate_left
      · simp only [Act.put, List.setIfInBounds_toArray, List.set_cons_zero, List.set_cons_succ, i64_w, i32_w]
        rfl
      refine pure_ (i := 4) (N := some 91) (v := ?_) (a' := ?_) #[true, true, true, false, true, false, false, false, false, false, false, false, false, false, false] rfl rfl (by kernel_rfl) (fun _ _ _ h => h) (Or.inl ⟨by rfl, ?_⟩) ?_ ?_
      rotate_left
      · intro w'
        go_simp
        with_reducible rfl
      rotate_left
      · simp only [Act.put, List.setIfInBounds_toArray, List.set_cons_zero, List.set_cons_succ, i64_w, i32_w]
        rfl
      refine pure_ (i := 5) (N := some 92) (v := ?_) (a' := ?_) #[true, true, true, false, true, true, false, false, false, false, false, false, false, false, false] rfl rfl (by kernel_rfl) (fun _ _ _ h => h) (Or.inl ⟨by rfl, ?_⟩) ?_ ?_
      rotate_left
      · intro w'
        go_simp
        with_reducible rfl
      rotate_left
      · simp only [Act.put, List.setIfInBounds_toArray, List.set_cons_zero, List.set_cons_succ, i64_w, i32_w]
        rfl
      refine pure_ (i := 6) (N := some 93) (v := ?_) (a' := ?_) #[true, true, true, false, true, true, true, false, false, false, false, false, false, false, false] rfl rfl (by kernel_rfl) (fun _ _ _ h => h) (Or.inl ⟨by rfl, ?_⟩) ?_ ?_
      rotate_left
      · intro w'
        go_simp
        with_reducible rfl
      rotate_left
      · simp only [Act.put, List.setIfInBounds_toArray, List.set_cons_zero, List.set_cons_succ, i64_w, i32_w]
        rfl
      refine pure_ (i := 7) (N := some 94) (v := ?_) (a' := ?_) #[true, true, true, false, true, true, true, true, false, false, false, false, false, false, false] rfl rfl (by kernel_rfl) (fun _ _ _ h => h) (Or.inl ⟨by rfl, ?_⟩) ?_ ?_
      rotate_left
      · intro w'
        go_simp
        with_reducible rfl
      rotate_left
      · simp only [Act.put, List.setIfInBounds_toArray, List.set_cons_zero, List.set_cons_succ, i64_w, i32_w]
        rfl
      refine pure_ (i := 10) (N := some 97) (v := ?_) (a' := ?_) #[true, true, true, false, true, true, true, true, false, false, true, false, false, false, false] rfl rfl (by kernel_rfl) (fun _ _ _ h => h) (Or.inl ⟨by rfl, ?_⟩) ?_ ?_
      rotate_left
      · intro w'
        go_simp
        with_reducible rfl
      rotate_left
      · simp only [Act.put, List.setIfInBounds_toArray, List.set_cons_zero, List.set_cons_succ, i64_w, i32_w]
        rfl
      refine pure_ (i := 13) (N := some 100) (v := ?_) (a' := ?_) #[true, true, true, false, true, true, true, true, false, false, true, false, false, true, false] rfl rfl (by kernel_rfl) (fun _ _ _ h => h) (Or.inl ⟨by rfl, ?_⟩) ?_ ?_
      rotate_left
      · intro w'
        go_simp
        with_reducible rfl
      rotate_left
      · simp only [Act.put, List.setIfInBounds_toArray, List.set_cons_zero, List.set_cons_succ, i64_w, i32_w]
        rfl
      refine take_ (i := 3) (N := some 90) (v := ?_) (a' := ?_) #[true, true, true, true, true, true, true, true, false, false, true, false, false, true, false] rfl rfl (by kernel_rfl) (fun _ _ _ h => h) (Or.inl ⟨by rfl, ?_⟩) hHeld ?_ ?_
      rotate_left
      · rintro w' ⟨s0, s1, s2⟩
        go_simp
        with_reducible rfl
      rotate_left
      · simp only [Act.put, List.setIfInBounds_toArray, List.set_cons_zero, List.set_cons_succ, i64_w, i32_w]
        rfl
      refine take_ (i := 8) (N := some 95) (v := ?_) (a' := ?_) #[true, true, true, true, true, true, true, true, true, false, true, false, false, true, false] rfl rfl (by kernel_rfl) (fun _ _ _ h => h) (Or.inl ⟨by rfl, ?_⟩) hHeld ?_ ?_
      rotate_left
      · rintro w' ⟨s0, s1, s2⟩
        go_simp
        with_reducible rfl
      rotate_left
      · simp only [Act.put, List.setIfInBounds_toArray, List.set_cons_zero, List.set_cons_succ, i64_w, i32_w]
        rfl
      refine pure_ (i := 9) (N := some 96) (v := ?_) (a' := ?_) #[true, true, true, true, true, true, true, true, true, true, true, false, false, true, false] rfl rfl (by kernel_rfl) (fun _ _ _ h => h) (Or.inl ⟨by rfl, ?_⟩) ?_ ?_
      rotate_left
      · intro w'
        go_simp
        with_reducible rfl
      rotate_left
      · simp only [Act.put, List.setIfInBounds_toArray, List.set_cons_zero, List.set_cons_succ, i64_w, i32_w]
        rfl
      refine pure_ (i := 11) (N := some 98) (v := ?_) (a' := ?_) #[true, true, true, true, true, true, true, true, true, true, true, true, false, true, false] rfl rfl (by kernel_rfl) (fun _ _ _ h => h) (Or.inl ⟨by rfl, ?_⟩) ?_ ?_
      rotate_left
      · intro w'
        go_simp
        with_reducible rfl
      rotate_left
      · simp only [Act.put, List.setIfInBounds_toArray, List.set_cons_zero, List.set_cons_succ, i64_w, i32_w]
        rfl
      refine pure_ (i := 12) (N := some 99) (v := ?_) (a' := ?_) #[true, true, true, true, true, true, true, true, true, true, true, true, true, true, false] rfl rfl (by kernel_rfl) (fun _ _ _ h => h) (Or.inl ⟨by rfl, ?_⟩) ?_ ?_
      rotate_left
      · intro w'
        go_simp
        with_reducible rfl
      rotate_left
      · simp only [Act.put, List.setIfInBounds_toArray, List.set_cons_zero, List.set_cons_succ, i64_w, i32_w]
        rfl
      refine one_ (i := 14) (N := some 101) #[true, true, true, true, true, true, true, true, true, true, true, true, true, true, true] rfl rfl (by kernel_rfl) (by decide) (fun K hK => ?_)
      refine step_copy_row (by rfl) HRc.out HOc.out p (L.length - p) (cap - p) 0 i capo hcp1 hcp2 (.tmp 99) (.tmp 100) rfl rfl rfl rfl (by rfl) (by rfl) ?_
      intro w13 hR13 hg13
      have HK13 := Aside0.mk (HKc.out.wrote hR13 hg13)
      have HR13 := Aside0.mk hR13
      clear hR13 hg13
      refine hK.out _ _ ⟨HK13.out.c1, HK13.out.c2, HK13.out⟩ (fun hHeld => ?_)
      clear hK K
      refine norm_ (a' := ?_) ?_ ?_
      rotate_left
      · show Act.put _ (some 101) _ = _
        simp only [Act.put, List.setIfInBounds_toArray, List.set_cons_zero, List.set_cons_succ, i64_w, i32_w]
        rfl
      refine done_ (by kernel_rfl) ?_
      clear hw1 hq1 hq2 hq3 hcut hcp1 hcp2
      have hmin : min i (L.length - p) = i := by omega
      have hl' : (splice L p O).length = L.length := splice_length _ _ _ (by omega)
      have hR13 := HR13.out
      rw [List.drop_zero, hmin, List.take_of_length_le (Nat.le_of_eq hOl)] at hR13
      go_wp2_with fail
      refine (rmend_calls (HG.out.wrote HK13.out.grown hR13 hl') n HHN.out).mono ?_
      rintro e w10 ⟨rfl, hR10, hg10⟩
      go_wp2
      refine ⟨rfl, .tuple #[], results_none rfl _ _ _, ?_⟩
      rw [EO.out]
      exact ⟨rfl, hR10, grown_trans HK13.out.grown hg10⟩
end Go.Proofs.YtcfndcjbgalnpaaDoor.Hand
namespace Go.Proofs.YtcfndcjbgalnpaaDoor.Hand
open Go.RowKit Go.Proofs.YtcfndcjbgalnpaaDoorW.PrintWords Go.Proofs.YtcfndcjbgalnpaaDoorW.PrintLast
theorem reads_all {w : World} {b : Nat} {L : List C5} (h : RowAt w b L) (hl : L.length ≤ 12000) : Kd.C kC w (some ⟨b, 0, none⟩) L.length L := by
  have := h.reads 0 L.length (by omega) (by omega)
  simpa using this
set_option maxRecDepth 100000 in
set_option maxHeartbeats 4000000 in
theorem rcopy_calls {w : World} {base g b r c : Nat} {L : List C5} (h : RefAt w base g b r c L) :
    Calls Tryd.prog 27 #[.pointer (some ⟨g, 0, none⟩)] w (fun e w' => ∃ g' b', e = .returned (.pointer (some ⟨g', 0, none⟩)) ∧ RefAt w' w.heap.size g' b' r c L ∧ Below w.heap.size w w') := by
  have HG := Aside0.mk h
  have HRd := Aside0.mk (h.row.below (below_drew (Below.refl w.heap.size w)))
  obtain ⟨cap, k1, k2, hk⟩ := h.kbase (below_drew (Below.refl w.heap.size w))
  have HKd := Aside0.mk hk
  have hsm := h.small
  have hpos : 0 < (([] : List C5) ++ L).length := by rw [List.nil_append, h.len]; exact Nat.mul_pos h.r1 h.c1
  have hbyt : (([] : List C5).length + L.length) * 40 ≤ 140737488355328 := by rw [List.length_nil]; omega
  clear h hk
  go_enter Tryd.func27, Tryd.ntmps27
  go_wp2
  refine start_ (n := 17) (S := fun w' => w'.cell? ⟨g, 0, none⟩ = some (.int .i64 (r : Int)) ∧ w'.cell? ⟨g, 1, none⟩ = some (.int .i64 (c : Int)) ∧ w'.cell? ⟨g, 2, none⟩ = some (.slice (some ⟨b, 0, none⟩) L.length cap) ∧ KBase w g b r c L.length cap [] w') (ds := []) #[false, false, false, false, false, false, false, false, false, false, false, false, false, false, false, false, false] (by kernel_rfl) rfl rfl ⟨HKd.out.c0, HKd.out.c1, HKd.out.c2, HKd.out⟩ (fun hHeld => ?_)
  refine pure_ (i := 0) (N := some 3) (v := ?_) (a' := ?_) #[true, false, false, false, false, false, false, false, false, false, false, false, false, false, false, false, false] rfl rfl (by kernel_rfl) (fun _ _ _ h => h) (Or.inl ⟨by rfl, ?_⟩) ?_ ?_
  rotate_left
  · intro w'
    go_simp
    with_reducible rfl
  rotate_left
  · simp only [Act.put, List.setIfInBounds_toArray, List.set_cons_zero, List.set_cons_succ, i64_w, i32_w]
    rfl
  refine pure_ (i := 1) (N := some 4) (v := ?_) (a' := ?_) #[true, true, false, false, false, false, false, false, false, false, false, false, false, false, false, false, false] rfl rfl (by kernel_rfl) (fun _ _ _ h => h) (Or.inl ⟨by rfl, ?_⟩) ?_ ?_
  rotate_left
  · intro w'
    go_simp
    with_reducible rfl
  rotate_left
  · simp only [Act.put, List.setIfInBounds_toArray, List.set_cons_zero, List.set_cons_succ, i64_w, i32_w]
    rfl
  refine pure_ (i := 2) (N := some 5) (v := ?_) (a' := ?_) #[true, true, true, false, false, false, false, false, false, false, false, false, false, false, false, false, false] rfl rfl (by kernel_rfl) (fun _ _ _ h => h) (Or.inl ⟨by rfl, ?_⟩) ?_ ?_
  rotate_left
  · intro w'
    go_simp
    with_reducible rfl
  rotate_left
  · simp only [Act.put, List.setIfInBounds_toArray, List.set_cons_zero, List.set_cons_succ, i64_w, i32_w]
    rfl
  refine pure_ (i := 4) (N := some 7) (v := ?_) (a' := ?_) #[true, true, true, false, true, false, false, false, false, false, false, false, false, false, false, false, false] rfl rfl (by kernel_rfl) (fun _ _ _ h => h) (Or.inl ⟨by rfl, ?_⟩) ?_ ?_
  rotate_left
  · intro w'
    go_simp
    with_reducible rfl
  rotate_left
  · simp only [Act.put, List.setIfInBounds_toArray, List.set_cons_zero, List.set_cons_succ, i64_w, i32_w]
    rfl
  refine pure_ (i := 5) (N := some 8) (v := ?_) (a' := ?_) #[true, true, true, false, true, true, false, false, false, false, false, false, false, false, false, false, false] rfl rfl (by kernel_rfl) (fun _ _ _ h => h) (Or.inl ⟨by rfl, ?_⟩) ?_ ?_
  rotate_left
  · intro w'
    go_simp
    with_reducible rfl
  rotate_left
  · simp only [Act.put, List.setIfInBounds_toArray, List.set_cons_zero, List.set_cons_succ, i64_w, i32_w]
    rfl
  refine pure_ (i := 6) (N := some 9) (v := ?_) (a' := ?_) #[true, true, true, false, true, true, true, false, false, false, false, false, false, false, false, false, false] rfl rfl (by kernel_rfl) (fun _ _ _ h => h) (Or.inl ⟨by rfl, ?_⟩) ?_ ?_
  rotate_left
  · intro w'
    go_simp
    with_reducible rfl
  rotate_left
  · simp only [Act.put, List.setIfInBounds_toArray, List.set_cons_zero, List.set_cons_succ, i64_w, i32_w]
    rfl
  refine pure_ (i := 9) (N := some 12) (v := ?_) (a' := ?_) #[true, true, true, false, true, true, true, false, false, true, false, false, false, false, false, false, false] rfl rfl (by kernel_rfl) (fun _ _ _ h => h) (Or.inl ⟨by rfl, ?_⟩) ?_ ?_
  rotate_left
  · intro w'
    go_simp
    with_reducible rfl
  rotate_left
  · simp only [Act.put, List.setIfInBounds_toArray, List.set_cons_zero, List.set_cons_succ, i64_w, i32_w]
    rfl
  refine pure_ (i := 10) (N := some 13) (v := ?_) (a' := ?_) #[true, true, true, false, true, true, true, false, false, true, true, false, false, false, false, false, false] rfl rfl (by kernel_rfl) (fun _ _ _ h => h) (Or.inl ⟨by rfl, ?_⟩) ?_ ?_
  rotate_left
  · intro w'
    go_simp
    with_reducible rfl
  rotate_left
  · simp only [Act.put, List.setIfInBounds_toArray, List.set_cons_zero, List.set_cons_succ, i64_w, i32_w]
    rfl
  refine pure_ (i := 11) (N := some 14) (v := ?_) (a' := ?_) #[true, true, true, false, true, true, true, false, false, true, true, true, false, false, false, false, false] rfl rfl (by kernel_rfl) (fun _ _ _ h => h) (Or.inl ⟨by rfl, ?_⟩) ?_ ?_
  rotate_left
  · intro w'
    go_simp
    with_reducible rfl
  rotate_left
  · simp only [Act.put, List.setIfInBounds_toArray, List.set_cons_zero, List.set_cons_succ, i64_w, i32_w]
    rfl
  refine take_ (i := 3) (N := some 6) (v := ?_) (a' := ?_) #[true, true, true, true, true, true, true, false, false, true, true, true, false, false, false, false, false] rfl rfl (by kernel_rfl) (fun _ _ _ h => h) (Or.inl ⟨by rfl, ?_⟩) hHeld ?_ ?_
  rotate_left
  · rintro w' ⟨s0, s1, s2, s3⟩
    go_simp
    with_reducible rfl
  rotate_left
  · simp only [Act.put, List.setIfInBounds_toArray, List.set_cons_zero, List.set_cons_succ, i64_w, i32_w]
    rfl
  refine take_ (i := 7) (N := some 10) (v := ?_) (a' := ?_) #[true, true, true, true, true, true, true, true, false, true, true, true, false, false, false, false, false] rfl rfl (by kernel_rfl) (fun _ _ _ h => h) (Or.inl ⟨by rfl, ?_⟩) hHeld ?_ ?_
  rotate_left
  · rintro w' ⟨s0, s1, s2, s3⟩
    go_simp
    with_reducible rfl
  rotate_left
  · simp only [Act.put, List.setIfInBounds_toArray, List.set_cons_zero, List.set_cons_succ, i64_w, i32_w]
    rfl
  refine take_ (i := 12) (N := some 15) (v := ?_) (a' := ?_) #[true, true, true, true, true, true, true, true, false, true, true, true, true, false, false, false, false] rfl rfl (by kernel_rfl) (fun _ _ _ h => h) (Or.inl ⟨by rfl, ?_⟩) hHeld ?_ ?_
  rotate_left
  · rintro w' ⟨s0, s1, s2, s3⟩
    go_simp
    with_reducible rfl
  rotate_left
  · simp only [Act.put, List.setIfInBounds_toArray, List.set_cons_zero, List.set_cons_succ, i64_w, i32_w]
    rfl
  refine one_ (i := 8) (N := some 11) #[true, true, true, true, true, true, true, true, true, true, true, true, true, false, false, false, false] rfl rfl (by kernel_rfl) (by decide) (fun K hK => ?_)
  refine Kd.R_lit_step kC (w0 := w.drew) w.drew.heap.size 32 ?hg (N := 11) ?hd (xs := ([] : List C5)) (inner := []) (ok := fun _ => True) (okp := fun _ => True) ?hr ?hp (fun _ hk => hk) trivial (Below.refl _ _) (Nat.le_refl _) (by simp) ?_; (case hd => rfl); (case hg => rfl); (case hr => first | (go_simp; done) | (go_simp; rfl)); (case hp => exact (Reps.none _ _))
  intro v8 w8 ho8 hb8 hg8 hn8
  clear hg8 hn8
  have HO8 := Aside0.mk ho8
  have HB8 := Aside0.mk hb8
  have HK8 := Aside0.mk (HKd.out.next hb8)
  have HR8 := Aside0.mk (HRd.out.below hb8)
  clear ho8 hb8
  refine hK.out _ _ ⟨HK8.out.c0, HK8.out.c1, HK8.out.c2, HK8.out⟩ (fun hHeld => ?_)
  clear hK K
  refine norm_ (a' := ?_) ?_ ?_
  rotate_left
  · show Act.put _ (some 11) _ = _
    simp only [Act.put, List.setIfInBounds_toArray, List.set_cons_zero, List.set_cons_succ, i64_w, i32_w]
    rfl
  refine one_ (i := 13) (N := some 16) #[true, true, true, true, true, true, true, true, true, true, true, true, true, true, false, false, false] rfl rfl (by kernel_rfl) (by decide) (fun K hK => ?_)
  refine Kd.R_append_rows_step kC (w0 := w.drew) w.drew.heap.size (by rfl) (.tmp 11) (.tmp 15) 49 32 (C5.agg ⟨0, 0, 0, 0, 0⟩) 40 rfl Tryd.underlying49 info_cell3 rfl (by decide) (by decide) v8 [] L _ _ _ (fun _ => True) (fun _ => False) (by rfl) (by rfl) HO8.out (reads_all HR8.out hsm) (fun _ _ h => kC_M.2 (kC_Kv h)) (fun _ h => h.elim) (fun _ _ => trivial) HB8.out HB8.out.size hbyt ?_
  intro v9 w9 ho9 hb9 hg9 hat9
  obtain ⟨b9, cap9, rfl, hbb9, _, hM9, hc9, hm9⟩ := rowAt_of_R ho9 hpos
  have HB9 := Aside0.mk hb9
  have HK9 := Aside0.mk (HKd.out.next hb9)
  have HR9 := Aside0.mk hM9
  clear ho9 hb9 hg9 hat9 hM9
  refine hK.out _ _ ⟨HK9.out.c0, HK9.out.c1, HK9.out.c2, HK9.out⟩ (fun hHeld => ?_)
  clear hK K
  refine norm_ (a' := ?_) ?_ ?_
  rotate_left
  · show Act.put _ (some 16) _ = _
    simp only [Act.put, List.setIfInBounds_toArray, List.set_cons_zero, List.set_cons_succ, i64_w, i32_w]
    rfl
  refine pure_ (i := 14) (N := some 17) (v := ?_) (a' := ?_) #[true, true, true, true, true, true, true, true, true, true, true, true, true, true, true, false, false] rfl rfl (by kernel_rfl) (fun _ _ _ h => h) (Or.inl ⟨by rfl, ?_⟩) ?_ ?_
  rotate_left
  · intro w'
    go_simp
    with_reducible rfl
  rotate_left
  · simp only [Act.put, List.setIfInBounds_toArray, List.set_cons_zero, List.set_cons_succ, i64_w, i32_w]
    rfl
  refine one_ (i := 15) (N := some 18) #[true, true, true, true, true, true, true, true, true, true, true, true, true, true, true, true, false] rfl rfl (by kernel_rfl) (by decide) (fun K hK => ?_)
  refine box_step ?hg (N := 18) ?hd (cs := #[.int .i64 r, .int .i64 c, .slice (some ⟨b9, 0, none⟩) L.length cap9]) (t := 59) ?hr ?_; (case hd => rfl); (case hg => rfl); (case hr => first | (go_simp; done) | (go_simp; rfl))
  intro g10 hge10 w10 hX10 hb10
  have HK10 := Aside0.mk (HK9.out.next hb10)
  have HR10 := Aside0.mk (HR9.out.below hb10)
  have HX10 := Aside0.mk hX10
  have HB10 := Aside0.mk (below_step HB9.out hb10)
  have HG10 := Aside0.mk hge10
  clear hb10 hX10 hge10
  refine hK.out _ _ ⟨HK10.out.c0, HK10.out.c1, HK10.out.c2, HK10.out⟩ (fun hHeld => ?_)
  clear hK K
  refine norm_ (a' := ?_) ?_ ?_
  rotate_left
  · show Act.put _ (some 18) _ = _
    simp only [Act.put, List.setIfInBounds_toArray, List.set_cons_zero, List.set_cons_succ, i64_w, i32_w]
    rfl
  refine pure_ (i := 16) (N := some 2) (v := ?_) (a' := ?_) #[true, true, true, true, true, true, true, true, true, true, true, true, true, true, true, true, true] rfl rfl (by kernel_rfl) (fun _ _ _ h => h) (Or.inl ⟨by rfl, ?_⟩) ?_ ?_
  rotate_left
  · intro w'
    go_simp
    with_reducible rfl
  rotate_left
  · simp only [Act.put, List.setIfInBounds_toArray, List.set_cons_zero, List.set_cons_succ, i64_w, i32_w]
    rfl
  refine done_ (by kernel_rfl) ?_
  go_wp2
  go_ret
  have hb0 := below_drew (Below.refl w.heap.size w)
  have hsz := hb0.size
  have h10 := HG10.out
  have h9 := HR9.out.lt
  exact ⟨g10, b9, rfl, ⟨⟨cap9, HX10.out, hc9, hm9⟩, HR10.out, HG.out.len, HG.out.r1, HG.out.r2, HG.out.c1, HG.out.c2, by omega, by omega, by omega⟩, below_step hb0 HB10.out⟩
end Go.Proofs.YtcfndcjbgalnpaaDoor.Hand
namespace Go.Proofs.YtcfndcjbgalnpaaDoor.Hand
open Go.RowKit Go.Proofs.YtcfndcjbgalnpaaDoorW.PrintWords Go.Proofs.YtcfndcjbgalnpaaDoorW.PrintLast
theorem KBase.away {w W : World} {g b r c n cap : Nat} {xs : List (Nat × Obj)} (h : KBase w g b r c n cap xs W) {k : Nat} (hk : W.heap.size ≤ k) : k ≠ g ∧ k ≠ b ∧ (∀ p ∈ xs, p.1 ≠ k) ∧ w.heap.size ≤ k := by
  have h1 := blk_lt h.blk
  obtain ⟨cs, h2⟩ := h.row
  have h3 := blk_lt h2
  have h4 := h.grown.size
  refine ⟨by omega, by omega, fun p hp => ?_, by omega⟩
  have := blk_lt (h.ext p hp)
  omega
theorem KBase.newblk {w W W' : World} {g b r c n cap : Nat} {xs : List (Nat × Obj)} (h : KBase w g b r c n cap xs W) {k : Nat} (hk : k ≠ g ∧ k ≠ b ∧ (∀ p ∈ xs, p.1 ≠ k) ∧ w.heap.size ≤ k) (hg : W.grownBy W' (some k)) : KBase w g b r c n cap xs W' := by
  obtain ⟨k1, k2, k3, k4⟩ := hk
  obtain ⟨cs, h2⟩ := h.row
  exact ⟨grown_new h.grown hg k4, (hg.block g (blk_lt h.blk) (fun e => k1 (Option.some.inj e).symm)).trans h.blk, ⟨cs, (hg.block b (blk_lt h2) (fun e => k2 (Option.some.inj e).symm)).trans h2⟩, fun p hp => (hg.block p.1 (blk_lt (h.ext p hp)) (fun e => k3 p hp (Option.some.inj e))).trans (h.ext p hp), h.far⟩
theorem movA_in {L : List C5} {o0 c H i cc v : Nat} {D : Int} {x : C5} (hL : o0 + H * c ≤ L.length) (hcc : cc < c) (h1 : (i : Int) + D = (v : Int)) (h2 : v < H) : movA ((L.drop o0).take (H * c)) (D * c) x (i * c + cc) = L.getD (o0 + (v * c + cc)) z5 := by
  have e : ((i * c + cc : Nat) : Int) + D * c = ((v * c + cc : Nat) : Int) := by
    have : D * (c : Int) = (v : Int) * c - i * c := by rw [← h1, Int.add_mul]; omega
    push_cast
    omega
  have hv : v * c + c ≤ H * c := by
    have := Nat.mul_le_mul_right c (show v + 1 ≤ H by omega)
    rw [Nat.add_mul, Nat.one_mul] at this
    exact this
  have hl : ((L.drop o0).take (H * c)).length = H * c := part_length L o0 (H * c) hL
  unfold movA
  rw [e, hl, if_pos ⟨by omega, by omega⟩, Int.toNat_natCast, List.getD_eq_getElem?_getD, List.getD_eq_getElem?_getD, List.getElem?_take_of_lt (by omega), List.getElem?_drop]
theorem movA_out {L : List C5} {o0 c H i cc : Nat} {D : Int} {x : C5} (hL : o0 + H * c ≤ L.length) (hcc : cc < c) (h1 : ¬ (0 ≤ (i : Int) + D ∧ (i : Int) + D < H)) : movA ((L.drop o0).take (H * c)) (D * c) x (i * c + cc) = x := by
  have hl : ((L.drop o0).take (H * c)).length = H * c := part_length L o0 (H * c) hL
  have e : ((i * c + cc : Nat) : Int) + D * c = ((i : Int) + D) * c + cc := by
    rw [Int.add_mul]
    push_cast
    omega
  unfold movA
  rw [if_neg]
  rw [e, hl]
  rintro ⟨q1, q2⟩
  apply h1
  generalize (i : Int) + D = K at *
  refine ⟨?_, ?_⟩
  · apply Int.not_lt.1
    intro hK
    have := Int.mul_le_mul_of_nonneg_right (show K ≤ -1 by omega) (show (0 : Int) ≤ c by omega)
    omega
  · apply Int.not_le.1
    intro hK
    have := Int.mul_le_mul_of_nonneg_right hK (show (0 : Int) ≤ c by omega)
    push_cast at q2
    omega
def rscrollG (r c : Nat) (L : List C5) (top bot n : Int) (a2 : Int) (m : Bool) : List C5 :=
  if (decide (0 ≤ top ∧ top ≤ bot ∧ bot < r) && m) = true then splice L (top.toNat * c) (movd ((L.drop (top.toNat * c)).take ((bot + 1 - top).toNat * c)) (min (max n (-(bot + 1 - top))) (bot + 1 - top) * c) (blankC a2) ((bot + 1 - top).toNat * c)) else L
set_option maxRecDepth 100000 in
set_option maxHeartbeats 8000000 in
theorem rscroll_calls {w : World} {base g b r c : Nat} {L : List C5} (h : RefAt w base g b r c L) (top bot d a0 a1 a2 : Int) (mm : Bool) (hm : PD.tikref6_MayAttr.f a0 a1 a2 = some mm) :
    Calls Tryd.prog 47 #[.pointer (some ⟨g, 0, none⟩), .int .i64 top, .int .i64 bot, .int .i64 d, .agg #[.int .i64 a0, .int .i64 a1, .int .i64 a2]] w (fun e w' => e = .returned (.tuple #[]) ∧ RowAt w' b (rscrollG r c L top bot d a2 mm) ∧ w.grownBy w' (some b)) := by
  have HG := Aside0.mk h
  have HM := Aside0.mk hm
  clear h hm
  have EO : Aside0 (rscrollG r c L top bot d a2 mm = if (decide (0 ≤ top ∧ top ≤ bot ∧ bot < r) && mm) = true then splice L (top.toNat * c) (movd ((L.drop (top.toNat * c)).take ((bot + 1 - top).toNat * c)) (min (max d (-(bot + 1 - top))) (bot + 1 - top) * c) (blankC a2) ((bot + 1 - top).toNat * c)) else L) := ⟨rfl⟩
  go_enter Tryd.func47, Tryd.ntmps47
  go_upto_region 1 with ((with_reducible refine gate_dst (N := 9) rfl ?_); refine box_event ?hg (N := 9) ?hd (cs := #[.int .i64 a0, .int .i64 a1, .int .i64 a2]) (t := 23) ?hr ?_; (case hd => rfl); (case hg => rfl); (case hr => first | (go_simp; done) | (go_simp; rfl)); intro gb hg w3 hbox hb; have HX := Aside0.mk hbox; have HB3 := Aside0.mk hb; have HGB := Aside0.mk (Nat.le_of_eq hg.symm); clear hbox hb hg)
  obtain ⟨cap, k1, k2, hk⟩ := HG.out.kbase HB3.out
  have hnb : gb ≠ b := by have := HG.out.row.lt; have := HGB.out; omega
  have HK3 := Aside0.mk (hk.more (k := gb) HX.out hnb)
  have HR3 := Aside0.mk (HG.out.row.below HB3.out)
  clear hk HX hnb
  have zr := HK3.out.c0
  have x0 : w3.cell? ⟨gb, 0, none⟩ = some (.int .i64 a0) := (blk_cell HK3.out.top 0).trans rfl
  have x1 : w3.cell? ⟨gb, 1, none⟩ = some (.int .i64 a1) := (blk_cell HK3.out.top 1).trans rfl
  have x2 : w3.cell? ⟨gb, 2, none⟩ = some (.int .i64 a2) := (blk_cell HK3.out.top 2).trans rfl
  by_cases h1 : top < 0
  · go_wp2_with fail
    refine ⟨rfl, .tuple #[], results_none rfl _ _ _, ?_⟩
    rw [EO.out, decide_eq_false (by omega), Bool.false_and, if_neg (by decide)]
    exact ⟨rfl, HR3.out, HK3.out.grown⟩
  by_cases h3 : top > bot
  · go_wp2_with fail
    refine ⟨rfl, .tuple #[], results_none rfl _ _ _, ?_⟩
    rw [EO.out, decide_eq_false (by omega), Bool.false_and, if_neg (by decide)]
    exact ⟨rfl, HR3.out, HK3.out.grown⟩
  by_cases h2 : bot ≥ (r : Int)
  · go_wp2_with fail
    refine ⟨rfl, .tuple #[], results_none rfl _ _ _, ?_⟩
    rw [EO.out, decide_eq_false (by omega), Bool.false_and, if_neg (by decide)]
    exact ⟨rfl, HR3.out, HK3.out.grown⟩
  rw [decide_eq_true (show 0 ≤ top ∧ top ≤ bot ∧ bot < r by omega), Bool.true_and] at EO
  go_wp2_with fail
  refine (PD.tikref6_MayAttr.calls a0 a1 a2 mm w3 HM.out).mono ?_
  rintro e w6 ⟨rfl, hb4⟩
  have HB6 := Aside0.mk (below_step HB3.out hb4)
  have HK6 := Aside0.mk (HK3.out.next hb4)
  have HR6 := Aside0.mk (HR3.out.below hb4)
  clear hb4 HK3 HR3 zr x0 x1 x2 HB3
  cases mm with
  | false =>
    go_wp2_with fail
    refine ⟨rfl, .tuple #[], results_none rfl _ _ _, ?_⟩
    rw [EO.out, if_neg (by decide)]
    exact ⟨rfl, HR6.out, HK6.out.grown⟩
  | true =>
  rw [if_pos rfl] at EO
  obtain ⟨t0, rfl⟩ := Int.eq_ofNat_of_zero_le (show 0 ≤ top by omega)
  obtain ⟨b0, rfl⟩ := Int.eq_ofNat_of_zero_le (show 0 ≤ bot by omega)
  obtain ⟨H, hH⟩ : ∃ H, b0 + 1 - t0 = H := ⟨_, rfl⟩
  have hH2 : (b0 : Int) + 1 - (t0 : Int) = (H : Int) := by omega
  rw [hH2, Int.toNat_natCast, Int.toNat_natCast] at EO
  have htH : t0 + H ≤ r := by omega
  have hH1 : 1 ≤ H := by omega
  have hr60 := HG.out.r2
  have hc2 := HG.out.c2
  have hsm := HG.out.small
  have hHc : t0 * c + H * c ≤ L.length := by
    have := Nat.mul_le_mul_right c htH
    rw [Nat.add_mul] at this
    rw [HG.out.len]
    exact this
  obtain ⟨o0, ho0⟩ : ∃ o0, t0 * c = o0 := ⟨_, rfl⟩
  rw [ho0] at EO hHc
  have hD : ∃ X D : Int, max d (-(H : Int)) = X ∧ min X (H : Int) = D ∧ (if d < -(H : Int) then -(H : Int) else d) = X ∧ (if (H : Int) < X then (H : Int) else X) = D ∧ -(H : Int) ≤ D ∧ D ≤ H := ⟨max d (-(H : Int)), min (max d (-(H : Int))) (H : Int), rfl, rfl, by omega, by omega, by omega, by omega⟩
  obtain ⟨X, D, hX, hD, hX2, hD2, hDl, hDu⟩ := hD
  rw [hX, hD] at EO
  clear hX hD h1 h2 h3
  have HX2 := Aside0.mk hX2
  have HD2 := Aside0.mk hD2
  have HDl := Aside0.mk hDl
  have HDu := Aside0.mk hDu
  have HHC := Aside0.mk hHc
  have HO0 := Aside0.mk ho0
  have HTH := Aside0.mk htH
  clear hX2 hD2 hDl hDu ho0
  have hs1 : (b0 : Int) - (t0 : Int) = (H : Int) - 1 := by omega
  have hs2 : (H : Int) - 1 + 1 = (H : Int) := by omega
  have HS1 : Aside0 (wrap64 ((H : Int) - 1) = (H : Int) - 1) := ⟨by unfold wrap64; omega⟩
  have HS2 : Aside0 (wrap64 (H : Int) = (H : Int)) := ⟨by unfold wrap64; omega⟩
  have HN1 : Aside0 (wrap64 (-(H : Int)) = -(H : Int)) := ⟨by unfold wrap64; omega⟩
  have hq1 := HS1.out
  have hq2 : IntKind.i64.wrap ((H : Int) - 1) = (H : Int) - 1 := by rw [i64_w]; exact hq1
  have hq3 := HS2.out
  have hq4 : IntKind.i64.wrap (H : Int) = (H : Int) := by rw [i64_w]; exact hq3
  have hN1 := HN1.out
  have hN2 : IntKind.i64.wrap (-(H : Int)) = -(H : Int) := by rw [i64_w]; exact hN1
  have hX2 := HX2.out
  have hD2 := HD2.out
  go_wp2_with fail
  clear hs1 hs2 hq1 hq2 hq3 hq4 hN1 hN2 hX2 hD2
  refine (rcopy_calls (HG.out.below HB6.out)).mono ?_
  rintro e w7 ⟨gw, bw, rfl, hG7, hb7⟩
  obtain ⟨capw, hgw, _, _⟩ := hG7.blk
  have hkn := HK6.out.away hG7.bg
  have hkb := HK6.out.away hG7.bb
  have HK7 := Aside0.mk ((HK6.out.next hb7).more (k := gw) hgw hkn.2.1)
  have HR7 := Aside0.mk (HR6.out.below hb7)
  have HW7 := Aside0.mk hG7.row
  have HBW := Aside0.mk hkb.2.1
  clear hG7 hb7 hgw hkn hkb HK6 HR6 HB6
  go_wp2
  skip
  go_loopw [12, 13, 14] (fun v12 _ _ wr => ∃ i : Nat, i ≤ H ∧ v12 = .int .i64 i ∧ Aside0 (RowAt wr b (splice L o0 (movd ((L.drop o0).take (H * c)) (D * c) (blankC a2) (i * c)))) ∧ Aside0 (RowAt wr bw L) ∧ Aside0 (KBase w g b r c L.length cap [(gw, .cells #[.int .i64 r, .int .i64 c, .slice (some ⟨bw, 0, none⟩) L.length capw] 59 (0, 0)), (gb, .cells #[.int .i64 a0, .int .i64 a1, .int .i64 a2] 23 (0, 0))] wr)) (fun v12 _ _ _ => H - (intOf v12).toNat)
  case atStart => exact ⟨0, Nat.zero_le _, rfl, ⟨by rw [Nat.zero_mul]; simpa [movd, splice_none] using HR7.out⟩, HW7, HK7⟩
  case round =>
    obtain ⟨i, hi, rfl, HR8, HW8, HK8⟩ := hrel
    clear HR7 HW7 HK7
    by_cases hlt : i < H
    · have HLT := Aside0.mk hlt
      go_wp2
      go_loopw [13, 14] (fun v13 _ wr => ∃ cc : Nat, cc ≤ c ∧ v13 = .int .i64 cc ∧ Aside0 (RowAt wr b (splice L o0 (movd ((L.drop o0).take (H * c)) (D * c) (blankC a2) (i * c + cc)))) ∧ Aside0 (RowAt wr bw L) ∧ Aside0 (KBase w g b r c L.length cap [(gw, .cells #[.int .i64 r, .int .i64 c, .slice (some ⟨bw, 0, none⟩) L.length capw] 59 (0, 0)), (gb, .cells #[.int .i64 a0, .int .i64 a1, .int .i64 a2] 23 (0, 0))] wr)) (fun v13 _ _ => c - (intOf v13).toNat)
      case atStart => exact ⟨0, Nat.zero_le _, rfl, HR8, HW8, HK8⟩
      case round =>
        obtain ⟨cc, hcc, rfl, HR9, HW9, HK9⟩ := hrel
        clear HR8 HW8 HK8
        have zc := HK9.out.c1
        by_cases hltc : cc < c
        · have HLC := Aside0.mk hltc
          have hic : (i + 1) * c ≤ H * c := Nat.mul_le_mul_right c HLT.out
          rw [Nat.add_mul, Nat.one_mul] at hic
          have hou : (t0 + i) * c = o0 + i * c := by rw [Nat.add_mul, HO0.out]
          obtain ⟨u, hu⟩ : ∃ u, t0 + i = u := ⟨_, rfl⟩
          rw [hu] at hou
          have hHC := HHC.out
          obtain ⟨ou, hoe⟩ : ∃ ou, u * c = ou := ⟨_, rfl⟩
          rw [hoe] at hou
          obtain ⟨p, hp⟩ : ∃ p, ou + cc = p := ⟨_, rfl⟩
          have hpL0 : p < L.length := by omega
          have HPL := Aside0.mk hpL0
          have hpq : p = o0 + (i * c + cc) := by omega
          have HPQ := Aside0.mk hpq
          have hpx : o0 + (i * c + cc) < L.length := by omega
          have HPX : Aside0 (o0 + (movd ((L.drop o0).take (H * c)) (D * c) (blankC a2) (i * c + cc)).length < L.length) := ⟨by rw [movd_length]; exact hpx⟩
          have HLP : Aside0 (p < (splice L o0 (movd ((L.drop o0).take (H * c)) (D * c) (blankC a2) (i * c + cc))).length) := ⟨by rw [splice_length _ _ _ (by rw [movd_length]; omega)]; exact hpL0⟩
          have HU1 := Aside0.mk (show (t0 : Int) + (i : Int) = (u : Int) by omega)
          have HU2 : Aside0 (wrap64 (u : Int) = (u : Int)) := ⟨by have := HTH.out; have := HLT.out; unfold wrap64; omega⟩
          have HOU := Aside0.mk (wrap_mul hoe (by omega))
          have HP1 := Aside0.mk (show (ou : Int) + (cc : Int) = (p : Int) by omega)
          have HP2 : Aside0 (wrap64 (p : Int) = (p : Int)) := ⟨by unfold wrap64; omega⟩
          obtain ⟨K, hK⟩ : ∃ K, (i : Int) + D = K := ⟨_, rfl⟩
          have HK3 : Aside0 (wrap64 K = K) := ⟨by have := HDl.out; have := HDu.out; unfold wrap64; omega⟩
          have HKE := Aside0.mk hK
          clear hK hpx hpq hou hic hoe hp hpL0
          have x0 : wr.cell? ⟨gb, 0, none⟩ = some (.int .i64 a0) := (blk_cell HK9.out.second 0).trans rfl
          have x1 : wr.cell? ⟨gb, 1, none⟩ = some (.int .i64 a1) := (blk_cell HK9.out.second 1).trans rfl
          have x2 : wr.cell? ⟨gb, 2, none⟩ = some (.int .i64 a2) := (blk_cell HK9.out.second 2).trans rfl
          go_wp2_with fail
          refine (PD.tikref6_Blank.calls a0 a1 a2 32 0 0 a2 0 _ rfl).mono ?_
          rintro e w10 ⟨rfl, hb10⟩
          have HK10 := Aside0.mk (HK9.out.next hb10)
          have HR10 := Aside0.mk (HR9.out.below hb10)
          have HW10 := Aside0.mk (HW9.out.below hb10)
          clear hb10 x0 x1 x2 zc HK9 HR9 HW9
          go_upto_region 12 with (first
            | ((with_reducible refine gate_dst (N := 14) rfl ?_); refine box_event ?hg (N := 14) ?hd (cs := #[.int .i32 0, .int .i64 0, .int .i64 0, .int .i64 0, .int .i64 0]) (t := 32) ?hr ?_; (case hd => rfl); (case hg => rfl); (case hr => first | (go_simp; done) | (go_simp; rfl)); intro gx hg w11 hbox hb; have HX11 := Aside0.mk hbox; have HB11 := Aside0.mk hb; have HGX := Aside0.mk (Nat.le_of_eq hg.symm); clear hbox hb hg)
            | ((with_reducible refine gate_store (t := 32) (p := 14) (v := .tmp 61) rfl ?_); refine store_box HX11.out rfl (blankC a2) 32 (.tmp 14) (.tmp 61) rfl rfl rfl info_cell rfl rfl ?_; intro w12 HX12 HG12; have HX12 := Aside0.mk HX12; have HG12 := Aside0.mk HG12))
          have hA := HK10.out.away HGX.out
          have HA := Aside0.mk hA
          have HK12 := Aside0.mk (((HK10.out.next HB11.out).newblk hA HG12.out).more (k := gx) HX12.out hA.2.1)
          have HR12 := Aside0.mk ((HR10.out.below HB11.out).grown HG12.out (fun e => hA.2.1 (Option.some.inj e).symm))
          have hwx : bw ≠ gx := by have := HW10.out.lt; have := HGX.out; omega
          have HWX := Aside0.mk hwx
          have HW12 := Aside0.mk ((HW10.out.below HB11.out).grown HG12.out (fun e => hwx (Option.some.inj e)))
          clear hA hwx HK10 HR10 HW10 HX11 HB11 HG12 HX12
          by_cases hin : 0 ≤ K ∧ K < (H : Int)
          · obtain ⟨v, rfl⟩ := Int.eq_ofNat_of_zero_le hin.1
            have hvH : v < H := by omega
            have hvc : (v + 1) * c ≤ H * c := Nat.mul_le_mul_right c hvH
            rw [Nat.add_mul, Nat.one_mul] at hvc
            have hov : (t0 + v) * c = o0 + v * c := by rw [Nat.add_mul, HO0.out]
            obtain ⟨vt, hvt⟩ : ∃ vt, t0 + v = vt := ⟨_, rfl⟩
            rw [hvt] at hov
            obtain ⟨ov, hoe⟩ : ∃ ov, vt * c = ov := ⟨_, rfl⟩
            rw [hoe] at hov
            obtain ⟨q, hq⟩ : ∃ q, ov + cc = q := ⟨_, rfl⟩
            have hqL0 : q < L.length := by have := HLC.out; omega
            have hqq : q = o0 + (v * c + cc) := by omega
            obtain ⟨z, hz⟩ : ∃ z, L[q]? = some z := ⟨L[q], List.getElem?_eq_getElem hqL0⟩
            have HZ := Aside0.mk hz
            have HY : Aside0 (movA ((L.drop o0).take (H * c)) (D * c) (blankC a2) (i * c + cc) = z) := ⟨by rw [movA_in HHC.out HLC.out HKE.out hvH, ← hqq]; exact getD_of hz⟩
            have HV1 := Aside0.mk (show (u : Int) + D = (vt : Int) by have := HKE.out; omega)
            have HV2 : Aside0 (wrap64 (vt : Int) = (vt : Int)) := ⟨by have := HTH.out; unfold wrap64; omega⟩
            have HOV := Aside0.mk (wrap_mul hoe (by omega))
            have HQ1 := Aside0.mk (show (ov : Int) + (cc : Int) = (q : Int) by omega)
            have HQ2 : Aside0 (wrap64 (q : Int) = (q : Int)) := ⟨by unfold wrap64; omega⟩
            have hb2 : decide ((v : Int) < (H : Int)) = true := decide_eq_true hin.2
            have hb3 : (v : Int) < (H : Int) := hin.2
            clear hz hqq hq hoe hov hvt hvc hin
            have hqL := hqL0
            clear hqL0
            have hK := HKE.out
            have hK3 := HK3.out
            have hK2 : IntKind.i64.wrap (v : Int) = (v : Int) := by rw [i64_w]; exact hK3
            have hu1 := HU1.out
            have hu3 := HU2.out
            have hu2 : IntKind.i64.wrap (u : Int) = (u : Int) := by rw [i64_w]; exact hu3
            have hv1 := HV1.out
            have hv3 := HV2.out
            have hv2 : IntKind.i64.wrap (vt : Int) = (vt : Int) := by rw [i64_w]; exact hv3
            have hov1 := HOV.out
            have hq1 := HQ1.out
            have hq3 := HQ2.out
            have hq2 : IntKind.i64.wrap (q : Int) = (q : Int) := by rw [i64_w]; exact hq3
            go_wp2
            have HKd := Aside0.mk (HK12.out.next (below_drew (Below.refl _ _)))
            have HRd := Aside0.mk (HR12.out.below (below_drew (Below.refl _ _)))
            have HWd := Aside0.mk (HW12.out.below (below_drew (Below.refl _ _)))
            refine start_ (n := 19) (S := fun w' => w'.cell? ⟨g, 1, none⟩ = some (.int .i64 (c : Int)) ∧ w'.cell? ⟨gw, 2, none⟩ = some (.slice (some ⟨bw, 0, none⟩) L.length capw) ∧ w'.cell? ⟨bw, q * 5, none⟩ = some (.int .i32 z.r) ∧ w'.cell? ⟨bw, q * 5 + 1, none⟩ = some (.int .i64 z.f) ∧ w'.cell? ⟨bw, q * 5 + 2, none⟩ = some (.int .i64 z.g) ∧ w'.cell? ⟨bw, q * 5 + 3, none⟩ = some (.int .i64 z.b) ∧ w'.cell? ⟨bw, q * 5 + 4, none⟩ = some (.int .i64 z.w) ∧ KBase w g b r c L.length cap [(gx, boxO (blankC a2)), (gw, .cells #[.int .i64 r, .int .i64 c, .slice (some ⟨bw, 0, none⟩) L.length capw] 59 (0, 0)), (gb, .cells #[.int .i64 a0, .int .i64 a1, .int .i64 a2] 23 (0, 0))] w') (ds := [18]) #[false, false, false, false, false, false, false, false, false, false, false, false, false, false, false, false, false, false, false] (by kernel_rfl) rfl rfl ⟨HKd.out.c1, (blk_cell HKd.out.second 2).trans rfl, (by rw [Nat.mul_comm]; exact HWd.out.cell HZ.out 0 (by decide)), (by rw [Nat.mul_comm]; exact HWd.out.cell HZ.out 1 (by decide)), (by rw [Nat.mul_comm]; exact HWd.out.cell HZ.out 2 (by decide)), (by rw [Nat.mul_comm]; exact HWd.out.cell HZ.out 3 (by decide)), (by rw [Nat.mul_comm]; exact HWd.out.cell HZ.out 4 (by decide)), HKd.out⟩ (fun hHeld => ?_)
            refine pure_ (i := 0) (N := some 73) (v := ?_) (a' := ?_) #[true, false, false, false, false, false, false, false, false, false, false, false, false, false, false, false, false, false, false] rfl rfl (by kernel_rfl) (fun _ _ _ h => h) (Or.inl ⟨by rfl, ?_⟩) ?_ ?_
            rotate_left
            · intro w'
              go_simp
              with_reducible rfl
            rotate_left
            · simp only [Act.put, List.setIfInBounds_toArray, List.set_cons_zero, List.set_cons_succ, i64_w, i32_w]
              rfl
            refine pure_ (i := 1) (N := some 74) (v := ?_) (a' := ?_) #[true, true, false, false, false, false, false, false, false, false, false, false, false, false, false, false, false, false, false] rfl rfl (by kernel_rfl) (fun _ _ _ h => h) (Or.inl ⟨by rfl, ?_⟩) ?_ ?_
            rotate_left
            · intro w'
              go_simp
              with_reducible rfl
            rotate_left
            · simp only [Act.put, List.setIfInBounds_toArray, List.set_cons_zero, List.set_cons_succ, i64_w, i32_w]
              rfl
            refine pure_ (i := 2) (N := some 75) (v := ?_) (a' := ?_) #[true, true, true, false, false, false, false, false, false, false, false, false, false, false, false, false, false, false, false] rfl rfl (by kernel_rfl) (fun _ _ _ h => h) (Or.inl ⟨by rfl, ?_⟩) ?_ ?_
            rotate_left
            · intro w'
              go_simp
              with_reducible rfl
            rotate_left
            · simp only [Act.put, List.setIfInBounds_toArray, List.set_cons_zero, List.set_cons_succ, i64_w, i32_w]
              rfl
            refine pure_ (i := 4) (N := some 77) (v := ?_) (a' := ?_) #[true, true, true, false, true, false, false, false, false, false, false, false, false, false, false, false, false, false, false] rfl rfl (by kernel_rfl) (fun _ _ _ h => h) (Or.inl ⟨by rfl, ?_⟩) ?_ ?_
            rotate_left
            · intro w'
              go_simp
              with_reducible rfl
            rotate_left
            · simp only [Act.put, List.setIfInBounds_toArray, List.set_cons_zero, List.set_cons_succ, i64_w, i32_w]
              rfl
            refine pure_ (i := 5) (N := some 78) (v := ?_) (a' := ?_) #[true, true, true, false, true, true, false, false, false, false, false, false, false, false, false, false, false, false, false] rfl rfl (by kernel_rfl) (fun _ _ _ h => h) (Or.inl ⟨by rfl, ?_⟩) ?_ ?_
            rotate_left
            · intro w'
              go_simp
              with_reducible rfl
            rotate_left
            · simp only [Act.put, List.setIfInBounds_toArray, List.set_cons_zero, List.set_cons_succ, i64_w, i32_w]
              rfl
            refine pure_ (i := 6) (N := some 79) (v := ?_) (a' := ?_) #[true, true, true, false, true, true, true, false, false, false, false, false, false, false, false, false, false, false, false] rfl rfl (by kernel_rfl) (fun _ _ _ h => h) (Or.inl ⟨by rfl, ?_⟩) ?_ ?_
            rotate_left
            · intro w'
              go_simp
              with_reducible rfl
            rotate_left
            · simp only [Act.put, List.setIfInBounds_toArray, List.set_cons_zero, List.set_cons_succ, i64_w, i32_w]
              rfl
            refine pure_ (i := 7) (N := some 80) (v := ?_) (a' := ?_) #[true, true, true, false, true, true, true, true, false, false, false, false, false, false, false, false, false, false, false] rfl rfl (by kernel_rfl) (fun _ _ _ h => h) (Or.inl ⟨by rfl, ?_⟩) ?_ ?_
            rotate_left
            · intro w'
              go_simp
              with_reducible rfl
            rotate_left
            · simp only [Act.put, List.setIfInBounds_toArray, List.set_cons_zero, List.set_cons_succ, i64_w, i32_w]
              rfl
            refine pure_ (i := 8) (N := some 81) (v := ?_) (a' := ?_) #[true, true, true, false, true, true, true, true, true, false, false, false, false, false, false, false, false, false, false] rfl rfl (by kernel_rfl) (fun _ _ _ h => h) (Or.inl ⟨by rfl, ?_⟩) ?_ ?_
            rotate_left
            · intro w'
              go_simp
              with_reducible rfl
            rotate_left
            · simp only [Act.put, List.setIfInBounds_toArray, List.set_cons_zero, List.set_cons_succ, i64_w, i32_w]
              rfl
            refine pure_ (i := 9) (N := some 82) (v := ?_) (a' := ?_) #[true, true, true, false, true, true, true, true, true, true, false, false, false, false, false, false, false, false, false] rfl rfl (by kernel_rfl) (fun _ _ _ h => h) (Or.inl ⟨by rfl, ?_⟩) ?_ ?_
            rotate_left
            · intro w'
              go_simp
              with_reducible rfl
            rotate_left
            · simp only [Act.put, List.setIfInBounds_toArray, List.set_cons_zero, List.set_cons_succ, i64_w, i32_w]
              rfl
            refine pure_ (i := 10) (N := some 83) (v := ?_) (a' := ?_) #[true, true, true, false, true, true, true, true, true, true, true, false, false, false, false, false, false, false, false] rfl rfl (by kernel_rfl) (fun _ _ _ h => h) (Or.inl ⟨by rfl, ?_⟩) ?_ ?_
            rotate_left
            · intro w'
              go_simp
              with_reducible rfl
            rotate_left
            · simp only [Act.put, List.setIfInBounds_toArray, List.set_cons_zero, List.set_cons_succ, i64_w, i32_w]
              rfl
            refine pure_ (i := 11) (N := some 84) (v := ?_) (a' := ?_) #[true, true, true, false, true, true, true, true, true, true, true, true, false, false, false, false, false, false, false] rfl rfl (by kernel_rfl) (fun _ _ _ h => h) (Or.inl ⟨by rfl, ?_⟩) ?_ ?_
            rotate_left
            · intro w'
              go_simp
              with_reducible rfl
            rotate_left
            · simp only [Act.put, List.setIfInBounds_toArray, List.set_cons_zero, List.set_cons_succ, i64_w, i32_w]
              rfl
            refine pure_ (i := 14) (N := some 87) (v := ?_) (a' := ?_) #[true, true, true, false, true, true, true, true, true, true, true, true, false, false, true, false, false, false, false] rfl rfl (by kernel_rfl) (fun _ _ _ h => h) (Or.inl ⟨by rfl, ?_⟩) ?_ ?_
            rotate_left
            · intro w'
              go_simp
              with_reducible rfl
            rotate_left
            · simp only [Act.put, List.setIfInBounds_toArray, List.set_cons_zero, List.set_cons_succ, i64_w, i32_w]
              rfl
            refine take_ (i := 3) (N := some 76) (v := ?_) (a' := ?_) #[true, true, true, true, true, true, true, true, true, true, true, true, false, false, true, false, false, false, false] rfl rfl (by kernel_rfl) (fun _ _ _ h => h) (Or.inl ⟨by rfl, ?_⟩) hHeld ?_ ?_
            rotate_left
            · rintro w' ⟨s0, s1, s2, s3, s4, s5, s6, s7⟩
              go_simp
              with_reducible rfl
            rotate_left
            · simp only [Act.put, List.setIfInBounds_toArray, List.set_cons_zero, List.set_cons_succ, i64_w, i32_w]
              rfl
            refine take_ (i := 12) (N := some 85) (v := ?_) (a' := ?_) #[true, true, true, true, true, true, true, true, true, true, true, true, true, false, true, false, false, false, false] rfl rfl (by kernel_rfl) (fun _ _ _ h => h) (Or.inl ⟨by rfl, ?_⟩) hHeld ?_ ?_
            rotate_left
            · rintro w' ⟨s0, s1, s2, s3, s4, s5, s6, s7⟩
              go_simp
              with_reducible rfl
            rotate_left
            · simp only [Act.put, List.setIfInBounds_toArray, List.set_cons_zero, List.set_cons_succ, i64_w, i32_w]
              rfl
            refine pure_ (i := 13) (N := some 86) (v := ?_) (a' := ?_) #[true, true, true, true, true, true, true, true, true, true, true, true, true, true, true, false, false, false, false] rfl rfl (by kernel_rfl) (fun _ _ _ h => h) (Or.inl ⟨by rfl, ?_⟩) ?_ ?_
            rotate_left
            · intro w'
              go_simp
              with_reducible rfl
            rotate_left
            · simp only [Act.put, List.setIfInBounds_toArray, List.set_cons_zero, List.set_cons_succ, i64_w, i32_w]
              rfl
            refine pure_ (i := 15) (N := some 88) (v := ?_) (a' := ?_) #[true, true, true, true, true, true, true, true, true, true, true, true, true, true, true, true, false, false, false] rfl rfl (by kernel_rfl) (fun _ _ _ h => h) (Or.inl ⟨by rfl, ?_⟩) ?_ ?_
            rotate_left
            · intro w'
              go_simp
              with_reducible rfl
            rotate_left
            · simp only [Act.put, List.setIfInBounds_toArray, List.set_cons_zero, List.set_cons_succ, i64_w, i32_w]
              rfl
            refine pure_ (i := 16) (N := some 89) (v := ?_) (a' := ?_) #[true, true, true, true, true, true, true, true, true, true, true, true, true, true, true, true, true, false, false] rfl rfl (by kernel_rfl) (fun _ _ _ h => h) (Or.inl ⟨by rfl, ?_⟩) ?_ ?_
            rotate_left
            · intro w'
              go_simp
              with_reducible rfl
            rotate_left
            · simp only [Act.put, List.setIfInBounds_toArray, List.set_cons_zero, List.set_cons_succ, i64_w, i32_w]
              rfl
            refine take_ (i := 17) (N := some 90) (v := ?_) (a' := ?_) #[true, true, true, true, true, true, true, true, true, true, true, true, true, true, true, true, true, true, false] rfl rfl (by kernel_rfl) (fun _ _ _ h => h) (Or.inl ⟨by rfl, ?_⟩) hHeld ?_ ?_
            rotate_left
            · rintro w' ⟨s0, s1, s2, s3, s4, s5, s6, s7⟩
              go_simp
              with_reducible rfl
            rotate_left
            · simp only [Act.put, List.setIfInBounds_toArray, List.set_cons_zero, List.set_cons_succ, i64_w, i32_w]
              rfl
            refine last_ (i := 18) (N := none) #[true, true, true, true, true, true, true, true, true, true, true, true, true, true, true, true, true, true, true] rfl rfl (by kernel_rfl) (by decide) (fun K hK => ?_)
            refine skip_store_box (by rfl) rfl rfl HKd.out.top rfl z info_cell (by rfl) (by rfl) ?_
            intro w14 hX14 hg14
            have HX14 := Aside0.mk hX14
            have HG14 := Aside0.mk hg14
            clear hX14 hg14
            refine hK.out _ _ ?_
            clear hK K
            refine done_ (by kernel_rfl) ?_
            clear hb2 hb3 hu1 hu3 hu2 hv1 hv3 hv2 hov1 hq1 hq3 hq2 hqL
            have HK14 := Aside0.mk ((HKd.out.drop.newblk HA.out HG14.out).more (k := gx) HX14.out HA.out.2.1)
            have HR14 := Aside0.mk (HRd.out.grown HG14.out (fun e => HA.out.2.1 (Option.some.inj e).symm))
            have HW14 := Aside0.mk (HWd.out.grown HG14.out (fun e => HWX.out (Option.some.inj e)))
            obtain ⟨y, hy⟩ : ∃ y, z = y := ⟨_, rfl⟩
            rw [hy] at HY HK14
            clear hy HX14 HZ
            clear hK hK3 hK2
            have hu1 := HU1.out
            have hu3 := HU2.out
            have hu2 : IntKind.i64.wrap (u : Int) = (u : Int) := by rw [i64_w]; exact hu3
            have hou1 := HOU.out
            have hp1 := HP1.out
            have hp3 := HP2.out
            have hp2 : IntKind.i64.wrap (p : Int) = (p : Int) := by rw [i64_w]; exact hp3
            have hpL := HPL.out
            go_wp2
            have HKe := Aside0.mk (HK14.out.next (below_drew (Below.refl _ _)))
            have HRe := Aside0.mk (HR14.out.below (below_drew (Below.refl _ _)))
            have HWe := Aside0.mk (HW14.out.below (below_drew (Below.refl _ _)))
            refine start_ (n := 17) (S := fun w' => w'.cell? ⟨g, 1, none⟩ = some (.int .i64 (c : Int)) ∧ w'.cell? ⟨g, 2, none⟩ = some (.slice (some ⟨b, 0, none⟩) L.length cap) ∧ w'.cell? ⟨gx, 0, none⟩ = some (.int .i32 y.r) ∧ w'.cell? ⟨gx, 1, none⟩ = some (.int .i64 y.f) ∧ w'.cell? ⟨gx, 2, none⟩ = some (.int .i64 y.g) ∧ w'.cell? ⟨gx, 3, none⟩ = some (.int .i64 y.b) ∧ w'.cell? ⟨gx, 4, none⟩ = some (.int .i64 y.w) ∧ KBase w g b r c L.length cap [(gx, boxO y), (gw, .cells #[.int .i64 r, .int .i64 c, .slice (some ⟨bw, 0, none⟩) L.length capw] 59 (0, 0)), (gb, .cells #[.int .i64 a0, .int .i64 a1, .int .i64 a2] 23 (0, 0))] w') (ds := [16]) #[false, false, false, false, false, false, false, false, false, false, false, false, false, false, false, false, false] (by kernel_rfl) rfl rfl ⟨HKe.out.c1, HKe.out.c2, (blk_cell HKe.out.top 0).trans rfl, (blk_cell HKe.out.top 1).trans rfl, (blk_cell HKe.out.top 2).trans rfl, (blk_cell HKe.out.top 3).trans rfl, (blk_cell HKe.out.top 4).trans rfl, HKe.out⟩ (fun hHeld => ?_)
            refine pure_ (i := 0) (N := some 91) (v := ?_) (a' := ?_) #[true, false, false, false, false, false, false, false, false, false, false, false, false, false, false, false, false] rfl rfl (by kernel_rfl) (fun _ _ _ h => h) (Or.inl ⟨by rfl, ?_⟩) ?_ ?_
            rotate_left
            · intro w'
              go_simp
              with_reducible rfl
            rotate_left
            · simp only [Act.put, List.setIfInBounds_toArray, List.set_cons_zero, List.set_cons_succ, i64_w, i32_w]
              rfl
            refine pure_ (i := 1) (N := some 92) (v := ?_) (a' := ?_) #[true, true, false, false, false, false, false, false, false, false, false, false, false, false, false, false, false] rfl rfl (by kernel_rfl) (fun _ _ _ h => h) (Or.inl ⟨by rfl, ?_⟩) ?_ ?_
            rotate_left
            · intro w'
              go_simp
              with_reducible rfl
            rotate_left
            · simp only [Act.put, List.setIfInBounds_toArray, List.set_cons_zero, List.set_cons_succ, i64_w, i32_w]
              rfl
            refine pure_ (i := 2) (N := some 93) (v := ?_) (a' := ?_) #[true, true, true, false, false, false, false, false, false, false, false, false, false, false, false, false, false] rfl rfl (by kernel_rfl) (fun _ _ _ h => h) (Or.inl ⟨by rfl, ?_⟩) ?_ ?_
            rotate_left
            · intro w'
              go_simp
              with_reducible rfl
            rotate_left
            · simp only [Act.put, List.setIfInBounds_toArray, List.set_cons_zero, List.set_cons_succ, i64_w, i32_w]
              rfl
            refine pure_ (i := 4) (N := some 95) (v := ?_) (a' := ?_) #[true, true, true, false, true, false, false, false, false, false, false, false, false, false, false, false, false] rfl rfl (by kernel_rfl) (fun _ _ _ h => h) (Or.inl ⟨by rfl, ?_⟩) ?_ ?_
            rotate_left
            · intro w'
              go_simp
              with_reducible rfl
            rotate_left
            · simp only [Act.put, List.setIfInBounds_toArray, List.set_cons_zero, List.set_cons_succ, i64_w, i32_w]
              rfl
            refine pure_ (i := 5) (N := some 96) (v := ?_) (a' := ?_) #[true, true, true, false, true, true, false, false, false, false, false, false, false, false, false, false, false] rfl rfl (by kernel_rfl) (fun _ _ _ h => h) (Or.inl ⟨by rfl, ?_⟩) ?_ ?_
            rotate_left
            · intro w'
              go_simp
              with_reducible rfl
            rotate_left
            · simp only [Act.put, List.setIfInBounds_toArray, List.set_cons_zero, List.set_cons_succ, i64_w, i32_w]
              rfl
            refine pure_ (i := 6) (N := some 97) (v := ?_) (a' := ?_) #[true, true, true, false, true, true, true, false, false, false, false, false, false, false, false, false, false] rfl rfl (by kernel_rfl) (fun _ _ _ h => h) (Or.inl ⟨by rfl, ?_⟩) ?_ ?_
            rotate_left
            · intro w'
              go_simp
              with_reducible rfl
            rotate_left
            · simp only [Act.put, List.setIfInBounds_toArray, List.set_cons_zero, List.set_cons_succ, i64_w, i32_w]
              rfl
            refine pure_ (i := 7) (N := some 98) (v := ?_) (a' := ?_) #[true, true, true, false, true, true, true, true, false, false, false, false, false, false, false, false, false] rfl rfl (by kernel_rfl) (fun _ _ _ h => h) (Or.inl ⟨by rfl, ?_⟩) ?_ ?_
            rotate_left
            · intro w'
              go_simp
              with_reducible rfl
            rotate_left
            · simp only [Act.put, List.setIfInBounds_toArray, List.set_cons_zero, List.set_cons_succ, i64_w, i32_w]
              rfl
            refine pure_ (i := 8) (N := some 99) (v := ?_) (a' := ?_) #[true, true, true, false, true, true, true, true, true, false, false, false, false, false, false, false, false] rfl rfl (by kernel_rfl) (fun _ _ _ h => h) (Or.inl ⟨by rfl, ?_⟩) ?_ ?_
            rotate_left
            · intro w'
              go_simp
              with_reducible rfl
            rotate_left
            · simp only [Act.put, List.setIfInBounds_toArray, List.set_cons_zero, List.set_cons_succ, i64_w, i32_w]
              rfl
            refine pure_ (i := 9) (N := some 100) (v := ?_) (a' := ?_) #[true, true, true, false, true, true, true, true, true, true, false, false, false, false, false, false, false] rfl rfl (by kernel_rfl) (fun _ _ _ h => h) (Or.inl ⟨by rfl, ?_⟩) ?_ ?_
            rotate_left
            · intro w'
              go_simp
              with_reducible rfl
            rotate_left
            · simp only [Act.put, List.setIfInBounds_toArray, List.set_cons_zero, List.set_cons_succ, i64_w, i32_w]
              rfl
            refine pure_ (i := 12) (N := some 103) (v := ?_) (a' := ?_) #[true, true, true, false, true, true, true, true, true, true, false, false, true, false, false, false, false] rfl rfl (by kernel_rfl) (fun _ _ _ h => h) (Or.inl ⟨by rfl, ?_⟩) ?_ ?_
            rotate_left
            · intro w'
              go_simp
              with_reducible rfl
            rotate_left
            · simp only [Act.put, List.setIfInBounds_toArray, List.set_cons_zero, List.set_cons_succ, i64_w, i32_w]
              rfl
            refine take_ (i := 3) (N := some 94) (v := ?_) (a' := ?_) #[true, true, true, true, true, true, true, true, true, true, false, false, true, false, false, false, false] rfl rfl (by kernel_rfl) (fun _ _ _ h => h) (Or.inl ⟨by rfl, ?_⟩) hHeld ?_ ?_
            rotate_left
            · rintro w' ⟨s0, s1, s2, s3, s4, s5, s6, s7⟩
              go_simp
              with_reducible rfl
            rotate_left
            · simp only [Act.put, List.setIfInBounds_toArray, List.set_cons_zero, List.set_cons_succ, i64_w, i32_w]
              rfl
            refine take_ (i := 10) (N := some 101) (v := ?_) (a' := ?_) #[true, true, true, true, true, true, true, true, true, true, true, false, true, false, false, false, false] rfl rfl (by kernel_rfl) (fun _ _ _ h => h) (Or.inl ⟨by rfl, ?_⟩) hHeld ?_ ?_
            rotate_left
            · rintro w' ⟨s0, s1, s2, s3, s4, s5, s6, s7⟩
              go_simp
              with_reducible rfl
            rotate_left
            · simp only [Act.put, List.setIfInBounds_toArray, List.set_cons_zero, List.set_cons_succ, i64_w, i32_w]
              rfl
            refine pure_ (i := 11) (N := some 102) (v := ?_) (a' := ?_) #[true, true, true, true, true, true, true, true, true, true, true, true, true, false, false, false, false] rfl rfl (by kernel_rfl) (fun _ _ _ h => h) (Or.inl ⟨by rfl, ?_⟩) ?_ ?_
            rotate_left
            · intro w'
              go_simp
              with_reducible rfl
            rotate_left
            · simp only [Act.put, List.setIfInBounds_toArray, List.set_cons_zero, List.set_cons_succ, i64_w, i32_w]
              rfl
            refine pure_ (i := 13) (N := some 104) (v := ?_) (a' := ?_) #[true, true, true, true, true, true, true, true, true, true, true, true, true, true, false, false, false] rfl rfl (by kernel_rfl) (fun _ _ _ h => h) (Or.inl ⟨by rfl, ?_⟩) ?_ ?_
            rotate_left
            · intro w'
              go_simp
              with_reducible rfl
            rotate_left
            · simp only [Act.put, List.setIfInBounds_toArray, List.set_cons_zero, List.set_cons_succ, i64_w, i32_w]
              rfl
            refine take_ (i := 14) (N := some 105) (v := ?_) (a' := ?_) #[true, true, true, true, true, true, true, true, true, true, true, true, true, true, true, false, false] rfl rfl (by kernel_rfl) (fun _ _ _ h => h) (Or.inl ⟨by rfl, ?_⟩) hHeld ?_ ?_
            rotate_left
            · rintro w' ⟨s0, s1, s2, s3, s4, s5, s6, s7⟩
              go_simp
              with_reducible rfl
            rotate_left
            · simp only [Act.put, List.setIfInBounds_toArray, List.set_cons_zero, List.set_cons_succ, i64_w, i32_w]
              rfl
            refine pure_ (i := 15) (N := some 106) (v := ?_) (a' := ?_) #[true, true, true, true, true, true, true, true, true, true, true, true, true, true, true, true, false] rfl rfl (by kernel_rfl) (fun _ _ _ h => h) (Or.inl ⟨by rfl, ?_⟩) ?_ ?_
            rotate_left
            · intro w'
              go_simp
              with_reducible rfl
            rotate_left
            · simp only [Act.put, List.setIfInBounds_toArray, List.set_cons_zero, List.set_cons_succ, i64_w, i32_w]
              rfl
            refine last_ (i := 16) (N := none) #[true, true, true, true, true, true, true, true, true, true, true, true, true, true, true, true, true] rfl rfl (by kernel_rfl) (by decide) (fun K hK => ?_)
            refine skip_store_cell (by rfl) rfl rfl HRe.out p HLP.out y info_cell (by rfl) (Nat.mul_comm _ _) (by rfl) ?_
            intro w15 hR15 hg15
            have HK15 := Aside0.mk (HKe.out.wrote hR15 hg15)
            have HR15 := Aside0.mk hR15
            have HG15 := Aside0.mk hg15
            clear hR15 hg15
            refine hK.out _ _ ?_
            clear hK K
            refine done_ (by kernel_rfl) ?_
            clear hu1 hu3 hu2 hou1 hp1 hp3 hp2 hpL
            go_wp2
            go_roundw
            case rel => exact ⟨cc + 1, HLC.out, by go_num, ⟨by have := HR15.out; rw [HPQ.out] at this; have e := splice_next L (movd ((L.drop o0).take (H * c)) (D * c) (blankC a2) (i * c + cc)) o0 y HPX.out; rw [movd_length] at e; rw [e] at this; rw [← Nat.add_assoc, movd_succ, HY.out]; exact this⟩, ⟨HWe.out.grown HG15.out (fun e => HBW.out (Option.some.inj e))⟩, ⟨HK15.out.drop⟩⟩
            case measure => simp [intOf]; omega
          · have HY0 : Aside0 (movA ((L.drop o0).take (H * c)) (D * c) (blankC a2) (i * c + cc) = blankC a2) := ⟨movA_out HHC.out HLC.out (by rw [HKE.out]; exact hin)⟩
            obtain ⟨y, hy⟩ : ∃ y, blankC a2 = y := ⟨_, rfl⟩
            have HY : Aside0 (movA ((L.drop o0).take (H * c)) (D * c) (blankC a2) (i * c + cc) = y) := ⟨HY0.out.trans hy⟩
            have HK14 := HK12
            rw [hy] at HK14
            have HR14 := HR12
            have HW14 := HW12
            clear HK12 HR12 HW12 hy HY0
            by_cases hk : K < 0
            · have hb1 : decide (0 ≤ K) = false := decide_eq_false (by omega)
              have hb2 : ¬ (0 ≤ K) := by omega
              have hb3 : ¬ (K ≥ 0) := by omega
              clear hin
              have hK := HKE.out
              have hK3 := HK3.out
              have hK2 : IntKind.i64.wrap K = K := by rw [i64_w]; exact hK3
              go_upto_region 14 with fail
              clear hb1 hb2 hb3
              clear hK hK3 hK2
              have hu1 := HU1.out
              have hu3 := HU2.out
              have hu2 : IntKind.i64.wrap (u : Int) = (u : Int) := by rw [i64_w]; exact hu3
              have hou1 := HOU.out
              have hp1 := HP1.out
              have hp3 := HP2.out
              have hp2 : IntKind.i64.wrap (p : Int) = (p : Int) := by rw [i64_w]; exact hp3
              have hpL := HPL.out
              go_wp2
              have HKe := Aside0.mk (HK14.out.next (below_drew (Below.refl _ _)))
              have HRe := Aside0.mk (HR14.out.below (below_drew (Below.refl _ _)))
              have HWe := Aside0.mk (HW14.out.below (below_drew (Below.refl _ _)))
              refine start_ (n := 17) (S := fun w' => w'.cell? ⟨g, 1, none⟩ = some (.int .i64 (c : Int)) ∧ w'.cell? ⟨g, 2, none⟩ = some (.slice (some ⟨b, 0, none⟩) L.length cap) ∧ w'.cell? ⟨gx, 0, none⟩ = some (.int .i32 y.r) ∧ w'.cell? ⟨gx, 1, none⟩ = some (.int .i64 y.f) ∧ w'.cell? ⟨gx, 2, none⟩ = some (.int .i64 y.g) ∧ w'.cell? ⟨gx, 3, none⟩ = some (.int .i64 y.b) ∧ w'.cell? ⟨gx, 4, none⟩ = some (.int .i64 y.w) ∧ KBase w g b r c L.length cap [(gx, boxO y), (gw, .cells #[.int .i64 r, .int .i64 c, .slice (some ⟨bw, 0, none⟩) L.length capw] 59 (0, 0)), (gb, .cells #[.int .i64 a0, .int .i64 a1, .int .i64 a2] 23 (0, 0))] w') (ds := [16]) #[false, false, false, false, false, false, false, false, false, false, false, false, false, false, false, false, false] (by kernel_rfl) rfl rfl ⟨HKe.out.c1, HKe.out.c2, (blk_cell HKe.out.top 0).trans rfl, (blk_cell HKe.out.top 1).trans rfl, (blk_cell HKe.out.top 2).trans rfl, (blk_cell HKe.out.top 3).trans rfl, (blk_cell HKe.out.top 4).trans rfl, HKe.out⟩ (fun hHeld => ?_)
              refine pure_ (i := 0) (N := some 91) (v := ?_) (a' := ?_) #[true, false, false, false, false, false, false, false, false, false, false, false, false, false, false, false, false] rfl rfl (by kernel_rfl) (fun _ _ _ h => h) (Or.inl ⟨by rfl, ?_⟩) ?_ ?_
              rotate_left
              · intro w'
                go_simp
                with_reducible rfl
              rotate_left
              · simp only [Act.put, List.setIfInBounds_toArray, List.set_cons_zero, List.set_cons_succ, i64_w, i32_w]
                rfl
              refine pure_ (i := 1) (N := some 92) (v := ?_) (a' := ?_) #[true, true, false, false, false, false, false, false, false, false, false, false, false, false, false, false, false] rfl rfl (by kernel_rfl) (fun _ _ _ h => h) (Or.inl ⟨by rfl, ?_⟩) ?_ ?_
              rotate_left
              · intro w'
                go_simp
                with_reducible rfl
              rotate_left
              · simp only [Act.put, List.setIfInBounds_toArray, List.set_cons_zero, List.set_cons_succ, i64_w, i32_w]
                rfl
              refine pure_ (i := 2) (N := some 93) (v := ?_) (a' := ?_) #[true, true, true, false, false, false, false, false, false, false, false, false, false, false, false, false, false] rfl rfl (by kernel_rfl) (fun _ _ _ h => h) (Or.inl ⟨by rfl, ?_⟩) ?_ ?_
              rotate_left
              · intro w'
                go_simp
                with_reducible rfl
              rotate_left
              · simp only [Act.put, List.setIfInBounds_toArray, List.set_cons_zero, List.set_cons_succ, i64_w, i32_w]
                rfl
              refine pure_ (i := 4) (N := some 95) (v := ?_) (a' := ?_) #[true, true, true, false, true, false, false, false, false, false, false, false, false, false, false, false, false] rfl rfl (by kernel_rfl) (fun _ _ _ h => h) (Or.inl ⟨by rfl, ?_⟩) ?_ ?_
              rotate_left
              · intro w'
                go_simp
                with_reducible rfl
              rotate_left
              · simp only [Act.put, List.setIfInBounds_toArray, List.set_cons_zero, List.set_cons_succ, i64_w, i32_w]
                rfl
              refine pure_ (i := 5) (N := some 96) (v := ?_) (a' := ?_) #[true, true, true, false, true, true, false, false, false, false, false, false, false, false, false, false, false] rfl rfl (by kernel_rfl) (fun _ _ _ h => h) (Or.inl ⟨by rfl, ?_⟩) ?_ ?_
              rotate_left
              · intro w'
                go_simp
                with_reducible rfl
              rotate_left
              · simp only [Act.put, List.setIfInBounds_toArray, List.set_cons_zero, List.set_cons_succ, i64_w, i32_w]
                rfl
              refine pure_ (i := 6) (N := some 97) (v := ?_) (a' := ?_) #[true, true, true, false, true, true, true, false, false, false, false, false, false, false, false, false, false] rfl rfl (by kernel_rfl) (fun _ _ _ h => h) (Or.inl ⟨by rfl, ?_⟩) ?_ ?_
              rotate_left
              · intro w'
                go_simp
                with_reducible rfl
              rotate_left
              · simp only [Act.put, List.setIfInBounds_toArray, List.set_cons_zero, List.set_cons_succ, i64_w, i32_w]
                rfl
              refine pure_ (i := 7) (N := some 98) (v := ?_) (a' := ?_) #[true, true, true, false, true, true, true, true, false, false, false, false, false, false, false, false, false] rfl rfl (by kernel_rfl) (fun _ _ _ h => h) (Or.inl ⟨by rfl, ?_⟩) ?_ ?_
              rotate_left
              · intro w'
                go_simp
                with_reducible rfl
              rotate_left
              · simp only [Act.put, List.setIfInBounds_toArray, List.set_cons_zero, List.set_cons_succ, i64_w, i32_w]
                rfl
              refine pure_ (i := 8) (N := some 99) (v := ?_) (a' := ?_) #[true, true, true, false, true, true, true, true, true, false, false, false, false, false, false, false, false] rfl rfl (by kernel_rfl) (fun _ _ _ h => h) (Or.inl ⟨by rfl, ?_⟩) ?_ ?_
              rotate_left
              · intro w'
                go_simp
                with_reducible rfl
              rotate_left
              · simp only [Act.put, List.setIfInBounds_toArray, List.set_cons_zero, List.set_cons_succ, i64_w, i32_w]
                rfl
              refine pure_ (i := 9) (N := some 100) (v := ?_) (a' := ?_) #[true, true, true, false, true, true, true, true, true, true, false, false, false, false, false, false, false] rfl rfl (by kernel_rfl) (fun _ _ _ h => h) (Or.inl ⟨by rfl, ?_⟩) ?_ ?_
              rotate_left
              · intro w'
                go_simp
                with_reducible rfl
              rotate_left
              · simp only [Act.put, List.setIfInBounds_toArray, List.set_cons_zero, List.set_cons_succ, i64_w, i32_w]
                rfl
              refine pure_ (i := 12) (N := some 103) (v := ?_) (a' := ?_) #[true, true, true, false, true, true, true, true, true, true, false, false, true, false, false, false, false] rfl rfl (by kernel_rfl) (fun _ _ _ h => h) (Or.inl ⟨by rfl, ?_⟩) ?_ ?_
              rotate_left
              · intro w'
                go_simp
                with_reducible rfl
              rotate_left
              · simp only [Act.put, List.setIfInBounds_toArray, List.set_cons_zero, List.set_cons_succ, i64_w, i32_w]
                rfl
              refine take_ (i := 3) (N := some 94) (v := ?_) (a' := ?_) #[true, true, true, true, true, true, true, true, true, true, false, false, true, false, false, false, false] rfl rfl (by kernel_rfl) (fun _ _ _ h => h) (Or.inl ⟨by rfl, ?_⟩) hHeld ?_ ?_
              rotate_left
              · rintro w' ⟨s0, s1, s2, s3, s4, s5, s6, s7⟩
                go_simp
                with_reducible rfl
              rotate_left
              · simp only [Act.put, List.setIfInBounds_toArray, List.set_cons_zero, List.set_cons_succ, i64_w, i32_w]
                rfl
              refine take_ (i := 10) (N := some 101) (v := ?_) (a' := ?_) #[true, true, true, true, true, true, true, true, true, true, true, false, true, false, false, false, false] rfl rfl (by kernel_rfl) (fun _ _ _ h => h) (Or.inl ⟨by rfl, ?_⟩) hHeld ?_ ?_
              rotate_left
              · rintro w' ⟨s0, s1, s2, s3, s4, s5, s6, s7⟩
                go_simp
                with_reducible rfl
              rotate_left
              · simp only [Act.put, List.setIfInBounds_toArray, List.set_cons_zero, List.set_cons_succ, i64_w, i32_w]
                rfl
              refine pure_ (i := 11) (N := some 102) (v := ?_) (a' := ?_) #[true, true, true, true, true, true, true, true, true, true, true, true, true, false, false, false, false] rfl rfl (by kernel_rfl) (fun _ _ _ h => h) (Or.inl ⟨by rfl, ?_⟩) ?_ ?_
              rotate_left
              · intro w'
                go_simp
                with_reducible rfl
              rotate_left
              · simp only [Act.put, List.setIfInBounds_toArray, List.set_cons_zero, List.set_cons_succ, i64_w, i32_w]
                rfl
              refine pure_ (i := 13) (N := some 104) (v := ?_) (a' := ?_) #[true, true, true, true, true, true, true, true, true, true, true, true, true, true, false, false, false] rfl rfl (by kernel_rfl) (fun _ _ _ h => h) (Or.inl ⟨by rfl, ?_⟩) ?_ ?_
              rotate_left
              · intro w'
                go_simp
                with_reducible rfl
              rotate_left
              · simp only [Act.put, List.setIfInBounds_toArray, List.set_cons_zero, List.set_cons_succ, i64_w, i32_w]
                rfl
              refine take_ (i := 14) (N := some 105) (v := ?_) (a' := ?_) #[true, true, true, true, true, true, true, true, true, true, true, true, true, true, true, false, false] rfl rfl (by kernel_rfl) (fun _ _ _ h => h) (Or.inl ⟨by rfl, ?_⟩) hHeld ?_ ?_
              rotate_left
              · rintro w' ⟨s0, s1, s2, s3, s4, s5, s6, s7⟩
                go_simp
                with_reducible rfl
              rotate_left
              · simp only [Act.put, List.setIfInBounds_toArray, List.set_cons_zero, List.set_cons_succ, i64_w, i32_w]
                rfl
              refine pure_ (i := 15) (N := some 106) (v := ?_) (a' := ?_) #[true, true, true, true, true, true, true, true, true, true, true, true, true, true, true, true, false] rfl rfl (by kernel_rfl) (fun _ _ _ h => h) (Or.inl ⟨by rfl, ?_⟩) ?_ ?_
              rotate_left
              · intro w'
                go_simp
                with_reducible rfl
              rotate_left
              · simp only [Act.put, List.setIfInBounds_toArray, List.set_cons_zero, List.set_cons_succ, i64_w, i32_w]
                rfl
              refine last_ (i := 16) (N := none) #[true, true, true, true, true, true, true, true, true, true, true, true, true, true, true, true, true] rfl rfl (by kernel_rfl) (by decide) (fun K hK => ?_)
              refine skip_store_cell (by rfl) rfl rfl HRe.out p HLP.out y info_cell (by rfl) (Nat.mul_comm _ _) (by rfl) ?_
              intro w15 hR15 hg15
              have HK15 := Aside0.mk (HKe.out.wrote hR15 hg15)
              have HR15 := Aside0.mk hR15
              have HG15 := Aside0.mk hg15
              clear hR15 hg15
              refine hK.out _ _ ?_
              clear hK K
              refine done_ (by kernel_rfl) ?_
              clear hu1 hu3 hu2 hou1 hp1 hp3 hp2 hpL
              go_wp2
              go_roundw
              case rel => exact ⟨cc + 1, HLC.out, by go_num, ⟨by have := HR15.out; rw [HPQ.out] at this; have e := splice_next L (movd ((L.drop o0).take (H * c)) (D * c) (blankC a2) (i * c + cc)) o0 y HPX.out; rw [movd_length] at e; rw [e] at this; rw [← Nat.add_assoc, movd_succ, HY.out]; exact this⟩, ⟨HWe.out.grown HG15.out (fun e => HBW.out (Option.some.inj e))⟩, ⟨HK15.out.drop⟩⟩
              case measure => simp [intOf]; omega
            · have hb1 : decide (0 ≤ K) = true := decide_eq_true (by omega)
              have hb2 : 0 ≤ K := by omega
              have hb3 : ¬ (K < (H : Int)) := by omega
              have hb4 : decide (K < (H : Int)) = false := decide_eq_false hb3
              have hb5 : (H : Int) ≤ K := by omega
              clear hin
              have hK := HKE.out
              have hK3 := HK3.out
              have hK2 : IntKind.i64.wrap K = K := by rw [i64_w]; exact hK3
              go_upto_region 14 with fail
              clear hb1 hb2 hb3 hb4 hb5
              clear hK hK3 hK2
              have hu1 := HU1.out
              have hu3 := HU2.out
              have hu2 : IntKind.i64.wrap (u : Int) = (u : Int) := by rw [i64_w]; exact hu3
              have hou1 := HOU.out
              have hp1 := HP1.out
              have hp3 := HP2.out
              have hp2 : IntKind.i64.wrap (p : Int) = (p : Int) := by rw [i64_w]; exact hp3
              have hpL := HPL.out
              go_wp2
              have HKe := Aside0.mk (HK14.out.next (below_drew (Below.refl _ _)))
              have HRe := Aside0.mk (HR14.out.below (below_drew (Below.refl _ _)))
              have HWe := Aside0.mk (HW14.out.below (below_drew (Below.refl _ _)))
              refine start_ (n := 17) (S := fun w' => w'.cell? ⟨g, 1, none⟩ = some (.int .i64 (c : Int)) ∧ w'.cell? ⟨g, 2, none⟩ = some (.slice (some ⟨b, 0, none⟩) L.length cap) ∧ w'.cell? ⟨gx, 0, none⟩ = some (.int .i32 y.r) ∧ w'.cell? ⟨gx, 1, none⟩ = some (.int .i64 y.f) ∧ w'.cell? ⟨gx, 2, none⟩ = some (.int .i64 y.g) ∧ w'.cell? ⟨gx, 3, none⟩ = some (.int .i64 y.b) ∧ w'.cell? ⟨gx, 4, none⟩ = some (.int .i64 y.w) ∧ KBase w g b r c L.length cap [(gx, boxO y), (gw, .cells #[.int .i64 r, .int .i64 c, .slice (some ⟨bw, 0, none⟩) L.length capw] 59 (0, 0)), (gb, .cells #[.int .i64 a0, .int .i64 a1, .int .i64 a2] 23 (0, 0))] w') (ds := [16]) #[false, false, false, false, false, false, false, false, false, false, false, false, false, false, false, false, false] (by kernel_rfl) rfl rfl ⟨HKe.out.c1, HKe.out.c2, (blk_cell HKe.out.top 0).trans rfl, (blk_cell HKe.out.top 1).trans rfl, (blk_cell HKe.out.top 2).trans rfl, (blk_cell HKe.out.top 3).trans rfl, (blk_cell HKe.out.top 4).trans rfl, HKe.out⟩ (fun hHeld => ?_)
              refine pure_ (i := 0) (N := some 91) (v := ?_) (a' := ?_) #[true, false, false, false, false, false, false, false, false, false, false, false, false, false, false, false, false] rfl rfl (by kernel_rfl) (fun _ _ _ h => h) (Or.inl ⟨by rfl, ?_⟩) ?_ ?_
              rotate_left
              · intro w'
                go_simp
                with_reducible rfl
              rotate_left
              · simp only [Act.put, List.setIfInBounds_toArray, List.set_cons_zero, List.set_cons_succ, i64_w, i32_w]
                rfl
              refine pure_ (i := 1) (N := some 92) (v := ?_) (a' := ?_) #[true, true, false, false, false, false, false, false, false, false, false, false, false, false, false, false, false] rfl rfl (by kernel_rfl) (fun _ _ _ h => h) (Or.inl ⟨by rfl, ?_⟩) ?_ ?_
              rotate_left
              · intro w'
                go_simp
                with_reducible rfl
              rotate_left
              · simp only [Act.put, List.setIfInBounds_toArray, List.set_cons_zero, List.set_cons_succ, i64_w, i32_w]
                rfl
              refine pure_ (i := 2) (N := some 93) (v := ?_) (a' := ?_) #[true, true, true, false, false, false, false, false, false, false, false, false, false, false, false, false, false] rfl rfl (by kernel_rfl) (fun _ _ _ h => h) (Or.inl ⟨by rfl, ?_⟩) ?_ ?_
              rotate_left
              · intro w'
                go_simp
                with_reducible rfl
              rotate_left
              · simp only [Act.put, List.setIfInBounds_toArray, List.set_cons_zero, List.set_cons_succ, i64_w, i32_w]
                rfl
              refine pure_ (i := 4) (N := some 95) (v := ?_) (a' := ?_) #[true, true, true, false, true, false, false, false, false, false, false, false, false, false, false, false, false] rfl rfl (by kernel_rfl) (fun _ _ _ h => h) (Or.inl ⟨by rfl, ?_⟩) ?_ ?_
              rotate_left
              · intro w'
                go_simp
                with_reducible rfl
              rotate_left
              · simp only [Act.put, List.setIfInBounds_toArray, List.set_cons_zero, List.set_cons_succ, i64_w, i32_w]
                rfl
              refine pure_ (i := 5) (N := some 96) (v := ?_) (a' := ?_) #[true, true, true, false, true, true, false, false, false, false, false, false, false, false, false, false, false] rfl rfl (by kernel_rfl) (fun _ _ _ h => h) (Or.inl ⟨by rfl, ?_⟩) ?_ ?_
              rotate_left
              · intro w'
                go_simp
                with_reducible rfl
              rotate_left
              · simp only [Act.put, List.setIfInBounds_toArray, List.set_cons_zero, List.set_cons_succ, i64_w, i32_w]
                rfl
              refine pure_ (i := 6) (N := some 97) (v := ?_) (a' := ?_) #[true, true, true, false, true, true, true, false, false, false, false, false, false, false, false, false, false] rfl rfl (by kernel_rfl) (fun _ _ _ h => h) (Or.inl ⟨by rfl, ?_⟩) ?_ ?_
              rotate_left
              · intro w'
                go_simp
                with_reducible rfl
              rotate_left
              · simp only [Act.put, List.setIfInBounds_toArray, List.set_cons_zero, List.set_cons_succ, i64_w, i32_w]
                rfl
              refine pure_ (i := 7) (N := some 98) (v := ?_) (a' := ?_) #[true, true, true, false, true, true, true, true, false, false, false, false, false, false, false, false, false] rfl rfl (by kernel_rfl) (fun _ _ _ h => h) (Or.inl ⟨by rfl, ?_⟩) ?_ ?_
              rotate_left
              · intro w'
                go_simp
                with_reducible rfl
              rotate_left
              · simp only [Act.put, List.setIfInBounds_toArray, List.set_cons_zero, List.set_cons_succ, i64_w, i32_w]
                rfl
              refine pure_ (i := 8) (N := some 99) (v := ?_) (a' := ?_) #[true, true, true, false, true, true, true, true, true, false, false, false, false, false, false, false, false] rfl rfl (by kernel_rfl) (fun _ _ _ h => h) (Or.inl ⟨by rfl, ?_⟩) ?_ ?_
              rotate_left
              · intro w'
                go_simp
                with_reducible rfl
              rotate_left
              · simp only [Act.put, List.setIfInBounds_toArray, List.set_cons_zero, List.set_cons_succ, i64_w, i32_w]
                rfl
              refine pure_ (i := 9) (N := some 100) (v := ?_) (a' := ?_) #[true, true, true, false, true, true, true, true, true, true, false, false, false, false, false, false, false] rfl rfl (by kernel_rfl) (fun _ _ _ h => h) (Or.inl ⟨by rfl, ?_⟩) ?_ ?_
              rotate_left
              · intro w'
                go_simp
                with_reducible rfl
              rotate_left
              · simp only [Act.put, List.setIfInBounds_toArray, List.set_cons_zero, List.set_cons_succ, i64_w, i32_w]
                rfl
              refine pure_ (i := 12) (N := some 103) (v := ?_) (a' := ?_) #[true, true, true, false, true, true, true, true, true, true, false, false, true, false, false, false, false] rfl rfl (by kernel_rfl) (fun _ _ _ h => h) (Or.inl ⟨by rfl, ?_⟩) ?_ ?_
              rotate_left
              · intro w'
                go_simp
                with_reducible rfl
              rotate_left
              · simp only [Act.put, List.setIfInBounds_toArray, List.set_cons_zero, List.set_cons_succ, i64_w, i32_w]
                rfl
              refine take_ (i := 3) (N := some 94) (v := ?_) (a' := ?_) #[true, true, true, true, true, true, true, true, true, true, false, false, true, false, false, false, false] rfl rfl (by kernel_rfl) (fun _ _ _ h => h) (Or.inl ⟨by rfl, ?_⟩) hHeld ?_ ?_
              rotate_left
              · rintro w' ⟨s0, s1, s2, s3, s4, s5, s6, s7⟩
                go_simp
                with_reducible rfl
              rotate_left
              · simp only [Act.put, List.setIfInBounds_toArray, List.set_cons_zero, List.set_cons_succ, i64_w, i32_w]
                rfl
              refine take_ (i := 10) (N := some 101) (v := ?_) (a' := ?_) #[true, true, true, true, true, true, true, true, true, true, true, false, true, false, false, false, false] rfl rfl (by kernel_rfl) (fun _ _ _ h => h) (Or.inl ⟨by rfl, ?_⟩) hHeld ?_ ?_
              rotate_left
              · rintro w' ⟨s0, s1, s2, s3, s4, s5, s6, s7⟩
                go_simp
                with_reducible rfl
              rotate_left
              · simp only [Act.put, List.setIfInBounds_toArray, List.set_cons_zero, List.set_cons_succ, i64_w, i32_w]
                rfl
              refine pure_ (i := 11) (N := some 102) (v := ?_) (a' := ?_) #[true, true, true, true, true, true, true, true, true, true, true, true, true, false, false, false, false] rfl rfl (by kernel_rfl) (fun _ _ _ h => h) (Or.inl ⟨by rfl, ?_⟩) ?_ ?_
              rotate_left
              · intro w'
                go_simp
                with_reducible rfl
              rotate_left
              · simp only [Act.put, List.setIfInBounds_toArray, List.set_cons_zero, List.set_cons_succ, i64_w, i32_w]
                rfl
              refine pure_ (i := 13) (N := some 104) (v := ?_) (a' := ?_) #[true, true, true, true, true, true, true, true, true, true, true, true, true, true, false, false, false] rfl rfl (by kernel_rfl) (fun _ _ _ h => h) (Or.inl ⟨by rfl, ?_⟩) ?_ ?_
              rotate_left
              · intro w'
                go_simp
                with_reducible rfl
              rotate_left
              · simp only [Act.put, List.setIfInBounds_toArray, List.set_cons_zero, List.set_cons_succ, i64_w, i32_w]
                rfl
              refine take_ (i := 14) (N := some 105) (v := ?_) (a' := ?_) #[true, true, true, true, true, true, true, true, true, true, true, true, true, true, true, false, false] rfl rfl (by kernel_rfl) (fun _ _ _ h => h) (Or.inl ⟨by rfl, ?_⟩) hHeld ?_ ?_
              rotate_left
              · rintro w' ⟨s0, s1, s2, s3, s4, s5, s6, s7⟩
                go_simp
                with_reducible rfl
              rotate_left
              · simp only [Act.put, List.setIfInBounds_toArray, List.set_cons_zero, List.set_cons_succ, i64_w, i32_w]
                rfl
              refine pure_ (i := 15) (N := some 106) (v := ?_) (a' := ?_) #[true, true, true, true, true, true, true, true, true, true, true, true, true, true, true, true, false] rfl rfl (by kernel_rfl) (fun _ _ _ h => h) (Or.inl ⟨by rfl, ?_⟩) ?_ ?_
              rotate_left
              · intro w'
                go_simp
                with_reducible rfl
              rotate_left
              · simp only [Act.put, List.setIfInBounds_toArray, List.set_cons_zero, List.set_cons_succ, i64_w, i32_w]
                rfl
              refine last_ (i := 16) (N := none) #[true, true, true, true, true, true, true, true, true, true, true, true, true, true, true, true, true] rfl rfl (by kernel_rfl) (by decide) (fun K hK => ?_)
              refine skip_store_cell (by rfl) rfl rfl HRe.out p HLP.out y info_cell (by rfl) (Nat.mul_comm _ _) (by rfl) ?_
              intro w15 hR15 hg15
              have HK15 := Aside0.mk (HKe.out.wrote hR15 hg15)
              have HR15 := Aside0.mk hR15
              have HG15 := Aside0.mk hg15
              clear hR15 hg15
              refine hK.out _ _ ?_
              clear hK K
              refine done_ (by kernel_rfl) ?_
              clear hu1 hu3 hu2 hou1 hp1 hp3 hp2 hpL
              go_wp2
              go_roundw
              case rel => exact ⟨cc + 1, HLC.out, by go_num, ⟨by have := HR15.out; rw [HPQ.out] at this; have e := splice_next L (movd ((L.drop o0).take (H * c)) (D * c) (blankC a2) (i * c + cc)) o0 y HPX.out; rw [movd_length] at e; rw [e] at this; rw [← Nat.add_assoc, movd_succ, HY.out]; exact this⟩, ⟨HWe.out.grown HG15.out (fun e => HBW.out (Option.some.inj e))⟩, ⟨HK15.out.drop⟩⟩
              case measure => simp [intOf]; omega
        · obtain rfl : cc = c := by omega
          go_wp2
          go_roundw
          case rel => exact ⟨i + 1, HLT.out, by go_num, ⟨by rw [Nat.add_mul, Nat.one_mul]; exact HR9.out⟩, HW9, HK9⟩
          case measure => simp [intOf]; omega
    · obtain rfl : i = H := by omega
      go_wp2
      refine ⟨rfl, .tuple #[], results_none rfl _ _ _, ?_⟩
      rw [EO.out]
      exact ⟨rfl, HR8.out, HK8.out.grown⟩
end Go.Proofs.YtcfndcjbgalnpaaDoor.Hand
namespace Go.Proofs.YtcfndcjbgalnpaaDoor.Hand
open Go.RowKit Go.Proofs.YtcfndcjbgalnpaaDoorW.PrintWords Go.Proofs.YtcfndcjbgalnpaaDoorW.PrintLast
theorem size_of (rows cols : Int) : PD.tikref6_Size.f rows cols = some (decide (1 ≤ rows ∧ rows ≤ 60 ∧ 1 ≤ cols ∧ cols ≤ 200)) := by
  unfold PD.tikref6_Size.f
  by_cases h1 : rows ≥ 1
  · rw [if_pos h1]
    by_cases h2 : rows ≤ 60
    · rw [if_pos h2]
      by_cases h3 : cols ≥ 1
      · rw [if_pos h3]
        by_cases h4 : cols ≤ 200
        · rw [decide_eq_true h4, decide_eq_true ⟨h1, h2, h3, h4⟩]
        · rw [decide_eq_false h4, decide_eq_false (fun h => h4 h.2.2.2)]
      · rw [if_neg h3, decide_eq_false (fun h => h3 h.2.2.1)]
    · rw [if_neg h2, decide_eq_false (fun h => h2 h.2.1)]
  · rw [if_neg h1, decide_eq_false (fun h => h1 h.1)]
theorem rnew_no {w : World} (rows cols : Int) (h : ¬ (1 ≤ rows ∧ rows ≤ 60 ∧ 1 ≤ cols ∧ cols ≤ 200)) :
    Calls Tryd.prog 26 #[.int .i64 rows, .int .i64 cols] w (fun e w' => e = .returned (.tuple #[.pointer none, .int .i64 1]) ∧ Below w.heap.size w w') := by
  have HF := Aside0.mk ((size_of rows cols).trans (by rw [decide_eq_false h]))
  clear h
  go_enter Tryd.func26, Tryd.ntmps26
  go_wp2_with fail
  refine (PD.tikref6_Size.calls rows cols false w HF.out).mono ?_
  rintro e w1 ⟨rfl, hb⟩
  obtain ⟨m, rfl⟩ := hb
  have HB := Aside0.mk (below_drawn w m)
  generalize w.drewN m = w1 at *
  go_wp2
  go_ret2
  exact ⟨rfl, HB.out⟩
set_option maxRecDepth 100000 in
set_option maxHeartbeats 4000000 in
theorem rnew_yes {w : World} (r c : Nat) (h1 : 1 ≤ r) (h2 : r ≤ 60) (h3 : 1 ≤ c) (h4 : c ≤ 200) :
    Calls Tryd.prog 26 #[.int .i64 r, .int .i64 c] w (fun e w' => ∃ g b, e = .returned (.tuple #[.pointer (some ⟨g, 0, none⟩), .int .i64 0]) ∧ RefAt w' w.heap.size g b r c (List.replicate (r * c) (blankC 0)) ∧ Below w.heap.size w w') := by
  have HF := Aside0.mk ((size_of r c).trans (by rw [decide_eq_true (show 1 ≤ (r : Int) ∧ (r : Int) ≤ 60 ∧ 1 ≤ (c : Int) ∧ (c : Int) ≤ 200 by omega)]))
  have hrc : r * c ≤ 12000 := Nat.mul_le_mul h2 h4
  have hrc1 : 1 ≤ r * c := Nat.mul_pos h1 h3
  obtain ⟨n, hn⟩ : ∃ n, r * c = n := ⟨_, rfl⟩
  have hw1 := wrap_mul hn (by omega)
  have HN := Aside0.mk hn
  rw [hn] at hrc hrc1 ⊢
  clear hn
  go_enter Tryd.func26, Tryd.ntmps26
  go_wp2_with fail
  refine (PD.tikref6_Size.calls r c true w HF.out).mono ?_
  rintro e w1 ⟨rfl, hb⟩
  obtain ⟨m, rfl⟩ := hb
  have HB1 := Aside0.mk (below_drawn w m)
  generalize w.drewN m = w1 at *
  go_upto_region 4 with (first
    | ((with_reducible refine gate_dst (N := 17) rfl ?_); refine Kd.R_make kC (w0 := w) w.heap.size 32 rfl (N := 17) rfl 49 (.tmp 16) (.tmp 16) rfl n rfl rfl Tryd.underlying49 (C5.agg z5) 40 info_cell3 rfl (by decide) (by decide) z5 (ok := fun _ => True) (okp := fun _ => True) (kC_M.2 rfl) (fun _ h => h) trivial (by omega) (by omega) HB1.out HB1.out.size ?_; intro v3 w3 ho hb hg hnew; have HO3 := Aside0.mk ho; have HB3 := Aside0.mk hb; clear ho hb hg hnew; obtain ⟨b, cap, rfl, hbb, _, hM, hc9, hm9⟩ := rowAt_of_R HO3.out (by rw [List.length_replicate]; omega); rw [List.length_replicate, Int.toNat_natCast] at hc9; rw [List.length_replicate, Int.toNat_natCast])
    | ((with_reducible refine gate_dst (N := 19) rfl ?_); refine box_event ?hg (N := 19) ?hd (cs := #[.int .i64 r, .int .i64 c, .slice (some ⟨b, 0, none⟩) n cap]) (t := 59) ?hr ?_; (case hd => rfl); (case hg => rfl); (case hr => first | (go_simp; done) | (go_simp; rfl)); intro gb hg w5 hbox hb; have HX := Aside0.mk hbox; have HB5 := Aside0.mk hb; have HGB := Aside0.mk (Nat.le_of_eq hg.symm); clear hbox hb hg))
  have hR5 := hM.below HB5.out
  rw [Int.toNat_natCast] at hR5
  have hbl := hM.lt
  have hgb := HGB.out
  have hne : gb ≠ b := by omega
  have HR5 := Aside0.mk hR5
  have HK5 := Aside0.mk (show KBase w5 gb b r c n cap [] w5 from ⟨grown_of_none (Below.refl _ _), HX.out, ⟨_, hR5.out.choose_spec⟩, fun p hp => absurd hp List.not_mem_nil, fun p hp => absurd hp List.not_mem_nil⟩)
  have HBB := Aside0.mk hbb
  have HB35 := Aside0.mk (below_step HB3.out HB5.out)
  have HNE := Aside0.mk hne
  have HGW := Aside0.mk (show w.heap.size ≤ gb by have := HB3.out.size; omega)
  clear hM hR5 hbl hgb hne hbb HO3 HB3 HB5 hw1
  go_wp2
  go_loopw [7] (fun v7 wr => ∃ i : Nat, i ≤ n ∧ v7 = .int .i64 i ∧ Aside0 (RowAt wr b (splice (List.replicate n z5) 0 (List.replicate i (blankC 0)))) ∧ Aside0 (KBase w5 gb b r c n cap [] wr)) (fun v7 _ => n - (intOf v7).toNat)
  case atStart => exact ⟨0, Nat.zero_le _, rfl, ⟨by rw [List.replicate_zero, splice_none]; exact HR5.out⟩, HK5⟩
  case round =>
    obtain ⟨i, hi, rfl, HR3, HK3⟩ := hrel
    clear HR5 HK5
    have zc := HK3.out.c2
    by_cases hlt : i < n
    · go_wp2
      have HKd := Aside0.mk (HK3.out.next (below_drew (Below.refl _ _)))
      have HRd := Aside0.mk (HR3.out.below (below_drew (Below.refl _ _)))
      have HLI : Aside0 (i < (splice (List.replicate n z5) 0 (List.replicate i (blankC 0))).length) := ⟨by rw [splice_length _ _ _ (by rw [List.length_replicate, List.length_replicate]; omega), List.length_replicate]; exact hlt⟩
      refine start_ (n := 9) (S := fun w' => w'.cell? ⟨gb, 2, none⟩ = some (.slice (some ⟨b, 0, none⟩) n cap) ∧ KBase w5 gb b r c n cap [] w' ∧ RowAt w' b (splice (List.replicate n z5) 0 (List.replicate i (blankC 0)))) (ds := [8]) #[false, false, false, false, false, false, false, false, false] (by kernel_rfl) rfl rfl ⟨HKd.out.c2, HKd.out, HRd.out⟩ (fun hHeld => ?_)
      refine pure_ (i := 0) (N := some 29) (v := ?_) (a' := ?_) #[true, false, false, false, false, false, false, false, false] rfl rfl (by kernel_rfl) (fun _ _ _ h => h) (Or.inl ⟨by rfl, ?_⟩) ?_ ?_
      rotate_left
      · intro w'
        go_simp
        with_reducible rfl
      rotate_left
      · simp only [Act.put, List.setIfInBounds_toArray, List.set_cons_zero, List.set_cons_succ, i64_w, i32_w]
        rfl
      refine pure_ (i := 1) (N := some 30) (v := ?_) (a' := ?_) #[true, true, false, false, false, false, false, false, false] rfl rfl (by kernel_rfl) (fun _ _ _ h => h) (Or.inl ⟨by rfl, ?_⟩) ?_ ?_
      rotate_left
      · intro w'
        go_simp
        with_reducible rfl
      rotate_left
      · simp only [Act.put, List.setIfInBounds_toArray, List.set_cons_zero, List.set_cons_succ, i64_w, i32_w]
        rfl
      refine pure_ (i := 2) (N := some 31) (v := ?_) (a' := ?_) #[true, true, true, false, false, false, false, false, false] rfl rfl (by kernel_rfl) (fun _ _ _ h => h) (Or.inl ⟨by rfl, ?_⟩) ?_ ?_
      rotate_left
      · intro w'
        go_simp
        with_reducible rfl
      rotate_left
      · simp only [Act.put, List.setIfInBounds_toArray, List.set_cons_zero, List.set_cons_succ, i64_w, i32_w]
        rfl
      refine pure_ (i := 4) (N := some 33) (v := ?_) (a' := ?_) #[true, true, true, false, true, false, false, false, false] rfl rfl (by kernel_rfl) (fun _ _ _ h => h) (Or.inl ⟨by rfl, ?_⟩) ?_ ?_
      rotate_left
      · intro w'
        go_simp
        with_reducible rfl
      rotate_left
      · simp only [Act.put, List.setIfInBounds_toArray, List.set_cons_zero, List.set_cons_succ, i64_w, i32_w]
        rfl
      refine pure_ (i := 5) (N := some 34) (v := ?_) (a' := ?_) #[true, true, true, false, true, true, false, false, false] rfl rfl (by kernel_rfl) (fun _ _ _ h => h) (Or.inl ⟨by rfl, ?_⟩) ?_ ?_
      rotate_left
      · intro w'
        go_simp
        with_reducible rfl
      rotate_left
      · simp only [Act.put, List.setIfInBounds_toArray, List.set_cons_zero, List.set_cons_succ, i64_w, i32_w]
        rfl
      refine take_ (i := 3) (N := some 32) (v := ?_) (a' := ?_) #[true, true, true, true, true, true, false, false, false] rfl rfl (by kernel_rfl) (fun _ _ _ h => h) (Or.inl ⟨by rfl, ?_⟩) hHeld ?_ ?_
      rotate_left
      · rintro w' ⟨s0, s1, s2⟩
        go_simp
        with_reducible rfl
      rotate_left
      · simp only [Act.put, List.setIfInBounds_toArray, List.set_cons_zero, List.set_cons_succ, i64_w, i32_w]
        rfl
      refine one_ (i := 6) (N := some 35) #[true, true, true, true, true, true, true, false, false] rfl rfl (by kernel_rfl) (by decide) (fun K hK => ?_)
      refine goes_ Tryd.func43 (by kernel_rfl) rfl #[.agg #[.int .i64 0, .int .i64 0, .int .i64 0]] (by rfl) rfl rfl (by simp only [List.map_toArray, List.map_cons, List.map_nil]; rfl) ?_
      refine (PD.tikref6_Blank.calls 0 0 0 32 0 0 0 0 _ rfl).mono ?_
      rintro e w6 ⟨rfl, hbw6⟩
      refine ⟨_, rfl, ?_⟩
      have HK6 := Aside0.mk (HKd.out.next hbw6)
      have HR6 := Aside0.mk (HRd.out.below hbw6)
      clear hbw6
      refine hK.out _ _ ⟨HK6.out.c2, HK6.out, HR6.out⟩ (fun hHeld => ?_)
      clear hK K
      refine norm_ (a' := ?_) ?_ ?_
      rotate_left
      · show Act.put _ (some 35) _ = _
        simp only [Act.put, List.setIfInBounds_toArray, List.set_cons_zero, List.set_cons_succ, i64_w, i32_w]
        rfl
      refine pure_ (i := 7) (N := some 36) (v := ?_) (a' := ?_) #[true, true, true, true, true, true, true, true, false] rfl rfl (by kernel_rfl) (fun _ _ _ h => h) (Or.inl ⟨by rfl, ?_⟩) ?_ ?_
      rotate_left
      · intro w'
        go_simp
        with_reducible rfl
      rotate_left
      · simp only [Act.put, List.setIfInBounds_toArray, List.set_cons_zero, List.set_cons_succ, i64_w, i32_w]
        rfl
      refine last_ (i := 8) (N := none) #[true, true, true, true, true, true, true, true, true] rfl rfl (by kernel_rfl) (by decide) (fun K hK => ?_)
      refine skip_store_cell (by rfl) rfl rfl HR6.out i HLI.out (blankC 0) info_cell (by rfl) (Nat.mul_comm _ _) (by rfl) ?_
      intro w14 hR14 hg14
      have HK14 := Aside0.mk (HK6.out.wrote hR14 hg14)
      have HR14 := Aside0.mk hR14
      clear hR14 hg14
      refine hK.out _ _ ?_
      clear hK K
      refine done_ (by kernel_rfl) ?_
      go_wp2
      go_roundw
      case rel => exact ⟨i + 1, hlt, by go_num, ⟨by have := HR14.out; have e := splice_rep1 (L := List.replicate n z5) (o := 0) (i := i) (blankC 0) (by rw [List.length_replicate]; omega); rw [Nat.zero_add] at e; rw [e] at this; exact this⟩, HK14⟩
      case measure => simp [intOf]; omega
    · obtain rfl : i = n := by omega
      go_wp2
      go_ret2
      have hr := HR3.out
      rw [splice_all _ _ (by rw [List.length_replicate, List.length_replicate])] at hr
      refine ⟨gb, b, rfl, ⟨⟨cap, by rw [List.length_replicate]; exact HK3.out.blk, by rw [List.length_replicate]; exact hc9, hm9⟩, hr, by rw [List.length_replicate, HN.out], h1, h2, h3, h4, HNE.out, HGW.out, HBB.out⟩, below_new HB35.out HK3.out.grown HBB.out⟩
end Go.Proofs.YtcfndcjbgalnpaaDoor.Hand
