/-
  What catches a failure: caught, the deferred closures, tries.
-/
import Derived.Test.YtabljieejnhefaaWire2
namespace Go.Proofs.Ytabljieejnhefaa.Hand
open Go.RowKit Go.Proofs.YtabljieejnhefaaW.PrintWords Go.Proofs.YtabljieejnhefaaW.PrintLast

theorem alloc_blk {w : World} {g : Nat} {o O : Obj} (h : w.heap[g]? = some o) : (w.alloc O).heap[g]? = some o := (Below.heap_alloc _ _ _ (heap_lt h)).trans h
set_option maxHeartbeats 1000000 in
theorem caught_nil {w : World} {p : Addr} :
    Calls Try.prog 43 #[.nilIface, .pointer (some p)] w fun en w' => en = .returned (.tuple #[]) ∧ w' = w := by
  go_enter Try.func43, Try.ntmps43
  go_wp2
  go_end0
  exact ⟨rfl, rfl⟩
set_option maxHeartbeats 1000000 in
theorem caught_stop {w : World} {g : Nat} {v a e : Value} {X : Int} (h : w.heap[g]? = some (.cells #[v, a, e] 57 (0, 0))) :
    Calls Try.prog 43 #[.iface 63 (.agg #[.int .i64 X]), .pointer (some ⟨g, 2, none⟩)] w fun en w' => en = .returned (.tuple #[]) ∧ w'.heap[g]? = some (.cells #[v, a, .int .i64 X] 57 (0, 0)) ∧ Mu (· = g) w w' := by
  have h1 := alloc_blk (O := .cells #[.int .i64 X] 63) h
  have c2 := blk_cell h1 2
  have fz := blk_frozen h1 2
  have hta : ∀ (v : Value) (W : World), (Instr.typeAssert (.iface 63 v) 20 63 true).run Try.prog W = .ok (.tuple #[v, .bool true]) W := fun v W => by rfl
  have H := Aside0.mk h1
  clear h h1
  go_enter Try.func43, Try.ntmps43
  go_wp2
  go_end0
  exact ⟨rfl, set_e H.out, ((Mu.refl (· = g) w).alloc _).setCell (p := ⟨g, 2, none⟩) (fun _ => rfl) _⟩

theorem set_0 {w : World} {g t : Nat} {v x : Value} (h : w.heap[g]? = some (.cells #[v] t (0, 0))) : (w.setCell ⟨g, 0, none⟩ x).heap[g]? = some (.cells #[x] t (0, 0)) := by
  simp [World.setCell, Array.getElem?_modify, h]
/-! a region that draws its order, and recovers -/
def allOrders (md : Region.Mode) (ops : Array Oper) : Nat → Array Bool → List (List Nat)
  | 0, _ => [[]]
  | fuel + 1, listed => match Region.ready md ops listed with
    | [] => [[]]
    | r => r.flatMap fun i => (allOrders md ops fuel (listed.setIfInBounds i true)).map (i :: ·)
theorem mem_allOrders (md : Region.Mode) (ops : Array Oper) : ∀ (fuel t : Nat) (listed : Array Bool), Region.linearise.go md ops fuel t listed [] ∈ allOrders md ops fuel listed := by
  intro fuel
  induction fuel with
  | zero => intro t listed; simp [Region.linearise.go, allOrders]
  | succ fuel ih =>
    intro t listed
    simp only [Region.linearise.go]
    change (match (Region.ready md ops listed)[t % (Region.ready md ops listed).length]? with
      | some i => Region.linearise.go md ops fuel (t / (Region.ready md ops listed).length) (listed.setIfInBounds i true) [i]
      | none => [].reverse) ∈ _
    cases hi : (Region.ready md ops listed)[t % (Region.ready md ops listed).length]? with
    | none =>
      have hnil : Region.ready md ops listed = [] := by
        cases hr : Region.ready md ops listed with
        | nil => rfl
        | cons x xs =>
          rw [hr] at hi
          have hlt : t % (x :: xs).length < (x :: xs).length := Nat.mod_lt _ (by simp)
          simp at hi
          simp at hlt
          omega
      simp [allOrders, hnil]
    | some i =>
      simp only []
      rw [linearise_go_acc, List.reverse_singleton, List.singleton_append]
      have hm := List.mem_of_getElem? hi
      unfold allOrders
      split
      · next h => rw [h] at hm; cases hm
      · exact List.mem_flatMap.2 ⟨i, hm, List.mem_map.2 ⟨_, ih _ _, rfl⟩⟩
theorem wpS_region_draw {P : Program} {Q : Exit → Act → List Frame → World → Prop} {a : Act} {cs : List Frame} {w : World} {id : Nat} {ops : Array Oper} (hm : P.follows .mixedOrders = true)
    {L : List (List Nat)} (hL : allOrders .any ops ops.size (Array.replicate ops.size false) = L) (h : ∀ l ∈ L, wpOpsS P ops Q l a cs { w with drawn := w.drawn + 1 }) : (Code.region id ops true).wpS P Q a cs w := by
  intro b k hb hr
  have hl := mem_allOrders .any ops ops.size (w.tape w.drawn (.order b.fn id)) (Array.replicate ops.size false)
  rw [hL] at hl
  obtain ⟨e, a', cs', w', q, r⟩ := wp_opsS _ a cs _ (h _ hl) b k hb hr
  refine ⟨e, a', cs', w', q, .of_steps (.one ?_) r⟩
  rw [step_region_draw]
  simp only [Region.schedule, hm, Bool.true_or, if_true]
  rfl

theorem wp_act {P : Program} {c : Code} {Q : Exit → Act → World → Prop} {a a' : Act} {w : World} (h : a = a') (k : Code.wp P c Q a' w) : Code.wp P c Q a w := h ▸ k
theorem wp_code {P : Program} {c c' : Code} {Q : Exit → Act → World → Prop} {a : Act} {w : World} (h : c = c') (k : Code.wp P c' Q a w) : Code.wp P c Q a w := h ▸ k
noncomputable def dU_rest : Code := match Try.f42.body with | some (.seq _ c) => c | _ => .skip
set_option maxHeartbeats 1000000 in
theorem dU_rest_stop {w w1 : World} {g pr pa pn px : Nat} {v a rv : Value} {X A : Int} (hX : (X != 0) = true) (nx : px ≠ g)
    (hg1 : w1.heap[g]? = some (.cells #[v, a, .int .i64 X] 57 (0, 0))) (hr1 : w1.heap[pr]? = some (.cells #[.pointer (some ⟨g, 0, none⟩)] 38 (0, 0)))
    (ha1 : w1.heap[pa]? = some (.cells #[.int .i64 A] 3 (0, 0))) (hn1 : w1.heap[pn]? = some (.cells #[.int .u64 0] 22 (0, 0))) (hx1 : w1.heap[px]? = some (.cells #[.int .u64 0] 22 (0, 0)))
    (hm1 : Mu (· = g) w w1) :
    Code.wp Try.prog dU_rest (fun e a' w' => e = .normal ∧ a'.defers = [] ∧ w'.heap[g]? = some (.cells #[v, .int .i64 A, .int .i64 X] 57 (0, 0)) ∧ w'.heap[px]? = some (.cells #[.int .u64 0] 22 (0, 0)) ∧ Mu (fun k => k = g ∨ k = px) w w')
      { tmps := #[.pointer (some ⟨pr, 0, none⟩), .pointer (some ⟨pa, 0, none⟩), .pointer (some ⟨pn, 0, none⟩), .pointer (some ⟨px, 0, none⟩), rv, .pointer (some ⟨g, 0, none⟩), .pointer (some ⟨g, 0, none⟩), .pointer (some ⟨g, 2, none⟩), .tuple #[], undef, undef, undef, undef, undef, undef, undef, undef, undef, undef], defers := [] } w1 := by
  have cr1 := blk_cell hr1 0
  have ca1 := blk_cell ha1 0
  have cn1 := blk_cell hn1 0
  have cg1 := blk_cell hg1 2
  have cg2 := blk_cell hg1 1
  have cx1 := blk_cell hx1 0
  have fg1 := blk_frozen hg1 1
  have fx1 := blk_frozen hx1 0
  have Hg1 := Aside0.mk hg1
  have Hx1 := Aside0.mk hx1
  have Hm1 := Aside0.mk hm1
  clear hg1 hm1 hr1 ha1 hn1 hx1
  unfold dU_rest Try.f42
  go_wp2
  refine ⟨?_, ?_, ?_⟩
  · rw [Below.heap_setCell _ _ _ _ (by exact fun e => nx e.symm)]
    exact set_at Hg1.out
  · exact set_0 ((Below.heap_setCell _ _ _ _ (by exact nx)).trans Hx1.out)
  · exact (((Mu.mono (Hm1.out) (fun k _ h => .inl h) : Mu (fun k => k = g ∨ k = px) w w1)).setCell (p := ⟨g, 1, none⟩) (fun _ => .inl rfl) _).setCell (p := ⟨px, 0, none⟩) (fun _ => .inr rfl) _
set_option maxHeartbeats 1000000 in
theorem dU_stop {w : World} {g pr pa pn px : Nat} {v a e : Value} {X A : Int} {older : List PanicEntry} (hX : (X != 0) = true) (nr : pr ≠ g) (na : pa ≠ g) (nn : pn ≠ g) (nx : px ≠ g)
    (hg : w.heap[g]? = some (.cells #[v, a, e] 57 (0, 0))) (hr : w.heap[pr]? = some (.cells #[.pointer (some ⟨g, 0, none⟩)] 38 (0, 0)))
    (ha : w.heap[pa]? = some (.cells #[.int .i64 A] 3 (0, 0))) (hn : w.heap[pn]? = some (.cells #[.int .u64 0] 22 (0, 0))) (hx : w.heap[px]? = some (.cells #[.int .u64 0] 22 (0, 0))) :
    CallsD Try.prog 42 #[.pointer (some ⟨pr, 0, none⟩), .pointer (some ⟨pa, 0, none⟩), .pointer (some ⟨pn, 0, none⟩), .pointer (some ⟨px, 0, none⟩)]
      (.panicking ({ v := .iface 63 (.agg #[.int .i64 X]), recovered := false } :: older)) w fun en u w' =>
      en = .returned (.tuple #[]) ∧ u = .panicking ({ v := .iface 63 (.agg #[.int .i64 X]), recovered := true } :: older) ∧
        w'.heap[g]? = some (.cells #[v, .int .i64 A, .int .i64 X] 57 (0, 0)) ∧ w'.heap[px]? = some (.cells #[.int .u64 0] 22 (0, 0)) ∧ Mu (fun k => k = g ∨ k = px) w w' := by
  refine callsD_of_wpS Try.func42 rfl fun c₀ cs hu => ?_
  have cr := blk_cell hr 0
  apply wpS_seq
  refine wpS_region_draw (by kernel_rfl) (L := [[0, 1, 2, 3, 4], [1, 0, 2, 3, 4], [1, 2, 0, 3, 4], [1, 2, 3, 0, 4]]) (by kernel_rfl) ?_
  intro l hl
  simp only [List.mem_cons, List.not_mem_nil, or_false] at hl
  have hg' : w.drew.heap[g]? = some (.cells #[v, a, e] 57 (0, 0)) := hg
  have fin : ∀ (en : Exit) (a' : Act) (w' : World), (en = .normal ∧ a'.defers = [] ∧ w'.heap[g]? = some (.cells #[v, .int .i64 A, .int .i64 X] 57 (0, 0)) ∧ w'.heap[px]? = some (.cells #[.int .u64 0] 22 (0, 0)) ∧ Mu (fun k => k = g ∨ k = px) w w') →
      bodyPostS Try.prog Try.f42 c₀ cs (fun en u w' => en = .returned (.tuple #[]) ∧ u = .panicking ({ v := .iface 63 (.agg #[.int .i64 X]), recovered := true } :: older) ∧
        w'.heap[g]? = some (.cells #[v, .int .i64 A, .int .i64 X] 57 (0, 0)) ∧ w'.heap[px]? = some (.cells #[.int .u64 0] 22 (0, 0)) ∧ Mu (fun k => k = g ∨ k = px) w w') en a'
        ({ c₀ with mode := .panicking ({ v := .iface 63 (.agg #[.int .i64 X]), recovered := true } :: older) } :: cs) w' := by
    rintro en a' w' ⟨rfl, hd, h1, h2, h3⟩
    exact ⟨hd, _, rfl, .tuple #[], results_none rfl _ _ _, rfl, rfl, h1, h2, h3⟩
  rcases hl with rfl | rfl | rfl | rfl
  all_goals
    simp [wpOpsS, go_sem, recoverD, hu, Try.ntmps42, cr]
    refine (caught_stop hg').mono ?_
    rintro en w1 ⟨rfl, hg1, hm1⟩
    refine wpS_of_wp ?_
    refine wp_act (a' := { tmps := #[.pointer (some ⟨pr, 0, none⟩), .pointer (some ⟨pa, 0, none⟩), .pointer (some ⟨pn, 0, none⟩), .pointer (some ⟨px, 0, none⟩), .iface 63 (.agg #[.int .i64 X]), .pointer (some ⟨g, 0, none⟩), .pointer (some ⟨g, 0, none⟩), .pointer (some ⟨g, 2, none⟩), .tuple #[], undef, undef, undef, undef, undef, undef, undef, undef, undef, undef], defers := [] }) (by kernel_rfl) ?_
    refine wp_code (c' := dU_rest) (by kernel_rfl) ?_
    exact Code.wp_mono fin (dU_rest_stop hX nx hg1 (hm1.heap (show w.drew.heap[pr]? = _ from hr) nr) (hm1.heap (show w.drew.heap[pa]? = _ from ha) na) (hm1.heap (show w.drew.heap[pn]? = _ from hn) nn) (hm1.heap (show w.drew.heap[px]? = _ from hx) nx) (Mu.trans ((Mu.refl _ _).drew) hm1))
set_option maxHeartbeats 1000000 in
theorem dU_rest_idle {w1 : World} {g pr : Nat} {v a p1 p2 p3 rv : Value} 
    (hg1 : w1.heap[g]? = some (.cells #[v, a, .int .i64 0] 57 (0, 0))) (hr1 : w1.heap[pr]? = some (.cells #[.pointer (some ⟨g, 0, none⟩)] 38 (0, 0))) :
    Code.wp Try.prog dU_rest (fun e a' w' => e = .normal ∧ a'.defers = [] ∧ w' = w1)
      { tmps := #[.pointer (some ⟨pr, 0, none⟩), p1, p2, p3, rv, .pointer (some ⟨g, 0, none⟩), .pointer (some ⟨g, 0, none⟩), .pointer (some ⟨g, 2, none⟩), .tuple #[], undef, undef, undef, undef, undef, undef, undef, undef, undef, undef], defers := [] } w1 := by
  have cr1 := blk_cell hr1 0
  have cg1 := blk_cell hg1 2
  clear hg1 hr1
  unfold dU_rest Try.f42
  go_wp2
set_option maxHeartbeats 1000000 in
theorem dU_idle {w : World} {g pr : Nat} {v a p1 p2 p3 : Value} 
    (hg : w.heap[g]? = some (.cells #[v, a, .int .i64 0] 57 (0, 0))) (hr : w.heap[pr]? = some (.cells #[.pointer (some ⟨g, 0, none⟩)] 38 (0, 0))) :
    CallsD Try.prog 42 #[.pointer (some ⟨pr, 0, none⟩), p1, p2, p3] .returning w fun en u w' =>
      en = .returned (.tuple #[]) ∧ u = .returning ∧ w' = w.drew := by
  refine callsD_of_wpS Try.func42 rfl fun c₀ cs hu => ?_
  have cr := blk_cell hr 0
  apply wpS_seq
  refine wpS_region_draw (by kernel_rfl) (L := [[0, 1, 2, 3, 4], [1, 0, 2, 3, 4], [1, 2, 0, 3, 4], [1, 2, 3, 0, 4]]) (by kernel_rfl) ?_
  intro l hl
  simp only [List.mem_cons, List.not_mem_nil, or_false] at hl
  have fin : ∀ (en : Exit) (a' : Act) (w' : World), (en = .normal ∧ a'.defers = [] ∧ w' = w.drew) →
      bodyPostS Try.prog Try.f42 c₀ cs (fun en u w' => en = .returned (.tuple #[]) ∧ u = .returning ∧ w' = w.drew) en a' (c₀ :: cs) w' := by
    rintro en a' w' ⟨rfl, hd, rfl⟩
    exact ⟨hd, .returning, by rw [← hu], .tuple #[], results_none rfl _ _ _, rfl, rfl, rfl⟩
  rcases hl with rfl | rfl | rfl | rfl
  all_goals
    simp [wpOpsS, go_sem, recoverD, hu, Try.ntmps42, cr]
    refine caught_nil.mono ?_
    rintro en w1 ⟨rfl, rfl⟩
    refine wpS_of_wp ?_
    refine wp_act (a' := { tmps := #[.pointer (some ⟨pr, 0, none⟩), p1, p2, p3, .nilIface, .pointer (some ⟨g, 0, none⟩), .pointer (some ⟨g, 0, none⟩), .pointer (some ⟨g, 2, none⟩), .tuple #[], undef, undef, undef, undef, undef, undef, undef, undef, undef, undef], defers := [] }) (by kernel_rfl) ?_
    refine wp_code (c' := dU_rest) (by kernel_rfl) ?_
    exact Code.wp_mono fin (dU_rest_idle hg hr)
noncomputable def dB_rest : Code := match Try.f45.body with | some (.seq _ c) => c | _ => .skip
set_option maxHeartbeats 1000000 in
theorem dB_rest_stop {w w1 : World} {g pr pa pn px : Nat} {v a rv : Value} {X A : Int} (hX : (X != 0) = true) (nx : px ≠ g)
    (hg1 : w1.heap[g]? = some (.cells #[v, a, .int .i64 X] 57 (0, 0))) (hr1 : w1.heap[pr]? = some (.cells #[.pointer (some ⟨g, 0, none⟩)] 38 (0, 0)))
    (ha1 : w1.heap[pa]? = some (.cells #[.int .i64 A] 3 (0, 0))) (hn1 : w1.heap[pn]? = some (.cells #[.slice none 0 0] 23 (0, 0))) (hx1 : w1.heap[px]? = some (.cells #[.slice none 0 0] 23 (0, 0)))
    (hm1 : Mu (· = g) w w1) :
    Code.wp Try.prog dB_rest (fun e a' w' => e = .normal ∧ a'.defers = [] ∧ w'.heap[g]? = some (.cells #[v, .int .i64 A, .int .i64 X] 57 (0, 0)) ∧ w'.heap[px]? = some (.cells #[.slice none 0 0] 23 (0, 0)) ∧ Mu (fun k => k = g ∨ k = px) w w')
      { tmps := #[.pointer (some ⟨pr, 0, none⟩), .pointer (some ⟨pa, 0, none⟩), .pointer (some ⟨pn, 0, none⟩), .pointer (some ⟨px, 0, none⟩), rv, .pointer (some ⟨g, 0, none⟩), .pointer (some ⟨g, 0, none⟩), .pointer (some ⟨g, 2, none⟩), .tuple #[], undef, undef, undef, undef, undef, undef, undef, undef, undef, undef], defers := [] } w1 := by
  have cr1 := blk_cell hr1 0
  have ca1 := blk_cell ha1 0
  have cn1 := blk_cell hn1 0
  have cg1 := blk_cell hg1 2
  have cg2 := blk_cell hg1 1
  have cx1 := blk_cell hx1 0
  have fg1 := blk_frozen hg1 1
  have fx1 := blk_frozen hx1 0
  have Hg1 := Aside0.mk hg1
  have Hx1 := Aside0.mk hx1
  have Hm1 := Aside0.mk hm1
  clear hg1 hm1 hr1 ha1 hn1 hx1
  unfold dB_rest Try.f45
  go_wp2
  refine ⟨?_, ?_, ?_⟩
  · rw [Below.heap_setCell _ _ _ _ (by exact fun e => nx e.symm)]
    exact set_at Hg1.out
  · exact set_0 ((Below.heap_setCell _ _ _ _ (by exact nx)).trans Hx1.out)
  · exact (((Mu.mono (Hm1.out) (fun k _ h => .inl h) : Mu (fun k => k = g ∨ k = px) w w1)).setCell (p := ⟨g, 1, none⟩) (fun _ => .inl rfl) _).setCell (p := ⟨px, 0, none⟩) (fun _ => .inr rfl) _
set_option maxHeartbeats 1000000 in
theorem dB_stop {w : World} {g pr pa pn px : Nat} {v a e : Value} {X A : Int} {older : List PanicEntry} (hX : (X != 0) = true) (nr : pr ≠ g) (na : pa ≠ g) (nn : pn ≠ g) (nx : px ≠ g)
    (hg : w.heap[g]? = some (.cells #[v, a, e] 57 (0, 0))) (hr : w.heap[pr]? = some (.cells #[.pointer (some ⟨g, 0, none⟩)] 38 (0, 0)))
    (ha : w.heap[pa]? = some (.cells #[.int .i64 A] 3 (0, 0))) (hn : w.heap[pn]? = some (.cells #[.slice none 0 0] 23 (0, 0))) (hx : w.heap[px]? = some (.cells #[.slice none 0 0] 23 (0, 0))) :
    CallsD Try.prog 45 #[.pointer (some ⟨pr, 0, none⟩), .pointer (some ⟨pa, 0, none⟩), .pointer (some ⟨pn, 0, none⟩), .pointer (some ⟨px, 0, none⟩)]
      (.panicking ({ v := .iface 63 (.agg #[.int .i64 X]), recovered := false } :: older)) w fun en u w' =>
      en = .returned (.tuple #[]) ∧ u = .panicking ({ v := .iface 63 (.agg #[.int .i64 X]), recovered := true } :: older) ∧
        w'.heap[g]? = some (.cells #[v, .int .i64 A, .int .i64 X] 57 (0, 0)) ∧ w'.heap[px]? = some (.cells #[.slice none 0 0] 23 (0, 0)) ∧ Mu (fun k => k = g ∨ k = px) w w' := by
  refine callsD_of_wpS Try.func45 rfl fun c₀ cs hu => ?_
  have cr := blk_cell hr 0
  apply wpS_seq
  refine wpS_region_draw (by kernel_rfl) (L := [[0, 1, 2, 3, 4], [1, 0, 2, 3, 4], [1, 2, 0, 3, 4], [1, 2, 3, 0, 4]]) (by kernel_rfl) ?_
  intro l hl
  simp only [List.mem_cons, List.not_mem_nil, or_false] at hl
  have hg' : w.drew.heap[g]? = some (.cells #[v, a, e] 57 (0, 0)) := hg
  have fin : ∀ (en : Exit) (a' : Act) (w' : World), (en = .normal ∧ a'.defers = [] ∧ w'.heap[g]? = some (.cells #[v, .int .i64 A, .int .i64 X] 57 (0, 0)) ∧ w'.heap[px]? = some (.cells #[.slice none 0 0] 23 (0, 0)) ∧ Mu (fun k => k = g ∨ k = px) w w') →
      bodyPostS Try.prog Try.f45 c₀ cs (fun en u w' => en = .returned (.tuple #[]) ∧ u = .panicking ({ v := .iface 63 (.agg #[.int .i64 X]), recovered := true } :: older) ∧
        w'.heap[g]? = some (.cells #[v, .int .i64 A, .int .i64 X] 57 (0, 0)) ∧ w'.heap[px]? = some (.cells #[.slice none 0 0] 23 (0, 0)) ∧ Mu (fun k => k = g ∨ k = px) w w') en a'
        ({ c₀ with mode := .panicking ({ v := .iface 63 (.agg #[.int .i64 X]), recovered := true } :: older) } :: cs) w' := by
    rintro en a' w' ⟨rfl, hd, h1, h2, h3⟩
    exact ⟨hd, _, rfl, .tuple #[], results_none rfl _ _ _, rfl, rfl, h1, h2, h3⟩
  rcases hl with rfl | rfl | rfl | rfl
  all_goals
    simp [wpOpsS, go_sem, recoverD, hu, Try.ntmps45, cr]
    refine (caught_stop hg').mono ?_
    rintro en w1 ⟨rfl, hg1, hm1⟩
    refine wpS_of_wp ?_
    refine wp_act (a' := { tmps := #[.pointer (some ⟨pr, 0, none⟩), .pointer (some ⟨pa, 0, none⟩), .pointer (some ⟨pn, 0, none⟩), .pointer (some ⟨px, 0, none⟩), .iface 63 (.agg #[.int .i64 X]), .pointer (some ⟨g, 0, none⟩), .pointer (some ⟨g, 0, none⟩), .pointer (some ⟨g, 2, none⟩), .tuple #[], undef, undef, undef, undef, undef, undef, undef, undef, undef, undef], defers := [] }) (by kernel_rfl) ?_
    refine wp_code (c' := dB_rest) (by kernel_rfl) ?_
    exact Code.wp_mono fin (dB_rest_stop hX nx hg1 (hm1.heap (show w.drew.heap[pr]? = _ from hr) nr) (hm1.heap (show w.drew.heap[pa]? = _ from ha) na) (hm1.heap (show w.drew.heap[pn]? = _ from hn) nn) (hm1.heap (show w.drew.heap[px]? = _ from hx) nx) (Mu.trans ((Mu.refl _ _).drew) hm1))
set_option maxHeartbeats 1000000 in
theorem dB_rest_idle {w1 : World} {g pr : Nat} {v a p1 p2 p3 rv : Value} 
    (hg1 : w1.heap[g]? = some (.cells #[v, a, .int .i64 0] 57 (0, 0))) (hr1 : w1.heap[pr]? = some (.cells #[.pointer (some ⟨g, 0, none⟩)] 38 (0, 0))) :
    Code.wp Try.prog dB_rest (fun e a' w' => e = .normal ∧ a'.defers = [] ∧ w' = w1)
      { tmps := #[.pointer (some ⟨pr, 0, none⟩), p1, p2, p3, rv, .pointer (some ⟨g, 0, none⟩), .pointer (some ⟨g, 0, none⟩), .pointer (some ⟨g, 2, none⟩), .tuple #[], undef, undef, undef, undef, undef, undef, undef, undef, undef, undef], defers := [] } w1 := by
  have cr1 := blk_cell hr1 0
  have cg1 := blk_cell hg1 2
  clear hg1 hr1
  unfold dB_rest Try.f45
  go_wp2
set_option maxHeartbeats 1000000 in
theorem dB_idle {w : World} {g pr : Nat} {v a p1 p2 p3 : Value} 
    (hg : w.heap[g]? = some (.cells #[v, a, .int .i64 0] 57 (0, 0))) (hr : w.heap[pr]? = some (.cells #[.pointer (some ⟨g, 0, none⟩)] 38 (0, 0))) :
    CallsD Try.prog 45 #[.pointer (some ⟨pr, 0, none⟩), p1, p2, p3] .returning w fun en u w' =>
      en = .returned (.tuple #[]) ∧ u = .returning ∧ w' = w.drew := by
  refine callsD_of_wpS Try.func45 rfl fun c₀ cs hu => ?_
  have cr := blk_cell hr 0
  apply wpS_seq
  refine wpS_region_draw (by kernel_rfl) (L := [[0, 1, 2, 3, 4], [1, 0, 2, 3, 4], [1, 2, 0, 3, 4], [1, 2, 3, 0, 4]]) (by kernel_rfl) ?_
  intro l hl
  simp only [List.mem_cons, List.not_mem_nil, or_false] at hl
  have fin : ∀ (en : Exit) (a' : Act) (w' : World), (en = .normal ∧ a'.defers = [] ∧ w' = w.drew) →
      bodyPostS Try.prog Try.f45 c₀ cs (fun en u w' => en = .returned (.tuple #[]) ∧ u = .returning ∧ w' = w.drew) en a' (c₀ :: cs) w' := by
    rintro en a' w' ⟨rfl, hd, rfl⟩
    exact ⟨hd, .returning, by rw [← hu], .tuple #[], results_none rfl _ _ _, rfl, rfl, rfl⟩
  rcases hl with rfl | rfl | rfl | rfl
  all_goals
    simp [wpOpsS, go_sem, recoverD, hu, Try.ntmps45, cr]
    refine caught_nil.mono ?_
    rintro en w1 ⟨rfl, rfl⟩
    refine wpS_of_wp ?_
    refine wp_act (a' := { tmps := #[.pointer (some ⟨pr, 0, none⟩), p1, p2, p3, .nilIface, .pointer (some ⟨g, 0, none⟩), .pointer (some ⟨g, 0, none⟩), .pointer (some ⟨g, 2, none⟩), .tuple #[], undef, undef, undef, undef, undef, undef, undef, undef, undef, undef], defers := [] }) (by kernel_rfl) ?_
    refine wp_code (c' := dB_rest) (by kernel_rfl) ?_
    exact Code.wp_mono fin (dB_rest_idle hg hr)
noncomputable def dS_rest : Code := match Try.f46.body with | some (.seq _ c) => c | _ => .skip
set_option maxHeartbeats 1000000 in
theorem dS_rest_stop {w w1 : World} {g pr pa pn px : Nat} {v a rv : Value} {X A : Int} (hX : (X != 0) = true) (nx : px ≠ g)
    (hg1 : w1.heap[g]? = some (.cells #[v, a, .int .i64 X] 57 (0, 0))) (hr1 : w1.heap[pr]? = some (.cells #[.pointer (some ⟨g, 0, none⟩)] 38 (0, 0)))
    (ha1 : w1.heap[pa]? = some (.cells #[.int .i64 A] 3 (0, 0))) (hn1 : w1.heap[pn]? = some (.cells #[.string ⟨#[]⟩] 9 (0, 0))) (hx1 : w1.heap[px]? = some (.cells #[.string ⟨#[]⟩] 9 (0, 0)))
    (hm1 : Mu (· = g) w w1) :
    Code.wp Try.prog dS_rest (fun e a' w' => e = .normal ∧ a'.defers = [] ∧ w'.heap[g]? = some (.cells #[v, .int .i64 A, .int .i64 X] 57 (0, 0)) ∧ w'.heap[px]? = some (.cells #[.string ⟨#[]⟩] 9 (0, 0)) ∧ Mu (fun k => k = g ∨ k = px) w w')
      { tmps := #[.pointer (some ⟨pr, 0, none⟩), .pointer (some ⟨pa, 0, none⟩), .pointer (some ⟨pn, 0, none⟩), .pointer (some ⟨px, 0, none⟩), rv, .pointer (some ⟨g, 0, none⟩), .pointer (some ⟨g, 0, none⟩), .pointer (some ⟨g, 2, none⟩), .tuple #[], undef, undef, undef, undef, undef, undef, undef, undef, undef, undef], defers := [] } w1 := by
  have cr1 := blk_cell hr1 0
  have ca1 := blk_cell ha1 0
  have cn1 := blk_cell hn1 0
  have cg1 := blk_cell hg1 2
  have cg2 := blk_cell hg1 1
  have cx1 := blk_cell hx1 0
  have fg1 := blk_frozen hg1 1
  have fx1 := blk_frozen hx1 0
  have Hg1 := Aside0.mk hg1
  have Hx1 := Aside0.mk hx1
  have Hm1 := Aside0.mk hm1
  clear hg1 hm1 hr1 ha1 hn1 hx1
  unfold dS_rest Try.f46
  go_wp2
  refine ⟨?_, ?_, ?_⟩
  · rw [Below.heap_setCell _ _ _ _ (by exact fun e => nx e.symm)]
    exact set_at Hg1.out
  · exact set_0 ((Below.heap_setCell _ _ _ _ (by exact nx)).trans Hx1.out)
  · exact (((Mu.mono (Hm1.out) (fun k _ h => .inl h) : Mu (fun k => k = g ∨ k = px) w w1)).setCell (p := ⟨g, 1, none⟩) (fun _ => .inl rfl) _).setCell (p := ⟨px, 0, none⟩) (fun _ => .inr rfl) _
set_option maxHeartbeats 1000000 in
theorem dS_stop {w : World} {g pr pa pn px : Nat} {v a e : Value} {X A : Int} {older : List PanicEntry} (hX : (X != 0) = true) (nr : pr ≠ g) (na : pa ≠ g) (nn : pn ≠ g) (nx : px ≠ g)
    (hg : w.heap[g]? = some (.cells #[v, a, e] 57 (0, 0))) (hr : w.heap[pr]? = some (.cells #[.pointer (some ⟨g, 0, none⟩)] 38 (0, 0)))
    (ha : w.heap[pa]? = some (.cells #[.int .i64 A] 3 (0, 0))) (hn : w.heap[pn]? = some (.cells #[.string ⟨#[]⟩] 9 (0, 0))) (hx : w.heap[px]? = some (.cells #[.string ⟨#[]⟩] 9 (0, 0))) :
    CallsD Try.prog 46 #[.pointer (some ⟨pr, 0, none⟩), .pointer (some ⟨pa, 0, none⟩), .pointer (some ⟨pn, 0, none⟩), .pointer (some ⟨px, 0, none⟩)]
      (.panicking ({ v := .iface 63 (.agg #[.int .i64 X]), recovered := false } :: older)) w fun en u w' =>
      en = .returned (.tuple #[]) ∧ u = .panicking ({ v := .iface 63 (.agg #[.int .i64 X]), recovered := true } :: older) ∧
        w'.heap[g]? = some (.cells #[v, .int .i64 A, .int .i64 X] 57 (0, 0)) ∧ w'.heap[px]? = some (.cells #[.string ⟨#[]⟩] 9 (0, 0)) ∧ Mu (fun k => k = g ∨ k = px) w w' := by
  refine callsD_of_wpS Try.func46 rfl fun c₀ cs hu => ?_
  have cr := blk_cell hr 0
  apply wpS_seq
  refine wpS_region_draw (by kernel_rfl) (L := [[0, 1, 2, 3, 4], [1, 0, 2, 3, 4], [1, 2, 0, 3, 4], [1, 2, 3, 0, 4]]) (by kernel_rfl) ?_
  intro l hl
  simp only [List.mem_cons, List.not_mem_nil, or_false] at hl
  have hg' : w.drew.heap[g]? = some (.cells #[v, a, e] 57 (0, 0)) := hg
  have fin : ∀ (en : Exit) (a' : Act) (w' : World), (en = .normal ∧ a'.defers = [] ∧ w'.heap[g]? = some (.cells #[v, .int .i64 A, .int .i64 X] 57 (0, 0)) ∧ w'.heap[px]? = some (.cells #[.string ⟨#[]⟩] 9 (0, 0)) ∧ Mu (fun k => k = g ∨ k = px) w w') →
      bodyPostS Try.prog Try.f46 c₀ cs (fun en u w' => en = .returned (.tuple #[]) ∧ u = .panicking ({ v := .iface 63 (.agg #[.int .i64 X]), recovered := true } :: older) ∧
        w'.heap[g]? = some (.cells #[v, .int .i64 A, .int .i64 X] 57 (0, 0)) ∧ w'.heap[px]? = some (.cells #[.string ⟨#[]⟩] 9 (0, 0)) ∧ Mu (fun k => k = g ∨ k = px) w w') en a'
        ({ c₀ with mode := .panicking ({ v := .iface 63 (.agg #[.int .i64 X]), recovered := true } :: older) } :: cs) w' := by
    rintro en a' w' ⟨rfl, hd, h1, h2, h3⟩
    exact ⟨hd, _, rfl, .tuple #[], results_none rfl _ _ _, rfl, rfl, h1, h2, h3⟩
  rcases hl with rfl | rfl | rfl | rfl
  all_goals
    simp [wpOpsS, go_sem, recoverD, hu, Try.ntmps46, cr]
    refine (caught_stop hg').mono ?_
    rintro en w1 ⟨rfl, hg1, hm1⟩
    refine wpS_of_wp ?_
    refine wp_act (a' := { tmps := #[.pointer (some ⟨pr, 0, none⟩), .pointer (some ⟨pa, 0, none⟩), .pointer (some ⟨pn, 0, none⟩), .pointer (some ⟨px, 0, none⟩), .iface 63 (.agg #[.int .i64 X]), .pointer (some ⟨g, 0, none⟩), .pointer (some ⟨g, 0, none⟩), .pointer (some ⟨g, 2, none⟩), .tuple #[], undef, undef, undef, undef, undef, undef, undef, undef, undef, undef], defers := [] }) (by kernel_rfl) ?_
    refine wp_code (c' := dS_rest) (by kernel_rfl) ?_
    exact Code.wp_mono fin (dS_rest_stop hX nx hg1 (hm1.heap (show w.drew.heap[pr]? = _ from hr) nr) (hm1.heap (show w.drew.heap[pa]? = _ from ha) na) (hm1.heap (show w.drew.heap[pn]? = _ from hn) nn) (hm1.heap (show w.drew.heap[px]? = _ from hx) nx) (Mu.trans ((Mu.refl _ _).drew) hm1))
set_option maxHeartbeats 1000000 in
theorem dS_rest_idle {w1 : World} {g pr : Nat} {v a p1 p2 p3 rv : Value} 
    (hg1 : w1.heap[g]? = some (.cells #[v, a, .int .i64 0] 57 (0, 0))) (hr1 : w1.heap[pr]? = some (.cells #[.pointer (some ⟨g, 0, none⟩)] 38 (0, 0))) :
    Code.wp Try.prog dS_rest (fun e a' w' => e = .normal ∧ a'.defers = [] ∧ w' = w1)
      { tmps := #[.pointer (some ⟨pr, 0, none⟩), p1, p2, p3, rv, .pointer (some ⟨g, 0, none⟩), .pointer (some ⟨g, 0, none⟩), .pointer (some ⟨g, 2, none⟩), .tuple #[], undef, undef, undef, undef, undef, undef, undef, undef, undef, undef], defers := [] } w1 := by
  have cr1 := blk_cell hr1 0
  have cg1 := blk_cell hg1 2
  clear hg1 hr1
  unfold dS_rest Try.f46
  go_wp2
set_option maxHeartbeats 1000000 in
theorem dS_idle {w : World} {g pr : Nat} {v a p1 p2 p3 : Value} 
    (hg : w.heap[g]? = some (.cells #[v, a, .int .i64 0] 57 (0, 0))) (hr : w.heap[pr]? = some (.cells #[.pointer (some ⟨g, 0, none⟩)] 38 (0, 0))) :
    CallsD Try.prog 46 #[.pointer (some ⟨pr, 0, none⟩), p1, p2, p3] .returning w fun en u w' =>
      en = .returned (.tuple #[]) ∧ u = .returning ∧ w' = w.drew := by
  refine callsD_of_wpS Try.func46 rfl fun c₀ cs hu => ?_
  have cr := blk_cell hr 0
  apply wpS_seq
  refine wpS_region_draw (by kernel_rfl) (L := [[0, 1, 2, 3, 4], [1, 0, 2, 3, 4], [1, 2, 0, 3, 4], [1, 2, 3, 0, 4]]) (by kernel_rfl) ?_
  intro l hl
  simp only [List.mem_cons, List.not_mem_nil, or_false] at hl
  have fin : ∀ (en : Exit) (a' : Act) (w' : World), (en = .normal ∧ a'.defers = [] ∧ w' = w.drew) →
      bodyPostS Try.prog Try.f46 c₀ cs (fun en u w' => en = .returned (.tuple #[]) ∧ u = .returning ∧ w' = w.drew) en a' (c₀ :: cs) w' := by
    rintro en a' w' ⟨rfl, hd, rfl⟩
    exact ⟨hd, .returning, by rw [← hu], .tuple #[], results_none rfl _ _ _, rfl, rfl, rfl⟩
  rcases hl with rfl | rfl | rfl | rfl
  all_goals
    simp [wpOpsS, go_sem, recoverD, hu, Try.ntmps46, cr]
    refine caught_nil.mono ?_
    rintro en w1 ⟨rfl, rfl⟩
    refine wpS_of_wp ?_
    refine wp_act (a' := { tmps := #[.pointer (some ⟨pr, 0, none⟩), p1, p2, p3, .nilIface, .pointer (some ⟨g, 0, none⟩), .pointer (some ⟨g, 0, none⟩), .pointer (some ⟨g, 2, none⟩), .tuple #[], undef, undef, undef, undef, undef, undef, undef, undef, undef, undef], defers := [] }) (by kernel_rfl) ?_
    refine wp_code (c' := dS_rest) (by kernel_rfl) ?_
    exact Code.wp_mono fin (dS_rest_idle hg hr)
end Go.Proofs.Ytabljieejnhefaa.Hand
