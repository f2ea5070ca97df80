/-
  Bytes and texts read by a Reader; a new one; its end.
-/
import Derived.Test.YtabljieejnhefaaWire6
namespace Go.Proofs.Ytabljieejnhefaa.Hand
open Go.RowKit Go.Proofs.YtabljieejnhefaaW.PrintWords Go.Proofs.YtabljieejnhefaaW.PrintLast

/-- The value of a text. -/
def StrV (s : ByteArray) (_ : Nat) (_ : World) (v : Value) : Prop := v = .string s
theorem strV_stays (s : ByteArray) : Stays (StrV s) where
  mu := fun h _ => h
  lower := fun h _ => h
theorem string_any {w : World} {b : Nat} {l : List Int} {v : Value} (h : BytesV l b w v) : ∃ A c, v = .slice A l.length c ∧ Kd.C (Kd.int .u8) w A l.length l := by
  obtain ⟨A, c, e, _, hC⟩ := Kd.R_reads h
  exact ⟨A, c, e, hC⟩
/-- A text read: a number up to a bound, and so many bytes. -/
def textL (l : List Int) (at_ most : Int) : Except Int (Int × Int) :=
  match upL l at_ (if most < 0 then 0 else most) with
  | .ok (n, p) => match rawL l p n with
    | .ok q => .ok (n, q)
    | .error x => .error x
  | .error x => .error x
theorem cell_mu {S : Nat → Prop} {w w' : World} (h : Mu S w w') {p : Addr} {v : Value} (hc : w.cell? p = some v) (hS : ¬ S p.block) : w'.cell? p = some v :=
  (World.cell?_of_block (w := w) (h.block p.block (World.block_lt_of_cell? _ _ hc) hS)).trans hc
def wpL (P : Program) (ops : Array Oper) (Q : Exit → Act → World → Prop) : List Nat → Act → World → Prop
  | [], a, w => Q .normal a w
  | i :: rest, a, w => match ops[i]? with
    | none => wpL P ops Q rest a w
    | some o => if Region.wanted o (yielded ops a.tmps) then o.wp P a w (wpL P ops Q rest) Q else wpL P ops Q rest (a.put o.dst undef) w
theorem wpL_sound {P : Program} {ops : Array Oper} {Q : Exit → Act → World → Prop} : ∀ (l : List Nat) (a : Act) (w : World), wpL P ops Q l a w → wpOps P ops Q l a w
  | [], a, w, h => h
  | i :: rest, a, w, h => by
    rw [wpOps_cons]
    unfold wpOp
    simp only [wpL] at h
    split
    · rename_i ho
      rw [ho] at h
      exact wpL_sound rest a w h
    · rename_i o ho
      rw [ho] at h
      simp only [] at h
      split
      · rename_i hw
        rw [if_pos hw] at h
        exact .inl (Oper.wp_mono (wpL_sound rest) h)
      · rename_i hw
        rw [if_neg hw] at h
        exact wpL_sound rest _ w h
theorem wp_region_orders {P : Program} {Q : Exit → Act → World → Prop} {a : Act} {w : World} {id : Nat} {ops : Array Oper} (hm : P.follows .mixedOrders = true)
    {L : List (List Nat)} (hL : allOrders .any ops ops.size (Array.replicate ops.size false) = L) (h : ∀ l ∈ L, wpL P ops Q l a w.drew) : (Code.region id ops true).wp P Q a w :=
  wp_region_draw fun t => by
    have hl := mem_allOrders .any ops ops.size t (Array.replicate ops.size false)
    rw [hL] at hl
    simp only [Region.schedule, hm, Bool.true_or, if_true]
    exact wpL_sound _ a _ (h _ hl)
def textOrders : List (List Nat) := [[0, 1, 2, 3, 4, 5, 6, 7, 8], [0, 2, 1, 3, 4, 5, 6, 7, 8], [0, 2, 3, 1, 4, 5, 6, 7, 8], [0, 2, 3, 4, 1, 5, 6, 7, 8], [1, 0, 2, 3, 4, 5, 6, 7, 8], [1, 2, 0, 3, 4, 5, 6, 7, 8], [1, 2, 3, 0, 4, 5, 6, 7, 8], [1, 2, 3, 4, 0, 5, 6, 7, 8], [1, 2, 3, 4, 5, 0, 6, 7, 8], [2, 0, 1, 3, 4, 5, 6, 7, 8], [2, 0, 3, 1, 4, 5, 6, 7, 8], [2, 0, 3, 4, 1, 5, 6, 7, 8], [2, 1, 0, 3, 4, 5, 6, 7, 8], [2, 1, 3, 0, 4, 5, 6, 7, 8], [2, 1, 3, 4, 0, 5, 6, 7, 8], [2, 1, 3, 4, 5, 0, 6, 7, 8], [2, 3, 0, 1, 4, 5, 6, 7, 8], [2, 3, 0, 4, 1, 5, 6, 7, 8], [2, 3, 1, 0, 4, 5, 6, 7, 8], [2, 3, 1, 4, 0, 5, 6, 7, 8], [2, 3, 1, 4, 5, 0, 6, 7, 8], [2, 3, 4, 0, 1, 5, 6, 7, 8], [2, 3, 4, 1, 0, 5, 6, 7, 8], [2, 3, 4, 1, 5, 0, 6, 7, 8]]
set_option maxHeartbeats 2000000 in
theorem text1_up {w : World} {F : Nat → Prop} {g pr pm : Nat} {l : List Int} {at_ e most M n p x : Int} (hI : IsRd w F g l at_ e) (h0 : 0 ≤ at_) (h1 : at_ ≤ l.length) (hl : l.length < 140737488355328) (hF : ∀ k, F k → k < w.heap.size)
    (hr : w.heap[pr]? = some (.cells #[.pointer (some ⟨g, 0, none⟩)] 38 (0, 0))) (hm : w.heap[pm]? = some (.cells #[.int .i64 most] 3 (0, 0))) (nr : pr ≠ g) (nm : pm ≠ g)
    (hM : (if most < 0 then 0 else most) = M) (hwm : IntKind.u64.wrap M = M)
    (hu : upL l at_ M = .error x) {Res : Nat → World → Value → Prop} {b : Nat} :
    Calls Try.prog 41 #[.pointer (some ⟨pr, 0, none⟩), .pointer (some ⟨pm, 0, none⟩)] w (RdPost Res b F g l e w (.error x)) := by
  have cr := blk_cell hr 0
  have cm := blk_cell hm 0
  have cr' : w.cell? ⟨pr, 0, none⟩ = some (.pointer (some ⟨g, 0, none⟩)) := cr
  have cm' : w.cell? ⟨pm, 0, none⟩ = some (.int .i64 most) := cm
  have CR := Aside0.mk cr'
  have CM := Aside0.mk cm'
  have HI := Aside0.mk hI
  have HF := Aside0.mk hF
  have HU := Aside0.mk hu
  clear hI hF hr hm hu cr' cm'
  go_enter Try.func41, Try.ntmps41
  go_wp2_with fail
  refine wp_region_orders (L := textOrders) (by kernel_rfl) (by kernel_rfl) ?_
  have hb : Calls Try.prog 36 #[.pointer (some ⟨g, 0, none⟩), .int .u64 M] w.drew (NumPost F g l e w.drew (Value.int .u64) (.error x)) := by
    rw [← HU.out]; exact upTo_any (HI.out.mu ((Mu.refl (fun _ => False) w).drew) (fun _ _ h => h)) h0 h1
  intro l hl
  simp only [textOrders, List.mem_cons, List.not_mem_nil, or_false] at hl
  rcases hl with rfl | rfl | rfl | rfl | rfl | rfl | rfl | rfl | rfl | rfl | rfl | rfl | rfl | rfl | rfl | rfl | rfl | rfl | rfl | rfl | rfl | rfl | rfl | rfl
  all_goals
    simp [wpL, Oper.wp, go_sem, cr, cm, hM, hwm]
    refine hb.mono ?_
    rintro en w1 ⟨rfl, hI1, hm1⟩
    exact ⟨rfl, rfl, hI1, Mu.trans ((Mu.refl (· = g) w).drew) hm1⟩
set_option maxHeartbeats 2000000 in
theorem text1_raw {w : World} {F : Nat → Prop} {g pr pm : Nat} {l : List Int} {at_ e most M n p x : Int} (hI : IsRd w F g l at_ e) (h0 : 0 ≤ at_) (h1 : at_ ≤ l.length) (hl : l.length < 140737488355328) (hF : ∀ k, F k → k < w.heap.size)
    (hr : w.heap[pr]? = some (.cells #[.pointer (some ⟨g, 0, none⟩)] 38 (0, 0))) (hm : w.heap[pm]? = some (.cells #[.int .i64 most] 3 (0, 0))) (nr : pr ≠ g) (nm : pm ≠ g)
    (hM : (if most < 0 then 0 else most) = M) (hwm : IntKind.u64.wrap M = M)
    (hu : upL l at_ M = .ok (n, p)) (hn : 0 ≤ n) (hq : rawL l p n = .error x) {Res : Nat → World → Value → Prop} {b : Nat} :
    Calls Try.prog 41 #[.pointer (some ⟨pr, 0, none⟩), .pointer (some ⟨pm, 0, none⟩)] w (RdPost Res b F g l e w (.error x)) := by
  have cr := blk_cell hr 0
  have cm := blk_cell hm 0
  have cr' : w.cell? ⟨pr, 0, none⟩ = some (.pointer (some ⟨g, 0, none⟩)) := cr
  have cm' : w.cell? ⟨pm, 0, none⟩ = some (.int .i64 most) := cm
  have CR := Aside0.mk cr'
  have CM := Aside0.mk cm'
  have HI := Aside0.mk hI
  have HF := Aside0.mk hF
  have HU := Aside0.mk hu
  have HQ := Aside0.mk hq
  clear hq
  clear hI hF hr hm hu cr' cm'
  go_enter Try.func41, Try.ntmps41
  go_wp2_with fail
  refine wp_region_orders (L := textOrders) (by kernel_rfl) (by kernel_rfl) ?_
  have hb : Calls Try.prog 36 #[.pointer (some ⟨g, 0, none⟩), .int .u64 M] w.drew (NumPost F g l e w.drew (Value.int .u64) (.ok (n, p))) := by
    rw [← HU.out]; exact upTo_any (HI.out.mu ((Mu.refl (fun _ => False) w).drew) (fun _ _ h => h)) h0 h1
  intro lo hlo
  simp only [textOrders, List.mem_cons, List.not_mem_nil, or_false] at hlo
  rcases hlo with rfl | rfl | rfl | rfl | rfl | rfl | rfl | rfl | rfl | rfl | rfl | rfl | rfl | rfl | rfl | rfl | rfl | rfl | rfl | rfl | rfl | rfl | rfl | rfl
  all_goals
    simp [wpL, Oper.wp, go_sem, cr, cm, hM, hwm]
    refine hb.mono ?_
    rintro en w1 ⟨rfl, hI1, hp1, hp0, hm1⟩
    have hM1 : Mu (· = g) w w1 := Mu.trans ((Mu.refl (· = g) w).drew) hm1
    have cr1 := cell_mu hM1 CR.out nr
    have cm1 := cell_mu hM1 CM.out nm
    simp [wpL, Oper.wp, go_sem, cr1, cm1, hM, hwm]
    have hr2 := raw_any (n := n) hI1 hp0 hp1 hn hl (fun k hk => Nat.lt_of_lt_of_le (HF.out k hk) hM1.size)
    rw [HQ.out] at hr2
    refine hr2.mono ?_
    rintro en w2 ⟨rfl, hI2, hm2⟩
    exact ⟨rfl, rfl, hI2, hM1.trans hm2⟩
set_option maxHeartbeats 2000000 in
theorem text1_ok {w : World} {F : Nat → Prop} {g pr pm : Nat} {l : List Int} {at_ e most M n p q : Int} (hI : IsRd w F g l at_ e) (h0 : 0 ≤ at_) (h1 : at_ ≤ l.length) (hl : l.length < 140737488355328) (hF : ∀ k, F k → k < w.heap.size)
    (hr : w.heap[pr]? = some (.cells #[.pointer (some ⟨g, 0, none⟩)] 38 (0, 0))) (hm : w.heap[pm]? = some (.cells #[.int .i64 most] 3 (0, 0))) (nr : pr ≠ g) (nm : pm ≠ g)
    (hM : (if most < 0 then 0 else most) = M) (hwm : IntKind.u64.wrap M = M)
    (hu : upL l at_ M = .ok (n, p)) (hn : 0 ≤ n) (hq : rawL l p n = .ok q) {l' : List Int} (hl' : (l.drop p.toNat).take n.toNat = l') :
    Calls Try.prog 41 #[.pointer (some ⟨pr, 0, none⟩), .pointer (some ⟨pm, 0, none⟩)] w (RdPost (StrV (strOfNums l')) w.heap.size F g l e w (.ok q)) := by
  have HL := Aside0.mk hl'
  clear hl'
  have cr := blk_cell hr 0
  have cm := blk_cell hm 0
  have cr' : w.cell? ⟨pr, 0, none⟩ = some (.pointer (some ⟨g, 0, none⟩)) := cr
  have cm' : w.cell? ⟨pm, 0, none⟩ = some (.int .i64 most) := cm
  have CR := Aside0.mk cr'
  have CM := Aside0.mk cm'
  have HI := Aside0.mk hI
  have HF := Aside0.mk hF
  have HU := Aside0.mk hu
  have HQ := Aside0.mk hq
  clear hI hF hr hm hu hq cr' cm'
  go_enter Try.func41, Try.ntmps41
  go_wp2_with fail
  refine wp_region_orders (L := textOrders) (by kernel_rfl) (by kernel_rfl) ?_
  have hb : Calls Try.prog 36 #[.pointer (some ⟨g, 0, none⟩), .int .u64 M] w.drew (NumPost F g l e w.drew (Value.int .u64) (.ok (n, p))) := by
    rw [← HU.out]; exact upTo_any (HI.out.mu ((Mu.refl (fun _ => False) w).drew) (fun _ _ h => h)) h0 h1
  intro lo hlo
  simp only [textOrders, List.mem_cons, List.not_mem_nil, or_false] at hlo
  rcases hlo with rfl | rfl | rfl | rfl | rfl | rfl | rfl | rfl | rfl | rfl | rfl | rfl | rfl | rfl | rfl | rfl | rfl | rfl | rfl | rfl | rfl | rfl | rfl | rfl
  all_goals
    simp [wpL, Oper.wp, go_sem, cr, cm, hM, hwm]
    refine hb.mono ?_
    rintro en w1 ⟨rfl, hI1, hp1, hp0, hm1⟩
    have hM1 : Mu (· = g) w w1 := Mu.trans ((Mu.refl (· = g) w).drew) hm1
    have cr1 := cell_mu hM1 CR.out nr
    have cm1 := cell_mu hM1 CM.out nm
    simp [wpL, Oper.wp, go_sem, cr1, cm1, hM, hwm]
    have hr2 := raw_any (n := n) hI1 hp0 hp1 hn hl (fun k hk => Nat.lt_of_lt_of_le (HF.out k hk) hM1.size)
    rw [HQ.out, HL.out] at hr2
    refine hr2.mono ?_
    rintro en w2 ⟨⟨v, rfl, hv⟩, hI2, hq0, hq1, hm2⟩
    obtain ⟨A, c, rfl, hC⟩ := string_any hv
    have hcv := Kd.C_string (P := Try.prog) (A := A) (c := c) Try.underlying23 Try.underlying5 Try.underlying9 hC
    simp [wpL, Oper.wp, go_sem, hcv]
    have HE := Aside0.mk (And.intro hI2 (And.intro hq0 (And.intro hq1 (hM1.trans hm2))))
    clear hI2 hm2 hM1 hv hC hcv hI1 hm1 hr2 cr1 cm1 cr cm hb
    go_wp2_with fail
    go_ret
    exact ⟨⟨_, rfl, rfl⟩, HE.out⟩
end Go.Proofs.Ytabljieejnhefaa.Hand
