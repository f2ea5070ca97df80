/- Texts of this claim, put together. -/
import Derived.Test.YtdklanenmihpdaaMFBb
import Derived.Test.YtdklanenmihpdaaRows
import Derived.WalkKit
import Derived.ProofKit
import Derived.OpenShut
import Derived.ShutString
import Derived.ChangeOld
import Derived.Below
import Derived.SizedLaws
set_option linter.unusedVariables false
set_option linter.unusedSimpArgs false
namespace Go.Proofs.Ytdklanenmihpdaa.Hand
open Go.RowKit Go.Maps Go.Proofs.YtdklanenmihpdaaW.PrintWords Go.Proofs.YtdklanenmihpdaaW.PrintLast Go.Proofs.Ytdklanenmihpdaa.PA
def takeV (id cnt : Int) (ps : List (List Int)) (pid : Int) (pat pn : Nat) (b : List Int) : Option ((Int × Int × List (List Int)) × (List Int × Bool)) :=
  if pid < id then some ((id, cnt, ps), ([], false))
  else if id < pid then
    some ((pid, (pn : Int), (List.replicate pn noP).set pat b), if haveN ((List.replicate pn noP).set pat b) < pn then ([], false) else (((List.replicate pn noP).set pat b).flatten, true))
  else if (pn : Int) = cnt ∧ ps.getD pat noP = noP then
    some ((id, cnt, ps.set pat b), if haveN (ps.set pat b) < ps.length then ([], false) else ((ps.set pat b).flatten, true))
  else if (pn : Int) = cnt ∧ ps.getD pat noP = b then some ((id, cnt, ps.set pat b), ([], false))
  else none
def TakePost (w : World) (own : Nat → Prop) (g : Nat) (st : Int × Int × List (List Int)) : Option ((Int × Int × List (List Int)) × (List Int × Bool)) → Ending → World → Prop
  | some (st', m, x), e, w' => GatAt w' own g st'.1 st'.2.1 st'.2.2 ∧ Mu own w w' ∧ ∃ v, e = .returned (.tuple #[v, .bool x]) ∧ Kd.R (Kd.int .u8) 5 w' w.heap.size (fun _ => True) v m
  | none, e, w' => GatAt w' own g st.1 st.2.1 st.2.2 ∧ Mu own w w' ∧ e = .panicked fstopR
set_option maxRecDepth 100000
structure St (w1 : World) (g : Nat) (v0 v1 v2 : Value) (n : Nat) (W : World) : Prop where
  at_ : W.heap[g]? = some (.cells #[v0, v1, v2] 85 (0, 0))
  size : W.heap.size = w1.heap.size + n
  lt : g < w1.heap.size
  mu : Mu (· = g) w1 W
  new : n = 1 → W.heap[w1.heap.size]? = some (.map #[] 0)
theorem St.drew {w1 W : World} {g n : Nat} {a b c : Value} (h : St w1 g a b c n W) : St w1 g a b c n W.drew := ⟨h.at_, h.size, h.lt, h.mu.drew, h.new⟩
theorem St.drewN {w1 W : World} {g n : Nat} {a b c : Value} (h : St w1 g a b c n W) (k : Nat) : St w1 g a b c n (W.drewN k) := ⟨h.at_, h.size, h.lt, h.mu.drewN k, h.new⟩
theorem St.alloc {w1 W : World} {g : Nat} {a b c : Value} (h : St w1 g a b c 0 W) : St w1 g a b c 1 (W.alloc (.map #[] 0)) :=
  ⟨(Below.heap_alloc _ _ _ (by rw [h.size]; have := h.lt; omega)).trans h.at_, by simp [h.size], h.lt, h.mu.alloc _, fun _ => by have := alloc_new W (.map #[] 0); rwa [h.size] at this⟩
theorem set3 {w : World} {g t : Nat} {a b c x : Value} (j : Nat) (h : w.heap[g]? = some (.cells #[a, b, c] t (0, 0))) : (w.setCell ⟨g, j, none⟩ x).heap[g]? = some (.cells (#[a, b, c].setIfInBounds j x) t (0, 0)) := by
  obtain ⟨hlt, hk⟩ := Array.getElem?_eq_some_iff.1 h
  show (w.heap.modify g _)[g]? = _
  rw [Array.getElem?_eq_getElem (by rw [Array.size_modify]; exact hlt), Array.getElem_modify_self, hk]
  rfl
theorem St.set_ {w1 W : World} {g n : Nat} {a b c x a' b' c' : Value} (j : Nat) (hj : #[a, b, c].setIfInBounds j x = #[a', b', c']) (h : St w1 g a b c n W) : St w1 g a' b' c' n (W.setCell ⟨g, j, none⟩ x) :=
  ⟨by rw [set3 j h.at_, hj], by simpa [World.setCell] using h.size, h.lt, h.mu.setCell (p := ⟨g, j, none⟩) (fun _ => rfl) _, fun hn => (Below.heap_setCell _ _ _ _ (by show w1.heap.size ≠ g; have := h.lt; omega)).trans (h.new hn)⟩
theorem St.set0 {w1 W : World} {g n : Nat} {a b c x : Value} (h : St w1 g a b c n W) : St w1 g x b c n (W.setCell ⟨g, 0, none⟩ x) := h.set_ 0 rfl
theorem St.set1 {w1 W : World} {g n : Nat} {a b c x : Value} (h : St w1 g a b c n W) : St w1 g a x c n (W.setCell ⟨g, 1, none⟩ x) := h.set_ 1 rfl
theorem St.set2 {w1 W : World} {g n : Nat} {a b c x : Value} (h : St w1 g a b c n W) : St w1 g a b x n (W.setCell ⟨g, 2, none⟩ x) := h.set_ 2 rfl
theorem exec_storeF {P : Program} {w w' : World} {ev : Operand → Value} {o : Oper} {t : TypeId} {x y : Operand} {u v : Value} (ho : o.op = .store t x y) (hx : ev x = u) (hy : ev y = v) (hr : (Instr.storeAt t u v).run P w = .ok () w') : (execOp ev o).run P w = .ok .skip w' := by
  unfold execOp
  simp only [ho, hx, hy, Sem.run_bind, hr, Result.andThen_ok, Sem.run_pure]
theorem exec_makeF {P : Program} {w : World} {ev : Operand → Value} {o : Oper} {t : TypeId} {n : Nat} (ho : o.op = .makeMap t none) (hs : w.heap.size = n) : (execOp ev o).run P w = .ok (.value (.map (some n))) (w.alloc (.map #[] 0)) := by
  subst hs
  unfold execOp
  simp only [ho]
  rfl
theorem St.st0 {w1 W : World} {g n : Nat} {a b c : Value} (x : Int) (h : St w1 g a b c n W) : (Instr.storeAt 22 (.pointer (some ⟨g, 0, none⟩)) (.int .u64 x)).run Try.prog W = .ok () (W.setCell ⟨g, 0, none⟩ (.int .u64 x)) := by
  have c := blk_cell h.at_ 0
  have f := blk_frozen h.at_ 0
  simp [go_sem, c, f]
theorem St.st1 {w1 W : World} {g n : Nat} {a b c : Value} (x : Int) (h : St w1 g a b c n W) : (Instr.storeAt 3 (.pointer (some ⟨g, 1, none⟩)) (.int .i64 x)).run Try.prog W = .ok () (W.setCell ⟨g, 1, none⟩ (.int .i64 x)) := by
  have c := blk_cell h.at_ 1
  have f := blk_frozen h.at_ 1
  simp [go_sem, c, f]
theorem St.st2 {w1 W : World} {g n : Nat} {a b c : Value} (m : Option Nat) (h : St w1 g a b c n W) : (Instr.storeAt 83 (.pointer (some ⟨g, 2, none⟩)) (.map m)).run Try.prog W = .ok () (W.setCell ⟨g, 2, none⟩ (.map m)) := by
  have c := blk_cell h.at_ 2
  have f := blk_frozen h.at_ 2
  simp [go_sem, c, f]
theorem exec_updF {P : Program} {w w' : World} {ev : Operand → Value} {o : Oper} {t : TypeId} {m x y : Operand} {a u v : Value} (ho : o.op = .mapUpdate t m x y) (hm : ev m = a) (hx : ev x = u) (hy : ev y = v) (hr : (Instr.mapUpdate t a u v).run P w = .ok () w') : (execOp ev o).run P w = .ok .skip w' := by
  unfold execOp
  simp only [ho, hm, hx, hy, Sem.run_bind, hr, Result.andThen_ok, Sem.run_pure]
section
variable {P : Program} {ops : Array Oper} {Q : Exit → Act → World → Prop}
theorem goesP_ {oi : Oper} {N : Option Tmp} {a : Act} {w : World} {K : Act → World → Prop} {f : FuncId} {fn : Func} {xs_ : Array Operand} {ts : Array TypeId} (hf : P.funcs[f]? = some fn) (hname : (fn.name == "runtime.NumGoroutine") = false) (hb : fn.body.isSome = true) (args : Array Value)
    (hw : Region.wanted oi (yielded ops a.tmps) = true) (hN : oi.dst = N) (hop : oi.op = .call { callee := .value (.func f), args := xs_, argTypes := ts }) (hargs : xs_.map a.eval = args)
    (h : Calls P f args w fun e w' => ∃ c, e = .panicked c ∧ Q (.panic c) a w') : if Region.wanted oi (yielded ops a.tmps) = true then Oper.wp P oi a w K Q else K (a.put N undef) w := by
  have he := enters_ hf hname hb args w
  have hrun : (execOp a.eval oi).run P w = .ok (.enter f args) w := by
    unfold execOp
    simp [hop, resolve, Deferred.ofValue, invoke, Act.eval, hargs, he]
  rw [if_pos hw]
  unfold Oper.wp
  rw [hrun, Oper.upon_enter]
  refine h.mono fun e w'' hh => ?_
  obtain ⟨c, rfl, hk⟩ := hh
  exact hk
end
structure Tl (w0 : World) (own : Nat → Prop) (g B pb : Nat) (id : Int) (ps : List (List Int)) (o : Obj) (A9 : Option Addr) (bb : List Int) (W : World) : Prop where
  at_ : W.heap[g]? = some (gatO id (ps.length : Int) (some B))
  pb_ : W.heap[pb]? = some o
  map : MapAt W own g B ps
  mu : Mu own w0 W
  F : Kd.F (Kd.int .u8) W (fun k => own k ∧ k ≠ g ∧ k ≠ B) A9 bb.length bb
section
variable {w0 W W' : World} {own : Nat → Prop} {g B pb : Nat} {id : Int} {ps : List (List Int)} {o : Obj} {A9 : Option Addr} {bb : List Int}
theorem Tl.below (h : Tl w0 own g B pb id ps o A9 bb W) (hb : Below W.heap.size W W') : Tl w0 own g B pb id ps o A9 bb W' :=
  ⟨(Mu.of_below hb (fun _ => False)).heap h.at_ (fun h => h), (Mu.of_below hb (fun _ => False)).heap h.pb_ (fun h => h), h.map.step (fun k _ _ hl => hb.block k hl), h.mu.trans (Mu.of_below hb own), Kd.F_below h.F hb⟩
theorem Tl.drewN (h : Tl w0 own g B pb id ps o A9 bb W) (m : Nat) : Tl w0 own g B pb id ps o A9 bb (W.drewN m) := h.below (pw_below_drewN (Below.refl _ _) m)
theorem Tl.drew (h : Tl w0 own g B pb id ps o A9 bb W) : Tl w0 own g B pb id ps o A9 bb W.drew := h.below (below_drew (Below.refl _ _))
theorem Tl.none_ (h : Tl w0 own g B pb id ps o A9 bb W) {i : Nat} (hi : i < ps.length) (hp : ps.getD i noP = noP) : ∀ m, (Instr.lookup 83 (.map (some B)) (.int .i64 (i : Int)) true).run Try.prog (W.drewN m) = .ok (.tuple #[.slice none 0 0, .bool false]) (W.drewN m) := by
  intro m
  have hbig := h.map.big
  obtain ⟨D, ho, _, hs⟩ := h.map.map
  have h2 := hs i hi
  rw [hp] at h2
  exact look_none (by omega) h2 _ _ (ownsMap_move (w' := W.drewN m) ho rfl)
theorem Tl.part (h : Tl w0 own g B pb id ps o A9 bb W) {i : Nat} (hi : i < ps.length) (hp : ps.getD i noP ≠ noP) :
    ∃ A c, (∀ m, (Instr.lookup 83 (.map (some B)) (.int .i64 (i : Int)) true).run Try.prog (W.drewN m) = .ok (.tuple #[.slice A (ps.getD i noP).length c, .bool true]) (W.drewN m)) ∧
      (Instr.lookup 83 (.map (some B)) (.int .i64 (i : Int)) false).run Try.prog W = .ok (.slice A (ps.getD i noP).length c) W ∧ (ps.getD i noP).length ≤ c ∧ Kd.C (Kd.int .u8) W A (ps.getD i noP).length (ps.getD i noP) ∧ (∀ x ∈ ps.getD i noP, 0 ≤ x ∧ x < 256) ∧ (ps.getD i noP).length ≤ 256 := by
  have hbig := h.map.big
  obtain ⟨D, ho, _, hs⟩ := h.map.map
  obtain ⟨A, c, h1, h2, h3, h4, h5⟩ := look_some (by omega) (hs i hi) hp
  exact ⟨A, c, fun m => h1 _ _ (ownsMap_move (w' := W.drewN m) ho rfl), h2 _ _ ho, h3, Kd.F_now h4, h5⟩
theorem Tl.any_ (h : Tl w0 own g B pb id ps o A9 bb W) {i : Nat} (hi : i ≤ 4096) : ∃ v x, ∀ m, (Instr.lookup 83 (.map (some B)) (.int .i64 (i : Int)) true).run Try.prog (W.drewN m) = .ok (.tuple #[v, .bool x]) (W.drewN m) := by
  obtain ⟨D, ho, _, hs⟩ := h.map.map
  obtain ⟨v, x, hr⟩ := look_any (b := B) (D := D) hi
  exact ⟨v, x, fun m => hr _ _ (ownsMap_move (w' := W.drewN m) ho rfl)⟩
theorem Tl.len (h : Tl w0 own g B pb id ps o A9 bb W) (ty : TypeId) : ∀ m, (Builtin.len_ #[83] ty #[.map (some B)]).run Try.prog (W.drewN m) = .ok (.int .i64 (haveN ps)) (W.drewN m) :=
  fun m => map_len (h.drewN m).map ty
theorem Tl.store (h : Tl w0 own g B pb id ps o A9 bb W) (hne : pb ≠ B) {i : Nat} (hi : i < ps.length) {c : Nat} (hb : ∀ x ∈ bb, 0 ≤ x ∧ x < 256) (hb2 : bb.length ≤ 256) (hc : bb.length ≤ c) :
    ∃ W', (Instr.mapUpdate 83 (.map (some B)) (.int .i64 (i : Int)) (.slice A9 bb.length c)).run Try.prog W = .ok () W' ∧ Tl w0 own g B pb id (ps.set i bb) o A9 bb W' := by
  obtain ⟨W', hr, hm, hg⟩ := map_store h.map hi hb hb2 hc h.F
  refine ⟨W', hr, ?_, ?_, hm, ?_, ?_⟩
  · rw [List.length_set]; exact (hg.block g (heap_lt h.at_) (by have := h.map.ne; simp; omega)).trans h.at_
  · exact (hg.block pb (heap_lt h.pb_) (by simp; omega)).trans h.pb_
  · exact h.mu.trans ⟨hg.os, hg.tape, hg.output, hg.size, fun k hk hn => hg.block k hk (fun e => by injection e with e; exact hn (e ▸ h.map.mine))⟩
  · exact Kd.F_step h.F (fun k hk hl => hg.block k hl (by have := hk.2.2; simp; omega))
theorem Tl.gat (h : Tl w0 own g B pb id ps o A9 bb W) (hg : own g) (hid : 1 ≤ id) : GatAt W own g id (ps.length : Int) ps := ⟨hg, .inr ⟨hid, rfl, B, h.at_, h.map⟩⟩
end
theorem have_all : ∀ (ps : List (List Int)), ¬ haveN ps < ps.length → ∀ i, i < ps.length → ps.getD i noP ≠ noP
  | [], _, i, hi => by simp at hi
  | p :: ps, h, 0, _ => by
    intro e
    rw [List.getD_cons_zero] at e
    have := haveN_le ps
    unfold haveN at h
    rw [if_pos e, List.length_cons] at h
    omega
  | p :: ps, h, i + 1, hi => by
    rw [List.getD_cons_succ]
    refine have_all ps (fun h2 => h ?_) i (by simpa using hi)
    unfold haveN
    rw [List.length_cons]
    split <;> omega
theorem flat_take (ps : List (List Int)) (i : Nat) (hi : i < ps.length) : (ps.take (i + 1)).flatten = (ps.take i).flatten ++ ps.getD i noP := by
  have e : ((some ps[i]).toList).flatten = ps[i] := by simp
  rw [List.take_add_one, List.getElem?_eq_getElem hi, List.getD_eq_getElem?_getD, List.getElem?_eq_getElem hi, List.flatten_append, e]
  rfl
theorem map_at_new {w : World} {own : Nat → Prop} {g b n : Nat} (hb : w.heap[b]? = some (.map #[] 0)) (hn : n ≤ 4096) (ho : own b) (hg : b ≠ g) : MapAt w own g b (List.replicate n noP) := by
  refine ⟨by rw [List.length_replicate]; exact hn, ho, hg, .map [], ?_, by rw [haveN_none]; rfl, fun i hi => .inl ⟨?_, rfl⟩⟩
  · obtain ⟨es, clock, h1, r⟩ := World.ownsMap_made (H := Value) w Try.prog 3 heldE
    have h2 := alloc_new w (.map #[] 0)
    rw [h2] at h1
    injection h1 with h1
    injection h1 with h1 h3
    subst h1 h3
    exact ⟨_, _, hb, r⟩
  · rw [List.length_replicate] at hi
    rw [List.getD_eq_getElem?_getD, List.getElem?_replicate, if_pos hi]; rfl
theorem equal_bytesF {a b : List Int} (ha : ∀ x ∈ a, 0 ≤ x ∧ x < 256) (hb : ∀ x ∈ b, 0 ≤ x ∧ x < 256) : bytes_Equal.f a b = some (decide (a = b)) := by
  unfold bytes_Equal.f
  rw [Lib.strOfNums_toList, Lib.strOfNums_toList]
  by_cases h : a = b
  · rw [h]; simp
  · rw [decide_eq_false h]
    congr 1
    rw [beq_eq_false_iff_ne]
    exact fun e => h (bytesOf_inj ha hb e)
set_option maxHeartbeats 4000000 in
theorem takes_lt {w : World} {own : Nat → Prop} {g : Nat} {id cnt : Int} {ps : List (List Int)} (hG : GatAt w own g id cnt ps) (hnew : ∀ k, w.heap.size ≤ k → own k) (pid : Int) (pat pn : Nat) (hid : 1 ≤ pid ∧ pid ≤ 4611686018427387904) (hpat : pat < pn) (hpn : pn ≤ 4096)
    {A9 : Option Addr} {c9 : Nat} {bb : List Int} (hbb : ∀ x ∈ bb, 0 ≤ x ∧ x < 256) (hc9 : bb.length ≤ c9) (hl9 : bb.length ≤ 256) (hF : Kd.F (Kd.int .u8) w (fun k => own k ∧ k ≠ g ∧ ∀ i c b, w.heap[g]? = some (gatO i c (some b)) → k ≠ b) A9 bb.length bb) (hlt : pid < id) :
    Calls Try.prog 51 #[.pointer (some ⟨g, 0, none⟩), .agg #[.int .u64 pid, .int .i64 (pat : Int), .int .i64 (pn : Int), .slice A9 bb.length c9]] w (TakePost w own g (id, cnt, ps) (takeV id cnt ps pid pat pn bb)) := by
  obtain ⟨R, hR⟩ : ∃ R, takeV id cnt ps pid pat pn bb = R := ⟨_, rfl⟩
  rw [hR]
  have hRv : R = some ((id, cnt, ps), ([], false)) := by rw [← hR]; unfold takeV; rw [if_pos hlt]
  obtain ⟨b, hg⟩ : ∃ m, w.heap[g]? = some (gatO id cnt m) := by
    rcases hG.2 with ⟨h1, _, _, _⟩ | ⟨_, _, b, h, _⟩
    · omega
    · exact ⟨_, h⟩
  have hb1 : Below w.heap.size w (w.alloc (partO pid pat pn (.slice A9 bb.length c9))) := below_alloc (Below.refl _ _) _
  have hp1 : (w.alloc (partO pid pat pn (.slice A9 bb.length c9))).heap[w.heap.size]? = some (partO pid pat pn (.slice A9 bb.length c9)) := alloc_new _ _
  have hg1 := (Mu.of_below hb1 (fun _ => False)).heap hg (fun h => h)
  have x0 := blk_cell hp1 0
  have y0 := blk_cell hg1 0
  have d1 : decide (pid < id) = true := decide_eq_true hlt
  have HG := Aside0.mk (And.intro hG hb1)
  have HRV := Aside0.mk hRv
  clear hRv hR hG hnew hid hpat hpn hF hb1 hp1 hg hg1 hlt
  go_enter Try.func51, Try.ntmps51
  go_wp2_with fail
  go_quiet (fail)
  go_wp2_with fail
  go_ret2
  rw [HRV.out]
  refine ⟨(HG.out.1.below HG.out.2).below (pw_below_drewN (Below.refl _ _) _), (Mu.of_below HG.out.2 own).drewN _, _, rfl, Kd.R_nil _ _ _ _ _⟩
set_option maxHeartbeats 4000000 in
theorem takes_gt {w : World} {own : Nat → Prop} {g : Nat} {id cnt : Int} {ps : List (List Int)} (hG : GatAt w own g id cnt ps) (hnew : ∀ k, w.heap.size ≤ k → own k) (pid : Int) (pat pn : Nat) (hid : 1 ≤ pid ∧ pid ≤ 4611686018427387904) (hpat : pat < pn) (hpn : pn ≤ 4096)
    {A9 : Option Addr} {c9 : Nat} {bb : List Int} (hbb : ∀ x ∈ bb, 0 ≤ x ∧ x < 256) (hc9 : bb.length ≤ c9) (hl9 : bb.length ≤ 256) (hF : Kd.F (Kd.int .u8) w (fun k => own k ∧ k ≠ g ∧ ∀ i c b, w.heap[g]? = some (gatO i c (some b)) → k ≠ b) A9 bb.length bb) (hlt : id < pid) :
    Calls Try.prog 51 #[.pointer (some ⟨g, 0, none⟩), .agg #[.int .u64 pid, .int .i64 (pat : Int), .int .i64 (pn : Int), .slice A9 bb.length c9]] w (TakePost w own g (id, cnt, ps) (takeV id cnt ps pid pat pn bb)) := by
  obtain ⟨R, hR⟩ : ∃ R, takeV id cnt ps pid pat pn bb = R := ⟨_, rfl⟩
  rw [hR]
  obtain ⟨m, hg⟩ : ∃ m, w.heap[g]? = some (gatO id cnt m) := by
    rcases hG.2 with ⟨h1, h2, _, h⟩ | ⟨_, _, b, h, _⟩
    · subst h1 h2; exact ⟨_, h⟩
    · exact ⟨_, h⟩
  obtain ⟨w1, hw1⟩ : ∃ w1, w.alloc (partO pid pat pn (.slice A9 bb.length c9)) = w1 := ⟨_, rfl⟩
  have hb1 : Below w.heap.size w w1 := by rw [← hw1]; exact below_alloc (Below.refl _ _) _
  have hp1 : w1.heap[w.heap.size]? = some (partO pid pat pn (.slice A9 bb.length c9)) := by rw [← hw1]; exact alloc_new _ _
  have hs1 : w1.heap.size = w.heap.size + 1 := by rw [← hw1]; simp
  have hg1 := (Mu.of_below hb1 (fun _ => False)).heap hg (fun h => h)
  have hgl : g < w.heap.size := heap_lt hg
  have x0 := blk_cell hp1 0
  have y0 := blk_cell hg1 0
  have y1 := blk_cell hg1 1
  have y2 := blk_cell hg1 2
  have z0 := blk_frozen hg1 0
  have z1 := blk_frozen hg1 1
  have z2 := blk_frozen hg1 2
  have x2 := blk_cell hp1 2
  have d1 : decide (pid < id) = false := decide_eq_false (by omega)
  have d2 : decide (id < pid) = true := decide_eq_true hlt
  have hne : g ≠ w.heap.size := by omega
  have HST : Aside0 (St w1 g (.int .u64 id) (.int .i64 cnt) (.map m) 0 w1) := ⟨⟨hg1, rfl, by omega, Mu.refl _ _, fun h => by cases h⟩⟩
  have HG := Aside0.mk (And.intro hG (And.intro hb1 (And.intro hs1 (And.intro hgl hp1))))
  have HW1 := Aside0.mk hw1
  have HN := Aside0.mk (And.intro hnew (And.intro hid (And.intro hpat hpn)))
  have HF := Aside0.mk hF
  have HBB := Aside0.mk (And.intro hbb (And.intro hc9 hl9))
  have HR := Aside0.mk hR
  have HM := Aside0.mk hg
  clear hR hG hnew hid hpat hpn hF hb1 hp1 hg1 hg hs1 hlt hbb hc9 hl9 hw1 hgl
  go_enter Try.func51, Try.ntmps51
  go_upto_region 1 with fail
  rw [HW1.out]
  go_quiet (fail)
  go_wp2_with fail
  go_quiet (fail)
  go_wp2_with fail
  generalize hW3 : (w1.drewN _).drewN _ = W3
  have HNE : Aside0 (¬ (w.heap.size = g)) := ⟨fun e => hne e.symm⟩
  have HS_ : Aside0 (St w1 g (.int .u64 id) (.int .i64 cnt) (.map m) 0 W3.drew) := ⟨by rw [← hW3]; exact ((HST.out.drewN _).drewN _).drew⟩
  clear hW3
  refine start_ (n := 17) (S := fun w' => w'.cell? ⟨w.heap.size, 0, none⟩ = some (.int .u64 pid) ∧ w'.cell? ⟨w.heap.size, 2, none⟩ = some (.int .i64 (pn : Int))) (ds := [16]) #[false, false, false, false, false, false, false, false, false, false, false, false, false, false, false, false, false] (by kernel_rfl) rfl rfl ⟨(blk_cell (HS_.out.mu.heap HG.out.2.2.2.2 HNE.out) 0), (blk_cell (HS_.out.mu.heap HG.out.2.2.2.2 HNE.out) 2)⟩ (fun hHeld => ?_)
  refine pure_ (i := 0) (N := some 24) (v := ?_) (a' := ?_) #[true, false, false, false, false, false, false, false, false, false, false, false, false, false, false, false, false] rfl rfl (by kernel_rfl) (fun _ _ _ h => h) (Or.inl ⟨by rfl, ?_⟩) ?_ ?_
  rotate_left
  · intro w'
    go_simp
    with_reducible rfl
  rotate_left
  · simp only [Act.put, List.setIfInBounds_toArray, List.set_cons_zero, List.set_cons_succ, i64_w, i32_w]
    rfl
  refine pure_ (i := 1) (N := some 25) (v := ?_) (a' := ?_) #[true, true, false, false, false, false, false, false, false, false, false, false, false, false, false, false, false] rfl rfl (by kernel_rfl) (fun _ _ _ h => h) (Or.inl ⟨by rfl, ?_⟩) ?_ ?_
  rotate_left
  · intro w'
    go_simp
    with_reducible rfl
  rotate_left
  · simp only [Act.put, List.setIfInBounds_toArray, List.set_cons_zero, List.set_cons_succ, i64_w, i32_w]
    rfl
  refine pure_ (i := 2) (N := some 26) (v := ?_) (a' := ?_) #[true, true, true, false, false, false, false, false, false, false, false, false, false, false, false, false, false] rfl rfl (by kernel_rfl) (fun _ _ _ h => h) (Or.inl ⟨by rfl, ?_⟩) ?_ ?_
  rotate_left
  · intro w'
    go_simp
    with_reducible rfl
  rotate_left
  · simp only [Act.put, List.setIfInBounds_toArray, List.set_cons_zero, List.set_cons_succ, i64_w, i32_w]
    rfl
  refine pure_ (i := 3) (N := some 27) (v := ?_) (a' := ?_) #[true, true, true, true, false, false, false, false, false, false, false, false, false, false, false, false, false] rfl rfl (by kernel_rfl) (fun _ _ _ h => h) (Or.inl ⟨by rfl, ?_⟩) ?_ ?_
  rotate_left
  · intro w'
    go_simp
    with_reducible rfl
  rotate_left
  · simp only [Act.put, List.setIfInBounds_toArray, List.set_cons_zero, List.set_cons_succ, i64_w, i32_w]
    rfl
  refine pure_ (i := 5) (N := some 29) (v := ?_) (a' := ?_) #[true, true, true, true, false, true, false, false, false, false, false, false, false, false, false, false, false] rfl rfl (by kernel_rfl) (fun _ _ _ h => h) (Or.inl ⟨by rfl, ?_⟩) ?_ ?_
  rotate_left
  · intro w'
    go_simp
    with_reducible rfl
  rotate_left
  · simp only [Act.put, List.setIfInBounds_toArray, List.set_cons_zero, List.set_cons_succ, i64_w, i32_w]
    rfl
  refine take_ (i := 4) (N := some 28) (v := ?_) (a' := ?_) #[true, true, true, true, true, true, false, false, false, false, false, false, false, false, false, false, false] rfl rfl (by kernel_rfl) (fun _ _ _ h => h) (Or.inl ⟨by rfl, ?_⟩) hHeld ?_ ?_
  rotate_left
  · rintro w' ⟨s0, s1⟩
    go_simp
    with_reducible rfl
  rotate_left
  · simp only [Act.put, List.setIfInBounds_toArray, List.set_cons_zero, List.set_cons_succ, i64_w, i32_w]
    rfl
  refine pure_ (i := 8) (N := some 32) (v := ?_) (a' := ?_) #[true, true, true, true, true, true, false, false, true, false, false, false, false, false, false, false, false] rfl rfl (by kernel_rfl) (fun _ _ _ h => h) (Or.inl ⟨by rfl, ?_⟩) ?_ ?_
  rotate_left
  · intro w'
    go_simp
    with_reducible rfl
  rotate_left
  · simp only [Act.put, List.setIfInBounds_toArray, List.set_cons_zero, List.set_cons_succ, i64_w, i32_w]
    rfl
  refine pure_ (i := 9) (N := some 33) (v := ?_) (a' := ?_) #[true, true, true, true, true, true, false, false, true, true, false, false, false, false, false, false, false] rfl rfl (by kernel_rfl) (fun _ _ _ h => h) (Or.inl ⟨by rfl, ?_⟩) ?_ ?_
  rotate_left
  · intro w'
    go_simp
    with_reducible rfl
  rotate_left
  · simp only [Act.put, List.setIfInBounds_toArray, List.set_cons_zero, List.set_cons_succ, i64_w, i32_w]
    rfl
  refine take_ (i := 6) (N := some 30) (v := ?_) (a' := ?_) #[true, true, true, true, true, true, true, false, true, true, false, false, false, false, false, false, false] rfl rfl (by kernel_rfl) (fun _ _ _ h => h) (Or.inl ⟨by rfl, ?_⟩) hHeld ?_ ?_
  rotate_left
  · rintro w' ⟨s0, s1⟩
    go_simp
    with_reducible rfl
  rotate_left
  · simp only [Act.put, List.setIfInBounds_toArray, List.set_cons_zero, List.set_cons_succ, i64_w, i32_w]
    rfl
  refine join_ (σ := Unit) 3 #[true, true, true, true, true, true, true, true, true, true, true, true, true, true, false, false, false] (fun _ => [(31, .map (some (w.heap.size + 1))), (34, .pointer (some ⟨g, 0, none⟩)), (35, .pointer (some ⟨g, 1, none⟩))]) (fun _ w' => St w1 g (.int .u64 pid) (.int .i64 (pn : Int)) (.map m) 1 w') ?_ ?_
  rotate_left
  · intro hCont
    refine two_ (i := 7) (j := 10) (Ni := some 31) (Nj := none) #[true, true, true, true, true, true, true, true, true, true, false, false, false, false, false, false, false] #[true, true, true, true, true, true, true, false, true, true, true, false, false, false, false, false, false] rfl rfl rfl rfl (by kernel_rfl) (by decide) (by decide) (fun K hK => ?_) (fun K hK => ?_)
    · skip
      refine value_ (by rfl) rfl (exec_makeF (n := w.heap.size + 1) rfl (by rw [HS_.out.size]; exact HG.out.2.2.1)) ?_
      have HS_7 := Aside0.mk HS_.out.alloc
      refine hK.out _ _ ⟨(blk_cell (HS_7.out.mu.heap HG.out.2.2.2.2 HNE.out) 0), (blk_cell (HS_7.out.mu.heap HG.out.2.2.2.2 HNE.out) 2)⟩ (fun hHeld => ?_)
      clear hK K
      refine norm_ (a' := ?_) ?_ ?_
      rotate_left
      · show Act.put _ (some 31) _ = _
        simp only [Act.put, List.setIfInBounds_toArray, List.set_cons_zero, List.set_cons_succ, i64_w, i32_w]
        rfl
      refine one_ (i := 10) (N := none) #[true, true, true, true, true, true, true, true, true, true, true, false, false, false, false, false, false] rfl rfl (by kernel_rfl) (by decide) (fun K hK => ?_)
      refine skip_ (by rfl) rfl (exec_storeF rfl (by rfl) (by rfl) (HS_7.out.st0 pid)) ?_
      have HS_7_10 := Aside0.mk (HS_7.out.set0 (x := .int .u64 pid))
      refine hK.out _ _ ⟨(blk_cell (HS_7_10.out.mu.heap HG.out.2.2.2.2 HNE.out) 0), (blk_cell (HS_7_10.out.mu.heap HG.out.2.2.2.2 HNE.out) 2)⟩ (fun hHeld => ?_)
      clear hK K
      refine pure_ (i := 11) (N := some 34) (v := ?_) (a' := ?_) #[true, true, true, true, true, true, true, true, true, true, true, true, false, false, false, false, false] rfl rfl (by kernel_rfl) (fun _ _ _ h => h) (Or.inl ⟨by rfl, ?_⟩) ?_ ?_
      rotate_left
      · intro w'
        go_simp
        with_reducible rfl
      rotate_left
      · simp only [Act.put, List.setIfInBounds_toArray, List.set_cons_zero, List.set_cons_succ, i64_w, i32_w]
        rfl
      refine pure_ (i := 12) (N := some 35) (v := ?_) (a' := ?_) #[true, true, true, true, true, true, true, true, true, true, true, true, true, false, false, false, false] rfl rfl (by kernel_rfl) (fun _ _ _ h => h) (Or.inl ⟨by rfl, ?_⟩) ?_ ?_
      rotate_left
      · intro w'
        go_simp
        with_reducible rfl
      rotate_left
      · simp only [Act.put, List.setIfInBounds_toArray, List.set_cons_zero, List.set_cons_succ, i64_w, i32_w]
        rfl
      refine one_ (i := 13) (N := none) #[true, true, true, true, true, true, true, true, true, true, true, true, true, true, false, false, false] rfl rfl (by kernel_rfl) (by decide) (fun K hK => ?_)
      refine skip_ (by rfl) rfl (exec_storeF rfl (by rfl) (by rfl) (HS_7_10.out.st1 (pn : Int))) ?_
      have HS_7_10_13 := Aside0.mk (HS_7_10.out.set1 (x := .int .i64 (pn : Int)))
      refine hK.out _ _ ⟨(blk_cell (HS_7_10_13.out.mu.heap HG.out.2.2.2.2 HNE.out) 0), (blk_cell (HS_7_10_13.out.mu.heap HG.out.2.2.2.2 HNE.out) 2)⟩ (fun hHeld => ?_)
      clear hK K
      exact norm_ (by simp only [putAll, Act.put, List.setIfInBounds_toArray, List.set_cons_zero, List.set_cons_succ]) (hCont () _ HS_7_10_13.out)
    · skip
      refine skip_ (by rfl) rfl (exec_storeF rfl (by rfl) (by rfl) (HS_.out.st0 pid)) ?_
      have HS_10 := Aside0.mk (HS_.out.set0 (x := .int .u64 pid))
      refine hK.out _ _ ⟨(blk_cell (HS_10.out.mu.heap HG.out.2.2.2.2 HNE.out) 0), (blk_cell (HS_10.out.mu.heap HG.out.2.2.2.2 HNE.out) 2)⟩ (fun hHeld => ?_)
      clear hK K
      refine pure_ (i := 11) (N := some 34) (v := ?_) (a' := ?_) #[true, true, true, true, true, true, true, false, true, true, true, true, false, false, false, false, false] rfl rfl (by kernel_rfl) (fun _ _ _ h => h) (Or.inl ⟨by rfl, ?_⟩) ?_ ?_
      rotate_left
      · intro w'
        go_simp
        with_reducible rfl
      rotate_left
      · simp only [Act.put, List.setIfInBounds_toArray, List.set_cons_zero, List.set_cons_succ, i64_w, i32_w]
        rfl
      refine pure_ (i := 12) (N := some 35) (v := ?_) (a' := ?_) #[true, true, true, true, true, true, true, false, true, true, true, true, true, false, false, false, false] rfl rfl (by kernel_rfl) (fun _ _ _ h => h) (Or.inl ⟨by rfl, ?_⟩) ?_ ?_
      rotate_left
      · intro w'
        go_simp
        with_reducible rfl
      rotate_left
      · simp only [Act.put, List.setIfInBounds_toArray, List.set_cons_zero, List.set_cons_succ, i64_w, i32_w]
        rfl
      refine two_ (i := 7) (j := 13) (Ni := some 31) (Nj := none) #[true, true, true, true, true, true, true, true, true, true, true, true, true, false, false, false, false] #[true, true, true, true, true, true, true, false, true, true, true, true, true, true, false, false, false] rfl rfl rfl rfl (by kernel_rfl) (by decide) (by decide) (fun K hK => ?_) (fun K hK => ?_)
      · skip
        refine value_ (by rfl) rfl (exec_makeF (n := w.heap.size + 1) rfl (by rw [HS_10.out.size]; exact HG.out.2.2.1)) ?_
        have HS_10_7 := Aside0.mk HS_10.out.alloc
        refine hK.out _ _ ⟨(blk_cell (HS_10_7.out.mu.heap HG.out.2.2.2.2 HNE.out) 0), (blk_cell (HS_10_7.out.mu.heap HG.out.2.2.2.2 HNE.out) 2)⟩ (fun hHeld => ?_)
        clear hK K
        refine norm_ (a' := ?_) ?_ ?_
        rotate_left
        · show Act.put _ (some 31) _ = _
          simp only [Act.put, List.setIfInBounds_toArray, List.set_cons_zero, List.set_cons_succ, i64_w, i32_w]
          rfl
        refine one_ (i := 13) (N := none) #[true, true, true, true, true, true, true, true, true, true, true, true, true, true, false, false, false] rfl rfl (by kernel_rfl) (by decide) (fun K hK => ?_)
        refine skip_ (by rfl) rfl (exec_storeF rfl (by rfl) (by rfl) (HS_10_7.out.st1 (pn : Int))) ?_
        have HS_10_7_13 := Aside0.mk (HS_10_7.out.set1 (x := .int .i64 (pn : Int)))
        refine hK.out _ _ ⟨(blk_cell (HS_10_7_13.out.mu.heap HG.out.2.2.2.2 HNE.out) 0), (blk_cell (HS_10_7_13.out.mu.heap HG.out.2.2.2.2 HNE.out) 2)⟩ (fun hHeld => ?_)
        clear hK K
        exact norm_ (by simp only [putAll, Act.put, List.setIfInBounds_toArray, List.set_cons_zero, List.set_cons_succ]) (hCont () _ HS_10_7_13.out)
      · skip
        refine skip_ (by rfl) rfl (exec_storeF rfl (by rfl) (by rfl) (HS_10.out.st1 (pn : Int))) ?_
        have HS_10_13 := Aside0.mk (HS_10.out.set1 (x := .int .i64 (pn : Int)))
        refine hK.out _ _ ⟨(blk_cell (HS_10_13.out.mu.heap HG.out.2.2.2.2 HNE.out) 0), (blk_cell (HS_10_13.out.mu.heap HG.out.2.2.2.2 HNE.out) 2)⟩ (fun hHeld => ?_)
        clear hK K
        refine one_ (i := 7) (N := some 31) #[true, true, true, true, true, true, true, true, true, true, true, true, true, true, false, false, false] rfl rfl (by kernel_rfl) (by decide) (fun K hK => ?_)
        refine value_ (by rfl) rfl (exec_makeF (n := w.heap.size + 1) rfl (by rw [HS_10_13.out.size]; exact HG.out.2.2.1)) ?_
        have HS_10_13_7 := Aside0.mk HS_10_13.out.alloc
        refine hK.out _ _ ⟨(blk_cell (HS_10_13_7.out.mu.heap HG.out.2.2.2.2 HNE.out) 0), (blk_cell (HS_10_13_7.out.mu.heap HG.out.2.2.2.2 HNE.out) 2)⟩ (fun hHeld => ?_)
        clear hK K
        refine norm_ (a' := ?_) ?_ ?_
        rotate_left
        · show Act.put _ (some 31) _ = _
          simp only [Act.put, List.setIfInBounds_toArray, List.set_cons_zero, List.set_cons_succ, i64_w, i32_w]
          rfl
        exact norm_ (by simp only [putAll, Act.put, List.setIfInBounds_toArray, List.set_cons_zero, List.set_cons_succ]) (hCont () _ HS_10_13_7.out)
  rintro _ w' hS3
  have HS3 := Aside0.mk hS3
  clear hS3
  have hHeld : w'.cell? ⟨w.heap.size, 0, none⟩ = some (.int .u64 pid) ∧ w'.cell? ⟨w.heap.size, 2, none⟩ = some (.int .i64 (pn : Int)) := ⟨(blk_cell (HS3.out.mu.heap HG.out.2.2.2.2 HNE.out) 0), (blk_cell (HS3.out.mu.heap HG.out.2.2.2.2 HNE.out) 2)⟩
  refine norm_ (a' := ?_) ?_ ?_
  rotate_left
  · simp only [putAll, Act.put, List.setIfInBounds_toArray, List.set_cons_zero, List.set_cons_succ]
    rfl
  refine pure_ (i := 14) (N := some 36) (v := ?_) (a' := ?_) #[true, true, true, true, true, true, true, true, true, true, true, true, true, true, true, false, false] rfl rfl (by kernel_rfl) (fun _ _ _ h => h) (Or.inl ⟨by rfl, ?_⟩) ?_ ?_
  rotate_left
  · intro w'
    go_simp
    with_reducible rfl
  rotate_left
  · simp only [Act.put, List.setIfInBounds_toArray, List.set_cons_zero, List.set_cons_succ, i64_w, i32_w]
    rfl
  refine pure_ (i := 15) (N := some 37) (v := ?_) (a' := ?_) #[true, true, true, true, true, true, true, true, true, true, true, true, true, true, true, true, false] rfl rfl (by kernel_rfl) (fun _ _ _ h => h) (Or.inl ⟨by rfl, ?_⟩) ?_ ?_
  rotate_left
  · intro w'
    go_simp
    with_reducible rfl
  rotate_left
  · simp only [Act.put, List.setIfInBounds_toArray, List.set_cons_zero, List.set_cons_succ, i64_w, i32_w]
    rfl
  refine last_ (i := 16) (N := none) #[true, true, true, true, true, true, true, true, true, true, true, true, true, true, true, true, true] rfl rfl (by kernel_rfl) (by decide) (fun K hK => ?_)
  refine skip_ (by rfl) rfl (exec_storeF rfl (by rfl) (by rfl) (HS3.out.st2 (some (w.heap.size + 1)))) ?_
  have HS4 := Aside0.mk (HS3.out.set2 (x := .map (some (w.heap.size + 1))))
  refine hK.out _ _ ?_
  clear hK K
  refine done_ (by kernel_rfl) ?_
  obtain ⟨PS, hPS⟩ : ∃ PS, List.replicate pn noP = PS := ⟨_, rfl⟩
  have hPl : PS.length = pn := by rw [← hPS, List.length_replicate]
  have hT : Tl w own g (w.heap.size + 1) w.heap.size pid PS (partO pid (pat : Int) (pn : Int) (.slice A9 bb.length c9)) A9 bb (w'.setCell ⟨g, 2, none⟩ (.map (some (w.heap.size + 1)))) := by
    refine ⟨by rw [hPl]; exact HS4.out.at_, HS4.out.mu.heap HG.out.2.2.2.2 HNE.out, ?_, (Mu.of_below HG.out.2.1 own).trans (HS4.out.mu.mono (fun k _ e => e ▸ HG.out.1.1)), ?_⟩
    · rw [← hPS]
      exact map_at_new (by have := HS4.out.new rfl; rwa [HG.out.2.2.1] at this) HN.out.2.2.2 (HN.out.1 _ (by omega)) (by have := HG.out.2.2.2.1; omega)
    · refine Kd.F_mono (Kd.F_step (Kd.F_bound HF.out) (fun k hk hl => ?_)) (fun k hk => ⟨hk.1.1, hk.1.2.1, by have := hk.2; omega⟩)
      exact (HS4.out.mu.block k (by rw [HG.out.2.2.1]; omega) hk.1.2.1).trans (HG.out.2.1.block k hk.2)
  generalize (w'.setCell ⟨g, 2, none⟩ (.map (some (w.heap.size + 1)))) = W4 at hT ⊢
  have HTW4 := Aside0.mk hT
  have HPL := Aside0.mk hPl
  have HPI := Aside0.mk (show pat < PS.length by rw [hPl]; exact HN.out.2.2.1)
  have HPG := Aside0.mk (show PS.getD pat noP = noP by rw [← hPS, List.getD_eq_getElem?_getD, List.getElem?_replicate, if_pos HN.out.2.2.1]; rfl)
  have HNB := Aside0.mk (show w.heap.size ≠ w.heap.size + 1 by omega)
  have HOG := Aside0.mk HG.out.1.1
  have HID := Aside0.mk (show pid = pid from rfl)
  have HRV : Aside0 (R = some ((pid, (PS.length : Int), PS.set pat bb), if haveN (PS.set pat bb) < PS.length then ([], false) else ((PS.set pat bb).flatten, true))) := ⟨by rw [← HR.out, hPl, ← hPS]; unfold takeV; rw [if_neg (by have := of_decide_eq_false d1; exact this), if_pos (of_decide_eq_true d2)]⟩
  clear hT hPS hPl HS3 HS4 HS_ hne
  have y1 := blk_cell HTW4.out.at_ 1
  have y2 := blk_cell HTW4.out.at_ 2
  have x1 := blk_cell HTW4.out.pb_ 1
  have x2 := blk_cell HTW4.out.pb_ 2
  have hlk := HTW4.out.none_ HPI.out HPG.out
  go_wp2_with fail
  go_quiet (fail)
  clear hlk y1 y2 x1 x2
  generalize hW_W5 : W4.drewN _ = W5
  have HTW5 : Aside0 (Tl w own g (w.heap.size + 1) w.heap.size pid PS (partO pid (pat : Int) (pn : Int) (.slice A9 bb.length c9)) A9 bb W5) := ⟨by rw [← hW_W5]; exact HTW4.out.drewN _⟩
  clear hW_W5
  have y1 := blk_cell HTW5.out.at_ 1
  have x2 := blk_cell HTW5.out.pb_ 2
  have e1 : ((pn : Int) == (PS.length : Int)) = true := beq_iff_eq.2 (by rw [HPL.out])
  have hask := fun (m : Nat) => Calls.quiet_of_same (n := m) (w := W5) ((fasks_ok (b := true) (w := W5.drewN m) rfl).mono fun _ _ z => ⟨z.1, z.2.symm⟩)
  go_wp2_with fail
  go_quiet ((go_at_call 60; exact hask _))
  clear hask y1 x2 e1
  generalize hW_W6 : W5.drewN _ = W6
  have HTW6 : Aside0 (Tl w own g (w.heap.size + 1) w.heap.size pid PS (partO pid (pat : Int) (pn : Int) (.slice A9 bb.length c9)) A9 bb W6) := ⟨by rw [← hW_W6]; exact HTW5.out.drewN _⟩
  clear hW_W6
  go_wp2_with fail
  obtain ⟨W8, hst8, hT8⟩ := HTW6.out.drew.store HNB.out (i := pat) HPI.out HBB.out.1 HBB.out.2.2 HBB.out.2.1
  have HTW8 := Aside0.mk hT8
  clear hT8
  refine start_ (n := 9) (S := fun w' => w'.cell? ⟨g, 2, none⟩ = some (.map (some (w.heap.size + 1))) ∧ w'.cell? ⟨w.heap.size, 1, none⟩ = some (.int .i64 (pat : Int)) ∧ w'.cell? ⟨w.heap.size, 3, none⟩ = some (.slice A9 bb.length c9)) (ds := [8]) #[false, false, false, false, false, false, false, false, false] (by kernel_rfl) rfl rfl ⟨(blk_cell HTW6.out.drew.at_ 2), (blk_cell HTW6.out.drew.pb_ 1), (blk_cell HTW6.out.drew.pb_ 3)⟩ (fun hHeld => ?_)
  refine pure_ (i := 0) (N := some 66) (v := ?_) (a' := ?_) #[true, false, false, false, false, false, false, false, false] rfl rfl (by kernel_rfl) (fun _ _ _ h => h) (Or.inl ⟨by rfl, ?_⟩) ?_ ?_
  rotate_left
  · intro w'
    go_simp
    with_reducible rfl
  rotate_left
  · simp only [Act.put, List.setIfInBounds_toArray, List.set_cons_zero, List.set_cons_succ, i64_w, i32_w]
    rfl
  refine pure_ (i := 1) (N := some 67) (v := ?_) (a' := ?_) #[true, true, false, false, false, false, false, false, false] rfl rfl (by kernel_rfl) (fun _ _ _ h => h) (Or.inl ⟨by rfl, ?_⟩) ?_ ?_
  rotate_left
  · intro w'
    go_simp
    with_reducible rfl
  rotate_left
  · simp only [Act.put, List.setIfInBounds_toArray, List.set_cons_zero, List.set_cons_succ, i64_w, i32_w]
    rfl
  refine pure_ (i := 2) (N := some 68) (v := ?_) (a' := ?_) #[true, true, true, false, false, false, false, false, false] rfl rfl (by kernel_rfl) (fun _ _ _ h => h) (Or.inl ⟨by rfl, ?_⟩) ?_ ?_
  rotate_left
  · intro w'
    go_simp
    with_reducible rfl
  rotate_left
  · simp only [Act.put, List.setIfInBounds_toArray, List.set_cons_zero, List.set_cons_succ, i64_w, i32_w]
    rfl
  refine pure_ (i := 4) (N := some 70) (v := ?_) (a' := ?_) #[true, true, true, false, true, false, false, false, false] rfl rfl (by kernel_rfl) (fun _ _ _ h => h) (Or.inl ⟨by rfl, ?_⟩) ?_ ?_
  rotate_left
  · intro w'
    go_simp
    with_reducible rfl
  rotate_left
  · simp only [Act.put, List.setIfInBounds_toArray, List.set_cons_zero, List.set_cons_succ, i64_w, i32_w]
    rfl
  refine pure_ (i := 6) (N := some 72) (v := ?_) (a' := ?_) #[true, true, true, false, true, false, true, false, false] rfl rfl (by kernel_rfl) (fun _ _ _ h => h) (Or.inl ⟨by rfl, ?_⟩) ?_ ?_
  rotate_left
  · intro w'
    go_simp
    with_reducible rfl
  rotate_left
  · simp only [Act.put, List.setIfInBounds_toArray, List.set_cons_zero, List.set_cons_succ, i64_w, i32_w]
    rfl
  refine take_ (i := 3) (N := some 69) (v := ?_) (a' := ?_) #[true, true, true, true, true, false, true, false, false] rfl rfl (by kernel_rfl) (fun _ _ _ h => h) (Or.inl ⟨by rfl, ?_⟩) hHeld ?_ ?_
  rotate_left
  · rintro w' ⟨s0, s1, s2⟩
    go_simp
    with_reducible rfl
  rotate_left
  · simp only [Act.put, List.setIfInBounds_toArray, List.set_cons_zero, List.set_cons_succ, i64_w, i32_w]
    rfl
  refine take_ (i := 5) (N := some 71) (v := ?_) (a' := ?_) #[true, true, true, true, true, true, true, false, false] rfl rfl (by kernel_rfl) (fun _ _ _ h => h) (Or.inl ⟨by rfl, ?_⟩) hHeld ?_ ?_
  rotate_left
  · rintro w' ⟨s0, s1, s2⟩
    go_simp
    with_reducible rfl
  rotate_left
  · simp only [Act.put, List.setIfInBounds_toArray, List.set_cons_zero, List.set_cons_succ, i64_w, i32_w]
    rfl
  refine take_ (i := 7) (N := some 73) (v := ?_) (a' := ?_) #[true, true, true, true, true, true, true, true, false] rfl rfl (by kernel_rfl) (fun _ _ _ h => h) (Or.inl ⟨by rfl, ?_⟩) hHeld ?_ ?_
  rotate_left
  · rintro w' ⟨s0, s1, s2⟩
    go_simp
    with_reducible rfl
  rotate_left
  · simp only [Act.put, List.setIfInBounds_toArray, List.set_cons_zero, List.set_cons_succ, i64_w, i32_w]
    rfl
  refine last_ (i := 8) (N := none) #[true, true, true, true, true, true, true, true, true] rfl rfl (by kernel_rfl) (by decide) (fun K hK => ?_)
  refine skip_ (by rfl) rfl (exec_updF rfl (by rfl) (by rfl) (by rfl) hst8) ?_
  refine hK.out _ _ ?_
  clear hK K
  refine done_ (by kernel_rfl) ?_
  clear hst8
  obtain ⟨PQ, hPQ⟩ : ∃ PQ, PS.set pat bb = PQ := ⟨_, rfl⟩
  have hPQl : PQ.length = PS.length := by rw [← hPQ, List.length_set]
  rw [hPQ] at HTW8 HRV
  rw [← hPQl] at HRV
  have HPQ := Aside0.mk hPQ
  have HQL := Aside0.mk (show PQ.length ≤ 4096 by rw [hPQl, HPL.out]; exact HN.out.2.2.2)
  clear hPQ hPQl
  have y1 := blk_cell HTW8.out.at_ 1
  have y2 := blk_cell HTW8.out.at_ 2
  have hlen := HTW8.out.len 3
  by_cases c8 : haveN PQ < PQ.length
  · have d8 : decide ((haveN PQ : Int) < (PQ.length : Int)) = true := decide_eq_true (by omega)
    have d9 : decide (haveN PQ < PQ.length) = true := decide_eq_true c8
    rw [if_pos c8] at HRV
    clear c8
    go_wp2_with fail
    go_quiet (fail)
    go_wp2_with fail
    go_ret2
    rw [HRV.out]
    exact ⟨(HTW8.out.drewN _).gat HOG.out (by have := HN.out.2.1; have := HID.out; omega), (HTW8.out.drewN _).mu, _, rfl, Kd.R_nil _ _ _ _ _⟩
  have d8 : decide ((haveN PQ : Int) < (PQ.length : Int)) = false := decide_eq_false (by omega)
  have d9 : decide (haveN PQ < PQ.length) = false := decide_eq_false c8
  rw [if_neg c8] at HRV
  have HALL := Aside0.mk (have_all PQ c8)
  clear c8
  go_wp2_with fail
  go_quiet (fail)
  clear hlen y1 y2 d8 d9
  generalize hW_W9 : W8.drewN _ = W9
  have HTW9 : Aside0 (Tl w own g (w.heap.size + 1) w.heap.size pid PQ (partO pid (pat : Int) (pn : Int) (.slice A9 bb.length c9)) A9 bb W9) := ⟨by rw [← hW_W9]; exact HTW8.out.drewN _⟩
  clear hW_W9
  have y1 := blk_cell HTW9.out.at_ 1
  have y2 := blk_cell HTW9.out.at_ 2
  have HR0 := Aside0.mk (Kd.R_nil (Kd.int .u8) 5 W9 W9.heap.size (fun _ => True))
  go_wp2_with fail
  clear y1 y2
  go_loopw [8, 9, 91, 92, 93, 94, 95, 96, 97, 98, 99, 100, 101, 102] (fun v8 v9 v91 v92 v93 v94 v95 v96 v97 v98 v99 v100 v101 v102 wr => ∃ i : Nat, i ≤ PQ.length ∧ v91 = .int .i64 (i : Int) ∧ Kd.R (Kd.int .u8) 5 wr W9.heap.size (fun _ => True) v8 (PQ.take i).flatten ∧ (PQ.take i).flatten.length ≤ 256 * i ∧ Below W9.heap.size W9 wr)
    (fun v8 v9 v91 v92 v93 v94 v95 v96 v97 v98 v99 v100 v101 v102 _ => PQ.length - (intOf v91).toNat)
  case atStart => exact ⟨0, Nat.zero_le _, rfl, HR0.out, by simp, Below.refl _ _⟩
  case round =>
    obtain ⟨i, hi, rfl, hR8, hl8, hB8⟩ := hrel
    obtain ⟨X, hX⟩ : ∃ X, (PQ.take i).flatten = X := ⟨_, rfl⟩
    rw [hX] at hR8 hl8
    obtain ⟨A8, c8, rfl⟩ := Kd.R_slice hR8
    have HX := Aside0.mk (And.intro hX (And.intro hl8 hi))
    have HR8 := Aside0.mk hR8
    have HB8 := Aside0.mk hB8
    have HTr : Aside0 (Tl w own g (w.heap.size + 1) w.heap.size pid PQ (partO pid (pat : Int) (pn : Int) (.slice A9 bb.length c9)) A9 bb wr) := ⟨HTW9.out.below HB8.out⟩
    clear hX hl8 hi hR8 hB8
    by_cases hlt : i < PQ.length
    · obtain ⟨Ai, ci, _, hlk, hci, hCi, _, h256⟩ := HTr.out.part hlt (HALL.out i hlt)
      have y2 := blk_cell HTr.out.at_ 2
      have hib : i < 4096 := by have := HQL.out; omega
      obtain ⟨pi, hpi⟩ : ∃ pi, PQ.getD i noP = pi := ⟨_, rfl⟩
      rw [hpi] at hlk hci hCi h256
      have HPI2 := Aside0.mk (And.intro hpi (And.intro h256 hlt))
      have HCi := Aside0.mk hCi
      have HBD : Aside0 ((X.length + pi.length) * 1 ≤ 140737488355328) := ⟨by have := HX.out.2.1; omega⟩
      have HBZ := Aside0.mk HB8.out.size
      clear hpi h256 hCi hci
      go_wp2_with (first | ((with_reducible refine gate_builtin (b := .append) (xs := #[.tmp 94, .tmp 100]) rfl ?_); at_builtin; refine Kd.R_append_rows (Kd.int .u8) (w0 := W9) W9.heap.size rfl (.tmp 94) (.tmp 100) 23 5 (.int .u8 0) 1 rfl Try.underlying23 info5 rfl (by decide) (by decide) (.slice A8 X.length c8) X pi Ai pi.length ci (fun _ => True) (fun _ => False) rfl rfl HR8.out HCi.out (fun _ _ h => h) (fun _ h => h.elim) (fun _ _ => trivial) HB8.out HBZ.out HBD.out ?_; intro v9 w9 hR9 hB9 hg9 hat9; obtain ⟨A10, c10, rfl⟩ := Kd.R_slice hR9; clear hg9 hat9))
      go_roundw
      case rel =>
        refine ⟨i + 1, HPI2.out.2.2, by simp, ?_, ?_, hB9⟩
        · rw [flat_take PQ i HPI2.out.2.2, HPI2.out.1, HX.out.1]
          first
            | exact hR9
            | (rw [List.length_append] at hR9; exact hR9)
        · rw [flat_take PQ i HPI2.out.2.2, HPI2.out.1, HX.out.1, List.length_append]
          have := HX.out.2.1; have := HPI2.out.2.1; omega
      case measure => have := HPI2.out.2.2; simp [intOf] <;> omega
    · have hiN : i = PQ.length := by have := HX.out.2.2; omega
      have hXe : X = PQ.flatten := by rw [← HX.out.1, hiN, List.take_of_length_le (Nat.le_refl _)]
      have HXE := Aside0.mk hXe
      clear hXe
      subst hiN
      have y1 := blk_cell HTr.out.at_ 1
      go_wp2_with fail
      go_ret2
      rw [HRV.out]
      refine ⟨HTr.out.gat HOG.out (by have := HN.out.2.1; have := HID.out; omega), HTr.out.mu, _, rfl, ?_⟩
      rw [← HXE.out]
      exact Kd.R_lower HR8.out HTW9.out.mu.size
set_option maxHeartbeats 4000000 in
theorem takes_eq {w : World} {own : Nat → Prop} {g : Nat} {id cnt : Int} {ps : List (List Int)} (hG : GatAt w own g id cnt ps) (hnew : ∀ k, w.heap.size ≤ k → own k) (pid : Int) (pat pn : Nat) (hid : 1 ≤ pid ∧ pid ≤ 4611686018427387904) (hpat : pat < pn) (hpn : pn ≤ 4096)
    {A9 : Option Addr} {c9 : Nat} {bb : List Int} (hbb : ∀ x ∈ bb, 0 ≤ x ∧ x < 256) (hc9 : bb.length ≤ c9) (hl9 : bb.length ≤ 256) (hF : Kd.F (Kd.int .u8) w (fun k => own k ∧ k ≠ g ∧ ∀ i c b, w.heap[g]? = some (gatO i c (some b)) → k ≠ b) A9 bb.length bb) (h1 : ¬ pid < id) (h2 : ¬ id < pid) :
    Calls Try.prog 51 #[.pointer (some ⟨g, 0, none⟩), .agg #[.int .u64 pid, .int .i64 (pat : Int), .int .i64 (pn : Int), .slice A9 bb.length c9]] w (TakePost w own g (id, cnt, ps) (takeV id cnt ps pid pat pn bb)) := by
  obtain ⟨R, hR⟩ : ∃ R, takeV id cnt ps pid pat pn bb = R := ⟨_, rfl⟩
  rw [hR]
  obtain rfl : pid = id := by omega
  obtain ⟨b, hg, hM, hcnt⟩ : ∃ b, w.heap[g]? = some (gatO pid cnt (some b)) ∧ MapAt w own g b ps ∧ cnt = ps.length := by
    rcases hG.2 with ⟨h, _⟩ | ⟨_, h3, b, h, h4⟩
    · omega
    · exact ⟨b, h, h4, h3⟩
  subst hcnt
  obtain ⟨w1, hw1⟩ : ∃ w1, w.alloc (partO pid pat pn (.slice A9 bb.length c9)) = w1 := ⟨_, rfl⟩
  have hb1 : Below w.heap.size w w1 := by rw [← hw1]; exact below_alloc (Below.refl _ _) _
  have hp1 : w1.heap[w.heap.size]? = some (partO pid pat pn (.slice A9 bb.length c9)) := by rw [← hw1]; exact alloc_new _ _
  have hT : Tl w own g b w.heap.size pid ps (partO pid (pat : Int) (pn : Int) (.slice A9 bb.length c9)) A9 bb w1 := ⟨(Mu.of_below hb1 (fun _ => False)).heap hg (fun h => h), hp1, hM.step (fun k _ _ hl => hb1.block k hl), Mu.of_below hb1 own, Kd.F_mono (Kd.F_below hF hb1) (fun k hk => ⟨hk.1, hk.2.1, hk.2.2 _ _ b hg⟩)⟩
  have HTW1 := Aside0.mk hT
  have x0 := blk_cell hT.pb_ 0
  have y0 := blk_cell hT.at_ 0
  have d1 : decide (pid < pid) = false := decide_eq_false (by omega)
  have HNB := Aside0.mk (show w.heap.size ≠ b by have := hM.lt; omega)
  have HOG := Aside0.mk hG.1
  have HID := Aside0.mk hid.1
  have HW1 := Aside0.mk hw1
  have HN := Aside0.mk (And.intro hnew (And.intro hid (And.intro hpat hpn)))
  have HBB := Aside0.mk (And.intro hbb (And.intro hc9 hl9))
  have HR := Aside0.mk hR
  clear hR hG hnew hid hpat hpn hF hb1 hp1 hg hM hT hbb hc9 hl9 hw1 h1 h2
  go_enter Try.func51, Try.ntmps51
  go_upto_region 1 with fail
  rw [HW1.out]
  go_quiet (fail)
  go_wp2_with fail
  go_quiet (fail)
  generalize hW_W4 : (w1.drewN _).drewN _ = W4
  have HTW4 : Aside0 (Tl w own g b w.heap.size pid ps (partO pid (pat : Int) (pn : Int) (.slice A9 bb.length c9)) A9 bb W4) := ⟨by rw [← hW_W4]; exact (HTW1.out.drewN _).drewN _⟩
  clear hW_W4 x0 y0
  by_cases c1 : pn = ps.length
  case neg =>
    have HRN : Aside0 (R = none) := ⟨by
      rw [← HR.out]; unfold takeV
      rw [if_neg (by omega), if_neg (by omega), if_neg (by omega), if_neg (by omega)]⟩
    have e1 : ((pn : Int) == (ps.length : Int)) = false := beq_eq_false_iff_ne.2 (by omega)
    clear c1
    have y2 := blk_cell HTW4.out.at_ 2
    have x1 := blk_cell HTW4.out.pb_ 1
    obtain ⟨va, xa, hlk⟩ := HTW4.out.any_ (i := pat) (by have := HN.out.2.2; omega)
    go_wp2_with fail
    go_quiet (fail)
    clear hlk y2 x1
    generalize hW_W5 : W4.drewN _ = W5
    have HTW5 : Aside0 (Tl w own g b w.heap.size pid ps (partO pid (pat : Int) (pn : Int) (.slice A9 bb.length c9)) A9 bb W5) := ⟨by rw [← hW_W5]; exact HTW4.out.drewN _⟩
    clear hW_W5
    go_wp2_with fail
    refine start_ (n := 18) (S := fun w' => w'.cell? ⟨g, 1, none⟩ = some (.int .i64 (ps.length : Int)) ∧ w'.cell? ⟨w.heap.size, 2, none⟩ = some (.int .i64 (pn : Int)) ∧ w'.cell? ⟨w.heap.size, 3, none⟩ = some (.slice A9 bb.length c9)) (ds := [17]) #[false, false, false, false, false, false, false, false, false, false, false, false, false, false, false, false, false, false] (by kernel_rfl) rfl rfl ⟨(blk_cell HTW5.out.drew.at_ 1), (blk_cell HTW5.out.drew.pb_ 2), (blk_cell HTW5.out.drew.pb_ 3)⟩ (fun hHeld => ?_)
    refine pure_ (i := 0) (N := some 48) (v := ?_) (a' := ?_) #[true, false, false, false, false, false, false, false, false, false, false, false, false, false, false, false, false, false] rfl rfl (by kernel_rfl) (fun _ _ _ h => h) (Or.inl ⟨by rfl, ?_⟩) ?_ ?_
    rotate_left
    · intro w'
      go_simp
      with_reducible rfl
    rotate_left
    · simp only [Act.put, List.setIfInBounds_toArray, List.set_cons_zero, List.set_cons_succ, i64_w, i32_w]
      rfl
    refine pure_ (i := 2) (N := some 50) (v := ?_) (a' := ?_) #[true, false, true, false, false, false, false, false, false, false, false, false, false, false, false, false, false, false] rfl rfl (by kernel_rfl) (fun _ _ _ h => h) (Or.inl ⟨by rfl, ?_⟩) ?_ ?_
    rotate_left
    · intro w'
      go_simp
      with_reducible rfl
    rotate_left
    · simp only [Act.put, List.setIfInBounds_toArray, List.set_cons_zero, List.set_cons_succ, i64_w, i32_w]
      rfl
    refine pure_ (i := 3) (N := some 51) (v := ?_) (a' := ?_) #[true, false, true, true, false, false, false, false, false, false, false, false, false, false, false, false, false, false] rfl rfl (by kernel_rfl) (fun _ _ _ h => h) (Or.inl ⟨by rfl, ?_⟩) ?_ ?_
    rotate_left
    · intro w'
      go_simp
      with_reducible rfl
    rotate_left
    · simp only [Act.put, List.setIfInBounds_toArray, List.set_cons_zero, List.set_cons_succ, i64_w, i32_w]
      rfl
    refine pure_ (i := 4) (N := some 52) (v := ?_) (a' := ?_) #[true, false, true, true, true, false, false, false, false, false, false, false, false, false, false, false, false, false] rfl rfl (by kernel_rfl) (fun _ _ _ h => h) (Or.inl ⟨by rfl, ?_⟩) ?_ ?_
    rotate_left
    · intro w'
      go_simp
      with_reducible rfl
    rotate_left
    · simp only [Act.put, List.setIfInBounds_toArray, List.set_cons_zero, List.set_cons_succ, i64_w, i32_w]
      rfl
    refine take_ (i := 1) (N := some 49) (v := ?_) (a' := ?_) #[true, true, true, true, true, false, false, false, false, false, false, false, false, false, false, false, false, false] rfl rfl (by kernel_rfl) (fun _ _ _ h => h) (Or.inl ⟨by rfl, ?_⟩) hHeld ?_ ?_
    rotate_left
    · rintro w' ⟨s0, s1, s2⟩
      go_simp
      with_reducible rfl
    rotate_left
    · simp only [Act.put, List.setIfInBounds_toArray, List.set_cons_zero, List.set_cons_succ, i64_w, i32_w]
      rfl
    refine take_ (i := 5) (N := some 53) (v := ?_) (a' := ?_) #[true, true, true, true, true, true, false, false, false, false, false, false, false, false, false, false, false, false] rfl rfl (by kernel_rfl) (fun _ _ _ h => h) (Or.inl ⟨by rfl, ?_⟩) hHeld ?_ ?_
    rotate_left
    · rintro w' ⟨s0, s1, s2⟩
      go_simp
      with_reducible rfl
    rotate_left
    · simp only [Act.put, List.setIfInBounds_toArray, List.set_cons_zero, List.set_cons_succ, i64_w, i32_w]
      rfl
    refine pure_ (i := 6) (N := some 54) (v := ?_) (a' := ?_) #[true, true, true, true, true, true, true, false, false, false, false, false, false, false, false, false, false, false] rfl rfl (by kernel_rfl) (fun _ _ _ h => h) (Or.inl ⟨by rfl, ?_⟩) ?_ ?_
    rotate_left
    · intro w'
      go_simp
      with_reducible rfl
    rotate_left
    · simp only [Act.put, List.setIfInBounds_toArray, List.set_cons_zero, List.set_cons_succ, i64_w, i32_w]
      rfl
    refine pure_ (i := 7) (N := some 55) (v := ?_) (a' := ?_) #[true, true, true, true, true, true, true, true, false, false, false, false, false, false, false, false, false, false] rfl rfl (by kernel_rfl) (fun _ _ _ h => h) (Or.inl ⟨by rfl, ?_⟩) ?_ ?_
    rotate_left
    · intro w'
      go_simp
      with_reducible rfl
    rotate_left
    · simp only [Act.put, List.setIfInBounds_toArray, List.set_cons_zero, List.set_cons_succ, i64_w, i32_w]
      rfl
    refine pure_ (i := 8) (N := some 56) (v := undef) (a' := ?_) #[true, true, true, true, true, true, true, true, true, false, false, false, false, false, false, false, false, false] rfl rfl (by kernel_rfl) (fun _ _ _ h => h) (Or.inr ⟨by rfl, rfl⟩) ?_ ?_
    rotate_left
    · simp only [Act.put, List.setIfInBounds_toArray, List.set_cons_zero, List.set_cons_succ, i64_w, i32_w]
      rfl
    refine pure_ (i := 9) (N := some 57) (v := undef) (a' := ?_) #[true, true, true, true, true, true, true, true, true, true, false, false, false, false, false, false, false, false] rfl rfl (by kernel_rfl) (fun _ _ _ h => h) (Or.inr ⟨by rfl, rfl⟩) ?_ ?_
    rotate_left
    · simp only [Act.put, List.setIfInBounds_toArray, List.set_cons_zero, List.set_cons_succ, i64_w, i32_w]
      rfl
    refine pure_ (i := 10) (N := some 58) (v := undef) (a' := ?_) #[true, true, true, true, true, true, true, true, true, true, true, false, false, false, false, false, false, false] rfl rfl (by kernel_rfl) (fun _ _ _ h => h) (Or.inr ⟨by rfl, rfl⟩) ?_ ?_
    rotate_left
    · simp only [Act.put, List.setIfInBounds_toArray, List.set_cons_zero, List.set_cons_succ, i64_w, i32_w]
      rfl
    refine pure_ (i := 11) (N := some 59) (v := undef) (a' := ?_) #[true, true, true, true, true, true, true, true, true, true, true, true, false, false, false, false, false, false] rfl rfl (by kernel_rfl) (fun _ _ _ h => h) (Or.inr ⟨by rfl, rfl⟩) ?_ ?_
    rotate_left
    · simp only [Act.put, List.setIfInBounds_toArray, List.set_cons_zero, List.set_cons_succ, i64_w, i32_w]
      rfl
    refine pure_ (i := 12) (N := some 60) (v := undef) (a' := ?_) #[true, true, true, true, true, true, true, true, true, true, true, true, true, false, false, false, false, false] rfl rfl (by kernel_rfl) (fun _ _ _ h => h) (Or.inr ⟨by rfl, rfl⟩) ?_ ?_
    rotate_left
    · simp only [Act.put, List.setIfInBounds_toArray, List.set_cons_zero, List.set_cons_succ, i64_w, i32_w]
      rfl
    refine pure_ (i := 13) (N := some 61) (v := undef) (a' := ?_) #[true, true, true, true, true, true, true, true, true, true, true, true, true, true, false, false, false, false] rfl rfl (by kernel_rfl) (fun _ _ _ h => h) (Or.inr ⟨by rfl, rfl⟩) ?_ ?_
    rotate_left
    · simp only [Act.put, List.setIfInBounds_toArray, List.set_cons_zero, List.set_cons_succ, i64_w, i32_w]
      rfl
    refine pure_ (i := 14) (N := some 62) (v := undef) (a' := ?_) #[true, true, true, true, true, true, true, true, true, true, true, true, true, true, true, false, false, false] rfl rfl (by kernel_rfl) (fun _ _ _ h => h) (Or.inr ⟨by rfl, rfl⟩) ?_ ?_
    rotate_left
    · simp only [Act.put, List.setIfInBounds_toArray, List.set_cons_zero, List.set_cons_succ, i64_w, i32_w]
      rfl
    refine pure_ (i := 15) (N := some 63) (v := undef) (a' := ?_) #[true, true, true, true, true, true, true, true, true, true, true, true, true, true, true, true, false, false] rfl rfl (by kernel_rfl) (fun _ _ _ h => h) (Or.inr ⟨by rfl, rfl⟩) ?_ ?_
    rotate_left
    · simp only [Act.put, List.setIfInBounds_toArray, List.set_cons_zero, List.set_cons_succ, i64_w, i32_w]
      rfl
    refine pure_ (i := 16) (N := some 64) (v := ?_) (a' := ?_) #[true, true, true, true, true, true, true, true, true, true, true, true, true, true, true, true, true, false] rfl rfl (by kernel_rfl) (fun _ _ _ h => h) (Or.inl ⟨by rfl, ?_⟩) ?_ ?_
    rotate_left
    · intro w'
      go_simp
      with_reducible rfl
    rotate_left
    · simp only [Act.put, List.setIfInBounds_toArray, List.set_cons_zero, List.set_cons_succ, i64_w, i32_w]
      rfl
    refine last_ (i := 17) (N := some 65) #[true, true, true, true, true, true, true, true, true, true, true, true, true, true, true, true, true, true] rfl rfl (by kernel_rfl) (by decide) (fun K hK => ?_)
    refine goesP_ Try.func60 (by kernel_rfl) rfl #[.bool false] (by rfl) rfl rfl (by (try simp only [List.map_toArray, List.map_cons, List.map_nil]); first | done | rfl) ?_
    refine (fasks_no rfl).mono ?_
    rintro en w7 ⟨rfl, rfl⟩
    rw [HRN.out]
    exact ⟨_, rfl, rfl, HTW5.out.drew.gat HOG.out HID.out, HTW5.out.drew.mu, rfl⟩
  have HPL := Aside0.mk c1.symm
  have HPI := Aside0.mk (show pat < ps.length by have := HN.out.2.2.1; omega)
  by_cases c2 : ps.getD pat noP = noP
  case pos =>
    have HPG := Aside0.mk c2
    have HRV : Aside0 (R = some ((pid, (ps.length : Int), ps.set pat bb), if haveN (ps.set pat bb) < ps.length then ([], false) else ((ps.set pat bb).flatten, true))) := ⟨by
      rw [← HR.out]; unfold takeV
      rw [if_neg (by omega), if_neg (by omega), if_pos ⟨by omega, c2⟩]⟩
    clear c1 c2
    have y1 := blk_cell HTW4.out.at_ 1
    have y2 := blk_cell HTW4.out.at_ 2
    have x1 := blk_cell HTW4.out.pb_ 1
    have x2 := blk_cell HTW4.out.pb_ 2
    have hlk := HTW4.out.none_ HPI.out HPG.out
    go_wp2_with fail
    go_quiet (fail)
    clear hlk y1 y2 x1 x2
    generalize hW_W5 : W4.drewN _ = W5
    have HTW5 : Aside0 (Tl w own g b w.heap.size pid ps (partO pid (pat : Int) (pn : Int) (.slice A9 bb.length c9)) A9 bb W5) := ⟨by rw [← hW_W5]; exact HTW4.out.drewN _⟩
    clear hW_W5
    have y1 := blk_cell HTW5.out.at_ 1
    have x2 := blk_cell HTW5.out.pb_ 2
    have e1 : ((pn : Int) == (ps.length : Int)) = true := beq_iff_eq.2 (by rw [HPL.out])
    have hask := fun (m : Nat) => Calls.quiet_of_same (n := m) (w := W5) ((fasks_ok (b := true) (w := W5.drewN m) rfl).mono fun _ _ z => ⟨z.1, z.2.symm⟩)
    go_wp2_with fail
    go_quiet ((go_at_call 60; exact hask _))
    clear hask y1 x2 e1
    generalize hW_W6 : W5.drewN _ = W6
    have HTW6 : Aside0 (Tl w own g b w.heap.size pid ps (partO pid (pat : Int) (pn : Int) (.slice A9 bb.length c9)) A9 bb W6) := ⟨by rw [← hW_W6]; exact HTW5.out.drewN _⟩
    clear hW_W6
    go_wp2_with fail
    obtain ⟨W8, hst8, hT8⟩ := HTW6.out.drew.store HNB.out (i := pat) HPI.out HBB.out.1 HBB.out.2.2 HBB.out.2.1
    have HTW8 := Aside0.mk hT8
    clear hT8
    refine start_ (n := 9) (S := fun w' => w'.cell? ⟨g, 2, none⟩ = some (.map (some b)) ∧ w'.cell? ⟨w.heap.size, 1, none⟩ = some (.int .i64 (pat : Int)) ∧ w'.cell? ⟨w.heap.size, 3, none⟩ = some (.slice A9 bb.length c9)) (ds := [8]) #[false, false, false, false, false, false, false, false, false] (by kernel_rfl) rfl rfl ⟨(blk_cell HTW6.out.drew.at_ 2), (blk_cell HTW6.out.drew.pb_ 1), (blk_cell HTW6.out.drew.pb_ 3)⟩ (fun hHeld => ?_)
    refine pure_ (i := 0) (N := some 66) (v := ?_) (a' := ?_) #[true, false, false, false, false, false, false, false, false] rfl rfl (by kernel_rfl) (fun _ _ _ h => h) (Or.inl ⟨by rfl, ?_⟩) ?_ ?_
    rotate_left
    · intro w'
      go_simp
      with_reducible rfl
    rotate_left
    · simp only [Act.put, List.setIfInBounds_toArray, List.set_cons_zero, List.set_cons_succ, i64_w, i32_w]
      rfl
    refine pure_ (i := 1) (N := some 67) (v := ?_) (a' := ?_) #[true, true, false, false, false, false, false, false, false] rfl rfl (by kernel_rfl) (fun _ _ _ h => h) (Or.inl ⟨by rfl, ?_⟩) ?_ ?_
    rotate_left
    · intro w'
      go_simp
      with_reducible rfl
    rotate_left
    · simp only [Act.put, List.setIfInBounds_toArray, List.set_cons_zero, List.set_cons_succ, i64_w, i32_w]
      rfl
    refine pure_ (i := 2) (N := some 68) (v := ?_) (a' := ?_) #[true, true, true, false, false, false, false, false, false] rfl rfl (by kernel_rfl) (fun _ _ _ h => h) (Or.inl ⟨by rfl, ?_⟩) ?_ ?_
    rotate_left
    · intro w'
      go_simp
      with_reducible rfl
    rotate_left
    · simp only [Act.put, List.setIfInBounds_toArray, List.set_cons_zero, List.set_cons_succ, i64_w, i32_w]
      rfl
    refine pure_ (i := 4) (N := some 70) (v := ?_) (a' := ?_) #[true, true, true, false, true, false, false, false, false] rfl rfl (by kernel_rfl) (fun _ _ _ h => h) (Or.inl ⟨by rfl, ?_⟩) ?_ ?_
    rotate_left
    · intro w'
      go_simp
      with_reducible rfl
    rotate_left
    · simp only [Act.put, List.setIfInBounds_toArray, List.set_cons_zero, List.set_cons_succ, i64_w, i32_w]
      rfl
    refine pure_ (i := 6) (N := some 72) (v := ?_) (a' := ?_) #[true, true, true, false, true, false, true, false, false] rfl rfl (by kernel_rfl) (fun _ _ _ h => h) (Or.inl ⟨by rfl, ?_⟩) ?_ ?_
    rotate_left
    · intro w'
      go_simp
      with_reducible rfl
    rotate_left
    · simp only [Act.put, List.setIfInBounds_toArray, List.set_cons_zero, List.set_cons_succ, i64_w, i32_w]
      rfl
    refine take_ (i := 3) (N := some 69) (v := ?_) (a' := ?_) #[true, true, true, true, true, false, true, false, false] rfl rfl (by kernel_rfl) (fun _ _ _ h => h) (Or.inl ⟨by rfl, ?_⟩) hHeld ?_ ?_
    rotate_left
    · rintro w' ⟨s0, s1, s2⟩
      go_simp
      with_reducible rfl
    rotate_left
    · simp only [Act.put, List.setIfInBounds_toArray, List.set_cons_zero, List.set_cons_succ, i64_w, i32_w]
      rfl
    refine take_ (i := 5) (N := some 71) (v := ?_) (a' := ?_) #[true, true, true, true, true, true, true, false, false] rfl rfl (by kernel_rfl) (fun _ _ _ h => h) (Or.inl ⟨by rfl, ?_⟩) hHeld ?_ ?_
    rotate_left
    · rintro w' ⟨s0, s1, s2⟩
      go_simp
      with_reducible rfl
    rotate_left
    · simp only [Act.put, List.setIfInBounds_toArray, List.set_cons_zero, List.set_cons_succ, i64_w, i32_w]
      rfl
    refine take_ (i := 7) (N := some 73) (v := ?_) (a' := ?_) #[true, true, true, true, true, true, true, true, false] rfl rfl (by kernel_rfl) (fun _ _ _ h => h) (Or.inl ⟨by rfl, ?_⟩) hHeld ?_ ?_
    rotate_left
    · rintro w' ⟨s0, s1, s2⟩
      go_simp
      with_reducible rfl
    rotate_left
    · simp only [Act.put, List.setIfInBounds_toArray, List.set_cons_zero, List.set_cons_succ, i64_w, i32_w]
      rfl
    refine last_ (i := 8) (N := none) #[true, true, true, true, true, true, true, true, true] rfl rfl (by kernel_rfl) (by decide) (fun K hK => ?_)
    refine skip_ (by rfl) rfl (exec_updF rfl (by rfl) (by rfl) (by rfl) hst8) ?_
    refine hK.out _ _ ?_
    clear hK K
    refine done_ (by kernel_rfl) ?_
    clear hst8
    obtain ⟨PQ, hPQ⟩ : ∃ PQ, ps.set pat bb = PQ := ⟨_, rfl⟩
    have hPQl : PQ.length = ps.length := by rw [← hPQ, List.length_set]
    rw [hPQ] at HTW8 HRV
    rw [← hPQl] at HRV
    have HPQ := Aside0.mk hPQ
    have HQL := Aside0.mk (show PQ.length ≤ 4096 by rw [hPQl, HPL.out]; exact HN.out.2.2.2)
    clear hPQ hPQl
    have y1 := blk_cell HTW8.out.at_ 1
    have y2 := blk_cell HTW8.out.at_ 2
    have hlen := HTW8.out.len 3
    by_cases c8 : haveN PQ < PQ.length
    · have d8 : decide ((haveN PQ : Int) < (PQ.length : Int)) = true := decide_eq_true (by omega)
      have d9 : decide (haveN PQ < PQ.length) = true := decide_eq_true c8
      rw [if_pos c8] at HRV
      clear c8
      go_wp2_with fail
      go_quiet (fail)
      go_wp2_with fail
      go_ret2
      rw [HRV.out]
      exact ⟨(HTW8.out.drewN _).gat HOG.out (by have := HN.out.2.1; have := HID.out; omega), (HTW8.out.drewN _).mu, _, rfl, Kd.R_nil _ _ _ _ _⟩
    have d8 : decide ((haveN PQ : Int) < (PQ.length : Int)) = false := decide_eq_false (by omega)
    have d9 : decide (haveN PQ < PQ.length) = false := decide_eq_false c8
    rw [if_neg c8] at HRV
    have HALL := Aside0.mk (have_all PQ c8)
    clear c8
    go_wp2_with fail
    go_quiet (fail)
    clear hlen y1 y2 d8 d9
    generalize hW_W9 : W8.drewN _ = W9
    have HTW9 : Aside0 (Tl w own g b w.heap.size pid PQ (partO pid (pat : Int) (pn : Int) (.slice A9 bb.length c9)) A9 bb W9) := ⟨by rw [← hW_W9]; exact HTW8.out.drewN _⟩
    clear hW_W9
    have y1 := blk_cell HTW9.out.at_ 1
    have y2 := blk_cell HTW9.out.at_ 2
    have HR0 := Aside0.mk (Kd.R_nil (Kd.int .u8) 5 W9 W9.heap.size (fun _ => True))
    go_wp2_with fail
    clear y1 y2
    go_loopw [8, 9, 91, 92, 93, 94, 95, 96, 97, 98, 99, 100, 101, 102] (fun v8 v9 v91 v92 v93 v94 v95 v96 v97 v98 v99 v100 v101 v102 wr => ∃ i : Nat, i ≤ PQ.length ∧ v91 = .int .i64 (i : Int) ∧ Kd.R (Kd.int .u8) 5 wr W9.heap.size (fun _ => True) v8 (PQ.take i).flatten ∧ (PQ.take i).flatten.length ≤ 256 * i ∧ Below W9.heap.size W9 wr)
      (fun v8 v9 v91 v92 v93 v94 v95 v96 v97 v98 v99 v100 v101 v102 _ => PQ.length - (intOf v91).toNat)
    case atStart => exact ⟨0, Nat.zero_le _, rfl, HR0.out, by simp, Below.refl _ _⟩
    case round =>
      obtain ⟨i, hi, rfl, hR8, hl8, hB8⟩ := hrel
      obtain ⟨X, hX⟩ : ∃ X, (PQ.take i).flatten = X := ⟨_, rfl⟩
      rw [hX] at hR8 hl8
      obtain ⟨A8, c8, rfl⟩ := Kd.R_slice hR8
      have HX := Aside0.mk (And.intro hX (And.intro hl8 hi))
      have HR8 := Aside0.mk hR8
      have HB8 := Aside0.mk hB8
      have HTr : Aside0 (Tl w own g b w.heap.size pid PQ (partO pid (pat : Int) (pn : Int) (.slice A9 bb.length c9)) A9 bb wr) := ⟨HTW9.out.below HB8.out⟩
      clear hX hl8 hi hR8 hB8
      by_cases hlt : i < PQ.length
      · obtain ⟨Ai, ci, _, hlk, hci, hCi, _, h256⟩ := HTr.out.part hlt (HALL.out i hlt)
        have y2 := blk_cell HTr.out.at_ 2
        have hib : i < 4096 := by have := HQL.out; omega
        obtain ⟨pi, hpi⟩ : ∃ pi, PQ.getD i noP = pi := ⟨_, rfl⟩
        rw [hpi] at hlk hci hCi h256
        have HPI2 := Aside0.mk (And.intro hpi (And.intro h256 hlt))
        have HCi := Aside0.mk hCi
        have HBD : Aside0 ((X.length + pi.length) * 1 ≤ 140737488355328) := ⟨by have := HX.out.2.1; omega⟩
        have HBZ := Aside0.mk HB8.out.size
        clear hpi h256 hCi hci
        go_wp2_with (first | ((with_reducible refine gate_builtin (b := .append) (xs := #[.tmp 94, .tmp 100]) rfl ?_); at_builtin; refine Kd.R_append_rows (Kd.int .u8) (w0 := W9) W9.heap.size rfl (.tmp 94) (.tmp 100) 23 5 (.int .u8 0) 1 rfl Try.underlying23 info5 rfl (by decide) (by decide) (.slice A8 X.length c8) X pi Ai pi.length ci (fun _ => True) (fun _ => False) rfl rfl HR8.out HCi.out (fun _ _ h => h) (fun _ h => h.elim) (fun _ _ => trivial) HB8.out HBZ.out HBD.out ?_; intro v9 w9 hR9 hB9 hg9 hat9; obtain ⟨A10, c10, rfl⟩ := Kd.R_slice hR9; clear hg9 hat9))
        go_roundw
        case rel =>
          refine ⟨i + 1, HPI2.out.2.2, by simp, ?_, ?_, hB9⟩
          · rw [flat_take PQ i HPI2.out.2.2, HPI2.out.1, HX.out.1]
            first
              | exact hR9
              | (rw [List.length_append] at hR9; exact hR9)
          · rw [flat_take PQ i HPI2.out.2.2, HPI2.out.1, HX.out.1, List.length_append]
            have := HX.out.2.1; have := HPI2.out.2.1; omega
        case measure => have := HPI2.out.2.2; simp [intOf] <;> omega
      · have hiN : i = PQ.length := by have := HX.out.2.2; omega
        have hXe : X = PQ.flatten := by rw [← HX.out.1, hiN, List.take_of_length_le (Nat.le_refl _)]
        have HXE := Aside0.mk hXe
        clear hXe
        subst hiN
        have y1 := blk_cell HTr.out.at_ 1
        go_wp2_with fail
        go_ret2
        rw [HRV.out]
        refine ⟨HTr.out.gat HOG.out (by have := HN.out.2.1; have := HID.out; omega), HTr.out.mu, _, rfl, ?_⟩
        rw [← HXE.out]
        exact Kd.R_lower HR8.out HTW9.out.mu.size
  obtain ⟨Aq, cq, hlk, _, hcq, hCq, hbq, h256⟩ := HTW4.out.part HPI.out c2
  obtain ⟨pq, hpq⟩ : ∃ pq, ps.getD pat noP = pq := ⟨_, rfl⟩
  rw [hpq] at hlk hcq hCq hbq h256
  have e1 : ((pn : Int) == (ps.length : Int)) = true := beq_iff_eq.2 (by omega)
  have HCQ := Aside0.mk (And.intro hcq (And.intro hCq hbq))
  have HR2 : Aside0 (R = if pq = bb then some ((pid, (ps.length : Int), ps.set pat bb), ([], false)) else none) := ⟨by
    rw [← HR.out]; unfold takeV
    rw [if_neg (by omega), if_neg (by omega), if_neg (fun h => c2 h.2)]
    by_cases c3 : pq = bb
    · rw [if_pos ⟨by omega, hpq.trans c3⟩, if_pos c3]
    · rw [if_neg (fun h => c3 (hpq.symm.trans h.2)), if_neg c3]⟩
  have HPQ0 := Aside0.mk (And.intro hpq c2)
  have HC1 := Aside0.mk c1
  have heq := equal_bytesF hbq HBB.out.1
  have HEQ := Aside0.mk heq
  clear c1 c2 hpq hcq hCq hbq h256 HR heq
  have y2 := blk_cell HTW4.out.at_ 2
  have x1 := blk_cell HTW4.out.pb_ 1
  go_wp2_with fail
  go_quiet (fail)
  clear hlk y2 x1
  have HCQ5 := Aside0.mk (Kd.C_drewN HCQ.out.2.1 nq)
  generalize hW_W5 : W4.drewN nq = W5 at *
  have HTW5 : Aside0 (Tl w own g b w.heap.size pid ps (partO pid (pat : Int) (pn : Int) (.slice A9 bb.length c9)) A9 bb W5) := ⟨by rw [← hW_W5]; exact HTW4.out.drewN _⟩
  clear hW_W5
  go_wp2_with fail
  by_cases c3 : pq = bb
  case neg =>
    have HRN : Aside0 (R = none) := ⟨by rw [HR2.out, if_neg c3]⟩
    have HEF : Aside0 (bytes_Equal.f pq bb = some false) := ⟨by rw [HEQ.out, decide_eq_false c3]⟩
    clear c3
    refine start_ (n := 18) (S := fun w' => w'.cell? ⟨g, 1, none⟩ = some (.int .i64 (ps.length : Int)) ∧ w'.cell? ⟨w.heap.size, 2, none⟩ = some (.int .i64 (pn : Int)) ∧ w'.cell? ⟨w.heap.size, 3, none⟩ = some (.slice A9 bb.length c9)) (ds := [17]) #[false, false, false, false, false, false, false, false, false, false, false, false, false, false, false, false, false, false] (by kernel_rfl) rfl rfl ⟨(blk_cell HTW5.out.drew.at_ 1), (blk_cell HTW5.out.drew.pb_ 2), (blk_cell HTW5.out.drew.pb_ 3)⟩ (fun hHeld => ?_)
    refine pure_ (i := 0) (N := some 48) (v := ?_) (a' := ?_) #[true, false, false, false, false, false, false, false, false, false, false, false, false, false, false, false, false, false] rfl rfl (by kernel_rfl) (fun _ _ _ h => h) (Or.inl ⟨by rfl, ?_⟩) ?_ ?_
    rotate_left
    · intro w'
      go_simp
      with_reducible rfl
    rotate_left
    · simp only [Act.put, List.setIfInBounds_toArray, List.set_cons_zero, List.set_cons_succ, i64_w, i32_w]
      rfl
    refine pure_ (i := 2) (N := some 50) (v := ?_) (a' := ?_) #[true, false, true, false, false, false, false, false, false, false, false, false, false, false, false, false, false, false] rfl rfl (by kernel_rfl) (fun _ _ _ h => h) (Or.inl ⟨by rfl, ?_⟩) ?_ ?_
    rotate_left
    · intro w'
      go_simp
      with_reducible rfl
    rotate_left
    · simp only [Act.put, List.setIfInBounds_toArray, List.set_cons_zero, List.set_cons_succ, i64_w, i32_w]
      rfl
    refine pure_ (i := 3) (N := some 51) (v := ?_) (a' := ?_) #[true, false, true, true, false, false, false, false, false, false, false, false, false, false, false, false, false, false] rfl rfl (by kernel_rfl) (fun _ _ _ h => h) (Or.inl ⟨by rfl, ?_⟩) ?_ ?_
    rotate_left
    · intro w'
      go_simp
      with_reducible rfl
    rotate_left
    · simp only [Act.put, List.setIfInBounds_toArray, List.set_cons_zero, List.set_cons_succ, i64_w, i32_w]
      rfl
    refine pure_ (i := 4) (N := some 52) (v := ?_) (a' := ?_) #[true, false, true, true, true, false, false, false, false, false, false, false, false, false, false, false, false, false] rfl rfl (by kernel_rfl) (fun _ _ _ h => h) (Or.inl ⟨by rfl, ?_⟩) ?_ ?_
    rotate_left
    · intro w'
      go_simp
      with_reducible rfl
    rotate_left
    · simp only [Act.put, List.setIfInBounds_toArray, List.set_cons_zero, List.set_cons_succ, i64_w, i32_w]
      rfl
    refine take_ (i := 1) (N := some 49) (v := ?_) (a' := ?_) #[true, true, true, true, true, false, false, false, false, false, false, false, false, false, false, false, false, false] rfl rfl (by kernel_rfl) (fun _ _ _ h => h) (Or.inl ⟨by rfl, ?_⟩) hHeld ?_ ?_
    rotate_left
    · rintro w' ⟨s0, s1, s2⟩
      go_simp
      with_reducible rfl
    rotate_left
    · simp only [Act.put, List.setIfInBounds_toArray, List.set_cons_zero, List.set_cons_succ, i64_w, i32_w]
      rfl
    refine take_ (i := 5) (N := some 53) (v := ?_) (a' := ?_) #[true, true, true, true, true, true, false, false, false, false, false, false, false, false, false, false, false, false] rfl rfl (by kernel_rfl) (fun _ _ _ h => h) (Or.inl ⟨by rfl, ?_⟩) hHeld ?_ ?_
    rotate_left
    · rintro w' ⟨s0, s1, s2⟩
      go_simp
      with_reducible rfl
    rotate_left
    · simp only [Act.put, List.setIfInBounds_toArray, List.set_cons_zero, List.set_cons_succ, i64_w, i32_w]
      rfl
    refine pure_ (i := 6) (N := some 54) (v := ?_) (a' := ?_) #[true, true, true, true, true, true, true, false, false, false, false, false, false, false, false, false, false, false] rfl rfl (by kernel_rfl) (fun _ _ _ h => h) (Or.inl ⟨by rfl, ?_⟩) ?_ ?_
    rotate_left
    · intro w'
      go_simp
      with_reducible rfl
    rotate_left
    · simp only [Act.put, List.setIfInBounds_toArray, List.set_cons_zero, List.set_cons_succ, i64_w, i32_w]
      rfl
    refine pure_ (i := 7) (N := some 55) (v := ?_) (a' := ?_) #[true, true, true, true, true, true, true, true, false, false, false, false, false, false, false, false, false, false] rfl rfl (by kernel_rfl) (fun _ _ _ h => h) (Or.inl ⟨by rfl, ?_⟩) ?_ ?_
    rotate_left
    · intro w'
      go_simp
      with_reducible rfl
    rotate_left
    · simp only [Act.put, List.setIfInBounds_toArray, List.set_cons_zero, List.set_cons_succ, i64_w, i32_w]
      rfl
    refine pure_ (i := 8) (N := some 56) (v := ?_) (a' := ?_) #[true, true, true, true, true, true, true, true, true, false, false, false, false, false, false, false, false, false] rfl rfl (by kernel_rfl) (fun _ _ _ h => h) (Or.inl ⟨by rfl, ?_⟩) ?_ ?_
    rotate_left
    · intro w'
      go_simp
      with_reducible rfl
    rotate_left
    · simp only [Act.put, List.setIfInBounds_toArray, List.set_cons_zero, List.set_cons_succ, i64_w, i32_w]
      rfl
    refine pure_ (i := 9) (N := some 57) (v := ?_) (a' := ?_) #[true, true, true, true, true, true, true, true, true, true, false, false, false, false, false, false, false, false] rfl rfl (by kernel_rfl) (fun _ _ _ h => h) (Or.inl ⟨by rfl, ?_⟩) ?_ ?_
    rotate_left
    · intro w'
      go_simp
      with_reducible rfl
    rotate_left
    · simp only [Act.put, List.setIfInBounds_toArray, List.set_cons_zero, List.set_cons_succ, i64_w, i32_w]
      rfl
    refine pure_ (i := 10) (N := some 58) (v := ?_) (a' := ?_) #[true, true, true, true, true, true, true, true, true, true, true, false, false, false, false, false, false, false] rfl rfl (by kernel_rfl) (fun _ _ _ h => h) (Or.inl ⟨by rfl, ?_⟩) ?_ ?_
    rotate_left
    · intro w'
      go_simp
      with_reducible rfl
    rotate_left
    · simp only [Act.put, List.setIfInBounds_toArray, List.set_cons_zero, List.set_cons_succ, i64_w, i32_w]
      rfl
    refine pure_ (i := 11) (N := some 59) (v := ?_) (a' := ?_) #[true, true, true, true, true, true, true, true, true, true, true, true, false, false, false, false, false, false] rfl rfl (by kernel_rfl) (fun _ _ _ h => h) (Or.inl ⟨by rfl, ?_⟩) ?_ ?_
    rotate_left
    · intro w'
      go_simp
      with_reducible rfl
    rotate_left
    · simp only [Act.put, List.setIfInBounds_toArray, List.set_cons_zero, List.set_cons_succ, i64_w, i32_w]
      rfl
    refine pure_ (i := 12) (N := some 60) (v := ?_) (a' := ?_) #[true, true, true, true, true, true, true, true, true, true, true, true, true, false, false, false, false, false] rfl rfl (by kernel_rfl) (fun _ _ _ h => h) (Or.inl ⟨by rfl, ?_⟩) ?_ ?_
    rotate_left
    · intro w'
      go_simp
      with_reducible rfl
    rotate_left
    · simp only [Act.put, List.setIfInBounds_toArray, List.set_cons_zero, List.set_cons_succ, i64_w, i32_w]
      rfl
    refine take_ (i := 13) (N := some 61) (v := ?_) (a' := ?_) #[true, true, true, true, true, true, true, true, true, true, true, true, true, true, false, false, false, false] rfl rfl (by kernel_rfl) (fun _ _ _ h => h) (Or.inl ⟨by rfl, ?_⟩) hHeld ?_ ?_
    rotate_left
    · rintro w' ⟨s0, s1, s2⟩
      go_simp
      with_reducible rfl
    rotate_left
    · simp only [Act.put, List.setIfInBounds_toArray, List.set_cons_zero, List.set_cons_succ, i64_w, i32_w]
      rfl
    refine one_ (i := 14) (N := some 62) #[true, true, true, true, true, true, true, true, true, true, true, true, true, true, true, false, false, false] rfl rfl (by kernel_rfl) (by decide) (fun K hK => ?_)
    refine goes_ Try.func44 (by kernel_rfl) rfl #[.slice Aq pq.length cq, .slice A9 bb.length c9] (by rfl) rfl rfl (by (try simp only [List.map_toArray, List.map_cons, List.map_nil]); first | done | rfl) ?_
    refine (bytes_Equal.calls Aq cq pq A9 c9 bb false _ (Kd.C_drew HCQ5.out) HCQ.out.1 (Kd.F_now HTW5.out.drew.F) HBB.out.2.1 HEF.out).mono ?_
    rintro e w6 ⟨rfl, ⟨nd, rfl⟩⟩
    refine ⟨_, rfl, ?_⟩
    refine hK.out _ _ ⟨(blk_cell (HTW5.out.drew.drewN nd).at_ 1), (blk_cell (HTW5.out.drew.drewN nd).pb_ 2), (blk_cell (HTW5.out.drew.drewN nd).pb_ 3)⟩ (fun hHeld => ?_)
    clear hK K
    refine norm_ (a' := ?_) ?_ ?_
    rotate_left
    · show Act.put _ (some 62) _ = _
      simp only [Act.put, List.setIfInBounds_toArray, List.set_cons_zero, List.set_cons_succ, i64_w, i32_w]
      rfl
    refine pure_ (i := 15) (N := some 63) (v := ?_) (a' := ?_) #[true, true, true, true, true, true, true, true, true, true, true, true, true, true, true, true, false, false] rfl rfl (by kernel_rfl) (fun _ _ _ h => h) (Or.inl ⟨by rfl, ?_⟩) ?_ ?_
    rotate_left
    · intro w'
      go_simp
      with_reducible rfl
    rotate_left
    · simp only [Act.put, List.setIfInBounds_toArray, List.set_cons_zero, List.set_cons_succ, i64_w, i32_w]
      rfl
    refine pure_ (i := 16) (N := some 64) (v := ?_) (a' := ?_) #[true, true, true, true, true, true, true, true, true, true, true, true, true, true, true, true, true, false] rfl rfl (by kernel_rfl) (fun _ _ _ h => h) (Or.inl ⟨by rfl, ?_⟩) ?_ ?_
    rotate_left
    · intro w'
      go_simp
      with_reducible rfl
    rotate_left
    · simp only [Act.put, List.setIfInBounds_toArray, List.set_cons_zero, List.set_cons_succ, i64_w, i32_w]
      rfl
    refine last_ (i := 17) (N := some 65) #[true, true, true, true, true, true, true, true, true, true, true, true, true, true, true, true, true, true] rfl rfl (by kernel_rfl) (by decide) (fun K hK => ?_)
    refine goesP_ Try.func60 (by kernel_rfl) rfl #[.bool false] (by rfl) rfl rfl (by (try simp only [List.map_toArray, List.map_cons, List.map_nil]); first | done | rfl) ?_
    refine (fasks_no rfl).mono ?_
    rintro en w7 ⟨rfl, rfl⟩
    rw [HRN.out]
    exact ⟨_, rfl, rfl, (HTW5.out.drew.drewN nd).gat HOG.out HID.out, (HTW5.out.drew.drewN nd).mu, rfl⟩
  have HRV : Aside0 (R = some ((pid, (ps.length : Int), ps.set pat bb), ([], false))) := ⟨by rw [HR2.out, if_pos c3]⟩
  have HEF : Aside0 (bytes_Equal.f pq bb = some true) := ⟨by rw [HEQ.out, decide_eq_true c3]⟩
  clear c3
  refine start_ (n := 18) (S := fun w' => w'.cell? ⟨g, 1, none⟩ = some (.int .i64 (ps.length : Int)) ∧ w'.cell? ⟨w.heap.size, 2, none⟩ = some (.int .i64 (pn : Int)) ∧ w'.cell? ⟨w.heap.size, 3, none⟩ = some (.slice A9 bb.length c9)) (ds := [17]) #[false, false, false, false, false, false, false, false, false, false, false, false, false, false, false, false, false, false] (by kernel_rfl) rfl rfl ⟨(blk_cell HTW5.out.drew.at_ 1), (blk_cell HTW5.out.drew.pb_ 2), (blk_cell HTW5.out.drew.pb_ 3)⟩ (fun hHeld => ?_)
  refine pure_ (i := 0) (N := some 48) (v := ?_) (a' := ?_) #[true, false, false, false, false, false, false, false, false, false, false, false, false, false, false, false, false, false] rfl rfl (by kernel_rfl) (fun _ _ _ h => h) (Or.inl ⟨by rfl, ?_⟩) ?_ ?_
  rotate_left
  · intro w'
    go_simp
    with_reducible rfl
  rotate_left
  · simp only [Act.put, List.setIfInBounds_toArray, List.set_cons_zero, List.set_cons_succ, i64_w, i32_w]
    rfl
  refine pure_ (i := 2) (N := some 50) (v := ?_) (a' := ?_) #[true, false, true, false, false, false, false, false, false, false, false, false, false, false, false, false, false, false] rfl rfl (by kernel_rfl) (fun _ _ _ h => h) (Or.inl ⟨by rfl, ?_⟩) ?_ ?_
  rotate_left
  · intro w'
    go_simp
    with_reducible rfl
  rotate_left
  · simp only [Act.put, List.setIfInBounds_toArray, List.set_cons_zero, List.set_cons_succ, i64_w, i32_w]
    rfl
  refine pure_ (i := 3) (N := some 51) (v := ?_) (a' := ?_) #[true, false, true, true, false, false, false, false, false, false, false, false, false, false, false, false, false, false] rfl rfl (by kernel_rfl) (fun _ _ _ h => h) (Or.inl ⟨by rfl, ?_⟩) ?_ ?_
  rotate_left
  · intro w'
    go_simp
    with_reducible rfl
  rotate_left
  · simp only [Act.put, List.setIfInBounds_toArray, List.set_cons_zero, List.set_cons_succ, i64_w, i32_w]
    rfl
  refine pure_ (i := 4) (N := some 52) (v := ?_) (a' := ?_) #[true, false, true, true, true, false, false, false, false, false, false, false, false, false, false, false, false, false] rfl rfl (by kernel_rfl) (fun _ _ _ h => h) (Or.inl ⟨by rfl, ?_⟩) ?_ ?_
  rotate_left
  · intro w'
    go_simp
    with_reducible rfl
  rotate_left
  · simp only [Act.put, List.setIfInBounds_toArray, List.set_cons_zero, List.set_cons_succ, i64_w, i32_w]
    rfl
  refine take_ (i := 1) (N := some 49) (v := ?_) (a' := ?_) #[true, true, true, true, true, false, false, false, false, false, false, false, false, false, false, false, false, false] rfl rfl (by kernel_rfl) (fun _ _ _ h => h) (Or.inl ⟨by rfl, ?_⟩) hHeld ?_ ?_
  rotate_left
  · rintro w' ⟨s0, s1, s2⟩
    go_simp
    with_reducible rfl
  rotate_left
  · simp only [Act.put, List.setIfInBounds_toArray, List.set_cons_zero, List.set_cons_succ, i64_w, i32_w]
    rfl
  refine take_ (i := 5) (N := some 53) (v := ?_) (a' := ?_) #[true, true, true, true, true, true, false, false, false, false, false, false, false, false, false, false, false, false] rfl rfl (by kernel_rfl) (fun _ _ _ h => h) (Or.inl ⟨by rfl, ?_⟩) hHeld ?_ ?_
  rotate_left
  · rintro w' ⟨s0, s1, s2⟩
    go_simp
    with_reducible rfl
  rotate_left
  · simp only [Act.put, List.setIfInBounds_toArray, List.set_cons_zero, List.set_cons_succ, i64_w, i32_w]
    rfl
  refine pure_ (i := 6) (N := some 54) (v := ?_) (a' := ?_) #[true, true, true, true, true, true, true, false, false, false, false, false, false, false, false, false, false, false] rfl rfl (by kernel_rfl) (fun _ _ _ h => h) (Or.inl ⟨by rfl, ?_⟩) ?_ ?_
  rotate_left
  · intro w'
    go_simp
    with_reducible rfl
  rotate_left
  · simp only [Act.put, List.setIfInBounds_toArray, List.set_cons_zero, List.set_cons_succ, i64_w, i32_w]
    rfl
  refine pure_ (i := 7) (N := some 55) (v := ?_) (a' := ?_) #[true, true, true, true, true, true, true, true, false, false, false, false, false, false, false, false, false, false] rfl rfl (by kernel_rfl) (fun _ _ _ h => h) (Or.inl ⟨by rfl, ?_⟩) ?_ ?_
  rotate_left
  · intro w'
    go_simp
    with_reducible rfl
  rotate_left
  · simp only [Act.put, List.setIfInBounds_toArray, List.set_cons_zero, List.set_cons_succ, i64_w, i32_w]
    rfl
  refine pure_ (i := 8) (N := some 56) (v := ?_) (a' := ?_) #[true, true, true, true, true, true, true, true, true, false, false, false, false, false, false, false, false, false] rfl rfl (by kernel_rfl) (fun _ _ _ h => h) (Or.inl ⟨by rfl, ?_⟩) ?_ ?_
  rotate_left
  · intro w'
    go_simp
    with_reducible rfl
  rotate_left
  · simp only [Act.put, List.setIfInBounds_toArray, List.set_cons_zero, List.set_cons_succ, i64_w, i32_w]
    rfl
  refine pure_ (i := 9) (N := some 57) (v := ?_) (a' := ?_) #[true, true, true, true, true, true, true, true, true, true, false, false, false, false, false, false, false, false] rfl rfl (by kernel_rfl) (fun _ _ _ h => h) (Or.inl ⟨by rfl, ?_⟩) ?_ ?_
  rotate_left
  · intro w'
    go_simp
    with_reducible rfl
  rotate_left
  · simp only [Act.put, List.setIfInBounds_toArray, List.set_cons_zero, List.set_cons_succ, i64_w, i32_w]
    rfl
  refine pure_ (i := 10) (N := some 58) (v := ?_) (a' := ?_) #[true, true, true, true, true, true, true, true, true, true, true, false, false, false, false, false, false, false] rfl rfl (by kernel_rfl) (fun _ _ _ h => h) (Or.inl ⟨by rfl, ?_⟩) ?_ ?_
  rotate_left
  · intro w'
    go_simp
    with_reducible rfl
  rotate_left
  · simp only [Act.put, List.setIfInBounds_toArray, List.set_cons_zero, List.set_cons_succ, i64_w, i32_w]
    rfl
  refine pure_ (i := 11) (N := some 59) (v := ?_) (a' := ?_) #[true, true, true, true, true, true, true, true, true, true, true, true, false, false, false, false, false, false] rfl rfl (by kernel_rfl) (fun _ _ _ h => h) (Or.inl ⟨by rfl, ?_⟩) ?_ ?_
  rotate_left
  · intro w'
    go_simp
    with_reducible rfl
  rotate_left
  · simp only [Act.put, List.setIfInBounds_toArray, List.set_cons_zero, List.set_cons_succ, i64_w, i32_w]
    rfl
  refine pure_ (i := 12) (N := some 60) (v := ?_) (a' := ?_) #[true, true, true, true, true, true, true, true, true, true, true, true, true, false, false, false, false, false] rfl rfl (by kernel_rfl) (fun _ _ _ h => h) (Or.inl ⟨by rfl, ?_⟩) ?_ ?_
  rotate_left
  · intro w'
    go_simp
    with_reducible rfl
  rotate_left
  · simp only [Act.put, List.setIfInBounds_toArray, List.set_cons_zero, List.set_cons_succ, i64_w, i32_w]
    rfl
  refine take_ (i := 13) (N := some 61) (v := ?_) (a' := ?_) #[true, true, true, true, true, true, true, true, true, true, true, true, true, true, false, false, false, false] rfl rfl (by kernel_rfl) (fun _ _ _ h => h) (Or.inl ⟨by rfl, ?_⟩) hHeld ?_ ?_
  rotate_left
  · rintro w' ⟨s0, s1, s2⟩
    go_simp
    with_reducible rfl
  rotate_left
  · simp only [Act.put, List.setIfInBounds_toArray, List.set_cons_zero, List.set_cons_succ, i64_w, i32_w]
    rfl
  refine one_ (i := 14) (N := some 62) #[true, true, true, true, true, true, true, true, true, true, true, true, true, true, true, false, false, false] rfl rfl (by kernel_rfl) (by decide) (fun K hK => ?_)
  refine goes_ Try.func44 (by kernel_rfl) rfl #[.slice Aq pq.length cq, .slice A9 bb.length c9] (by rfl) rfl rfl (by (try simp only [List.map_toArray, List.map_cons, List.map_nil]); first | done | rfl) ?_
  refine (bytes_Equal.calls Aq cq pq A9 c9 bb true _ (Kd.C_drew HCQ5.out) HCQ.out.1 (Kd.F_now HTW5.out.drew.F) HBB.out.2.1 HEF.out).mono ?_
  rintro e w6 ⟨rfl, ⟨nd, rfl⟩⟩
  refine ⟨_, rfl, ?_⟩
  refine hK.out _ _ ⟨(blk_cell (HTW5.out.drew.drewN nd).at_ 1), (blk_cell (HTW5.out.drew.drewN nd).pb_ 2), (blk_cell (HTW5.out.drew.drewN nd).pb_ 3)⟩ (fun hHeld => ?_)
  clear hK K
  refine norm_ (a' := ?_) ?_ ?_
  rotate_left
  · show Act.put _ (some 62) _ = _
    simp only [Act.put, List.setIfInBounds_toArray, List.set_cons_zero, List.set_cons_succ, i64_w, i32_w]
    rfl
  refine pure_ (i := 15) (N := some 63) (v := ?_) (a' := ?_) #[true, true, true, true, true, true, true, true, true, true, true, true, true, true, true, true, false, false] rfl rfl (by kernel_rfl) (fun _ _ _ h => h) (Or.inl ⟨by rfl, ?_⟩) ?_ ?_
  rotate_left
  · intro w'
    go_simp
    with_reducible rfl
  rotate_left
  · simp only [Act.put, List.setIfInBounds_toArray, List.set_cons_zero, List.set_cons_succ, i64_w, i32_w]
    rfl
  refine pure_ (i := 16) (N := some 64) (v := ?_) (a' := ?_) #[true, true, true, true, true, true, true, true, true, true, true, true, true, true, true, true, true, false] rfl rfl (by kernel_rfl) (fun _ _ _ h => h) (Or.inl ⟨by rfl, ?_⟩) ?_ ?_
  rotate_left
  · intro w'
    go_simp
    with_reducible rfl
  rotate_left
  · simp only [Act.put, List.setIfInBounds_toArray, List.set_cons_zero, List.set_cons_succ, i64_w, i32_w]
    rfl
  refine last_ (i := 17) (N := some 65) #[true, true, true, true, true, true, true, true, true, true, true, true, true, true, true, true, true, true] rfl rfl (by kernel_rfl) (by decide) (fun K hK => ?_)
  refine goes_ Try.func60 (by kernel_rfl) rfl #[.bool true] (by rfl) rfl rfl (by (try simp only [List.map_toArray, List.map_cons, List.map_nil]); first | done | rfl) ?_
  refine (fasks_ok rfl).mono ?_
  rintro en w7 ⟨rfl, rfl⟩
  refine ⟨_, rfl, ?_⟩
  refine hK.out _ _ ?_
  clear hK K
  refine norm_ (a' := ?_) ?_ ?_
  rotate_left
  · show Act.put _ (some 65) _ = _
    simp only [Act.put, List.setIfInBounds_toArray, List.set_cons_zero, List.set_cons_succ, i64_w, i32_w]
    rfl
  refine done_ (by kernel_rfl) ?_
  generalize hW_W6 : W5.drew.drewN nd = W6
  have HTW6 : Aside0 (Tl w own g b w.heap.size pid ps (partO pid (pat : Int) (pn : Int) (.slice A9 bb.length c9)) A9 bb W6) := ⟨by rw [← hW_W6]; exact HTW5.out.drew.drewN _⟩
  clear hW_W6
  go_wp2_with fail
  obtain ⟨W8, hst8, hT8⟩ := HTW6.out.drew.store HNB.out (i := pat) HPI.out HBB.out.1 HBB.out.2.2 HBB.out.2.1
  have HTW8 := Aside0.mk hT8
  clear hT8
  refine start_ (n := 9) (S := fun w' => w'.cell? ⟨g, 2, none⟩ = some (.map (some b)) ∧ w'.cell? ⟨w.heap.size, 1, none⟩ = some (.int .i64 (pat : Int)) ∧ w'.cell? ⟨w.heap.size, 3, none⟩ = some (.slice A9 bb.length c9)) (ds := [8]) #[false, false, false, false, false, false, false, false, false] (by kernel_rfl) rfl rfl ⟨(blk_cell HTW6.out.drew.at_ 2), (blk_cell HTW6.out.drew.pb_ 1), (blk_cell HTW6.out.drew.pb_ 3)⟩ (fun hHeld => ?_)
  refine pure_ (i := 0) (N := some 66) (v := ?_) (a' := ?_) #[true, false, false, false, false, false, false, false, false] rfl rfl (by kernel_rfl) (fun _ _ _ h => h) (Or.inl ⟨by rfl, ?_⟩) ?_ ?_
  rotate_left
  · intro w'
    go_simp
    with_reducible rfl
  rotate_left
  · simp only [Act.put, List.setIfInBounds_toArray, List.set_cons_zero, List.set_cons_succ, i64_w, i32_w]
    rfl
  refine pure_ (i := 1) (N := some 67) (v := ?_) (a' := ?_) #[true, true, false, false, false, false, false, false, false] rfl rfl (by kernel_rfl) (fun _ _ _ h => h) (Or.inl ⟨by rfl, ?_⟩) ?_ ?_
  rotate_left
  · intro w'
    go_simp
    with_reducible rfl
  rotate_left
  · simp only [Act.put, List.setIfInBounds_toArray, List.set_cons_zero, List.set_cons_succ, i64_w, i32_w]
    rfl
  refine pure_ (i := 2) (N := some 68) (v := ?_) (a' := ?_) #[true, true, true, false, false, false, false, false, false] rfl rfl (by kernel_rfl) (fun _ _ _ h => h) (Or.inl ⟨by rfl, ?_⟩) ?_ ?_
  rotate_left
  · intro w'
    go_simp
    with_reducible rfl
  rotate_left
  · simp only [Act.put, List.setIfInBounds_toArray, List.set_cons_zero, List.set_cons_succ, i64_w, i32_w]
    rfl
  refine pure_ (i := 4) (N := some 70) (v := ?_) (a' := ?_) #[true, true, true, false, true, false, false, false, false] rfl rfl (by kernel_rfl) (fun _ _ _ h => h) (Or.inl ⟨by rfl, ?_⟩) ?_ ?_
  rotate_left
  · intro w'
    go_simp
    with_reducible rfl
  rotate_left
  · simp only [Act.put, List.setIfInBounds_toArray, List.set_cons_zero, List.set_cons_succ, i64_w, i32_w]
    rfl
  refine pure_ (i := 6) (N := some 72) (v := ?_) (a' := ?_) #[true, true, true, false, true, false, true, false, false] rfl rfl (by kernel_rfl) (fun _ _ _ h => h) (Or.inl ⟨by rfl, ?_⟩) ?_ ?_
  rotate_left
  · intro w'
    go_simp
    with_reducible rfl
  rotate_left
  · simp only [Act.put, List.setIfInBounds_toArray, List.set_cons_zero, List.set_cons_succ, i64_w, i32_w]
    rfl
  refine take_ (i := 3) (N := some 69) (v := ?_) (a' := ?_) #[true, true, true, true, true, false, true, false, false] rfl rfl (by kernel_rfl) (fun _ _ _ h => h) (Or.inl ⟨by rfl, ?_⟩) hHeld ?_ ?_
  rotate_left
  · rintro w' ⟨s0, s1, s2⟩
    go_simp
    with_reducible rfl
  rotate_left
  · simp only [Act.put, List.setIfInBounds_toArray, List.set_cons_zero, List.set_cons_succ, i64_w, i32_w]
    rfl
  refine take_ (i := 5) (N := some 71) (v := ?_) (a' := ?_) #[true, true, true, true, true, true, true, false, false] rfl rfl (by kernel_rfl) (fun _ _ _ h => h) (Or.inl ⟨by rfl, ?_⟩) hHeld ?_ ?_
  rotate_left
  · rintro w' ⟨s0, s1, s2⟩
    go_simp
    with_reducible rfl
  rotate_left
  · simp only [Act.put, List.setIfInBounds_toArray, List.set_cons_zero, List.set_cons_succ, i64_w, i32_w]
    rfl
  refine take_ (i := 7) (N := some 73) (v := ?_) (a' := ?_) #[true, true, true, true, true, true, true, true, false] rfl rfl (by kernel_rfl) (fun _ _ _ h => h) (Or.inl ⟨by rfl, ?_⟩) hHeld ?_ ?_
  rotate_left
  · rintro w' ⟨s0, s1, s2⟩
    go_simp
    with_reducible rfl
  rotate_left
  · simp only [Act.put, List.setIfInBounds_toArray, List.set_cons_zero, List.set_cons_succ, i64_w, i32_w]
    rfl
  refine last_ (i := 8) (N := none) #[true, true, true, true, true, true, true, true, true] rfl rfl (by kernel_rfl) (by decide) (fun K hK => ?_)
  refine skip_ (by rfl) rfl (exec_updF rfl (by rfl) (by rfl) (by rfl) hst8) ?_
  refine hK.out _ _ ?_
  clear hK K
  refine done_ (by kernel_rfl) ?_
  clear hst8
  go_wp2_with fail
  go_quiet (fail)
  go_wp2_with fail
  go_ret2
  rw [HRV.out]
  refine ⟨?_, (HTW8.out.drewN _).mu, _, rfl, Kd.R_nil _ _ _ _ _⟩
  have := (HTW8.out.drewN nq).gat HOG.out HID.out
  rwa [List.length_set] at this
theorem takes_any {w : World} {own : Nat → Prop} {g : Nat} {id cnt : Int} {ps : List (List Int)} (hG : GatAt w own g id cnt ps) (hnew : ∀ k, w.heap.size ≤ k → own k) (pid : Int) (pat pn : Nat) (hid : 1 ≤ pid ∧ pid ≤ 4611686018427387904) (hpat : pat < pn) (hpn : pn ≤ 4096)
    {A9 : Option Addr} {c9 : Nat} {bb : List Int} (hbb : ∀ x ∈ bb, 0 ≤ x ∧ x < 256) (hc9 : bb.length ≤ c9) (hl9 : bb.length ≤ 256) (hF : Kd.F (Kd.int .u8) w (fun k => own k ∧ k ≠ g ∧ ∀ i c b, w.heap[g]? = some (gatO i c (some b)) → k ≠ b) A9 bb.length bb)  :
    Calls Try.prog 51 #[.pointer (some ⟨g, 0, none⟩), .agg #[.int .u64 pid, .int .i64 (pat : Int), .int .i64 (pn : Int), .slice A9 bb.length c9]] w (TakePost w own g (id, cnt, ps) (takeV id cnt ps pid pat pn bb)) := by
  by_cases h1 : pid < id
  · exact takes_lt hG hnew pid pat pn hid hpat hpn hbb hc9 hl9 hF h1
  by_cases h2 : id < pid
  · exact takes_gt hG hnew pid pat pn hid hpat hpn hbb hc9 hl9 hF h2
  · exact takes_eq hG hnew pid pat pn hid hpat hpn hbb hc9 hl9 hF h1 h2
end Go.Proofs.Ytdklanenmihpdaa.Hand
namespace Go.Proofs.Ytdklanenmihpdaa.Hand
open Go.RowKit Go.Maps Go.Proofs.YtdklanenmihpdaaW.PrintWords Go.Proofs.YtdklanenmihpdaaW.PrintLast Go.Proofs.Ytdklanenmihpdaa.PA
theorem GatAt.mono {w : World} {own own' : Nat → Prop} {g : Nat} {id cnt : Int} {ps : List (List Int)} (h : GatAt w own g id cnt ps) (hm : ∀ k, k < w.heap.size → own k → own' k) : GatAt w own' g id cnt ps := by
  obtain ⟨hg, ⟨h1, h2, h3, h4⟩ | ⟨h1, h2, b, h4, h5⟩⟩ := h
  · exact ⟨hm g (heap_lt h4) hg, .inl ⟨h1, h2, h3, h4⟩⟩
  · have hlt := h5.lt
    refine ⟨hm g (heap_lt h4) hg, .inr ⟨h1, h2, b, h4, h5.big, hm b hlt h5.mine, h5.ne, ?_⟩⟩
    obtain ⟨D, a1, a2, a3⟩ := h5.map
    refine ⟨D, a1, a2, fun i hi => ?_⟩
    rcases a3 i hi with h | ⟨q1, q2, q3, A, c, q4, q5, q6⟩
    · exact .inl h
    · exact .inr ⟨q1, q2, q3, A, c, q4, q5, Kd.F_mono (Kd.F_bound q6) (fun k hk => ⟨hm k hk.2 hk.1.1, hk.1.2⟩)⟩
theorem GatAt.lt {w : World} {own : Nat → Prop} {g : Nat} {id cnt : Int} {ps : List (List Int)} (h : GatAt w own g id cnt ps) : g < w.heap.size ∧ ∀ i c b, w.heap[g]? = some (gatO i c (some b)) → b < w.heap.size := by
  obtain ⟨hg, ⟨h1, h2, h3, h4⟩ | ⟨h1, h2, b, h4, h5⟩⟩ := h
  · refine ⟨heap_lt h4, fun i c b hb => ?_⟩
    rw [h4] at hb
    simp at hb
  · refine ⟨heap_lt h4, fun i c b' hb => ?_⟩
    rw [h4] at hb
    simp at hb
    obtain ⟨_, _, rfl⟩ := hb
    exact h5.lt
set_option maxRecDepth 100000
theorem newGather_any {w : World} {own : Nat → Prop} (ho : own w.heap.size) :
    Calls Try.prog 27 #[] w fun e w' => e = .returned (.pointer (some ⟨w.heap.size, 0, none⟩)) ∧ GatAt w' own w.heap.size 0 0 [] ∧ Below w.heap.size w w' ∧ w'.heap.size = w.heap.size + 1 := by
  have hbd : ∀ W : World, (Instr.build 85 #[]).run Try.prog W = .ok (.agg #[.int .u64 0, .int .i64 0, .map none]) W := fun W => run_build (P := Try.prog) W 85 #[] _ (by kernel_rfl)
  go_enter Try.func27, Try.ntmps27
  go_wp2
  go_ret
  exact ⟨rfl, ⟨ho, .inl ⟨rfl, rfl, rfl, alloc_new _ _⟩⟩, below_alloc (Below.refl _ _) _, by simp⟩
theorem gat_heap {w : World} {own : Nat → Prop} {g : Nat} {id cnt : Int} {ps : List (List Int)} (h : GatAt w own g id cnt ps) : ∃ m, w.heap[g]? = some (gatO id cnt m) := by
  rcases h.2 with ⟨h1, h2, _, h4⟩ | ⟨_, _, b, h4, _⟩
  · subst h1 h2; exact ⟨_, h4⟩
  · exact ⟨_, h4⟩
theorem gid_any {w : World} {own : Nat → Prop} {g : Nat} {id cnt : Int} {ps : List (List Int)} (h : GatAt w own g id cnt ps) :
    Calls Try.prog 30 #[.pointer (some ⟨g, 0, none⟩)] w fun e w' => e = .returned (.int .u64 id) ∧ w' = w := by
  obtain ⟨m, hg⟩ := gat_heap h
  have y0 := blk_cell hg 0
  clear hg h
  go_enter Try.func30, Try.ntmps30
  go_wp2
  go_ret
  exact ⟨rfl, rfl⟩
theorem ghave_any {w : World} {own : Nat → Prop} {g : Nat} {id cnt : Int} {ps : List (List Int)} (h : GatAt w own g id cnt ps) :
    Calls Try.prog 31 #[.pointer (some ⟨g, 0, none⟩)] w fun e w' => e = .returned (.int .i64 (haveN ps)) ∧ w' = w := by
  obtain ⟨_, ⟨h1, h2, rfl, h4⟩ | ⟨h1, h2, b, h4, h5⟩⟩ := h
  · have y2 := blk_cell h4 2
    have hlen : (Builtin.len_ #[83] 3 #[.map none]).run Try.prog w = .ok (.int .i64 0) w := by kernel_rfl
    clear h4
    go_enter Try.func31, Try.ntmps31
    go_wp2
    go_ret
    exact ⟨rfl, rfl⟩
  · have y2 := blk_cell h4 2
    have hlen := map_len h5 3
    clear h4 h5
    go_enter Try.func31, Try.ntmps31
    go_wp2
    go_ret
    exact ⟨rfl, rfl⟩
set_option maxHeartbeats 1000000 in
theorem fcaught_nil {w : World} {p : Addr} : Calls Try.prog 50 #[.nilIface, .pointer (some p)] w fun en w' => en = .returned (.tuple #[]) ∧ w' = w := by
  go_enter Try.func50, Try.ntmps50
  go_wp2
  go_end0
  exact ⟨rfl, rfl⟩
set_option maxHeartbeats 1000000 in
theorem fcaught_stop {w : World} {p : Nat} {x : Int} (h : w.heap[p]? = some (.cells #[.int .i64 x] 27 (0, 0))) :
    Calls Try.prog 50 #[fstopV, .pointer (some ⟨p, 0, none⟩)] w fun en w' => en = .returned (.tuple #[]) ∧ w'.heap[p]? = some (.cells #[.int .i64 2] 27 (0, 0)) ∧ Mu (· = p) w w' := by
  have hta : ∀ (v : Value) (W : World), (Instr.typeAssert (.iface 103 v) 20 103 true).run Try.prog W = .ok (.tuple #[v, .bool true]) W := fun v W => by kernel_rfl
  have h1 := alloc_blk (O := .cells #[] 103) h
  have c1 := blk_cell h1 0
  have f1 := blk_frozen h1 0
  have HH := Aside0.mk h1
  clear h1 h
  unfold fstopV
  go_enter Try.func50, Try.ntmps50
  go_wp2
  go_end0
  exact ⟨rfl, set_0 HH.out, ((Mu.refl (· = p) w).alloc _).setCell (p := ⟨p, 0, none⟩) (fun _ => rfl) _⟩
theorem put1_stop {w : World} {p : Nat} {f : Int} {older : List PanicEntry} (h : w.heap[p]? = some (.cells #[.int .i64 f] 27 (0, 0))) :
    CallsD Try.prog 49 #[.pointer (some ⟨p, 0, none⟩)] (.panicking ({ v := fstopV, recovered := false } :: older)) w fun en u w' =>
      en = .returned (.tuple #[]) ∧ u = .panicking ({ v := fstopV, recovered := true } :: older) ∧ w'.heap[p]? = some (.cells #[.int .i64 2] 27 (0, 0)) ∧ Mu (· = p) w w' := by
  refine callsD_of_wpS Try.func49 rfl fun c₀ cs hu => ?_
  have HS := Aside0.mk h
  clear h
  apply wpS_region
  simp [wpOpsS, go_sem, recoverD, hu, Try.ntmps49]
  refine (fcaught_stop HS.out).mono ?_
  rintro en w1 ⟨rfl, g1, hm⟩
  simp [wpOpsS, go_sem, Exit.thenS]
  exact ⟨rfl, _, rfl, .tuple #[], results_none rfl _ _ _, rfl, rfl, g1, hm⟩
theorem put1_idle {w : World} {p : Addr} :
    CallsD Try.prog 49 #[.pointer (some p)] .returning w fun en u w' => en = .returned (.tuple #[]) ∧ u = .returning ∧ w' = w := by
  refine callsD_of_wpS Try.func49 rfl fun c₀ cs hu => ?_
  apply wpS_region
  simp [wpOpsS, go_sem, recoverD, hu, Try.ntmps49]
  refine fcaught_nil.mono ?_
  rintro en w1 ⟨rfl, rfl⟩
  simp [wpOpsS, go_sem, Exit.thenS]
  exact ⟨rfl, .returning, by rw [← hu], .tuple #[], results_none rfl _ _ _, rfl, rfl, rfl⟩
end Go.Proofs.Ytdklanenmihpdaa.Hand
namespace Go.Proofs.Ytdklanenmihpdaa.Hand
open Go.RowKit Go.Maps Go.Proofs.YtdklanenmihpdaaW.PrintWords Go.Proofs.YtdklanenmihpdaaW.PrintLast Go.Proofs.Ytdklanenmihpdaa.PA
theorem readV_ok {l : List Int} {id at_ n : Int} {b : List Int} (hb : ∀ x ∈ l, 0 ≤ x ∧ x < 256) (h : readV l = some (id, at_, n, b)) :
    (1 ≤ id ∧ id ≤ 4611686018427387904) ∧ 0 ≤ at_ ∧ at_ < n ∧ n ≤ 4096 ∧ (∀ x ∈ b, 0 ≤ x ∧ x < 256) ∧ b.length ≤ 256 := by
  obtain ⟨id', p1, e1, h1⟩ : ∃ id p1 e1, rdNum l 0 0 4611686018427387904 = (id, p1, e1) := ⟨_, _, _, rfl⟩
  obtain ⟨at', p2, e2, h2⟩ : ∃ at_ p2 e2, rdNum l p1 e1 4096 = (at_, p2, e2) := ⟨_, _, _, rfl⟩
  obtain ⟨n', p3, e3, h3⟩ : ∃ n p3 e3, rdNum l p2 e2 4096 = (n, p3, e3) := ⟨_, _, _, rfl⟩
  have g1 := rdNum_range (by omega) h1
  have g2 := rdNum_range (by omega) h2
  have g3 := rdNum_range (by omega) h3
  unfold readV at h
  simp only [h1, h2, h3] at h
  by_cases c : e3 = 0 ∧ 0 < id' ∧ at' < n'
  case neg => rw [if_neg c] at h; cases h
  rw [if_pos c] at h
  by_cases d : (l.drop p3.toNat).length = 256 ∨ ((l.drop p3.toNat).length < 256 ∧ at' = n' - 1)
  case neg => rw [if_neg d] at h; cases h
  rw [if_pos d] at h
  simp only [Option.some.injEq, Prod.mk.injEq] at h
  obtain ⟨k1, k2, k3, k4⟩ := h
  subst k1 k2 k3 k4
  refine ⟨⟨by omega, g1.2⟩, g2.1, c.2.2, g3.2, fun x hx => hb x (List.mem_of_mem_drop hx), ?_⟩
  rcases d with d | d <;> omega
def putOut (id cnt : Int) (ps : List (List Int)) : Option ((Int × Int × List (List Int)) × (List Int × Bool)) → (Int × Int × List (List Int)) × (List Int × Bool × Int)
  | none => ((id, cnt, ps), ([], false, 2))
  | some (st, m, x) => (st, (m, x, 0))
def putV (id cnt : Int) (ps : List (List Int)) (l : List Int) : (Int × Int × List (List Int)) × (List Int × Bool × Int) :=
  match readV l with
  | none => ((id, cnt, ps), ([], false, 2))
  | some (pid, pat, pn, b) => putOut id cnt ps (takeV id cnt ps pid pat.toNat pn.toNat b)
def PutPost (w : World) (own : Nat → Prop) (g : Nat) (r : (Int × Int × List (List Int)) × (List Int × Bool × Int)) (e : Ending) (w' : World) : Prop :=
  GatAt w' own g r.1.1 r.1.2.1 r.1.2.2 ∧ Mu own w w' ∧ ∃ v, e = .returned (.tuple #[v, .bool r.2.2.1, .int .i64 r.2.2.2]) ∧ Kd.R (Kd.int .u8) 5 w' w.heap.size (fun _ => True) v r.2.1
theorem put_results {tmps : Array Value} {w : World} {p : Nat} {v : Value} {b : Bool} {X : Int} (h4 : tmps[4]? = some v) (h5 : tmps[5]? = some (.bool b)) (h6 : tmps[6]? = some (.pointer (some ⟨p, 0, none⟩))) (g2 : w.heap[p]? = some (.cells #[.int .i64 X] 27 (0, 0))) :
    (results Try.f28 tmps).run Try.prog w = .ok (.tuple #[v, .bool b, .int .i64 X]) w := by
  have c2 := blk_cell g2 0
  have e4 : tmps.getD 4 undef = v := by simp [Array.getD_eq_getD_getElem?, h4]
  have e5 : tmps.getD 5 undef = .bool b := by simp [Array.getD_eq_getD_getElem?, h5]
  have e6 : tmps.getD 6 undef = .pointer (some ⟨p, 0, none⟩) := by simp [Array.getD_eq_getD_getElem?, h6]
  have l2 : (loadVar 27 ⟨p, 0, none⟩).run Try.prog w = .ok (.int .i64 X) w := by simp [go_sem, c2]
  have hr : Try.f28.results = #[.tmp 4, .tmp 5, .cell 6 27] := by kernel_rfl
  unfold results
  rw [hr]
  simp [h4, h5, h6, l2, asAddr]
set_option maxRecDepth 100000
theorem leave_put {w0 w : World} {own : Nat → Prop} {g p : Nat} {id cnt : Int} {ps : List (List Int)} {f : Int} {tmps : Array Value} (h4 : tmps[4]? = some (.slice none 0 0)) (h5 : tmps[5]? = some (.bool false)) (h6 : tmps[6]? = some (.pointer (some ⟨p, 0, none⟩)))
    (hG : GatAt w (fun k => own k ∧ k ≠ p) g id cnt ps) (hm : Mu own w0 w) (hp : w0.heap.size ≤ p) (h : w.heap[p]? = some (.cells #[.int .i64 f] 27 (0, 0))) (hs : own p) :
    Leaves Try.prog Try.f28 tmps (PutPost w0 own g ((id, cnt, ps), ([], false, 2))) [{ target := .fn (.func 49) #[.pointer (some ⟨p, 0, none⟩)], args := #[] }] (.panicking fstopR) w := by
  refine leaves_cons (f := 49) (args := #[.pointer (some ⟨p, 0, none⟩)]) (by simp) (by simp [go_sem]) ?_
  refine (put1_stop (older := []) h).mono ?_
  rintro en u w3 ⟨rfl, rfl, g2, hm3⟩
  refine ⟨_, put_results h4 h5 h6 g2, ?_, ?_, _, rfl, Kd.R_nil _ _ _ _ _⟩
  · exact (hG.step (fun k hk hl => hm3.block k hl hk.2)).mono (fun k _ hk => hk.1)
  · exact hm.trans (hm3.mono (fun k _ e => by obtain rfl : k = p := e; exact hs))
set_option maxHeartbeats 4000000 in
theorem put_any {w : World} {own : Nat → Prop} {g : Nat} {id cnt : Int} {ps : List (List Int)} (hG : GatAt w own g id cnt ps) (hnew : ∀ k, w.heap.size ≤ k → own k) {A : Option Addr} {c : Nat} {l : List Int} (hC : Kd.C (Kd.int .u8) w A l.length l) (hc : l.length ≤ c) (hl : l.length < 140737488355328) (hb : ∀ x ∈ l, 0 ≤ x ∧ x < 256) :
    Calls Try.prog 28 #[.pointer (some ⟨g, 0, none⟩), .slice A l.length c] w (PutPost w own g (putV id cnt ps l)) := by
  obtain ⟨R, hR⟩ : ∃ R, putV id cnt ps l = R := ⟨_, rfl⟩
  rw [hR]
  obtain ⟨w1, hw1⟩ : ∃ w1, w.alloc (.cells #[.int .i64 0] 27) = w1 := ⟨_, rfl⟩
  have hb1 : Below w.heap.size w w1 := by rw [← hw1]; exact below_alloc (Below.refl _ _) _
  have hp1 : w1.heap[w.heap.size]? = some (.cells #[.int .i64 0] 27 (0, 0)) := by rw [← hw1]; exact alloc_new _ _
  have hs1 : w1.heap.size = w.heap.size + 1 := by rw [← hw1]; simp
  have HRD := Aside0.mk (read_any (Kd.C_below hC hb1) hc hl)
  obtain ⟨V, hV⟩ : ∃ V, readV l = V := ⟨_, rfl⟩
  rw [hV] at HRD
  have hG1 : GatAt w (fun k => own k ∧ k ≠ w.heap.size) g id cnt ps := hG.mono (fun k hk ho => ⟨ho, by omega⟩)
  have HG := Aside0.mk (And.intro hG1 (And.intro hG.lt (And.intro hb1 (And.intro hp1 hs1))))
  have HB := Aside0.mk (And.intro hnew hb)
  have HV := Aside0.mk hV
  have HR := Aside0.mk hR
  have HW1 := Aside0.mk hw1
  have hmf : ∀ (fn : Fn) (first cap : Array Value) (w : World), (Instr.makeFunc fn first cap).run Try.prog w = .ok (.func fn first cap) w := fun _ _ _ _ => rfl
  clear hR hw1 hb1 hp1 hs1 hV hG1 hG hnew hC hc hl hb
  go_enter_defers Try.func28, Try.ntmps28
  go_wp2_with fail
  rw [HW1.out]
  refine HRD.out.mono ?_
  cases V with
  | none =>
    rintro en w2 ⟨rfl, hb2⟩
    have hRv : R = ((id, cnt, ps), ([], false, 2)) := by rw [← HR.out]; unfold putV; rw [HV.out]
    rw [hRv]
    exact leave_put rfl rfl rfl ((HG.out.1.below HG.out.2.2.1).below hb2) (Mu.of_below (below_step HG.out.2.2.1 hb2) own) (Nat.le_refl _) ((Mu.of_below hb2 (fun _ => False)).heap HG.out.2.2.2.1 (fun h => h)) (HB.out.1 _ (Nat.le_refl _))
  | some q =>
  obtain ⟨pid, pat, pn, bb⟩ := q
  rintro en w2 ⟨v2, rfl, hR2, hb2⟩
  obtain ⟨q1, q2, q3, q4, q5, q6⟩ := readV_ok HB.out.2 HV.out
  obtain ⟨at', rfl⟩ := Int.eq_ofNat_of_zero_le q2
  obtain ⟨n', rfl⟩ := Int.eq_ofNat_of_zero_le (show 0 ≤ pn by omega)
  obtain ⟨A2, c2, rfl, hc2, _⟩ := Kd.R_reads hR2
  have hG2 := (HG.out.1.below HG.out.2.2.1).below hb2
  have hp2 := (Mu.of_below hb2 (fun _ => False)).heap HG.out.2.2.2.1 (fun h => h)
  have hgw : w2.heap[g]? = w.heap[g]? := (hb2.block g (by have := HG.out.2.2.2.2; have := HG.out.2.1.1; omega)).trans (HG.out.2.2.1.block g HG.out.2.1.1)
  have hsz2 := hb2.size
  have hF2 : Kd.F (Kd.int .u8) w2 (fun k => (own k ∧ k ≠ w.heap.size) ∧ k ≠ g ∧ ∀ i c b, w2.heap[g]? = some (gatO i c (some b)) → k ≠ b) A2 bb.length bb := by
    refine Kd.F_mono (Kd.R_F (Kd.R_bound hR2)) (fun k hk => ?_)
    have hk2 := hk.2.1
    have hw := HG.out.2.2.2.2
    refine ⟨⟨HB.out.1 k (by omega), by omega⟩, by have := HG.out.2.1.1; omega, fun i c b hb => ?_⟩
    rw [hgw] at hb
    have := HG.out.2.1.2 i c b hb
    omega
  have HT := Aside0.mk (takes_any hG2 (fun k hk => ⟨HB.out.1 k (by have := HG.out.2.2.2.2; omega), by have := HG.out.2.2.2.2; omega⟩) pid at' n' q1 (by omega) (by omega) q5 hc2 q6 hF2)
  obtain ⟨T, hT⟩ : ∃ T, takeV id cnt ps pid at' n' bb = T := ⟨_, rfl⟩
  rw [hT] at HT
  have hRv : R = putOut id cnt ps T := by
    rw [← HR.out]; unfold putV; rw [HV.out]
    simp only [Int.toNat_natCast, hT]
  have HRv := Aside0.mk hRv
  have HB2 := Aside0.mk (And.intro (below_step HG.out.2.2.1 hb2) (And.intro hp2 (show w.heap.size < w2.heap.size by have := HG.out.2.2.2.2; omega)))
  clear hRv hT hF2 hgw hsz2 hp2 hG2 hR2 hb2 q1 q2 q3 q4 q5 q6 hc2 HRD HR
  go_wp2_with fail
  refine HT.out.mono ?_
  cases T with
  | none =>
    rintro en w3 ⟨hG3, hm3, rfl⟩
    rw [HRv.out]
    exact leave_put rfl rfl rfl hG3 ((Mu.of_below HB2.out.1 own).trans (hm3.mono (fun k _ h => h.1))) (Nat.le_refl _) (hm3.heap HB2.out.2.1 (fun h => h.2 rfl)) (HB.out.1 _ (Nat.le_refl _))
  | some q =>
  obtain ⟨st, m, x⟩ := q
  rintro en w3 ⟨hG3, hm3, v3, rfl, hR3⟩
  obtain ⟨A3, c3, rfl⟩ := Kd.R_slice hR3
  have hp3 := hm3.heap HB2.out.2.1 (fun h => h.2 rfl)
  have y0 := blk_cell hp3 0
  have z0 := blk_frozen hp3 0
  have HX := Aside0.mk (And.intro hG3 (And.intro hm3 (And.intro hR3 hp3)))
  clear hG3 hm3 hR3 hp3
  go_wp2_with fail
  refine leaves_cons (f := 49) (args := #[.pointer (some ⟨w.heap.size, 0, none⟩)]) (by simp) (by simp [go_sem]) ?_
  refine put1_idle.mono ?_
  rintro en u w5 ⟨rfl, rfl, rfl⟩
  refine ⟨_, put_results rfl rfl rfl (set_0 HX.out.2.2.2), ?_⟩
  rw [HRv.out]
  have hms : Mu (· = w.heap.size) w3 (w3.setCell ⟨w.heap.size, 0, none⟩ (.int .i64 0)) := (Mu.refl (· = w.heap.size) w3).setCell (p := ⟨w.heap.size, 0, none⟩) (fun _ => rfl) _
  refine ⟨(HX.out.1.step (fun k hk hl => hms.block k hl hk.2)).mono (fun k _ hk => hk.1), ?_, _, rfl, ?_⟩
  · exact ((Mu.of_below HB2.out.1 own).trans (HX.out.2.1.mono (fun k _ h => h.1))).trans (hms.mono (fun k _ e => by obtain rfl : k = w.heap.size := e; exact HB.out.1 _ (Nat.le_refl _)))
  · have h1 := Kd.R_bound HX.out.2.2.1
    exact Kd.R_lower (Kd.R_mono (Kd.R_move h1 (fun k hk => hms.block k hk.2.2.1 (by have := hk.2.1; have := HB2.out.2.2; omega))) (fun _ _ => trivial)) (by have := HB2.out.2.2; omega)
end Go.Proofs.Ytdklanenmihpdaa.Hand
namespace Go.Proofs.Ytdklanenmihpdaa.Hand
open Go.RowKit Go.Maps Go.Proofs.YtdklanenmihpdaaW.PrintWords Go.Proofs.YtdklanenmihpdaaW.PrintLast Go.Proofs.YtdklanenmihpdaaW.PrintMore Go.Proofs.Ytdklanenmihpdaa.PA
theorem rows_get {w : World} {A : Option Addr} {l : List (List Int)} (h : Kd.C (Kd.slice 5 (Kd.int .u8)) w A l.length l) (i : Nat) (hi : i < l.length) :
    ∃ ad Ai ci, A = some ad ∧ w.cell? (ad.add i) = some (.slice Ai (l.getD i []).length ci) ∧ (l.getD i []).length ≤ ci ∧ Kd.C (Kd.int .u8) w Ai (l.getD i []).length (l.getD i []) := by
  obtain ⟨ad, cc, e1, _, ⟨Ak, ck, rfl, hck, hCk⟩, hcell⟩ := Kd.C_get h [] (i : Int) (by omega) (by omega)
  have hcl := hcell 0 _ rfl
  rw [show (Kd.slice 5 (Kd.int IntKind.u8)).sz = 1 from rfl, Nat.mul_one, Nat.add_zero, Int.toNat_natCast] at hcl
  rw [Int.toNat_natCast] at hck hCk
  exact ⟨ad, Ak, ck, e1, hcl, hck, hCk⟩
theorem C_lit3 {w : World} {x y z : Int} : Kd.C (Kd.int .u8) (w.alloc (.cells #[.int .u8 x, .int .u8 y, .int .u8 z] 5)) (some ⟨w.heap.size, 0, none⟩) [x, y, z].length [x, y, z] := by
  have hn := alloc_new w (.cells #[.int .u8 x, .int .u8 y, .int .u8 z] 5)
  refine ⟨rfl, by simp, fun _ => ⟨_, rfl, fun j p hj => ⟨[.int .u8 p], rfl, rfl, fun i u hu => ?_⟩⟩⟩
  have hi : i = 0 := by
    cases i with
    | zero => rfl
    | succ i => simp at hu
  subst hi
  simp at hu
  subst hu
  have e : ((⟨w.heap.size, 0, none⟩ : Addr).add (j * (Kd.int .u8).sz + 0)) = ⟨w.heap.size, j, none⟩ := by
    show (⟨w.heap.size, 0, none⟩ : Addr).add (j * 1 + 0) = _
    unfold Addr.add
    split
    · next h => have : j = 0 := by omega
                rw [this]
    · simp
  rw [e]
  simp only [World.cell?, hn]
  rcases j with _ | _ | _ | j
  · obtain rfl : x = p := by simpa using hj
    rfl
  · obtain rfl : y = p := by simpa using hj
    rfl
  · obtain rfl : z = p := by simpa using hj
    rfl
  · simp at hj
set_option maxRecDepth 100000
def tiklaw26_first.f : Option Bool := some true
set_option maxHeartbeats 4000000 in
theorem tiklaw26_first.calls (r : Bool) (w : World) (h : tiklaw26_first.f = some r) :
    Calls Try.prog 24 #[] w fun e w' => e = .returned (.bool r) ∧ Below w.heap.size w w' := by
  obtain rfl : true = r := Option.some.inj h
  clear h
  go_enter Try.func24, Try.ntmps24
  go_wp2_with fail
  refine (frag_Cut.calls 1 none 0 [] [[1, 0, 1]] 0 _ (Kd.C_nil _ _) (by simp) (by decide +kernel)).mono ?_
  rintro en w1 ⟨v1, rfl, hv1, hb1⟩
  obtain ⟨A1, c1, rfl, hc1, hF1⟩ := hv1
  have hC1 := Kd.F_now hF1
  have HC1 := Aside0.mk hC1
  have HB1 := Aside0.mk hb1
  have HO : Aside0 (∀ k, w1.heap.size ≤ k → (fun k => w1.heap.size ≤ k) k) := ⟨fun _ h => h⟩
  clear hc1 hF1 hC1 hb1
  go_wp2_with fail
  refine (newGather_any (own := fun k => w1.heap.size ≤ k) (Nat.le_refl _)).mono ?_
  rintro en w2 ⟨rfl, hG2, hb2, hs2⟩
  have hC2 := Kd.C_below HC1.out hb2
  obtain ⟨ad, A0, c0, rfl, hcl, hck, hCk⟩ := rows_get hC2 0 (by simp)
  have e0 : ad.add 0 = ad := by unfold Addr.add; simp
  have hcl2 := hcl
  rw [e0] at hcl2
  have HG2 := Aside0.mk (And.intro hG2 (And.intro hb2 hs2))
  have HCk := Aside0.mk (And.intro hck hCk)
  have HC2 := Aside0.mk hC2
  clear hG2 hb2 hs2 hck hCk hC2
  go_wp2_with fail
  refine (tikref_Bytes.calls A0 c0 [1, 0, 1] (some ⟨w2.heap.size, 0, none⟩) 3 [1, 0, 1] true _ (Kd.C_alloc HCk.out.2 _) HCk.out.1 C_lit3 (by decide) (by decide +kernel)).mono ?_
  rintro en w3 ⟨rfl, hd3⟩
  have hb3 : Below w2.heap.size w2 w3 := below_step (below_alloc (Below.refl _ _) _) hd3.below
  have HG3 := Aside0.mk (And.intro (HG2.out.1.below hb3) (below_step HG2.out.2.1 hb3))
  have hcl3 : w3.cell? ad = some (.slice A0 3 c0) := by
    have hh := hcl2
    obtain ⟨hlt, _⟩ : ad.block < w2.heap.size ∧ True := ⟨by
      rcases Nat.lt_or_ge ad.block w2.heap.size with h | h
      · exact h
      · simp [World.cell?, Array.getElem?_eq_none h] at hh, trivial⟩
    exact (hb3.cell hlt).trans hh
  have HCk3 := Aside0.mk (Kd.C_below HCk.out.2 hb3)
  clear hd3 hb3 hcl hcl2 HG2 e0
  go_wp2_with fail
  refine (put_any HG3.out.1 (fun k hk => Nat.le_trans HG3.out.2.size hk) HCk3.out HCk.out.1 (by simp) (by simp)).mono ?_
  rintro en w4 ⟨hG4, hm4, v4, rfl, hR4⟩
  have ep : putV 0 0 [] [1, 0, 1] = ((1, 1, [[]]), ([], true, 0)) := by decide +kernel
  rw [show ([[1, 0, 1]] : List (List Int)).getD 0 [] = [1, 0, 1] from rfl, ep] at hG4 hR4 ⊢
  obtain ⟨A4, c4, rfl⟩ := Kd.R_slice hR4
  have hb4 : Below w1.heap.size w1 w4 := Mu.below_of HG3.out.2 hm4 (fun k hk h => by omega)
  have hC4 := Kd.C_below HC1.out hb4
  obtain ⟨ad4, A04, c04, ea4, hcl4, hck4, hCk4⟩ := rows_get hC4 0 (by simp)
  obtain rfl := Option.some.inj ea4
  have e0 : ad.add 0 = ad := by unfold Addr.add; simp
  rw [e0] at hcl4
  have HG4 := Aside0.mk (And.intro hG4 hb4)
  have HCk4 := Aside0.mk (And.intro hck4 hCk4)
  clear hG4 hm4 hR4 ep hb4 hC4 ea4 hck4 hCk4 HG3 HCk3 HCk hcl3
  go_wp2_with fail
  refine (put_any HG4.out.1 (fun k hk => Nat.le_trans HG4.out.2.size hk) HCk4.out.2 HCk4.out.1 (by simp) (by simp)).mono ?_
  rintro en w5 ⟨hG5, hm5, v5, rfl, hR5⟩
  have ep : putV 1 1 [[]] [1, 0, 1] = ((1, 1, [[]]), ([], false, 0)) := by decide +kernel
  rw [show ([[1, 0, 1]] : List (List Int)).getD 0 [] = [1, 0, 1] from rfl, ep] at hG5 hR5 ⊢
  obtain ⟨A5, c5, rfl⟩ := Kd.R_slice hR5
  have hb5 : Below w1.heap.size w1 w5 := Mu.below_of HG4.out.2 hm5 (fun k hk h => by omega)
  have HG5 := Aside0.mk (And.intro hG5 hb5)
  clear hG5 hm5 hR5 ep hb5 HG4 HCk4 hcl4 e0
  go_wp2_with fail
  refine (frag_Cut.calls 0 none 0 [] [] 17 _ (Kd.C_nil _ _) (by simp) (by decide +kernel)).mono ?_
  rintro en w6 ⟨v6, rfl, hv6, hb6⟩
  obtain ⟨A6, c6, rfl, hc6, hF6⟩ := hv6
  have HG6 := Aside0.mk (And.intro (HG5.out.1.below hb6) (below_step HG5.out.2 hb6))
  clear hc6 hF6 hb6 HG5
  go_wp2_with fail
  refine (gid_any HG6.out.1).mono ?_
  rintro en w7 ⟨rfl, rfl⟩
  go_wp2_with fail
  refine (ghave_any HG6.out.1).mono ?_
  rintro en w8 ⟨rfl, rfl⟩
  go_wp2_with fail
  go_ret
  exact ⟨rfl, HB1.out.trans (HG6.out.2.mono HB1.out.size)⟩
end Go.Proofs.Ytdklanenmihpdaa.Hand
namespace Go.Proofs.Ytdklanenmihpdaa.Hand
open Go.RowKit Go.Proofs.YtdklanenmihpdaaW.PrintWords Go.Proofs.YtdklanenmihpdaaW.PrintLast Go.Proofs.YtdklanenmihpdaaW.PrintMore Go.Proofs.Ytdklanenmihpdaa.PA Go.Proofs.Ytdklanenmihpdaa.Chunks
def nparts (l : List Int) : Nat := max (nch l.length) 1
theorem pieces_len (l : List Int) : (piecesL l).length = nparts l := by
  unfold piecesL nparts
  by_cases h : l = []
  · rw [if_pos h, h]; rfl
  · rw [if_neg h]
    have : 0 < l.length := List.length_pos_iff.2 h
    simp only [segsL, List.length_map, List.length_range]
    have : 1 ≤ nch l.length := by unfold nch; omega
    omega
theorem pieces_get (l : List Int) (i : Nat) (h : i < nparts l) : (piecesL l).getD i [] = segN l i := by
  unfold piecesL
  by_cases hl : l = []
  · subst hl
    have : i = 0 := by unfold nparts nch at h; simp at h; omega
    subst this
    rfl
  · rw [if_neg hl]
    have h0 : 0 < l.length := List.length_pos_iff.2 hl
    have h1 : 1 ≤ nch l.length := by unfold nch; omega
    have hi : i < nch l.length := by unfold nparts at h; omega
    rw [segsL, List.getD_eq_getElem?_getD, List.getElem?_map, List.getElem?_range hi]; rfl
theorem cutL_len (a : Int) (l : List Int) : (cutL a l).length = nparts l := by rw [cutL, cutOf_len, pieces_len]
theorem cutL_get (a : Int) (l : List Int) (i : Nat) (h : i < nparts l) : (cutL a l).getD i [] = partL a i (nparts l) (segN l i) := by
  have h2 : i < (piecesL l).length := by rw [pieces_len]; exact h
  rw [← pieces_get l i h, ← pieces_len l]
  rw [cutL, cutOf, List.getD_eq_getElem?_getD, List.getElem?_map, List.getElem?_range h2]; rfl
theorem nparts_small {l : List Int} (h : l.length ≤ 5000) : 1 ≤ nparts l ∧ nparts l ≤ 20 := by unfold nparts nch; omega
end Go.Proofs.Ytdklanenmihpdaa.Hand
namespace Go.Proofs.Ytdklanenmihpdaa.Hand
open Go.RowKit Go.Proofs.YtdklanenmihpdaaW.PrintWords Go.Proofs.YtdklanenmihpdaaW.PrintLast Go.Proofs.YtdklanenmihpdaaW.PrintMore Go.Proofs.Ytdklanenmihpdaa.PA Go.Proofs.Ytdklanenmihpdaa.Chunks
theorem rd_back (P S : List Int) (x M : Int) (h0 : 0 ≤ x) (h1 : x < 18446744073709551616) (hM : x ≤ M) : rdNum (P ++ (varL 9 x ++ S)) (P.length : Int) 0 M = (x, (P.length : Int) + ((varL 9 x).length : Int), 0) := by
  have rb := read_back 9 0 x 0 P S rfl h0 (by simp only [Int.reducePow, Int.reduceMul]; omega) (by omega) (by simp) (by simpa using h1) (by omega)
  simp only [Nat.mul_zero, Int.pow_zero, Int.mul_one, Int.zero_add] at rb
  unfold rdNum upL
  rw [if_neg (by simp), rb]
  dsimp only
  rw [if_neg (by omega)]
theorem read_part {a : Int} {i m : Nat} {p : List Int} (h1 : 1 ≤ a) (h2 : a ≤ 4611686018427387904) (hi : i < m) (hm : m ≤ 4096) (hp : p.length = 256 ∨ (p.length < 256 ∧ i + 1 = m)) : readV (partL a i m p) = some (a, (i : Int), (m : Int), p) := by
  have r1 := rd_back [] (varL 9 (i : Int) ++ (varL 9 (m : Int) ++ p)) a 4611686018427387904 (by omega) (by omega) h2
  have r2 := rd_back (varL 9 a) (varL 9 (m : Int) ++ p) (i : Int) 4096 (by omega) (by omega) (by omega)
  have r3 := rd_back (varL 9 a ++ varL 9 (i : Int)) p (m : Int) 4096 (by omega) (by omega) (by omega)
  have e1 : [] ++ (varL 9 a ++ (varL 9 (i : Int) ++ (varL 9 (m : Int) ++ p))) = partL a i m p := rfl
  have e3 : varL 9 a ++ varL 9 (i : Int) ++ (varL 9 (m : Int) ++ p) = partL a i m p := by simp [partL]
  rw [e1] at r1
  rw [e3] at r3
  simp only [List.length_nil, List.length_append] at r1 r3
  have z0 : ((0 : Nat) : Int) = 0 := rfl
  rw [z0, Int.zero_add] at r1
  have hd : (partL a i m p).drop ((varL 9 a).length + (varL 9 (i : Int)).length + (varL 9 (m : Int)).length) = p := by
    have e4 : partL a i m p = (varL 9 a ++ varL 9 (i : Int) ++ varL 9 (m : Int)) ++ p := by simp [partL]
    rw [e4, show (varL 9 a).length + (varL 9 (i : Int)).length + (varL 9 (m : Int)).length = (varL 9 a ++ varL 9 (i : Int) ++ varL 9 (m : Int)).length by simp; omega]
    simp
  have r2' : rdNum (partL a i m p) ((varL 9 a).length : Int) 0 4096 = ((i : Int), ((varL 9 a).length : Int) + ((varL 9 (i : Int)).length : Int), 0) := r2
  unfold readV
  simp only [r1, r2']
  have e5 : ((varL 9 a).length : Int) + ((varL 9 (i : Int)).length : Int) = (((varL 9 a).length + (varL 9 (i : Int)).length : Nat) : Int) := by omega
  rw [e5]
  simp only [r3]
  have e6 : ((((varL 9 a).length + (varL 9 (i : Int)).length : Nat) : Int) + ((varL 9 (m : Int)).length : Int)).toNat = (varL 9 a).length + (varL 9 (i : Int)).length + (varL 9 (m : Int)).length := by omega
  rw [e6, hd, if_pos ⟨trivial, by omega, by omega⟩, if_pos (by rcases hp with h | ⟨h, h'⟩ <;> omega)]
theorem seg_full (l : List Int) (i : Nat) (h : i < nparts l) : (segN l i).length = 256 ∨ ((segN l i).length < 256 ∧ i + 1 = nparts l) := by
  rw [segN_len]
  unfold chLen
  unfold nparts nch at h ⊢
  omega
theorem nparts_max {l : List Int} (h : l.length ≤ 1048576) : nparts l ≤ 4096 := by unfold nparts nch; omega
theorem seg_noP {l : List Int} (hb : ∀ x ∈ l, 0 ≤ x ∧ x < 256) (i : Nat) : segN l i ≠ noP := noP_bytes (fun x hx => hb x (List.mem_of_mem_drop (List.mem_of_mem_take hx)))
def cntS (S : Nat → Bool) : Nat → Nat
  | 0 => 0
  | m + 1 => cntS S m + (if S m then 1 else 0)
def updS (S : Nat → Bool) (i : Nat) : Nat → Bool := fun j => decide (j = i) || S j
theorem cntS_le (S : Nat → Bool) : ∀ m, cntS S m ≤ m
  | 0 => Nat.le_refl _
  | m + 1 => by have := cntS_le S m; unfold cntS; split <;> omega
theorem cntS_all (S : Nat → Bool) : ∀ m, cntS S m = m → ∀ j, j < m → S j = true
  | 0, _, j, hj => by omega
  | m + 1, h, j, hj => by
    have h1 := cntS_le S m
    unfold cntS at h
    by_cases hs : S m = true
    · rw [if_pos hs] at h
      by_cases hj2 : j = m
      · rw [hj2]; exact hs
      · exact cntS_all S m (by omega) j (by omega)
    · rw [if_neg hs] at h; omega
theorem cntS_congr {S T : Nat → Bool} : ∀ m, (∀ j, j < m → S j = T j) → cntS S m = cntS T m
  | 0, _ => rfl
  | m + 1, h => by
    unfold cntS
    rw [cntS_congr m (fun j hj => h j (by omega)), h m (by omega)]
theorem cntS_upd (S : Nat → Bool) (i : Nat) : ∀ m, i < m → cntS (updS S i) m = cntS S m + (if S i then 0 else 1)
  | 0, h => by omega
  | m + 1, h => by
    by_cases hi : i = m
    · subst hi
      unfold cntS
      rw [cntS_congr (S := updS S i) (T := S) i (fun j hj => by simp [updS]; omega)]
      have : updS S i i = true := by simp [updS]
      rw [this, if_pos rfl]
      split <;> omega
    · have ih := cntS_upd S i m (by omega)
      unfold cntS
      rw [ih]
      have : updS S i m = S m := by simp [updS]; omega
      rw [this]
      omega
theorem cntS_none (m : Nat) : cntS (fun _ => false) m = 0 := by
  induction m with
  | zero => rfl
  | succ m ih => unfold cntS; rw [ih]; rfl
def psOf (l : List Int) (S : Nat → Bool) (m : Nat) : List (List Int) := (List.range m).map fun j => if S j then segN l j else noP
theorem psOf_len (l : List Int) (S : Nat → Bool) (m : Nat) : (psOf l S m).length = m := by simp [psOf]
theorem psOf_get (l : List Int) (S : Nat → Bool) (m i : Nat) (h : i < m) : (psOf l S m).getD i noP = if S i then segN l i else noP := by
  rw [psOf, List.getD_eq_getElem?_getD, List.getElem?_map, List.getElem?_range h]; rfl
theorem psOf_none (l : List Int) (m : Nat) : List.replicate m noP = psOf l (fun _ => false) m := by
  apply List.ext_getElem
  · simp [psOf]
  · intro i h1 h2
    simp [psOf]
theorem psOf_set (l : List Int) (S : Nat → Bool) (m i : Nat) : (psOf l S m).set i (segN l i) = psOf l (updS S i) m := by
  apply List.ext_getElem
  · simp [psOf]
  · intro j h1 h2
    rw [List.getElem_set]
    by_cases h : i = j
    · subst h; simp [psOf, updS]
    · rw [if_neg h]
      have : decide (j = i) = false := decide_eq_false (fun e => h e.symm)
      simp only [psOf, List.getElem_map, List.getElem_range, updS, this, Bool.false_or]
theorem haveN_app : ∀ (a b : List (List Int)), haveN (a ++ b) = haveN a + haveN b
  | [], b => by simp [haveN]
  | p :: a, b => by rw [List.cons_append, haveN, haveN, haveN_app a b]; omega
theorem psOf_have {l : List Int} (hb : ∀ x ∈ l, 0 ≤ x ∧ x < 256) (S : Nat → Bool) : ∀ m, haveN (psOf l S m) = cntS S m
  | 0 => rfl
  | m + 1 => by
    have ih := psOf_have hb S m
    unfold psOf at ih ⊢
    have e : haveN (List.map (fun j => if S j = true then segN l j else noP) [m]) = if S m = true then 1 else 0 := by
      show (if (if S m = true then segN l m else noP) = noP then 0 else 1) + 0 = _
      by_cases h : S m = true
      · rw [if_pos h, if_pos h, if_neg (seg_noP hb m)]
      · rw [if_neg h, if_neg h, if_pos rfl]
    rw [List.range_succ, List.map_append, haveN_app, ih, e]
    rfl
theorem segs_flat (l : List Int) : ∀ m, ((List.range m).map (segN l)).flatten = l.take (256 * m)
  | 0 => by simp
  | m + 1 => by
    rw [List.range_succ, List.map_append, List.flatten_append, segs_flat l m, show 256 * (m + 1) = 256 * m + 256 by omega, List.take_add]
    simp [segN]
theorem psOf_flat (l : List Int) (S : Nat → Bool) (h : ∀ j, j < nparts l → S j = true) : (psOf l S (nparts l)).flatten = l := by
  have e : psOf l S (nparts l) = (List.range (nparts l)).map (segN l) := by
    apply List.map_congr_left
    intro j hj
    rw [if_pos (h j (List.mem_range.1 hj))]
  rw [e, segs_flat, List.take_of_length_le (by unfold nparts nch; omega)]
def outS (l : List Int) (S : Nat → Bool) (i : Nat) : List Int × Bool × Int := if S i then ([], false, 0) else if cntS (updS S i) (nparts l) < nparts l then ([], false, 0) else (l, true, 0)
theorem bytes_seg {l : List Int} (hb : ∀ x ∈ l, 0 ≤ x ∧ x < 256) (i : Nat) : ∀ x ∈ segN l i, 0 ≤ x ∧ x < 256 := fun x hx => hb x (List.mem_of_mem_drop (List.mem_of_mem_take hx))
theorem put_same {a : Int} {l : List Int} (h1 : 1 ≤ a) (h2 : a ≤ 4611686018427387904) (hl : l.length ≤ 1048576) (hb : ∀ x ∈ l, 0 ≤ x ∧ x < 256) (S : Nat → Bool) (i : Nat) (hi : i < nparts l) :
    putV a (nparts l : Int) (psOf l S (nparts l)) ((cutL a l).getD i []) = ((a, (nparts l : Int), psOf l (updS S i) (nparts l)), outS l S i) := by
  rw [cutL_get a l i hi]
  unfold putV
  rw [read_part h1 h2 hi (nparts_max hl) (seg_full l i hi)]
  dsimp only
  rw [Int.toNat_natCast, Int.toNat_natCast]
  unfold takeV
  rw [if_neg (by omega), if_neg (by omega), psOf_get l S _ i hi, psOf_set, psOf_have hb, psOf_len]
  by_cases hs : S i = true
  · rw [if_pos hs, if_neg (fun h => seg_noP hb i h.2), if_pos ⟨rfl, rfl⟩]
    unfold outS putOut
    rw [if_pos hs]
  · have key : outS l S i = if cntS (updS S i) (nparts l) < nparts l then ([], false, 0) else (l, true, 0) := by unfold outS; rw [if_neg hs]
    rw [if_neg hs, if_pos ⟨rfl, rfl⟩, key]
    by_cases hc : cntS (updS S i) (nparts l) < nparts l
    · rw [if_pos hc, if_pos hc]; rfl
    · rw [if_neg hc, if_neg hc, psOf_flat l _ (cntS_all _ _ (by have := cntS_le (updS S i) (nparts l); omega))]; rfl
theorem put_new {a id cnt : Int} {ps : List (List Int)} {l : List Int} (h1 : 1 ≤ a) (h2 : a ≤ 4611686018427387904) (hid : id < a) (hl : l.length ≤ 1048576) (hb : ∀ x ∈ l, 0 ≤ x ∧ x < 256) (i : Nat) (hi : i < nparts l) :
    putV id cnt ps ((cutL a l).getD i []) = ((a, (nparts l : Int), psOf l (updS (fun _ => false) i) (nparts l)), outS l (fun _ => false) i) := by
  rw [cutL_get a l i hi]
  unfold putV
  rw [read_part h1 h2 hi (nparts_max hl) (seg_full l i hi)]
  dsimp only
  rw [Int.toNat_natCast, Int.toNat_natCast]
  unfold takeV
  rw [if_neg (by omega), if_pos hid, psOf_none l, psOf_set, psOf_have hb]
  have key : outS l (fun _ => false) i = if cntS (updS (fun _ => false) i) (nparts l) < nparts l then ([], false, 0) else (l, true, 0) := by unfold outS; rw [if_neg (by simp)]
  rw [key]
  by_cases hc : cntS (updS (fun _ => false) i) (nparts l) < nparts l
  · rw [if_pos hc, if_pos hc]; rfl
  · rw [if_neg hc, if_neg hc, psOf_flat l _ (cntS_all _ _ (by have := cntS_le (updS (fun _ => false) i) (nparts l); omega))]; rfl
theorem put_old {a id cnt : Int} {ps : List (List Int)} {l : List Int} (h1 : 1 ≤ a) (h2 : a ≤ 4611686018427387904) (hid : a < id) (hl : l.length ≤ 1048576) (i : Nat) (hi : i < nparts l) :
    putV id cnt ps ((cutL a l).getD i []) = ((id, cnt, ps), ([], false, 0)) := by
  rw [cutL_get a l i hi]
  unfold putV
  rw [read_part h1 h2 hi (nparts_max hl) (seg_full l i hi)]
  dsimp only
  unfold takeV
  rw [if_pos hid]
  rfl
theorem cut_bytes {a : Int} {l : List Int} (h1 : 1 ≤ a) (h2 : a ≤ 4611686018427387904) (hl : l.length ≤ 1048576) (hb : ∀ x ∈ l, 0 ≤ x ∧ x < 256) (i : Nat) (hi : i < nparts l) : (∀ x ∈ (cutL a l).getD i [], 0 ≤ x ∧ x < 256) ∧ ((cutL a l).getD i []).length < 140737488355328 := by
  have hm := nparts_max hl
  have b1 := varL_b a (by omega) (by omega)
  have b2 := varL_b (i : Int) (by omega) (by omega)
  have b3 := varL_b (nparts l : Int) (by omega) (by omega)
  rw [cutL_get a l i hi]
  constructor
  · intro x hx
    unfold partL at hx
    rcases List.mem_append.1 hx with h | h
    · exact b1.1 x h
    rcases List.mem_append.1 h with h | h
    · exact b2.1 x h
    rcases List.mem_append.1 h with h | h
    · exact b3.1 x h
    · exact bytes_seg hb i x h
  · unfold partL
    simp only [List.length_append]
    have := b1.2; have := b2.2; have := b3.2
    have := segN_len l i
    unfold chLen at this
    omega
end Go.Proofs.Ytdklanenmihpdaa.Hand
namespace Go.Proofs.Ytdklanenmihpdaa.Hand
open Go.RowKit Go.Proofs.YtdklanenmihpdaaW.PrintWords Go.Proofs.YtdklanenmihpdaaW.PrintLast Go.Proofs.YtdklanenmihpdaaW.PrintMore Go.Proofs.Ytdklanenmihpdaa.PA Go.Proofs.Ytdklanenmihpdaa.Chunks
end Go.Proofs.Ytdklanenmihpdaa.Hand
namespace Go.Proofs.Ytdklanenmihpdaa.Hand
open Go.RowKit Go.Maps Go.Proofs.YtdklanenmihpdaaW.PrintWords Go.Proofs.YtdklanenmihpdaaW.PrintLast Go.Proofs.YtdklanenmihpdaaW.PrintMore Go.Proofs.Ytdklanenmihpdaa.PA Go.Proofs.Ytdklanenmihpdaa.Chunks
theorem rows_getN {w : World} {A : Addr} {n : Nat} {l : List (List Int)} (h : Kd.C (Kd.slice 5 (Kd.int .u8)) w (some A) n l) (i : Nat) (hi : i < n) :
    ∃ Ai ci, w.cell? (A.add i) = some (.slice Ai (l.getD i []).length ci) ∧ (l.getD i []).length ≤ ci ∧ Kd.C (Kd.int .u8) w Ai (l.getD i []).length (l.getD i []) := by
  have hl := h.1
  subst hl
  obtain ⟨ad, Ai, ci, e, h1, h2, h3⟩ := rows_get h i hi
  obtain rfl := Option.some.inj e
  exact ⟨Ai, ci, h1, h2, h3⟩
set_option maxRecDepth 100000
end Go.Proofs.Ytdklanenmihpdaa.Hand
namespace Go.Proofs.Ytdklanenmihpdaa.Hand
open Go.RowKit Go.Proofs.YtdklanenmihpdaaW.PrintWords Go.Proofs.YtdklanenmihpdaaW.PrintLast Go.Proofs.YtdklanenmihpdaaW.PrintMore Go.Proofs.Ytdklanenmihpdaa.PA Go.Proofs.Ytdklanenmihpdaa.Chunks
theorem cntS_zero (S : Nat → Bool) : ∀ m, cntS S m = 0 → ∀ j, j < m → S j = false
  | 0, _, j, hj => by omega
  | m + 1, h, j, hj => by
    unfold cntS at h
    by_cases hs : S m = true
    · rw [if_pos hs] at h; omega
    · rw [if_neg hs] at h
      by_cases hj2 : j = m
      · rw [hj2]; simpa using hs
      · exact cntS_zero S m (by omega) j (by omega)
theorem cntS_true : ∀ m, cntS (fun _ => true) m = m
  | 0 => rfl
  | m + 1 => by unfold cntS; rw [cntS_true m, if_pos rfl]
theorem psOf_congr (l : List Int) {S T : Nat → Bool} (m : Nat) (h : ∀ j, j < m → S j = T j) : psOf l S m = psOf l T m := by
  apply List.map_congr_left
  intro j hj
  rw [h j (List.mem_range.1 hj)]
def BackI (a : Int) (l old : List Int) (S : Nat → Bool) (st : Int × Int × List (List Int)) : Prop :=
  (cntS S (nparts l) = 0 ∧ (st = (0, 0, []) ∨ ∃ T, st = (a - 1, (nparts old : Int), psOf old T (nparts old)))) ∨ (1 ≤ cntS S (nparts l) ∧ st = (a, (nparts l : Int), psOf l S (nparts l)))
theorem back_old {a : Int} {l old : List Int} {S : Nat → Bool} {st : Int × Int × List (List Int)} (hI : BackI a l old S st) (h1 : 2 ≤ a) (h2 : a ≤ 4611686018427387904) (hl : old.length ≤ 1048576) (hb : ∀ x ∈ old, 0 ≤ x ∧ x < 256) (q : Nat) (hq : q < nparts old) :
    ∃ st' m x, putV st.1 st.2.1 st.2.2 ((cutL (a - 1) old).getD q []) = (st', (m, x, 0)) ∧ BackI a l old S st' ∧ (x = true → cntS S (nparts l) = 0) := by
  have ho : ∀ T, ∃ m x, outS old T q = (m, x, 0) := by
    intro T
    unfold outS
    split
    · exact ⟨_, _, rfl⟩
    · split
      · exact ⟨_, _, rfl⟩
      · exact ⟨_, _, rfl⟩
  rcases hI with ⟨h0, rfl | ⟨T, rfl⟩⟩ | ⟨h0, rfl⟩
  · obtain ⟨m, x, e⟩ := ho (fun _ => false)
    dsimp only
    rw [put_new (by omega) (by omega) (by omega) hl hb q hq, e]
    exact ⟨_, m, x, rfl, .inl ⟨h0, .inr ⟨_, rfl⟩⟩, fun _ => h0⟩
  · obtain ⟨m, x, e⟩ := ho T
    dsimp only
    rw [put_same (by omega) (by omega) hl hb T q hq, e]
    exact ⟨_, m, x, rfl, .inl ⟨h0, .inr ⟨_, rfl⟩⟩, fun _ => h0⟩
  · dsimp only
    rw [put_old (by omega) (by omega) (by omega) hl q hq]
    exact ⟨_, [], false, rfl, .inr ⟨h0, rfl⟩, fun h => by cases h⟩
theorem back_new {a : Int} {l old : List Int} {S : Nat → Bool} {st : Int × Int × List (List Int)} (hI : BackI a l old S st) (h1 : 2 ≤ a) (h2 : a ≤ 4611686018427387904) (hl : l.length ≤ 1048576) (hb : ∀ x ∈ l, 0 ≤ x ∧ x < 256) (q : Nat) (hq : q < nparts l) :
    putV st.1 st.2.1 st.2.2 ((cutL a l).getD q []) = ((a, (nparts l : Int), psOf l (updS S q) (nparts l)), outS l S q) ∧ BackI a l old (updS S q) (a, (nparts l : Int), psOf l (updS S q) (nparts l)) := by
  have hpos : 1 ≤ cntS (updS S q) (nparts l) := by
    rw [cntS_upd S q _ hq]
    by_cases hs : S q = true
    · rw [if_pos hs]
      rcases Nat.eq_zero_or_pos (cntS S (nparts l)) with h | h
      · rw [cntS_zero S _ h q hq] at hs; cases hs
      · omega
    · rw [if_neg hs]; omega
  refine ⟨?_, .inr ⟨hpos, rfl⟩⟩
  have key : cntS S (nparts l) = 0 → ∀ id cnt ps, id < a → putV id cnt ps ((cutL a l).getD q []) = ((a, (nparts l : Int), psOf l (updS S q) (nparts l)), outS l S q) := by
    intro h0 id cnt ps hid
    have hz := cntS_zero S _ h0
    have hu : ∀ j, j < nparts l → updS (fun _ => false) q j = updS S q j := fun j hj => by unfold updS; rw [hz j hj]
    rw [put_new (by omega) h2 hid hl hb q hq, psOf_congr l _ hu]
    unfold outS
    rw [hz q hq, cntS_congr _ hu]
  rcases hI with ⟨h0, rfl | ⟨T, rfl⟩⟩ | ⟨h0, rfl⟩
  · exact key h0 _ _ _ (by show (0 : Int) < a; omega)
  · exact key h0 _ _ _ (by show a - 1 < a; omega)
  · exact put_same (by omega) h2 hl hb S q hq
theorem out_had {l : List Int} {S : Nat → Bool} {q : Nat} (h : S q = true) : outS l S q = ([], false, 0) := by unfold outS; rw [if_pos h]
theorem out_more {l : List Int} {S : Nat → Bool} {q : Nat} (h : S q = false) (hc : cntS (updS S q) (nparts l) < nparts l) : outS l S q = ([], false, 0) := by unfold outS; rw [h, if_neg (by simp), if_pos hc]
theorem out_last {l : List Int} {S : Nat → Bool} {q : Nat} (h : S q = false) (hc : ¬ cntS (updS S q) (nparts l) < nparts l) : outS l S q = (l, true, 0) := by unfold outS; rw [h, if_neg (by simp), if_neg hc]
def camev (S : Nat → Bool) (m : Nat) : Nat := if cntS S m = m then 1 else 0
theorem upd_same {S : Nat → Bool} {q : Nat} (h : S q = true) : updS S q = S := by
  funext j
  unfold updS
  by_cases hj : j = q
  · subst hj; rw [h]; simp
  · rw [decide_eq_false hj, Bool.false_or]
def hadL (S : Nat → Bool) (m : Nat) : List Bool := (List.range m).map S
theorem hadL_set (S : Nat → Bool) (m q : Nat) : (hadL S m).set q true = hadL (updS S q) m := by
  apply List.ext_getElem
  · simp [hadL]
  · intro j h1 h2
    rw [List.getElem_set]
    by_cases h : q = j
    · subst h; simp [hadL, updS]
    · rw [if_neg h]
      have : decide (j = q) = false := decide_eq_false (fun e => h e.symm)
      simp only [hadL, List.getElem_map, List.getElem_range, updS, this, Bool.false_or]
theorem hadL_get (S : Nat → Bool) (m q : Nat) (h : q < m) : (hadL S m).getD q false = S q := by
  rw [hadL, List.getD_eq_getElem?_getD, List.getElem?_map, List.getElem?_range h]; rfl
theorem hadL_none (m : Nat) : List.replicate m false = hadL (fun _ => false) m := by
  apply List.ext_getElem
  · simp [hadL]
  · intro i h1 h2
    simp [hadL]
end Go.Proofs.Ytdklanenmihpdaa.Hand
namespace Go.Proofs.Ytdklanenmihpdaa.Hand
open Go.RowKit Go.Maps Go.Proofs.YtdklanenmihpdaaW.PrintWords Go.Proofs.YtdklanenmihpdaaW.PrintLast Go.Proofs.YtdklanenmihpdaaW.PrintMore Go.Proofs.Ytdklanenmihpdaa.PA Go.Proofs.Ytdklanenmihpdaa.Chunks
theorem info_bool : (Try.prog.info? 4).map (fun i => (i.zero, i.size, i.bytes)) = some (some (.bool false), 1, 1) := by kernel_rfl
theorem ints_get {w : World} {A : Option Addr} {l : List Int} (h : Kd.C (Kd.int .i64) w A l.length l) (i : Nat) (hi : i < l.length) : ∃ ad, A = some ad ∧ w.cell? (ad.add i) = some (.int .i64 (l.getD i 0)) := by
  obtain ⟨ad, cc, e1, _, hK, hcell⟩ := Kd.C_get h 0 (i : Int) (by omega) (by omega)
  rw [Int.toNat_natCast] at hK hcell
  obtain rfl : cc = [.int .i64 (l.getD i 0)] := hK
  have hcl := hcell 0 _ rfl
  rw [show (Kd.int IntKind.i64).sz = 1 from rfl, Nat.mul_one, Nat.add_zero] at hcl
  exact ⟨ad, e1, hcl⟩
theorem rd_had {w : World} {base h m cap : Nat} {S : Nat → Bool} {ok : Nat → Prop} (hr : Kd.R Kd.bool 4 w base ok (.slice (some ⟨h, 0, none⟩) m cap) (hadL S m)) (q : Nat) (hq : q < m) : w.cell? ⟨h, q, none⟩ = some (.bool (S q)) ∧ w.frozen? ⟨h, q, none⟩ = false := by
  have := Kd.R_celln false hr (q : Int) (by omega) (by omega)
  rw [Int.toNat_natCast] at this
  have e : rdOf false (hadL S m) (q : Int) = S q := by unfold rdOf; rw [Int.toNat_natCast]; exact hadL_get S m q hq
  rw [e] at this
  exact this
theorem wr_had {w : World} {base h m cap : Nat} {S : Nat → Bool} {ok : Nat → Prop} (hr : Kd.R Kd.bool 4 w base ok (.slice (some ⟨h, 0, none⟩) m cap) (hadL S m)) (q : Nat) : Kd.R Kd.bool 4 (w.setCell ⟨h, q, none⟩ (.bool true)) base ok (.slice (some ⟨h, 0, none⟩) m cap) (hadL (updS S q) m) := by
  have := Kd.R_putn hr (q : Int) true
  rw [Int.toNat_natCast, hadL_set] at this
  exact this
theorem had_mu {w w' : World} {own : Nat → Prop} {base h m cap : Nat} {L : List Bool} {ok : Nat → Prop} (hr : Kd.R Kd.bool 4 w base ok (.slice (some ⟨h, 0, none⟩) m cap) L) (hm : Mu own w w') (hh : ¬ own h) (hok : ok h) : Kd.R Kd.bool 4 w' base ok (.slice (some ⟨h, 0, none⟩) m cap) L := by
  have h1 := Kd.R_tight rfl hr
  refine Kd.R_mono (Kd.R_step h1 (fun k hk hl => ?_)) (fun k hk => ?_)
  · have : k = h := by simpa [Value.ownBlock] using hk
    subst this
    exact hm.block k hl hh
  · have : k = h := by simpa [Value.ownBlock] using hk
    rw [this]; exact hok
theorem rem_neg {k : Int} {m : Nat} (hm : 1 ≤ m) (hk : k < 0) : -(m : Int) < k.tmod (m : Int) ∧ k.tmod (m : Int) ≤ 0 := by
  have h1 : k.tmod (m : Int) = -((-k).tmod (m : Int)) := by rw [Int.neg_tmod]; omega
  have h2 : (-k).tmod (m : Int) = (-k) % (m : Int) := Int.tmod_eq_emod_of_nonneg (by omega)
  have h3 := Int.emod_nonneg (-k) (show (m : Int) ≠ 0 by omega)
  have h4 := Int.emod_lt_of_pos (-k) (show 0 < (m : Int) by omega)
  rw [h1, h2]
  omega
theorem rem_pos {k : Int} {m : Nat} (hm : 1 ≤ m) (hk : 0 ≤ k) : ∃ q : Nat, k.tmod (m : Int) = (q : Int) ∧ q < m := by
  have h2 : k.tmod (m : Int) = k % (m : Int) := Int.tmod_eq_emod_of_nonneg hk
  have h3 := Int.emod_nonneg k (show (m : Int) ≠ 0 by omega)
  have h4 := Int.emod_lt_of_pos k (show 0 < (m : Int) by omega)
  exact ⟨(k % (m : Int)).toNat, by rw [h2]; omega, by omega⟩
set_option maxRecDepth 100000
set_option maxHeartbeats 16000000 in
theorem back_any {w : World} {a0 : Int} {A1 : Option Addr} {c1 : Nat} {la : List Int} {A2 : Option Addr} {c2 : Nat} {lb : List Int} {A3 : Option Addr} {c3 : Nat} {lp : List Int} (hr1 : Kd.C (Kd.int .u8) w A1 la.length la) (hc1 : la.length ≤ c1) (hr2 : Kd.C (Kd.int .u8) w A2 lb.length lb) (hc2 : lb.length ≤ c2) (hr3 : Kd.C (Kd.int .i64) w A3 lp.length lp) (hc3 : lp.length ≤ c3)
    (hb1 : ∀ x ∈ la, 0 ≤ x ∧ x < 256) (hb2 : ∀ x ∈ lb, 0 ≤ x ∧ x < 256) (hb3 : ∀ x ∈ lp, -9223372036854775808 ≤ x ∧ x ≤ 9223372036854775807) :
    Calls Try.prog 7 #[.int .u64 a0, .slice A1 la.length c1, .slice A2 lb.length c2, .slice A3 lp.length c3] w fun e w' => e = .returned (.bool true) ∧ Below w.heap.size w w' := by
  have HA := Aside0.mk (And.intro hr1 (And.intro hc1 hb1))
  have HB := Aside0.mk (And.intro hr2 (And.intro hc2 hb2))
  have HP := Aside0.mk (And.intro hr3 (And.intro hc3 hb3))
  clear hr1 hc1 hr2 hc2 hr3 hc3 hb1 hb2 hb3
  go_enter Try.func7, Try.ntmps7
  go_wp2_with fail
  refine (tiklaw26_first.calls true w rfl).mono ?_
  rintro en w1 ⟨rfl, hbw1⟩
  have HW1 := Aside0.mk hbw1
  clear hbw1
  by_cases qd1 : 5000 < la.length
  case pos =>
    have d10 : decide (5000 < (la.length : Int)) = true := decide_eq_true (by omega)
    have d11 : decide (5000 < la.length) = true := decide_eq_true (by omega)
    go_wp2_with fail
    refine (tiklaw26_first.calls true _ rfl).mono ?_
    rintro en w2 ⟨rfl, hbw2⟩
    have HW2 := Aside0.mk (below_step HW1.out hbw2)
    clear hbw2
    go_wp2_with fail
    go_ret
    exact ⟨rfl, HW2.out⟩
  have d10 : decide (5000 < (la.length : Int)) = false := decide_eq_false (by omega)
  have d11 : decide (5000 < la.length) = false := decide_eq_false (by omega)
  by_cases qd2 : 5000 < lb.length
  case pos =>
    have d20 : decide (5000 < (lb.length : Int)) = true := decide_eq_true (by omega)
    have d21 : decide (5000 < lb.length) = true := decide_eq_true (by omega)
    go_wp2_with fail
    refine (tiklaw26_first.calls true _ rfl).mono ?_
    rintro en w2 ⟨rfl, hbw2⟩
    have HW2 := Aside0.mk (below_step HW1.out hbw2)
    clear hbw2
    go_wp2_with fail
    go_ret
    exact ⟨rfl, HW2.out⟩
  have d20 : decide (5000 < (lb.length : Int)) = false := decide_eq_false (by omega)
  have d21 : decide (5000 < lb.length) = false := decide_eq_false (by omega)
  by_cases qd3 : 200 < lp.length
  case pos =>
    have d30 : decide (200 < (lp.length : Int)) = true := decide_eq_true (by omega)
    have d31 : decide (200 < lp.length) = true := decide_eq_true (by omega)
    go_wp2_with fail
    refine (tiklaw26_first.calls true _ rfl).mono ?_
    rintro en w2 ⟨rfl, hbw2⟩
    have HW2 := Aside0.mk (below_step HW1.out hbw2)
    clear hbw2
    go_wp2_with fail
    go_ret
    exact ⟨rfl, HW2.out⟩
  have d30 : decide (200 < (lp.length : Int)) = false := decide_eq_false (by omega)
  have d31 : decide (200 < lp.length) = false := decide_eq_false (by omega)
  by_cases qd4 : a0 < 2
  case pos =>
    have d40 : decide (a0 < 2) = true := decide_eq_true (by omega)
    go_wp2_with fail
    refine (tiklaw26_first.calls true _ rfl).mono ?_
    rintro en w2 ⟨rfl, hbw2⟩
    have HW2 := Aside0.mk (below_step HW1.out hbw2)
    clear hbw2
    go_wp2_with fail
    go_ret
    exact ⟨rfl, HW2.out⟩
  have d40 : decide (a0 < 2) = false := decide_eq_false (by omega)
  by_cases qd5 : 4611686018427387904 < a0
  case pos =>
    have d50 : decide (4611686018427387904 < a0) = true := decide_eq_true (by omega)
    go_wp2_with fail
    refine (tiklaw26_first.calls true _ rfl).mono ?_
    rintro en w2 ⟨rfl, hbw2⟩
    have HW2 := Aside0.mk (below_step HW1.out hbw2)
    clear hbw2
    go_wp2_with fail
    go_ret
    exact ⟨rfl, HW2.out⟩
  have d50 : decide (4611686018427387904 < a0) = false := decide_eq_false (by omega)
  have HQ := Aside0.mk (And.intro qd1 (And.intro qd2 (And.intro qd3 (And.intro qd4 qd5))))
  clear qd1 qd2 qd3 qd4 qd5
  have HLA := Aside0.mk (show la.length ≤ 5000 ∧ lb.length ≤ 5000 ∧ 2 ≤ a0 ∧ a0 ≤ 4611686018427387904 ∧ lp.length ≤ 200 by have := HQ.out; omega)
  clear HQ
  have HNA := Aside0.mk (nparts_small HLA.out.1)
  have HNB := Aside0.mk (nparts_small HLA.out.2.1)
  have cutA := cutL_len a0 la
  have cutB := cutL_len (a0 - 1) lb
  have HCF := Aside0.mk (show frag_Cut.f a0 la = some (cutL a0 la, 0) by
    have := HLA.out
    unfold frag_Cut.f
    rw [if_neg (by omega), if_neg (by omega), if_neg (by omega), if_pos (List.all_eq_true.2 (fun x hx => byteB_iff.2 (HA.out.2.2 x hx)))])
  have HCG := Aside0.mk (show frag_Cut.f (a0 - 1) lb = some (cutL (a0 - 1) lb, 0) by
    have := HLA.out
    unfold frag_Cut.f
    rw [if_neg (by omega), if_neg (by omega), if_neg (by omega), if_pos (List.all_eq_true.2 (fun x hx => byteB_iff.2 (HB.out.2.2 x hx)))])
  have u1 : IntKind.u64.wrap (a0 - 1) = a0 - 1 := IntWalk.u64_in _ (by have := HLA.out; omega)
  obtain ⟨LA, hLA⟩ : ∃ LA, cutL a0 la = LA := ⟨_, rfl⟩
  obtain ⟨LB, hLB⟩ : ∃ LB, cutL (a0 - 1) lb = LB := ⟨_, rfl⟩
  obtain ⟨na, hna⟩ : ∃ na, nparts la = na := ⟨_, rfl⟩
  obtain ⟨nb, hnb⟩ : ∃ nb, nparts lb = nb := ⟨_, rfl⟩
  rw [hLA] at cutA HCF
  rw [hLB] at cutB HCG
  rw [hna] at cutA HNA
  rw [hnb] at cutB HNB
  have HEA := Aside0.mk (And.intro hLA (And.intro hna cutA))
  have HEB := Aside0.mk (And.intro hLB (And.intro hnb cutB))
  clear hLA hLB hna hnb cutA cutB
  go_wp2_with fail
  refine (frag_Cut.calls a0 A1 c1 la LA 0 _ (Kd.C_below HA.out.1 HW1.out) HA.out.2.1 HCF.out).mono ?_
  rintro en w2 ⟨v2, rfl, ⟨P2, k2, rfl, hk2, hF2⟩, hb2⟩
  rw [HEA.out.2.2] at hF2 hk2 ⊢
  have HL2 := Aside0.mk (Kd.F_now hF2)
  have HW2 := Aside0.mk (below_step HW1.out hb2)
  clear hF2 hb2 hk2
  go_wp2_with fail
  refine (frag_Cut.calls (a0 - 1) A2 c2 lb LB 0 _ (Kd.C_below HB.out.1 HW2.out) HB.out.2.1 HCG.out).mono ?_
  rintro en w3 ⟨v3, rfl, ⟨P3, k3, rfl, hk3, hF3⟩, hb3⟩
  rw [HEB.out.2.2] at hF3 hk3 ⊢
  have HL3 := Aside0.mk (Kd.C_below HL2.out hb3)
  have HM3 := Aside0.mk (Kd.F_now hF3)
  have HW3 := Aside0.mk (below_step HW2.out hb3)
  clear hF3 hb3 hk3
  go_wp2_with fail
  refine (newGather_any (own := fun k => w3.heap.size ≤ k) (Nat.le_refl _)).mono ?_
  rintro en w4 ⟨rfl, hG4, hb4, hs4⟩
  have HG4 := Aside0.mk (And.intro hG4 (And.intro hb4 hs4))
  obtain ⟨ad2, eP2, _⟩ := HL3.out.2.2 (by have := HNA.out; omega)
  subst eP2
  obtain ⟨ad3, eP3, _⟩ := HM3.out.2.2 (by have := HNB.out; omega)
  subst eP3
  clear hG4 hb4 hs4
  have n1 : ¬ ((na : Int) < 1) := by have := HNA.out; omega
  have n2 : ¬ ((nb : Int) < 1) := by have := HNB.out; omega
  have n3 : decide ((na : Int) < 1) = false := decide_eq_false n1
  have n4 : decide ((nb : Int) < 1) = false := decide_eq_false n2
  have n5 : na ≠ 0 := by omega
  have n6 : nb ≠ 0 := by omega
  have n7 : ¬ (na < 1) := by omega
  have n8 : ¬ (nb < 1) := by omega
  have n9 : na < 100 := by have := HNA.out; omega
  have n10 : nb < 100 := by have := HNB.out; omega
  have n11 : lp.length ≤ 200 := HLA.out.2.2.2.2
  go_upto_region 12 with (first | ((with_reducible refine gate_dst (N := 85) rfl ?_); (try (refine gate_guard (by rfl) ?_; dsimp only)); refine Kd.R_make Kd.bool (w0 := w4) w4.heap.size 4 rfl (N := 85) rfl 54 _ _ rfl (na : Int) rfl rfl Try.underlying54 (.bool false) 1 info_bool rfl (by decide) (by omega) false (ok := fun _ => True) (okp := fun _ => True) rfl (fun _ hk => hk) trivial (by omega) (by have := HNA.out; omega) (Below.refl _ _) (Nat.le_refl _) ?_; intro vH w5 hoH hbH hgH hnH; clear hgH hnH; have HOH := Aside0.mk hoH; have HBH := Aside0.mk hbH; clear hoH hbH))
  have hoH := HOH.out
  rw [Int.toNat_natCast] at hoH
  obtain ⟨hb_, hcap, ehv, hh1, hh2, _⟩ := Kd.R_form hoH (by rw [List.length_replicate]; omega)
  subst ehv
  rw [List.length_replicate] at hoH ⊢
  rw [hadL_none] at hoH
  have HHB := Aside0.mk (show w4.heap.size ≤ hb_ from hh1)
  obtain ⟨own, hown⟩ : ∃ own : Nat → Prop, own = fun k => w3.heap.size ≤ k ∧ k ≠ hb_ := ⟨_, rfl⟩
  have HOWN := Aside0.mk hown
  have HG5 : Aside0 (GatAt w5 own w3.heap.size 0 0 []) := ⟨by
    rw [hown]
    exact (HG4.out.1.mono (fun k hk h => ⟨h, by have := HHB.out; omega⟩)).below HBH.out⟩
  have HN5 : Aside0 (∀ W : World, w5.heap.size ≤ W.heap.size → ∀ k, W.heap.size ≤ k → own k) := ⟨by
    rw [hown]
    intro W hW k hk
    have h1 := HG4.out.2.1.size
    have h2 := HBH.out.size
    exact ⟨by omega, by omega⟩⟩
  have HMU : Aside0 (∀ W W' : World, Below w3.heap.size w3 W → Mu own W W' → Below w3.heap.size w3 W') := ⟨by
    rw [hown]
    intro W W' h1 h2
    exact Mu.below_of h1 h2 (fun k hk h => by omega)⟩
  have HNH : Aside0 (¬ own hb_) := ⟨by rw [hown]; exact fun h => h.2 rfl⟩
  have HR5 := Aside0.mk hoH
  have HB5 := Aside0.mk (below_step HG4.out.2.1 HBH.out)
  have HI5 : Aside0 (BackI a0 la lb (fun _ => false) (0, 0, [])) := ⟨.inl ⟨cntS_none _, .inl rfl⟩⟩
  clear hoH hown hh1 hh2 HOH n1 n2 n3 n4 n7 n8
  have f6 : cntS (fun _ : Nat => false) na = 0 := cntS_none na
  have F6 := Aside0.mk f6
  clear f6
  go_wp2_with fail
  go_loopw [15, 16, 17, 18, 19, 20, 21, 22, 23, 24, 86, 87, 88, 89, 90, 91, 92, 93, 94, 95, 96, 97, 98, 99, 100, 101, 102, 103, 104, 105, 106, 107, 108, 109, 110, 111, 112, 113, 114, 115, 116, 117, 118, 119, 120, 121, 122, 123, 124, 125, 126, 127, 128, 129, 130, 131, 132, 133, 134, 135, 136, 137, 138, 139, 140, 141, 142, 143, 144, 145, 146, 147, 148, 149, 150, 151, 152, 153, 154, 155, 156, 157, 158, 159, 160, 161, 162, 163, 164, 165, 166, 167, 168, 169, 170, 171, 172, 173, 174, 175, 176, 177, 178, 179, 180, 181, 182, 183, 184, 185, 186, 187, 188, 189, 190, 191, 192] (fun v15 v16 v17 v18 v19 v20 v21 v22 v23 v24 v86 v87 v88 v89 v90 v91 v92 v93 v94 v95 v96 v97 v98 v99 v100 v101 v102 v103 v104 v105 v106 v107 v108 v109 v110 v111 v112 v113 v114 v115 v116 v117 v118 v119 v120 v121 v122 v123 v124 v125 v126 v127 v128 v129 v130 v131 v132 v133 v134 v135 v136 v137 v138 v139 v140 v141 v142 v143 v144 v145 v146 v147 v148 v149 v150 v151 v152 v153 v154 v155 v156 v157 v158 v159 v160 v161 v162 v163 v164 v165 v166 v167 v168 v169 v170 v171 v172 v173 v174 v175 v176 v177 v178 v179 v180 v181 v182 v183 v184 v185 v186 v187 v188 v189 v190 v191 v192 wr => ∃ (i : Nat) (S : Nat → Bool) (st : Int × Int × List (List Int)), i ≤ lp.length + na ∧ v17 = .int .i64 (i : Int) ∧ v15 = .int .i64 ((cntS S na : Nat) : Int) ∧ v16 = .int .i64 ((camev S na : Nat) : Int) ∧ GatAt wr own w3.heap.size st.1 st.2.1 st.2.2 ∧ BackI a0 la lb S st ∧ Kd.R Kd.bool 4 wr w4.heap.size (fun _ => True) (.slice (some ⟨hb_, 0, none⟩) na hcap) (hadL S na) ∧ Below w3.heap.size w3 wr ∧ w5.heap.size ≤ wr.heap.size ∧ (∀ j, j + lp.length < i → j < na → S j = true))
    (fun v15 v16 v17 v18 v19 v20 v21 v22 v23 v24 v86 v87 v88 v89 v90 v91 v92 v93 v94 v95 v96 v97 v98 v99 v100 v101 v102 v103 v104 v105 v106 v107 v108 v109 v110 v111 v112 v113 v114 v115 v116 v117 v118 v119 v120 v121 v122 v123 v124 v125 v126 v127 v128 v129 v130 v131 v132 v133 v134 v135 v136 v137 v138 v139 v140 v141 v142 v143 v144 v145 v146 v147 v148 v149 v150 v151 v152 v153 v154 v155 v156 v157 v158 v159 v160 v161 v162 v163 v164 v165 v166 v167 v168 v169 v170 v171 v172 v173 v174 v175 v176 v177 v178 v179 v180 v181 v182 v183 v184 v185 v186 v187 v188 v189 v190 v191 v192 _ => lp.length + na - (intOf v17).toNat)
  case atStart => exact ⟨0, fun _ => false, (0, 0, []), Nat.zero_le _, rfl, by rw [F6.out]; rfl, by unfold camev; rw [F6.out, if_neg (by omega)]; rfl, HG5.out, HI5.out, HR5.out, HB5.out, Nat.le_refl _, fun j h => by omega⟩
  case round =>
    obtain ⟨i, S, st, hi, rfl, rfl, rfl, hG, hI, hR, hB, hz, hA⟩ := hrel
    have HGr := Aside0.mk (And.intro hG (And.intro hB hz))
    have HIr := Aside0.mk (And.intro hI hA)
    have HRr := Aside0.mk hR
    have HI := Aside0.mk hi
    have hcl := cntS_le S na
    have HCL := Aside0.mk hcl
    clear hG hI hR hB hz hA hi hcl
    have h100 : i < 1000 := by have := HI.out; omega
    obtain ⟨cn, hcn⟩ : ∃ cn, cntS S na = cn := ⟨_, rfl⟩
    obtain ⟨cm, hcm⟩ : ∃ cm, camev S na = cm := ⟨_, rfl⟩
    rw [hcn, hcm]
    have HCN := Aside0.mk (And.intro hcn hcm)
    have c100 : cn ≤ 100 := by have := HCL.out; omega
    have cm2 : cm ≤ 1 := by rw [← hcm]; unfold camev; split <;> omega
    clear hcn hcm
    by_cases hlt : i < lp.length + na
    case neg =>
      have hall : Aside0 (cn = na ∧ cm = 1) := ⟨by
        have h1 : cntS S na = na := by
          have : cntS S na = cntS (fun _ => true) na := cntS_congr na (fun j hj => HIr.out.2 j (by have := HI.out; omega) hj)
          rw [this]
          exact cntS_true na
        exact ⟨by rw [← HCN.out.1]; exact h1, by rw [← HCN.out.2]; unfold camev; rw [if_pos h1]⟩⟩
      obtain ⟨rfl, rfl⟩ := hall.out
      have hlt2 : ¬ ((i : Int) < (lp.length : Int) + (cn : Int)) := by omega
      have hlt3 : decide ((i : Int) < (lp.length : Int) + (cn : Int)) = false := decide_eq_false hlt2
      clear hlt
      go_wp2_with fail
      refine (tiklaw26_first.calls true _ rfl).mono ?_
      rintro en w9 ⟨rfl, hbw9⟩
      have HW9 := Aside0.mk (below_step (HW3.out.trans (HGr.out.2.1.mono HW3.out.size)) hbw9)
      clear hbw9
      go_wp2_with fail
      go_ret
      exact ⟨rfl, HW9.out⟩
    have HLT := Aside0.mk hlt
    have hlt2 : (i : Int) < (lp.length : Int) + (na : Int) := by omega
    have hlt3 : decide ((i : Int) < (lp.length : Int) + (na : Int)) = true := decide_eq_true hlt2
    have hw1 : wrap64 ((lp.length : Int) + (na : Int)) = (lp.length : Int) + (na : Int) := IntWalk.wrap64_in _ (by omega)
    have hw2 : wrap64 ((i : Int) - (lp.length : Int)) = (i : Int) - (lp.length : Int) := IntWalk.wrap64_in _ (by omega)
    by_cases hpk : i < lp.length
    · obtain ⟨adp, eap, hcp⟩ := ints_get (Kd.C_below (Kd.C_below HP.out.1 HW3.out) HGr.out.2.1) i hpk
      obtain ⟨kk, hkk⟩ : ∃ kk, lp.getD i 0 = kk := ⟨_, rfl⟩
      have hkb : -9223372036854775808 ≤ kk ∧ kk ≤ 9223372036854775807 := HP.out.2.2 kk (by rw [← hkk, List.getD_eq_getElem?_getD, List.getElem?_eq_getElem hpk]; exact List.getElem_mem hpk)
      rw [hkk] at hcp
      have HKB := Aside0.mk hkb
      have HPK := Aside0.mk hpk
      subst eap
      have hpk2 : decide ((i : Int) < (lp.length : Int)) = true := decide_eq_true (by omega)
      have hpk3 : decide (i < lp.length) = true := decide_eq_true hpk
      clear hkk hkb
      by_cases hneg : kk < 0
      · obtain ⟨r1, hr1⟩ : ∃ r1, kk.tmod (nb : Int) = r1 := ⟨_, rfl⟩
        have hrb := rem_neg (k := kk) (m := nb) (by have := HNB.out; omega) hneg
        rw [hr1] at hrb
        obtain ⟨q, hq, hqb⟩ := rem_pos (k := r1 + (nb : Int)) (m := nb) (by have := HNB.out; omega) (by omega)
        have hw3 : wrap64 (r1 + (nb : Int)) = r1 + (nb : Int) := IntWalk.wrap64_in _ (by omega)
        have hng : decide (kk < 0) = true := decide_eq_true hneg
        obtain ⟨Ai, ci, hci0, hci, hCi⟩ := rows_getN (Kd.C_below HM3.out HGr.out.2.1) q hqb
        obtain ⟨st', mm, xx, hput, hI', hx'⟩ := back_old HIr.out.1 HLA.out.2.2.1 HLA.out.2.2.2.1 (by have := HLA.out; omega) HB.out.2.2 q (by rw [HEB.out.2.1]; exact hqb)
        have hby := cut_bytes (a := a0 - 1) (l := lb) (by have := HLA.out; omega) (by have := HLA.out; omega) (by have := HLA.out; omega) HB.out.2.2 q (by rw [HEB.out.2.1]; exact hqb)
        rw [HEB.out.1] at hput hby
        rw [HEA.out.2.1] at hx'
        obtain ⟨pi, hpi⟩ : ∃ pi, LB.getD q [] = pi := ⟨_, rfl⟩
        rw [hpi] at hput hby hci0 hci hCi
        have HPI := Aside0.mk (And.intro hput (And.intro hI' (And.intro hx' (And.intro hby (And.intro hci hCi)))))
        have hqb2 : q < nb := hqb
        clear hput hI' hx' hby hci hCi hpi hrb hneg hlt HKB
        go_wp2_with fail
        refine (put_any HGr.out.1 (HN5.out _ HGr.out.2.2) HPI.out.2.2.2.2.2 HPI.out.2.2.2.2.1 HPI.out.2.2.2.1.2 HPI.out.2.2.2.1.1).mono ?_
        rintro en w6 ⟨hG6, hm6, v6, rfl, hR6⟩
        rw [HPI.out.1] at hG6 hR6 ⊢
        obtain ⟨A6, c6, rfl⟩ := Kd.R_slice hR6
        have HG6 := Aside0.mk (And.intro hG6 (And.intro (HMU.out _ _ HGr.out.2.1 hm6) (Nat.le_trans HGr.out.2.2 hm6.size)))
        have HR6 := Aside0.mk (had_mu HRr.out hm6 HNH.out trivial)
        clear hG6 hm6 hR6
        cases xx with
        | true =>
          have hc0 : cn = 0 := by rw [← HCN.out.1]; exact HPI.out.2.2.1 rfl
          subst hc0
          go_wp2_with fail
          go_roundw
          case rel => exact ⟨i + 1, S, st', HLT.out, by simp, by rw [HCN.out.1]; rfl, by rw [HCN.out.2], HG6.out.1, HPI.out.2.1, HR6.out, HG6.out.2.1, HG6.out.2.2, fun j hj hjn => by have := HPK.out; omega⟩
          case measure => have := HLT.out; simp [intOf] <;> omega
        | false =>
          go_wp2_with fail
          go_roundw
          case rel => exact ⟨i + 1, S, st', HLT.out, by simp, by rw [HCN.out.1], by rw [HCN.out.2], HG6.out.1, HPI.out.2.1, HR6.out, HG6.out.2.1, HG6.out.2.2, fun j hj hjn => by have := HPK.out; omega⟩
          case measure => have := HLT.out; simp [intOf] <;> omega
      · have hng : decide (kk < 0) = false := decide_eq_false hneg
        obtain ⟨q, hq, hqb⟩ := rem_pos (k := kk) (m := na) (by have := HNA.out; omega) (by omega)
        have HAQ : Aside0 (∀ j, j + lp.length < i + 1 → j < na → updS S q j = true) := ⟨fun j hj hjn => by have := HPK.out; omega⟩
        clear hneg hlt HKB
        obtain ⟨Ai, ci, hci0, hci, hCi⟩ := rows_getN (Kd.C_below HL3.out HGr.out.2.1) q hqb
        obtain ⟨hput, hI'⟩ := back_new HIr.out.1 HLA.out.2.2.1 HLA.out.2.2.2.1 (by have := HLA.out; omega) HA.out.2.2 q (by rw [HEA.out.2.1]; exact hqb)
        have hby := cut_bytes (a := a0) (l := la) (by have := HLA.out; omega) HLA.out.2.2.2.1 (by have := HLA.out; omega) HA.out.2.2 q (by rw [HEA.out.2.1]; exact hqb)
        rw [HEA.out.2.1] at hput hI'
        rw [HEA.out.1] at hput hby
        obtain ⟨pi, hpi⟩ : ∃ pi, LA.getD q [] = pi := ⟨_, rfl⟩
        rw [hpi] at hput hby hci0 hci hCi
        have hup := cntS_upd S q na hqb
        rw [HCN.out.1] at hup
        have hup2 := cntS_le (updS S q) na
        have hhv : haveN (psOf la (updS S q) na) = cntS (updS S q) na := psOf_have HA.out.2.2 _ _
        obtain ⟨cu, hcu⟩ : ∃ cu, cntS (updS S q) na = cu := ⟨_, rfl⟩
        rw [hcu] at hup hup2 hhv
        have HPI := Aside0.mk (And.intro hput (And.intro hI' (And.intro hby (And.intro hci (And.intro hCi (And.intro hhv hcu))))))
        have HUP := Aside0.mk (And.intro hup hup2)
        have HQB := Aside0.mk hqb
        clear hput hI' hby hci hCi hpi hup hup2 hhv hcu
        go_wp2_with fail
        refine (put_any HGr.out.1 (HN5.out _ HGr.out.2.2) HPI.out.2.2.2.2.1 HPI.out.2.2.2.1 HPI.out.2.2.1.2 HPI.out.2.2.1.1).mono ?_
        rintro en w6 ⟨hG6, hm6, v6, rfl, hR6⟩
        rw [HPI.out.1] at hG6 hR6 ⊢
        have HG6 := Aside0.mk (And.intro hG6 (And.intro (HMU.out _ _ HGr.out.2.1 hm6) (Nat.le_trans HGr.out.2.2 hm6.size)))
        have HR6 := Aside0.mk (had_mu HRr.out hm6 HNH.out trivial)
        obtain ⟨hd1, hd2⟩ := rd_had HR6.out q HQB.out
        clear hG6 hm6
        by_cases hs : S q = true
        · rw [out_had hs] at hR6 ⊢
          rw [hs] at hd1
          obtain ⟨A6, c6, rfl⟩ := Kd.R_slice hR6
          have hcc : cu = cn := by have := HUP.out.1; rw [if_pos hs] at this; omega
          have HS := Aside0.mk hs
          clear hR6 hs
          go_wp2_with fail
          refine (gid_any HG6.out.1).mono ?_
          rintro en w7 ⟨rfl, rfl⟩
          go_wp2_with fail
          refine (ghave_any HG6.out.1).mono ?_
          rintro en w8 ⟨rfl, rfl⟩
          dsimp only
          rw [HPI.out.2.2.2.2.2.1, hcc]
          go_wp2_with fail
          go_roundw
          case rel => exact ⟨i + 1, updS S q, _, HLT.out, by simp, by rw [HPI.out.2.2.2.2.2.2, hcc], by rw [upd_same HS.out, HCN.out.2], HG6.out.1, HPI.out.2.1, by rw [upd_same HS.out]; exact HR6.out, HG6.out.2.1, HG6.out.2.2, HAQ.out⟩
          case measure => have := HLT.out; simp [intOf] <;> omega
        have hsf : S q = false := by simpa using hs
        rw [hsf] at hd1
        have hcc : cu = cn + 1 := by have := HUP.out.1; rw [if_neg hs] at this; exact this
        have hcm0 : cm = 0 := by
          rw [← HCN.out.2]; unfold camev; rw [if_neg]
          have := HUP.out.2
          have := HCN.out.1
          omega
        subst hcm0
        have hX : GatAt (w6.setCell ⟨hb_, q, none⟩ (.bool true)) own w3.heap.size a0 (na : Int) (psOf la (updS S q) na) := HG6.out.1.step (fun k hk hl => Below.heap_setCell _ _ _ k (by show k ≠ hb_; exact fun e => HNH.out (e ▸ hk)))
        have hXb : Below w3.heap.size w3 (w6.setCell ⟨hb_, q, none⟩ (.bool true)) := HG6.out.2.1.setCell (p := ⟨hb_, q, none⟩) (by show w3.heap.size ≤ hb_; have := HHB.out; have := HG4.out.2.1.size; omega) _
        have hXs : w5.heap.size ≤ (w6.setCell ⟨hb_, q, none⟩ (.bool true)).heap.size := by have := HG6.out.2.2; simpa [World.setCell] using this
        have hXr := wr_had HR6.out q
        obtain ⟨W7, hW7⟩ : ∃ W7, w6.setCell ⟨hb_, q, none⟩ (.bool true) = W7 := ⟨_, rfl⟩
        rw [hW7] at hX hXb hXs hXr
        have HG7 := Aside0.mk (And.intro hX (And.intro hXb hXs))
        have HR7 := Aside0.mk hXr
        have HW7 := Aside0.mk hW7
        have HSF := Aside0.mk hsf
        have HCC := Aside0.mk hcc
        clear hX hXb hXs hXr hW7 hs hsf
        by_cases hc : cu < na
        · rw [out_more HSF.out (by rw [HEA.out.2.1, HPI.out.2.2.2.2.2.2]; exact hc)] at hR6 ⊢
          obtain ⟨A6, c6, rfl⟩ := Kd.R_slice hR6
          have hcam : camev (updS S q) na = 0 := by unfold camev; rw [HPI.out.2.2.2.2.2.2, if_neg (by omega)]
          have HCAM := Aside0.mk hcam
          clear hR6 hc hcam hcc
          go_wp2_with fail
          rw [HW7.out]
          refine (gid_any HG7.out.1).mono ?_
          rintro en w8 ⟨rfl, rfl⟩
          go_wp2_with fail
          refine (ghave_any HG7.out.1).mono ?_
          rintro en w9 ⟨rfl, rfl⟩
          rw [HPI.out.2.2.2.2.2.1, HCC.out]
          go_wp2_with fail
          go_roundw
          case rel => exact ⟨i + 1, updS S q, _, HLT.out, by simp, by rw [HPI.out.2.2.2.2.2.2, HCC.out]; simp, by rw [HCAM.out]; rfl, HG7.out.1, HPI.out.2.1, HR7.out, HG7.out.2.1, HG7.out.2.2, HAQ.out⟩
          case measure => have := HLT.out; simp [intOf] <;> omega
        · rw [out_last HSF.out (by rw [HEA.out.2.1, HPI.out.2.2.2.2.2.2]; exact hc)] at hR6 ⊢
          obtain ⟨A6, c6, rfl, hc6, hC6⟩ := Kd.R_reads hR6
          have hcna : (cn : Int) + 1 = (na : Int) := by have := HUP.out.2; omega
          have hcnb : ((cn : Int) + 1 != (na : Int)) = false := by rw [hcna]; simp
          have hcam : camev (updS S q) na = 1 := by unfold camev; rw [HPI.out.2.2.2.2.2.2, if_pos (by omega)]
          have HCAM := Aside0.mk hcam
          have hC7 : Kd.C (Kd.int .u8) W7 A6 la.length la := by
            rw [← HW7.out]
            have h1 := Kd.R_bound hR6
            have h2 := Kd.R_far (p := ⟨hb_, q, none⟩) h1 (fun k hk => by
              have h3 := hk.2.1
              have h4 := HGr.out.2.2
              have h5 := Kd.R_lt HR5.out hb_ rfl
              show k ≠ hb_
              omega) (.bool true)
            exact (Kd.R_reads' h2).2.2
          have HC6 := Aside0.mk (And.intro hc6 hC7)
          clear hR6 hc hcam hcc hc6 hC6 hC7 hcna
          go_wp2_with fail
          rw [HW7.out]
          refine (tikref_Bytes.calls A6 c6 la A1 c1 la true _ HC6.out.2 HC6.out.1 (Kd.C_below HA.out.1 (HW3.out.trans (HG7.out.2.1.mono HW3.out.size))) HA.out.2.1 (bytes_same la)).mono ?_
          rintro en w8 ⟨rfl, hd⟩
          have HG8 := Aside0.mk (And.intro (HG7.out.1.below hd.below) (And.intro (below_step HG7.out.2.1 hd.below) (Nat.le_trans HG7.out.2.2 hd.below.size)))
          have HR8 := Aside0.mk (Kd.R_below HR7.out hd.below)
          clear hd
          go_wp2_with fail
          refine (gid_any HG8.out.1).mono ?_
          rintro en w9 ⟨rfl, rfl⟩
          go_wp2_with fail
          refine (ghave_any HG8.out.1).mono ?_
          rintro en w10 ⟨rfl, rfl⟩
          rw [HPI.out.2.2.2.2.2.1, HCC.out]
          go_wp2_with fail
          go_roundw
          case rel => exact ⟨i + 1, updS S q, _, HLT.out, by simp, by rw [HPI.out.2.2.2.2.2.2, HCC.out]; simp, by rw [HCAM.out]; rfl, HG8.out.1, HPI.out.2.1, HR8.out, HG8.out.2.1, HG8.out.2.2, HAQ.out⟩
          case measure => have := HLT.out; simp [intOf] <;> omega
    · have hpk2 : decide ((i : Int) < (lp.length : Int)) = false := decide_eq_false (by omega)
      have hpk3 : decide (i < lp.length) = false := decide_eq_false hpk
      obtain ⟨kk, hkk⟩ : ∃ kk, (i : Int) - (lp.length : Int) = kk := ⟨_, rfl⟩
      have hng : decide (kk < 0) = false := decide_eq_false (by omega)
      obtain ⟨q, hq, hqb⟩ := rem_pos (k := kk) (m := na) (by have := HNA.out; omega) (by omega)
      have hqk : (q : Int) = kk := by
        rw [← hq, Int.tmod_eq_emod_of_nonneg (by omega)]
        exact Int.emod_eq_of_lt (by omega) (by omega)
      have HAQ : Aside0 (∀ j, j + lp.length < i + 1 → j < na → updS S q j = true) := ⟨fun j hj hjn => by
        unfold updS
        by_cases hjq : j = q
        · rw [decide_eq_true hjq, Bool.true_or]
        · rw [HIr.out.2 j (by omega) hjn, Bool.or_true]⟩
      clear hqk hlt hpk
      obtain ⟨Ai, ci, hci0, hci, hCi⟩ := rows_getN (Kd.C_below HL3.out HGr.out.2.1) q hqb
      obtain ⟨hput, hI'⟩ := back_new HIr.out.1 HLA.out.2.2.1 HLA.out.2.2.2.1 (by have := HLA.out; omega) HA.out.2.2 q (by rw [HEA.out.2.1]; exact hqb)
      have hby := cut_bytes (a := a0) (l := la) (by have := HLA.out; omega) HLA.out.2.2.2.1 (by have := HLA.out; omega) HA.out.2.2 q (by rw [HEA.out.2.1]; exact hqb)
      rw [HEA.out.2.1] at hput hI'
      rw [HEA.out.1] at hput hby
      obtain ⟨pi, hpi⟩ : ∃ pi, LA.getD q [] = pi := ⟨_, rfl⟩
      rw [hpi] at hput hby hci0 hci hCi
      have hup := cntS_upd S q na hqb
      rw [HCN.out.1] at hup
      have hup2 := cntS_le (updS S q) na
      have hhv : haveN (psOf la (updS S q) na) = cntS (updS S q) na := psOf_have HA.out.2.2 _ _
      obtain ⟨cu, hcu⟩ : ∃ cu, cntS (updS S q) na = cu := ⟨_, rfl⟩
      rw [hcu] at hup hup2 hhv
      have HPI := Aside0.mk (And.intro hput (And.intro hI' (And.intro hby (And.intro hci (And.intro hCi (And.intro hhv hcu))))))
      have HUP := Aside0.mk (And.intro hup hup2)
      have HQB := Aside0.mk hqb
      clear hput hI' hby hci hCi hpi hup hup2 hhv hcu
      go_wp2_with fail
      refine (put_any HGr.out.1 (HN5.out _ HGr.out.2.2) HPI.out.2.2.2.2.1 HPI.out.2.2.2.1 HPI.out.2.2.1.2 HPI.out.2.2.1.1).mono ?_
      rintro en w6 ⟨hG6, hm6, v6, rfl, hR6⟩
      rw [HPI.out.1] at hG6 hR6 ⊢
      have HG6 := Aside0.mk (And.intro hG6 (And.intro (HMU.out _ _ HGr.out.2.1 hm6) (Nat.le_trans HGr.out.2.2 hm6.size)))
      have HR6 := Aside0.mk (had_mu HRr.out hm6 HNH.out trivial)
      obtain ⟨hd1, hd2⟩ := rd_had HR6.out q HQB.out
      clear hG6 hm6
      by_cases hs : S q = true
      · rw [out_had hs] at hR6 ⊢
        rw [hs] at hd1
        obtain ⟨A6, c6, rfl⟩ := Kd.R_slice hR6
        have hcc : cu = cn := by have := HUP.out.1; rw [if_pos hs] at this; omega
        have HS := Aside0.mk hs
        clear hR6 hs
        go_wp2_with fail
        refine (gid_any HG6.out.1).mono ?_
        rintro en w7 ⟨rfl, rfl⟩
        go_wp2_with fail
        refine (ghave_any HG6.out.1).mono ?_
        rintro en w8 ⟨rfl, rfl⟩
        dsimp only
        rw [HPI.out.2.2.2.2.2.1, hcc]
        go_wp2_with fail
        go_roundw
        case rel => exact ⟨i + 1, updS S q, _, HLT.out, by simp, by rw [HPI.out.2.2.2.2.2.2, hcc], by rw [upd_same HS.out, HCN.out.2], HG6.out.1, HPI.out.2.1, by rw [upd_same HS.out]; exact HR6.out, HG6.out.2.1, HG6.out.2.2, HAQ.out⟩
        case measure => have := HLT.out; simp [intOf] <;> omega
      have hsf : S q = false := by simpa using hs
      rw [hsf] at hd1
      have hcc : cu = cn + 1 := by have := HUP.out.1; rw [if_neg hs] at this; exact this
      have hcm0 : cm = 0 := by
        rw [← HCN.out.2]; unfold camev; rw [if_neg]
        have := HUP.out.2
        have := HCN.out.1
        omega
      subst hcm0
      have hX : GatAt (w6.setCell ⟨hb_, q, none⟩ (.bool true)) own w3.heap.size a0 (na : Int) (psOf la (updS S q) na) := HG6.out.1.step (fun k hk hl => Below.heap_setCell _ _ _ k (by show k ≠ hb_; exact fun e => HNH.out (e ▸ hk)))
      have hXb : Below w3.heap.size w3 (w6.setCell ⟨hb_, q, none⟩ (.bool true)) := HG6.out.2.1.setCell (p := ⟨hb_, q, none⟩) (by show w3.heap.size ≤ hb_; have := HHB.out; have := HG4.out.2.1.size; omega) _
      have hXs : w5.heap.size ≤ (w6.setCell ⟨hb_, q, none⟩ (.bool true)).heap.size := by have := HG6.out.2.2; simpa [World.setCell] using this
      have hXr := wr_had HR6.out q
      obtain ⟨W7, hW7⟩ : ∃ W7, w6.setCell ⟨hb_, q, none⟩ (.bool true) = W7 := ⟨_, rfl⟩
      rw [hW7] at hX hXb hXs hXr
      have HG7 := Aside0.mk (And.intro hX (And.intro hXb hXs))
      have HR7 := Aside0.mk hXr
      have HW7 := Aside0.mk hW7
      have HSF := Aside0.mk hsf
      have HCC := Aside0.mk hcc
      clear hX hXb hXs hXr hW7 hs hsf
      by_cases hc : cu < na
      · rw [out_more HSF.out (by rw [HEA.out.2.1, HPI.out.2.2.2.2.2.2]; exact hc)] at hR6 ⊢
        obtain ⟨A6, c6, rfl⟩ := Kd.R_slice hR6
        have hcam : camev (updS S q) na = 0 := by unfold camev; rw [HPI.out.2.2.2.2.2.2, if_neg (by omega)]
        have HCAM := Aside0.mk hcam
        clear hR6 hc hcam hcc
        go_wp2_with fail
        rw [HW7.out]
        refine (gid_any HG7.out.1).mono ?_
        rintro en w8 ⟨rfl, rfl⟩
        go_wp2_with fail
        refine (ghave_any HG7.out.1).mono ?_
        rintro en w9 ⟨rfl, rfl⟩
        rw [HPI.out.2.2.2.2.2.1, HCC.out]
        go_wp2_with fail
        go_roundw
        case rel => exact ⟨i + 1, updS S q, _, HLT.out, by simp, by rw [HPI.out.2.2.2.2.2.2, HCC.out]; simp, by rw [HCAM.out]; rfl, HG7.out.1, HPI.out.2.1, HR7.out, HG7.out.2.1, HG7.out.2.2, HAQ.out⟩
        case measure => have := HLT.out; simp [intOf] <;> omega
      · rw [out_last HSF.out (by rw [HEA.out.2.1, HPI.out.2.2.2.2.2.2]; exact hc)] at hR6 ⊢
        obtain ⟨A6, c6, rfl, hc6, hC6⟩ := Kd.R_reads hR6
        have hcna : (cn : Int) + 1 = (na : Int) := by have := HUP.out.2; omega
        have hcnb : ((cn : Int) + 1 != (na : Int)) = false := by rw [hcna]; simp
        have hcam : camev (updS S q) na = 1 := by unfold camev; rw [HPI.out.2.2.2.2.2.2, if_pos (by omega)]
        have HCAM := Aside0.mk hcam
        have hC7 : Kd.C (Kd.int .u8) W7 A6 la.length la := by
          rw [← HW7.out]
          have h1 := Kd.R_bound hR6
          have h2 := Kd.R_far (p := ⟨hb_, q, none⟩) h1 (fun k hk => by
            have h3 := hk.2.1
            have h4 := HGr.out.2.2
            have h5 := Kd.R_lt HR5.out hb_ rfl
            show k ≠ hb_
            omega) (.bool true)
          exact (Kd.R_reads' h2).2.2
        have HC6 := Aside0.mk (And.intro hc6 hC7)
        clear hR6 hc hcam hcc hc6 hC6 hC7 hcna
        go_wp2_with fail
        rw [HW7.out]
        refine (tikref_Bytes.calls A6 c6 la A1 c1 la true _ HC6.out.2 HC6.out.1 (Kd.C_below HA.out.1 (HW3.out.trans (HG7.out.2.1.mono HW3.out.size))) HA.out.2.1 (bytes_same la)).mono ?_
        rintro en w8 ⟨rfl, hd⟩
        have HG8 := Aside0.mk (And.intro (HG7.out.1.below hd.below) (And.intro (below_step HG7.out.2.1 hd.below) (Nat.le_trans HG7.out.2.2 hd.below.size)))
        have HR8 := Aside0.mk (Kd.R_below HR7.out hd.below)
        clear hd
        go_wp2_with fail
        refine (gid_any HG8.out.1).mono ?_
        rintro en w9 ⟨rfl, rfl⟩
        go_wp2_with fail
        refine (ghave_any HG8.out.1).mono ?_
        rintro en w10 ⟨rfl, rfl⟩
        rw [HPI.out.2.2.2.2.2.1, HCC.out]
        go_wp2_with fail
        go_roundw
        case rel => exact ⟨i + 1, updS S q, _, HLT.out, by simp, by rw [HPI.out.2.2.2.2.2.2, HCC.out]; simp, by rw [HCAM.out]; rfl, HG8.out.1, HPI.out.2.1, HR8.out, HG8.out.2.1, HG8.out.2.2, HAQ.out⟩
        case measure => have := HLT.out; simp [intOf] <;> omega
end Go.Proofs.Ytdklanenmihpdaa.Hand
namespace Go.Proofs.Ytdklanenmihpdaa.RowFragBack
open Go.ChangeShapes Go.WideShapes Go.ChangeAt Go.RowKit
open Go.ChangeMaps (open_string shut_string)
open Go.Proofs.YtdklanenmihpdaaW.PrintWords Go.Proofs.Ytdklanenmihpdaa.Opens
open Go.Proofs.Ytdklanenmihpdaa.Hand
set_option linter.unusedVariables false
set_option linter.unusedSimpArgs false
theorem ownK : ownKnob Try.prog.godebug = none := by kernel_rfl
theorem laidOut : laidOutB Try.prog = true := by kernel_rfl
set_option maxRecDepth 100000 in
theorem lifted (os : Os) (started : os.Started) (H : Type) (enc : TypeId × Value → H) :
    ReturnsInHanded {} Try.checked os 7 .any (Rows.fragBackSpec.pre6 enc Try.prog Try.f7 Rows.fragBackRow.domain false) (Rows.fragBackSpec.post enc Try.prog Try.f7 false true false false) := by
  refine returnsInHanded_of_change_sized (C := Try.checked) ownK started (by kernel_rfl) Try.func7
    (ChangeSpec.witness6 (enc := enc) (C := Try.checked) false ⟨#[], #[.int .u64 0, .slice none 0 0, .slice none 0 0, .slice none 0 0], []⟩ 8 (by kernel_rfl) (by kernel_rfl) (by kernel_rfl) (by kernel_rfl)) ?_
  intro W base args ds gs before hval0 hW hcnd hsz0 _
  have hsz : (DataW.weightsEach Try.prog (Try.f7.params.toList ++ Rows.fragBackSpec.plain.varTypes Try.prog) (ds ++ gs)).all (· ≤ reachBytes) = true := hsz0
  have hval : ∀ (j : Nat) t v, Try.f7.params[j]? = some t → args[j]? = some v → Value.okWide Try.prog W .any base t v := hval0
  have hW' := hW
  obtain ⟨p, q, hA0, hV, rfl, hfz, hnd⟩ := hW
  have hA : DataW.TrodAll enc Try.prog W 0 (fun _ => true) true Try.f7.params.toList args.toList ds p := hA0
  rw [Try.params7] at hA hval hsz
  obtain ⟨v0, vs0, d0, ds0, p0, q0, hargs, rfl, rfl, h0, r0⟩ := trodAll_cons hA
  obtain ⟨v1, vs1, d1, ds1, p1, q1, rfl, rfl, rfl, h1, r1⟩ := trodAll_cons r0
  obtain ⟨v2, vs2, d2, ds2, p2, q2, rfl, rfl, rfl, h2, r2⟩ := trodAll_cons r1
  obtain ⟨v3, vs3, d3, ds3, p3, q3, rfl, rfl, rfl, h3, r3⟩ := trodAll_cons r2
  obtain ⟨rfl, rfl, rfl⟩ := trodAll_nil r3
  obtain rfl : args = #[v0, v1, v2, v3] := by cases args; simp_all
  obtain ⟨rfl, rfl⟩ := trodVars_none hV
  obtain ⟨a0, rfl, rfl, rfl, w0⟩ := open_int Try.underlying22 (hval 0 22 v0 rfl rfl) h0
  have k1 := h1
  have lt1 : ∀ x ∈ p1, x.block < W.heap.size := by obtain ⟨m, hm⟩ := k1; exact DataW.trod_lt m _ _ _ hm
  obtain ⟨l1, ⟨A1, c1, e1, hc1, hC1⟩, q1⟩ := open_arg (o_slice Try.underlying23 (by kernel_rfl) (o_int Try.underlying5)) h1
  obtain ⟨_, _, _, z1⟩ := okWide_slice Try.underlying23 (hval 1 23 v1 rfl rfl)
  obtain rfl : v1 = .slice A1 l1.length c1 := by subst z1; simpa [Value.cells] using e1
  have y1 := sized_any hsz (j := 1) (t := 23) rfl rfl Try.underlying23 h1
  have k2 := h2
  have lt2 : ∀ x ∈ p2, x.block < W.heap.size := by obtain ⟨m, hm⟩ := k2; exact DataW.trod_lt m _ _ _ hm
  obtain ⟨l2, ⟨A2, c2, e2, hc2, hC2⟩, q2⟩ := open_arg (o_slice Try.underlying23 (by kernel_rfl) (o_int Try.underlying5)) h2
  obtain ⟨_, _, _, z2⟩ := okWide_slice Try.underlying23 (hval 2 23 v2 rfl rfl)
  obtain rfl : v2 = .slice A2 l2.length c2 := by subst z2; simpa [Value.cells] using e2
  have y2 := sized_any hsz (j := 2) (t := 23) rfl rfl Try.underlying23 h2
  have k3 := h3
  have lt3 : ∀ x ∈ p3, x.block < W.heap.size := by obtain ⟨m, hm⟩ := k3; exact DataW.trod_lt m _ _ _ hm
  obtain ⟨l3, ⟨A3, c3, e3, hc3, hC3⟩, q3⟩ := open_arg (o_slice Try.underlying62 (by kernel_rfl) (o_int Try.underlying3)) h3
  obtain ⟨_, _, _, z3⟩ := okWide_slice Try.underlying62 (hval 3 62 v3 rfl rfl)
  obtain rfl : v3 = .slice A3 l3.length c3 := by subst z3; simpa [Value.cells] using e3
  have y3 := sized_any hsz (j := 3) (t := 62) rfl rfl Try.underlying62 h3
  clear hA0 hval0
  refine (back_any (w := W) (a0 := a0) hC1 hc1 hC2 hc2 hC3 hc3 (fun x hx => by have := bounds_u8 (q1.2 x hx); omega) (fun x hx => by have := bounds_u8 (q2.2 x hx); omega) (fun x hx => by have := bounds_i64 (q3.2 x hx); omega)).mono fun e W' ⟨he, bel⟩ => ?_
  subst he
  exact ⟨_, rfl, _, _, _, [], _, [], hW', trodAll_mk1 (shut_bool Try.underlying4 _), (trodAll_cons_mk (shut_int Try.underlying22 w0) (trodAll_cons_mk (Below.trod laidOut (by kernel_rfl) (of_decide_eq_true (by kernel_rfl)) k1 bel lt1) (trodAll_cons_mk (Below.trod laidOut (by kernel_rfl) (of_decide_eq_true (by kernel_rfl)) k2 bel lt2) (trodAll_cons_mk (Below.trod laidOut (by kernel_rfl) (of_decide_eq_true (by kernel_rfl)) k3 bel lt3) trodAll_mk0)))), rfl, bel.frame _, fun h => by cases h⟩
theorem over : Rows.fragBackRow.holds Try.pinned (OpenSpec.ofChange Rows.fragBackSpec) :=
  OpenClaim.holds_of_wide 7 Try.f7 rfl rfl rfl rfl rfl rfl rfl ⟨rfl, rfl, rfl, rfl, rfl⟩ rfl rfl rfl rfl rfl (by kernel_rfl) Try.func7 (by kernel_rfl)
    (of_decide_eq_true (by kernel_rfl)) (by unfold Func.isWrapper; first | (rw [if_pos (by decide +kernel)]; kernel_rfl) | (rw [if_neg (by decide +kernel)]; exact ⟨rfl, rfl⟩))
    (fun os started H enc _ => lifted os started H enc)
#print axioms over
end Go.Proofs.Ytdklanenmihpdaa.RowFragBack
namespace Go.Proofs.Ytdklanenmihpdaa
theorem fragBack_holds : Rows.FragBackSaid := RowFragBack.over
end Go.Proofs.Ytdklanenmihpdaa
