/- Texts of this claim, put together. -/
import Derived.Test.YtdklanenmihpdaaMFPb
import Derived.Test.YtdklanenmihpdaaProg
import Derived.Below
import Derived.Deep.Draws
import Derived.Deep.AppendLies
import Derived.Maps.AppendAt
import Derived.OwnWalk
import Derived.Laws.BytesArg
import Derived.Laws.MakeOwn
import Derived.Laws.OwnMore
import Derived.Deep.OwnRows
import Derived.Tactics
import Derived.Lib.ConvBytes
import Derived.Laws.Slices
import Derived.WalkKit
import Derived.KernelRfl
import Derived.RowKit3
import Derived.Deep.LoopGhost
import Derived.Deep.QuietTactic
import Derived.BigQuiet
import Derived.WideLaws
import Derived.Deep.DeepCutAuto
import Derived.Deep.CutBlock
import Derived.Deep.RegionHeld3
import Derived.Laws.Rows
import Derived.Lib.AppendStr
import Derived.ArgAppend
import Derived.Laws.IdiomCopy
import Derived.OrdersHeld
import Derived.Laws.BitsLemmas
import Derived.RowKit
import Derived.Test.YtdklanenmihpdaaMFPWWords
import Derived.Test.YtdklanenmihpdaaMFPWLast
import Derived.Test.YtdklanenmihpdaaMFPWApart
import Derived.Test.YtdklanenmihpdaaMFPWFoot
import Derived.Test.YtdklanenmihpdaaMFPWShare
import Derived.Test.YtdklanenmihpdaaMFPWN
import Derived.Laws.StructEq
import Derived.Test.YtdklanenmihpdaaMFPWRepsOne
import Derived.Test.YtdklanenmihpdaaMFPWNEv
import Derived.Test.YtdklanenmihpdaaMFPWMore
import Derived.StillTailTactics
import Derived.Deep.CutRange
set_option linter.unusedVariables false
set_option linter.unusedSimpArgs false
namespace Go.Proofs.Ytdklanenmihpdaa.Hand
open Go.RowKit Go.Maps Go.Proofs.YtdklanenmihpdaaW.PrintWords Go.Proofs.YtdklanenmihpdaaW.PrintLast Go.Proofs.Ytdklanenmihpdaa.PA
def takeV (id cnt : Int) (ps : List (List Int)) (pid : Int) (pat pn : Nat) (b : List Int) : Option ((Int × Int × List (List Int)) × (List Int × Bool)) :=
  if pid < id then some ((id, cnt, ps), ([], false))
  else if id < pid then
    some ((pid, (pn : Int), (List.replicate pn noP).set pat b), if haveN ((List.replicate pn noP).set pat b) < pn then ([], false) else (((List.replicate pn noP).set pat b).flatten, true))
  else if (pn : Int) = cnt ∧ ps.getD pat noP = noP then
    some ((id, cnt, ps.set pat b), if haveN (ps.set pat b) < ps.length then ([], false) else ((ps.set pat b).flatten, true))
  else if (pn : Int) = cnt ∧ ps.getD pat noP = b then some ((id, cnt, ps.set pat b), ([], false))
  else none
def TakePost (w : World) (own : Nat → Prop) (g : Nat) (st : Int × Int × List (List Int)) : Option ((Int × Int × List (List Int)) × (List Int × Bool)) → Ending → World → Prop
  | some (st', m, x), e, w' => GatAt w' own g st'.1 st'.2.1 st'.2.2 ∧ Mu own w w' ∧ ∃ v, e = .returned (.tuple #[v, .bool x]) ∧ Kd.R (Kd.int .u8) 5 w' w.heap.size (fun _ => True) v m
  | none, e, w' => GatAt w' own g st.1 st.2.1 st.2.2 ∧ Mu own w w' ∧ e = .panicked fstopR
theorem cell_of_heap {w w' : World} {g j : Nat} (h : w'.heap[g]? = w.heap[g]?) : w'.cell? ⟨g, j, none⟩ = w.cell? ⟨g, j, none⟩ := by simp only [World.cell?, h]
set_option maxRecDepth 100000
structure St (w1 : World) (g : Nat) (v0 v1 v2 : Value) (n : Nat) (W : World) : Prop where
  at_ : W.heap[g]? = some (.cells #[v0, v1, v2] 85 (0, 0))
  size : W.heap.size = w1.heap.size + n
  lt : g < w1.heap.size
  mu : Mu (· = g) w1 W
  new : n = 1 → W.heap[w1.heap.size]? = some (.map #[] 0)
theorem St.drew {w1 W : World} {g n : Nat} {a b c : Value} (h : St w1 g a b c n W) : St w1 g a b c n W.drew := ⟨h.at_, h.size, h.lt, h.mu.drew, h.new⟩
theorem St.drewN {w1 W : World} {g n : Nat} {a b c : Value} (h : St w1 g a b c n W) (k : Nat) : St w1 g a b c n (W.drewN k) := ⟨h.at_, h.size, h.lt, h.mu.drewN k, h.new⟩
theorem St.alloc {w1 W : World} {g : Nat} {a b c : Value} (h : St w1 g a b c 0 W) : St w1 g a b c 1 (W.alloc (.map #[] 0)) :=
  ⟨(Below.heap_alloc _ _ _ (by rw [h.size]; have := h.lt; omega)).trans h.at_, by simp [h.size], h.lt, h.mu.alloc _, fun _ => by have := alloc_new W (.map #[] 0); rwa [h.size] at this⟩
theorem set3 {w : World} {g t : Nat} {a b c x : Value} (j : Nat) (h : w.heap[g]? = some (.cells #[a, b, c] t (0, 0))) : (w.setCell ⟨g, j, none⟩ x).heap[g]? = some (.cells (#[a, b, c].setIfInBounds j x) t (0, 0)) := by
  obtain ⟨hlt, hk⟩ := Array.getElem?_eq_some_iff.1 h
  show (w.heap.modify g _)[g]? = _
  rw [Array.getElem?_eq_getElem (by rw [Array.size_modify]; exact hlt), Array.getElem_modify_self, hk]
  rfl
theorem St.set_ {w1 W : World} {g n : Nat} {a b c x a' b' c' : Value} (j : Nat) (hj : #[a, b, c].setIfInBounds j x = #[a', b', c']) (h : St w1 g a b c n W) : St w1 g a' b' c' n (W.setCell ⟨g, j, none⟩ x) :=
  ⟨by rw [set3 j h.at_, hj], by simpa [World.setCell] using h.size, h.lt, h.mu.setCell (p := ⟨g, j, none⟩) (fun _ => rfl) _, fun hn => (Below.heap_setCell _ _ _ _ (by show w1.heap.size ≠ g; have := h.lt; omega)).trans (h.new hn)⟩
theorem St.set0 {w1 W : World} {g n : Nat} {a b c x : Value} (h : St w1 g a b c n W) : St w1 g x b c n (W.setCell ⟨g, 0, none⟩ x) := h.set_ 0 rfl
theorem St.set1 {w1 W : World} {g n : Nat} {a b c x : Value} (h : St w1 g a b c n W) : St w1 g a x c n (W.setCell ⟨g, 1, none⟩ x) := h.set_ 1 rfl
theorem St.set2 {w1 W : World} {g n : Nat} {a b c x : Value} (h : St w1 g a b c n W) : St w1 g a b x n (W.setCell ⟨g, 2, none⟩ x) := h.set_ 2 rfl
theorem exec_storeF {P : Program} {w w' : World} {ev : Operand → Value} {o : Oper} {t : TypeId} {x y : Operand} {u v : Value} (ho : o.op = .store t x y) (hx : ev x = u) (hy : ev y = v) (hr : (Instr.storeAt t u v).run P w = .ok () w') : (execOp ev o).run P w = .ok .skip w' := by
  unfold execOp
  simp only [ho, hx, hy, Sem.run_bind, hr, Result.andThen_ok, Sem.run_pure]
theorem exec_makeF {P : Program} {w : World} {ev : Operand → Value} {o : Oper} {t : TypeId} {n : Nat} (ho : o.op = .makeMap t none) (hs : w.heap.size = n) : (execOp ev o).run P w = .ok (.value (.map (some n))) (w.alloc (.map #[] 0)) := by
  subst hs
  unfold execOp
  simp only [ho]
  rfl
theorem St.st0 {w1 W : World} {g n : Nat} {a b c : Value} (x : Int) (h : St w1 g a b c n W) : (Instr.storeAt 22 (.pointer (some ⟨g, 0, none⟩)) (.int .u64 x)).run Try.prog W = .ok () (W.setCell ⟨g, 0, none⟩ (.int .u64 x)) := by
  have c := blk_cell h.at_ 0
  have f := blk_frozen h.at_ 0
  simp [go_sem, c, f]
theorem St.st1 {w1 W : World} {g n : Nat} {a b c : Value} (x : Int) (h : St w1 g a b c n W) : (Instr.storeAt 3 (.pointer (some ⟨g, 1, none⟩)) (.int .i64 x)).run Try.prog W = .ok () (W.setCell ⟨g, 1, none⟩ (.int .i64 x)) := by
  have c := blk_cell h.at_ 1
  have f := blk_frozen h.at_ 1
  simp [go_sem, c, f]
theorem St.st2 {w1 W : World} {g n : Nat} {a b c : Value} (m : Option Nat) (h : St w1 g a b c n W) : (Instr.storeAt 83 (.pointer (some ⟨g, 2, none⟩)) (.map m)).run Try.prog W = .ok () (W.setCell ⟨g, 2, none⟩ (.map m)) := by
  have c := blk_cell h.at_ 2
  have f := blk_frozen h.at_ 2
  simp [go_sem, c, f]
theorem exec_updF {P : Program} {w w' : World} {ev : Operand → Value} {o : Oper} {t : TypeId} {m x y : Operand} {a u v : Value} (ho : o.op = .mapUpdate t m x y) (hm : ev m = a) (hx : ev x = u) (hy : ev y = v) (hr : (Instr.mapUpdate t a u v).run P w = .ok () w') : (execOp ev o).run P w = .ok .skip w' := by
  unfold execOp
  simp only [ho, hm, hx, hy, Sem.run_bind, hr, Result.andThen_ok, Sem.run_pure]
section
variable {P : Program} {ops : Array Oper} {Q : Exit → Act → World → Prop}
theorem goesP_ {oi : Oper} {N : Option Tmp} {a : Act} {w : World} {K : Act → World → Prop} {f : FuncId} {fn : Func} {xs_ : Array Operand} {ts : Array TypeId} (hf : P.funcs[f]? = some fn) (hname : (fn.name == "runtime.NumGoroutine") = false) (hb : fn.body.isSome = true) (args : Array Value)
    (hw : Region.wanted oi (yielded ops a.tmps) = true) (hN : oi.dst = N) (hop : oi.op = .call { callee := .value (.func f), args := xs_, argTypes := ts }) (hargs : xs_.map a.eval = args)
    (h : Calls P f args w fun e w' => ∃ c, e = .panicked c ∧ Q (.panic c) a w') : if Region.wanted oi (yielded ops a.tmps) = true then Oper.wp P oi a w K Q else K (a.put N undef) w := by
  have he := enters_ hf hname hb args w
  have hrun : (execOp a.eval oi).run P w = .ok (.enter f args) w := by
    unfold execOp
    simp [hop, resolve, Deferred.ofValue, invoke, Act.eval, hargs, he]
  rw [if_pos hw]
  unfold Oper.wp
  rw [hrun, Oper.upon_enter]
  refine h.mono fun e w'' hh => ?_
  obtain ⟨c, rfl, hk⟩ := hh
  exact hk
end
structure Tl (w0 : World) (own : Nat → Prop) (g B pb : Nat) (id : Int) (ps : List (List Int)) (o : Obj) (A9 : Option Addr) (bb : List Int) (W : World) : Prop where
  at_ : W.heap[g]? = some (gatO id (ps.length : Int) (some B))
  pb_ : W.heap[pb]? = some o
  map : MapAt W own g B ps
  mu : Mu own w0 W
  F : Kd.F (Kd.int .u8) W (fun k => own k ∧ k ≠ g ∧ k ≠ B) A9 bb.length bb
section
variable {w0 W W' : World} {own : Nat → Prop} {g B pb : Nat} {id : Int} {ps : List (List Int)} {o : Obj} {A9 : Option Addr} {bb : List Int}
theorem Tl.below (h : Tl w0 own g B pb id ps o A9 bb W) (hb : Below W.heap.size W W') : Tl w0 own g B pb id ps o A9 bb W' :=
  ⟨(Mu.of_below hb (fun _ => False)).heap h.at_ (fun h => h), (Mu.of_below hb (fun _ => False)).heap h.pb_ (fun h => h), h.map.step (fun k _ _ hl => hb.block k hl), h.mu.trans (Mu.of_below hb own), Kd.F_below h.F hb⟩
theorem Tl.drewN (h : Tl w0 own g B pb id ps o A9 bb W) (m : Nat) : Tl w0 own g B pb id ps o A9 bb (W.drewN m) := h.below (pw_below_drewN (Below.refl _ _) m)
theorem Tl.drew (h : Tl w0 own g B pb id ps o A9 bb W) : Tl w0 own g B pb id ps o A9 bb W.drew := h.below (below_drew (Below.refl _ _))
theorem Tl.none_ (h : Tl w0 own g B pb id ps o A9 bb W) {i : Nat} (hi : i < ps.length) (hp : ps.getD i noP = noP) : ∀ m, (Instr.lookup 83 (.map (some B)) (.int .i64 (i : Int)) true).run Try.prog (W.drewN m) = .ok (.tuple #[.slice none 0 0, .bool false]) (W.drewN m) := by
  intro m
  have hbig := h.map.big
  obtain ⟨D, ho, _, hs⟩ := h.map.map
  have h2 := hs i hi
  rw [hp] at h2
  exact look_none (by omega) h2 _ _ (ownsMap_move (w' := W.drewN m) ho rfl)
theorem Tl.part (h : Tl w0 own g B pb id ps o A9 bb W) {i : Nat} (hi : i < ps.length) (hp : ps.getD i noP ≠ noP) :
    ∃ A c, (∀ m, (Instr.lookup 83 (.map (some B)) (.int .i64 (i : Int)) true).run Try.prog (W.drewN m) = .ok (.tuple #[.slice A (ps.getD i noP).length c, .bool true]) (W.drewN m)) ∧
      (Instr.lookup 83 (.map (some B)) (.int .i64 (i : Int)) false).run Try.prog W = .ok (.slice A (ps.getD i noP).length c) W ∧ (ps.getD i noP).length ≤ c ∧ Kd.C (Kd.int .u8) W A (ps.getD i noP).length (ps.getD i noP) ∧ (∀ x ∈ ps.getD i noP, 0 ≤ x ∧ x < 256) ∧ (ps.getD i noP).length ≤ 256 := by
  have hbig := h.map.big
  obtain ⟨D, ho, _, hs⟩ := h.map.map
  obtain ⟨A, c, h1, h2, h3, h4, h5⟩ := look_some (by omega) (hs i hi) hp
  exact ⟨A, c, fun m => h1 _ _ (ownsMap_move (w' := W.drewN m) ho rfl), h2 _ _ ho, h3, Kd.F_now h4, h5⟩
theorem Tl.any_ (h : Tl w0 own g B pb id ps o A9 bb W) {i : Nat} (hi : i ≤ 4096) : ∃ v x, ∀ m, (Instr.lookup 83 (.map (some B)) (.int .i64 (i : Int)) true).run Try.prog (W.drewN m) = .ok (.tuple #[v, .bool x]) (W.drewN m) := by
  obtain ⟨D, ho, _, hs⟩ := h.map.map
  obtain ⟨v, x, hr⟩ := look_any (b := B) (D := D) hi
  exact ⟨v, x, fun m => hr _ _ (ownsMap_move (w' := W.drewN m) ho rfl)⟩
theorem Tl.len (h : Tl w0 own g B pb id ps o A9 bb W) (ty : TypeId) : ∀ m, (Builtin.len_ #[83] ty #[.map (some B)]).run Try.prog (W.drewN m) = .ok (.int .i64 (haveN ps)) (W.drewN m) :=
  fun m => map_len (h.drewN m).map ty
theorem Tl.store (h : Tl w0 own g B pb id ps o A9 bb W) (hne : pb ≠ B) {i : Nat} (hi : i < ps.length) {c : Nat} (hb : ∀ x ∈ bb, 0 ≤ x ∧ x < 256) (hb2 : bb.length ≤ 256) (hc : bb.length ≤ c) :
    ∃ W', (Instr.mapUpdate 83 (.map (some B)) (.int .i64 (i : Int)) (.slice A9 bb.length c)).run Try.prog W = .ok () W' ∧ Tl w0 own g B pb id (ps.set i bb) o A9 bb W' := by
  obtain ⟨W', hr, hm, hg⟩ := map_store h.map hi hb hb2 hc h.F
  refine ⟨W', hr, ?_, ?_, hm, ?_, ?_⟩
  · rw [List.length_set]; exact (hg.block g (heap_lt h.at_) (by have := h.map.ne; simp; omega)).trans h.at_
  · exact (hg.block pb (heap_lt h.pb_) (by simp; omega)).trans h.pb_
  · exact h.mu.trans ⟨hg.os, hg.tape, hg.output, hg.size, fun k hk hn => hg.block k hk (fun e => by injection e with e; exact hn (e ▸ h.map.mine))⟩
  · exact Kd.F_step h.F (fun k hk hl => hg.block k hl (by have := hk.2.2; simp; omega))
theorem Tl.gat (h : Tl w0 own g B pb id ps o A9 bb W) (hg : own g) (hid : 1 ≤ id) : GatAt W own g id (ps.length : Int) ps := ⟨hg, .inr ⟨hid, rfl, B, h.at_, h.map⟩⟩
end
theorem have_all : ∀ (ps : List (List Int)), ¬ haveN ps < ps.length → ∀ i, i < ps.length → ps.getD i noP ≠ noP
  | [], _, i, hi => by simp at hi
  | p :: ps, h, 0, _ => by
    intro e
    rw [List.getD_cons_zero] at e
    have := haveN_le ps
    unfold haveN at h
    rw [if_pos e, List.length_cons] at h
    omega
  | p :: ps, h, i + 1, hi => by
    rw [List.getD_cons_succ]
    refine have_all ps (fun h2 => h ?_) i (by simpa using hi)
    unfold haveN
    rw [List.length_cons]
    split <;> omega
theorem flat_take (ps : List (List Int)) (i : Nat) (hi : i < ps.length) : (ps.take (i + 1)).flatten = (ps.take i).flatten ++ ps.getD i noP := by
  have e : ((some ps[i]).toList).flatten = ps[i] := by simp
  rw [List.take_add_one, List.getElem?_eq_getElem hi, List.getD_eq_getElem?_getD, List.getElem?_eq_getElem hi, List.flatten_append, e]
  rfl
theorem map_at_new {w : World} {own : Nat → Prop} {g b n : Nat} (hb : w.heap[b]? = some (.map #[] 0)) (hn : n ≤ 4096) (ho : own b) (hg : b ≠ g) : MapAt w own g b (List.replicate n noP) := by
  refine ⟨by rw [List.length_replicate]; exact hn, ho, hg, .map [], ?_, by rw [haveN_none]; rfl, fun i hi => .inl ⟨?_, rfl⟩⟩
  · obtain ⟨es, clock, h1, r⟩ := World.ownsMap_made (H := Value) w Try.prog 3 heldE
    have h2 := alloc_new w (.map #[] 0)
    rw [h2] at h1
    injection h1 with h1
    injection h1 with h1 h3
    subst h1 h3
    exact ⟨_, _, hb, r⟩
  · rw [List.length_replicate] at hi
    rw [List.getD_eq_getElem?_getD, List.getElem?_replicate, if_pos hi]; rfl
theorem equal_bytesF {a b : List Int} (ha : ∀ x ∈ a, 0 ≤ x ∧ x < 256) (hb : ∀ x ∈ b, 0 ≤ x ∧ x < 256) : bytes_Equal.f a b = some (decide (a = b)) := by
  unfold bytes_Equal.f
  rw [Lib.strOfNums_toList, Lib.strOfNums_toList]
  by_cases h : a = b
  · rw [h]; simp
  · rw [decide_eq_false h]
    congr 1
    rw [beq_eq_false_iff_ne]
    exact fun e => h (bytesOf_inj ha hb e)
set_option maxHeartbeats 4000000 in
theorem takes_lt {w : World} {own : Nat → Prop} {g : Nat} {id cnt : Int} {ps : List (List Int)} (hG : GatAt w own g id cnt ps) (hnew : ∀ k, w.heap.size ≤ k → own k) (pid : Int) (pat pn : Nat) (hid : 1 ≤ pid ∧ pid ≤ 4611686018427387904) (hpat : pat < pn) (hpn : pn ≤ 4096)
    {A9 : Option Addr} {c9 : Nat} {bb : List Int} (hbb : ∀ x ∈ bb, 0 ≤ x ∧ x < 256) (hc9 : bb.length ≤ c9) (hl9 : bb.length ≤ 256) (hF : Kd.F (Kd.int .u8) w (fun k => own k ∧ k ≠ g ∧ ∀ i c b, w.heap[g]? = some (gatO i c (some b)) → k ≠ b) A9 bb.length bb) (hlt : pid < id) :
    Calls Try.prog 51 #[.pointer (some ⟨g, 0, none⟩), .agg #[.int .u64 pid, .int .i64 (pat : Int), .int .i64 (pn : Int), .slice A9 bb.length c9]] w (TakePost w own g (id, cnt, ps) (takeV id cnt ps pid pat pn bb)) := by
  obtain ⟨R, hR⟩ : ∃ R, takeV id cnt ps pid pat pn bb = R := ⟨_, rfl⟩
  rw [hR]
  have hRv : R = some ((id, cnt, ps), ([], false)) := by rw [← hR]; unfold takeV; rw [if_pos hlt]
  obtain ⟨b, hg⟩ : ∃ m, w.heap[g]? = some (gatO id cnt m) := by
    rcases hG.2 with ⟨h1, _, _, _⟩ | ⟨_, _, b, h, _⟩
    · omega
    · exact ⟨_, h⟩
  have hb1 : Below w.heap.size w (w.alloc (partO pid pat pn (.slice A9 bb.length c9))) := below_alloc (Below.refl _ _) _
  have hp1 : (w.alloc (partO pid pat pn (.slice A9 bb.length c9))).heap[w.heap.size]? = some (partO pid pat pn (.slice A9 bb.length c9)) := alloc_new _ _
  have hg1 := (Mu.of_below hb1 (fun _ => False)).heap hg (fun h => h)
  have x0 := blk_cell hp1 0
  have y0 := blk_cell hg1 0
  have d1 : decide (pid < id) = true := decide_eq_true hlt
  have HG := Aside0.mk (And.intro hG hb1)
  have HRV := Aside0.mk hRv
  clear hRv hR hG hnew hid hpat hpn hF hb1 hp1 hg hg1 hlt
  go_enter Try.func51, Try.ntmps51
  go_wp2_with fail
  go_quiet (fail)
  go_wp2_with fail
  go_ret2
  rw [HRV.out]
  refine ⟨(HG.out.1.below HG.out.2).below (pw_below_drewN (Below.refl _ _) _), (Mu.of_below HG.out.2 own).drewN _, _, rfl, Kd.R_nil _ _ _ _ _⟩
set_option maxHeartbeats 4000000 in
theorem takes_gt {w : World} {own : Nat → Prop} {g : Nat} {id cnt : Int} {ps : List (List Int)} (hG : GatAt w own g id cnt ps) (hnew : ∀ k, w.heap.size ≤ k → own k) (pid : Int) (pat pn : Nat) (hid : 1 ≤ pid ∧ pid ≤ 4611686018427387904) (hpat : pat < pn) (hpn : pn ≤ 4096)
    {A9 : Option Addr} {c9 : Nat} {bb : List Int} (hbb : ∀ x ∈ bb, 0 ≤ x ∧ x < 256) (hc9 : bb.length ≤ c9) (hl9 : bb.length ≤ 256) (hF : Kd.F (Kd.int .u8) w (fun k => own k ∧ k ≠ g ∧ ∀ i c b, w.heap[g]? = some (gatO i c (some b)) → k ≠ b) A9 bb.length bb) (hlt : id < pid) :
    Calls Try.prog 51 #[.pointer (some ⟨g, 0, none⟩), .agg #[.int .u64 pid, .int .i64 (pat : Int), .int .i64 (pn : Int), .slice A9 bb.length c9]] w (TakePost w own g (id, cnt, ps) (takeV id cnt ps pid pat pn bb)) := by
  obtain ⟨R, hR⟩ : ∃ R, takeV id cnt ps pid pat pn bb = R := ⟨_, rfl⟩
  rw [hR]
  obtain ⟨m, hg⟩ : ∃ m, w.heap[g]? = some (gatO id cnt m) := by
    rcases hG.2 with ⟨h1, h2, _, h⟩ | ⟨_, _, b, h, _⟩
    · subst h1 h2; exact ⟨_, h⟩
    · exact ⟨_, h⟩
  obtain ⟨w1, hw1⟩ : ∃ w1, w.alloc (partO pid pat pn (.slice A9 bb.length c9)) = w1 := ⟨_, rfl⟩
  have hb1 : Below w.heap.size w w1 := by rw [← hw1]; exact below_alloc (Below.refl _ _) _
  have hp1 : w1.heap[w.heap.size]? = some (partO pid pat pn (.slice A9 bb.length c9)) := by rw [← hw1]; exact alloc_new _ _
  have hs1 : w1.heap.size = w.heap.size + 1 := by rw [← hw1]; simp
  have hg1 := (Mu.of_below hb1 (fun _ => False)).heap hg (fun h => h)
  have hgl : g < w.heap.size := heap_lt hg
  have x0 := blk_cell hp1 0
  have y0 := blk_cell hg1 0
  have y1 := blk_cell hg1 1
  have y2 := blk_cell hg1 2
  have z0 := blk_frozen hg1 0
  have z1 := blk_frozen hg1 1
  have z2 := blk_frozen hg1 2
  have x2 := blk_cell hp1 2
  have d1 : decide (pid < id) = false := decide_eq_false (by omega)
  have d2 : decide (id < pid) = true := decide_eq_true hlt
  have hne : g ≠ w.heap.size := by omega
  have HST : Aside0 (St w1 g (.int .u64 id) (.int .i64 cnt) (.map m) 0 w1) := ⟨⟨hg1, rfl, by omega, Mu.refl _ _, fun h => by cases h⟩⟩
  have HG := Aside0.mk (And.intro hG (And.intro hb1 (And.intro hs1 (And.intro hgl hp1))))
  have HW1 := Aside0.mk hw1
  have HN := Aside0.mk (And.intro hnew (And.intro hid (And.intro hpat hpn)))
  have HF := Aside0.mk hF
  have HBB := Aside0.mk (And.intro hbb (And.intro hc9 hl9))
  have HR := Aside0.mk hR
  have HM := Aside0.mk hg
  clear hR hG hnew hid hpat hpn hF hb1 hp1 hg1 hg hs1 hlt hbb hc9 hl9 hw1 hgl
  go_enter Try.func51, Try.ntmps51
  go_upto_region 1 with fail
  rw [HW1.out]
  go_quiet (fail)
  go_wp2_with fail
  go_quiet (fail)
  go_wp2_with fail
  generalize hW3 : (w1.drewN _).drewN _ = W3
  have HNE : Aside0 (¬ (w.heap.size = g)) := ⟨fun e => hne e.symm⟩
  have HS_ : Aside0 (St w1 g (.int .u64 id) (.int .i64 cnt) (.map m) 0 W3.drew) := ⟨by rw [← hW3]; exact ((HST.out.drewN _).drewN _).drew⟩
  clear hW3
  refine start_ (n := 17) (S := fun w' => w'.cell? ⟨w.heap.size, 0, none⟩ = some (.int .u64 pid) ∧ w'.cell? ⟨w.heap.size, 2, none⟩ = some (.int .i64 (pn : Int))) (ds := [16]) #[false, false, false, false, false, false, false, false, false, false, false, false, false, false, false, false, false] (by kernel_rfl) rfl rfl ⟨(blk_cell (HS_.out.mu.heap HG.out.2.2.2.2 HNE.out) 0), (blk_cell (HS_.out.mu.heap HG.out.2.2.2.2 HNE.out) 2)⟩ (fun hHeld => ?_)
  refine pure_ (i := 0) (N := some 24) (v := ?_) (a' := ?_) #[true, false, false, false, false, false, false, false, false, false, false, false, false, false, false, false, false] rfl rfl (by kernel_rfl) (fun _ _ _ h => h) (Or.inl ⟨by rfl, ?_⟩) ?_ ?_
  rotate_left
  · intro w'
    go_simp
    with_reducible rfl
  rotate_left
  · simp only [Act.put, List.setIfInBounds_toArray, List.set_cons_zero, List.set_cons_succ, i64_w, i32_w]
    rfl
  refine pure_ (i := 1) (N := some 25) (v := ?_) (a' := ?_) #[true, true, false, false, false, false, false, false, false, false, false, false, false, false, false, false, false] rfl rfl (by kernel_rfl) (fun _ _ _ h => h) (Or.inl ⟨by rfl, ?_⟩) ?_ ?_
  rotate_left
  · intro w'
    go_simp
    with_reducible rfl
  rotate_left
  · simp only [Act.put, List.setIfInBounds_toArray, List.set_cons_zero, List.set_cons_succ, i64_w, i32_w]
    rfl
  refine pure_ (i := 2) (N := some 26) (v := ?_) (a' := ?_) #[true, true, true, false, false, false, false, false, false, false, false, false, false, false, false, false, false] rfl rfl (by kernel_rfl) (fun _ _ _ h => h) (Or.inl ⟨by rfl, ?_⟩) ?_ ?_
  rotate_left
  · intro w'
    go_simp
    with_reducible rfl
  rotate_left
  · simp only [Act.put, List.setIfInBounds_toArray, List.set_cons_zero, List.set_cons_succ, i64_w, i32_w]
    rfl
  refine pure_ (i := 3) (N := some 27) (v := ?_) (a' := ?_) #[true, true, true, true, false, false, false, false, false, false, false, false, false, false, false, false, false] rfl rfl (by kernel_rfl) (fun _ _ _ h => h) (Or.inl ⟨by rfl, ?_⟩) ?_ ?_
  rotate_left
  · intro w'
    go_simp
    with_reducible rfl
  rotate_left
  · simp only [Act.put, List.setIfInBounds_toArray, List.set_cons_zero, List.set_cons_succ, i64_w, i32_w]
    rfl
  refine pure_ (i := 5) (N := some 29) (v := ?_) (a' := ?_) #[true, true, true, true, false, true, false, false, false, false, false, false, false, false, false, false, false] rfl rfl (by kernel_rfl) (fun _ _ _ h => h) (Or.inl ⟨by rfl, ?_⟩) ?_ ?_
  rotate_left
  · intro w'
    go_simp
    with_reducible rfl
  rotate_left
  · simp only [Act.put, List.setIfInBounds_toArray, List.set_cons_zero, List.set_cons_succ, i64_w, i32_w]
    rfl
  refine take_ (i := 4) (N := some 28) (v := ?_) (a' := ?_) #[true, true, true, true, true, true, false, false, false, false, false, false, false, false, false, false, false] rfl rfl (by kernel_rfl) (fun _ _ _ h => h) (Or.inl ⟨by rfl, ?_⟩) hHeld ?_ ?_
  rotate_left
  · rintro w' ⟨s0, s1⟩
    go_simp
    with_reducible rfl
  rotate_left
  · simp only [Act.put, List.setIfInBounds_toArray, List.set_cons_zero, List.set_cons_succ, i64_w, i32_w]
    rfl
  refine pure_ (i := 8) (N := some 32) (v := ?_) (a' := ?_) #[true, true, true, true, true, true, false, false, true, false, false, false, false, false, false, false, false] rfl rfl (by kernel_rfl) (fun _ _ _ h => h) (Or.inl ⟨by rfl, ?_⟩) ?_ ?_
  rotate_left
  · intro w'
    go_simp
    with_reducible rfl
  rotate_left
  · simp only [Act.put, List.setIfInBounds_toArray, List.set_cons_zero, List.set_cons_succ, i64_w, i32_w]
    rfl
  refine pure_ (i := 9) (N := some 33) (v := ?_) (a' := ?_) #[true, true, true, true, true, true, false, false, true, true, false, false, false, false, false, false, false] rfl rfl (by kernel_rfl) (fun _ _ _ h => h) (Or.inl ⟨by rfl, ?_⟩) ?_ ?_
  rotate_left
  · intro w'
    go_simp
    with_reducible rfl
  rotate_left
  · simp only [Act.put, List.setIfInBounds_toArray, List.set_cons_zero, List.set_cons_succ, i64_w, i32_w]
    rfl
  refine take_ (i := 6) (N := some 30) (v := ?_) (a' := ?_) #[true, true, true, true, true, true, true, false, true, true, false, false, false, false, false, false, false] rfl rfl (by kernel_rfl) (fun _ _ _ h => h) (Or.inl ⟨by rfl, ?_⟩) hHeld ?_ ?_
  rotate_left
  · rintro w' ⟨s0, s1⟩
    go_simp
    with_reducible rfl
  rotate_left
  · simp only [Act.put, List.setIfInBounds_toArray, List.set_cons_zero, List.set_cons_succ, i64_w, i32_w]
    rfl
  refine join_ (σ := Unit) 3 #[true, true, true, true, true, true, true, true, true, true, true, true, true, true, false, false, false] (fun _ => [(31, .map (some (w.heap.size + 1))), (34, .pointer (some ⟨g, 0, none⟩)), (35, .pointer (some ⟨g, 1, none⟩))]) (fun _ w' => St w1 g (.int .u64 pid) (.int .i64 (pn : Int)) (.map m) 1 w') ?_ ?_
  rotate_left
  · intro hCont
    refine two_ (i := 7) (j := 10) (Ni := some 31) (Nj := none) #[true, true, true, true, true, true, true, true, true, true, false, false, false, false, false, false, false] #[true, true, true, true, true, true, true, false, true, true, true, false, false, false, false, false, false] rfl rfl rfl rfl (by kernel_rfl) (by decide) (by decide) (fun K hK => ?_) (fun K hK => ?_)
    · skip
      refine value_ (by rfl) rfl (exec_makeF (n := w.heap.size + 1) rfl (by rw [HS_.out.size]; exact HG.out.2.2.1)) ?_
      have HS_7 := Aside0.mk HS_.out.alloc
      refine hK.out _ _ ⟨(blk_cell (HS_7.out.mu.heap HG.out.2.2.2.2 HNE.out) 0), (blk_cell (HS_7.out.mu.heap HG.out.2.2.2.2 HNE.out) 2)⟩ (fun hHeld => ?_)
      clear hK K
      refine norm_ (a' := ?_) ?_ ?_
      rotate_left
      · show Act.put _ (some 31) _ = _
        simp only [Act.put, List.setIfInBounds_toArray, List.set_cons_zero, List.set_cons_succ, i64_w, i32_w]
        rfl
      refine one_ (i := 10) (N := none) #[true, true, true, true, true, true, true, true, true, true, true, false, false, false, false, false, false] rfl rfl (by kernel_rfl) (by decide) (fun K hK => ?_)
      refine skip_ (by rfl) rfl (exec_storeF rfl (by rfl) (by rfl) (HS_7.out.st0 pid)) ?_
      have HS_7_10 := Aside0.mk (HS_7.out.set0 (x := .int .u64 pid))
      refine hK.out _ _ ⟨(blk_cell (HS_7_10.out.mu.heap HG.out.2.2.2.2 HNE.out) 0), (blk_cell (HS_7_10.out.mu.heap HG.out.2.2.2.2 HNE.out) 2)⟩ (fun hHeld => ?_)
      clear hK K
      refine pure_ (i := 11) (N := some 34) (v := ?_) (a' := ?_) #[true, true, true, true, true, true, true, true, true, true, true, true, false, false, false, false, false] rfl rfl (by kernel_rfl) (fun _ _ _ h => h) (Or.inl ⟨by rfl, ?_⟩) ?_ ?_
      rotate_left
      · intro w'
        go_simp
        with_reducible rfl
      rotate_left
      · simp only [Act.put, List.setIfInBounds_toArray, List.set_cons_zero, List.set_cons_succ, i64_w, i32_w]
        rfl
      refine pure_ (i := 12) (N := some 35) (v := ?_) (a' := ?_) #[true, true, true, true, true, true, true, true, true, true, true, true, true, false, false, false, false] rfl rfl (by kernel_rfl) (fun _ _ _ h => h) (Or.inl ⟨by rfl, ?_⟩) ?_ ?_
      rotate_left
      · intro w'
        go_simp
        with_reducible rfl
      rotate_left
      · simp only [Act.put, List.setIfInBounds_toArray, List.set_cons_zero, List.set_cons_succ, i64_w, i32_w]
        rfl
      refine one_ (i := 13) (N := none) #[true, true, true, true, true, true, true, true, true, true, true, true, true, true, false, false, false] rfl rfl (by kernel_rfl) (by decide) (fun K hK => ?_)
      refine skip_ (by rfl) rfl (exec_storeF rfl (by rfl) (by rfl) (HS_7_10.out.st1 (pn : Int))) ?_
      have HS_7_10_13 := Aside0.mk (HS_7_10.out.set1 (x := .int .i64 (pn : Int)))
      refine hK.out _ _ ⟨(blk_cell (HS_7_10_13.out.mu.heap HG.out.2.2.2.2 HNE.out) 0), (blk_cell (HS_7_10_13.out.mu.heap HG.out.2.2.2.2 HNE.out) 2)⟩ (fun hHeld => ?_)
      clear hK K
      exact norm_ (by simp only [putAll, Act.put, List.setIfInBounds_toArray, List.set_cons_zero, List.set_cons_succ]) (hCont () _ HS_7_10_13.out)
    · skip
      refine skip_ (by rfl) rfl (exec_storeF rfl (by rfl) (by rfl) (HS_.out.st0 pid)) ?_
      have HS_10 := Aside0.mk (HS_.out.set0 (x := .int .u64 pid))
      refine hK.out _ _ ⟨(blk_cell (HS_10.out.mu.heap HG.out.2.2.2.2 HNE.out) 0), (blk_cell (HS_10.out.mu.heap HG.out.2.2.2.2 HNE.out) 2)⟩ (fun hHeld => ?_)
      clear hK K
      refine pure_ (i := 11) (N := some 34) (v := ?_) (a' := ?_) #[true, true, true, true, true, true, true, false, true, true, true, true, false, false, false, false, false] rfl rfl (by kernel_rfl) (fun _ _ _ h => h) (Or.inl ⟨by rfl, ?_⟩) ?_ ?_
      rotate_left
      · intro w'
        go_simp
        with_reducible rfl
      rotate_left
      · simp only [Act.put, List.setIfInBounds_toArray, List.set_cons_zero, List.set_cons_succ, i64_w, i32_w]
        rfl
      refine pure_ (i := 12) (N := some 35) (v := ?_) (a' := ?_) #[true, true, true, true, true, true, true, false, true, true, true, true, true, false, false, false, false] rfl rfl (by kernel_rfl) (fun _ _ _ h => h) (Or.inl ⟨by rfl, ?_⟩) ?_ ?_
      rotate_left
      · intro w'
        go_simp
        with_reducible rfl
      rotate_left
      · simp only [Act.put, List.setIfInBounds_toArray, List.set_cons_zero, List.set_cons_succ, i64_w, i32_w]
        rfl
      refine two_ (i := 7) (j := 13) (Ni := some 31) (Nj := none) #[true, true, true, true, true, true, true, true, true, true, true, true, true, false, false, false, false] #[true, true, true, true, true, true, true, false, true, true, true, true, true, true, false, false, false] rfl rfl rfl rfl (by kernel_rfl) (by decide) (by decide) (fun K hK => ?_) (fun K hK => ?_)
      · skip
        refine value_ (by rfl) rfl (exec_makeF (n := w.heap.size + 1) rfl (by rw [HS_10.out.size]; exact HG.out.2.2.1)) ?_
        have HS_10_7 := Aside0.mk HS_10.out.alloc
        refine hK.out _ _ ⟨(blk_cell (HS_10_7.out.mu.heap HG.out.2.2.2.2 HNE.out) 0), (blk_cell (HS_10_7.out.mu.heap HG.out.2.2.2.2 HNE.out) 2)⟩ (fun hHeld => ?_)
        clear hK K
        refine norm_ (a' := ?_) ?_ ?_
        rotate_left
        · show Act.put _ (some 31) _ = _
          simp only [Act.put, List.setIfInBounds_toArray, List.set_cons_zero, List.set_cons_succ, i64_w, i32_w]
          rfl
        refine one_ (i := 13) (N := none) #[true, true, true, true, true, true, true, true, true, true, true, true, true, true, false, false, false] rfl rfl (by kernel_rfl) (by decide) (fun K hK => ?_)
        refine skip_ (by rfl) rfl (exec_storeF rfl (by rfl) (by rfl) (HS_10_7.out.st1 (pn : Int))) ?_
        have HS_10_7_13 := Aside0.mk (HS_10_7.out.set1 (x := .int .i64 (pn : Int)))
        refine hK.out _ _ ⟨(blk_cell (HS_10_7_13.out.mu.heap HG.out.2.2.2.2 HNE.out) 0), (blk_cell (HS_10_7_13.out.mu.heap HG.out.2.2.2.2 HNE.out) 2)⟩ (fun hHeld => ?_)
        clear hK K
        exact norm_ (by simp only [putAll, Act.put, List.setIfInBounds_toArray, List.set_cons_zero, List.set_cons_succ]) (hCont () _ HS_10_7_13.out)
      · skip
        refine skip_ (by rfl) rfl (exec_storeF rfl (by rfl) (by rfl) (HS_10.out.st1 (pn : Int))) ?_
        have HS_10_13 := Aside0.mk (HS_10.out.set1 (x := .int .i64 (pn : Int)))
        refine hK.out _ _ ⟨(blk_cell (HS_10_13.out.mu.heap HG.out.2.2.2.2 HNE.out) 0), (blk_cell (HS_10_13.out.mu.heap HG.out.2.2.2.2 HNE.out) 2)⟩ (fun hHeld => ?_)
        clear hK K
        refine one_ (i := 7) (N := some 31) #[true, true, true, true, true, true, true, true, true, true, true, true, true, true, false, false, false] rfl rfl (by kernel_rfl) (by decide) (fun K hK => ?_)
        refine value_ (by rfl) rfl (exec_makeF (n := w.heap.size + 1) rfl (by rw [HS_10_13.out.size]; exact HG.out.2.2.1)) ?_
        have HS_10_13_7 := Aside0.mk HS_10_13.out.alloc
        refine hK.out _ _ ⟨(blk_cell (HS_10_13_7.out.mu.heap HG.out.2.2.2.2 HNE.out) 0), (blk_cell (HS_10_13_7.out.mu.heap HG.out.2.2.2.2 HNE.out) 2)⟩ (fun hHeld => ?_)
        clear hK K
        refine norm_ (a' := ?_) ?_ ?_
        rotate_left
        · show Act.put _ (some 31) _ = _
          simp only [Act.put, List.setIfInBounds_toArray, List.set_cons_zero, List.set_cons_succ, i64_w, i32_w]
          rfl
        exact norm_ (by simp only [putAll, Act.put, List.setIfInBounds_toArray, List.set_cons_zero, List.set_cons_succ]) (hCont () _ HS_10_13_7.out)
  rintro _ w' hS3
  have HS3 := Aside0.mk hS3
  clear hS3
  have hHeld : w'.cell? ⟨w.heap.size, 0, none⟩ = some (.int .u64 pid) ∧ w'.cell? ⟨w.heap.size, 2, none⟩ = some (.int .i64 (pn : Int)) := ⟨(blk_cell (HS3.out.mu.heap HG.out.2.2.2.2 HNE.out) 0), (blk_cell (HS3.out.mu.heap HG.out.2.2.2.2 HNE.out) 2)⟩
  refine norm_ (a' := ?_) ?_ ?_
  rotate_left
  · simp only [putAll, Act.put, List.setIfInBounds_toArray, List.set_cons_zero, List.set_cons_succ]
    rfl
  refine pure_ (i := 14) (N := some 36) (v := ?_) (a' := ?_) #[true, true, true, true, true, true, true, true, true, true, true, true, true, true, true, false, false] rfl rfl (by kernel_rfl) (fun _ _ _ h => h) (Or.inl ⟨by rfl, ?_⟩) ?_ ?_
  rotate_left
  · intro w'
    go_simp
    with_reducible rfl
  rotate_left
  · simp only [Act.put, List.setIfInBounds_toArray, List.set_cons_zero, List.set_cons_succ, i64_w, i32_w]
    rfl
  refine pure_ (i := 15) (N := some 37) (v := ?_) (a' := ?_) #[true, true, true, true, true, true, true, true, true, true, true, true, true, true, true, true, false] rfl rfl (by kernel_rfl) (fun _ _ _ h => h) (Or.inl ⟨by rfl, ?_⟩) ?_ ?_
  rotate_left
  · intro w'
    go_simp
    with_reducible rfl
  rotate_left
  · simp only [Act.put, List.setIfInBounds_toArray, List.set_cons_zero, List.set_cons_succ, i64_w, i32_w]
    rfl
  refine last_ (i := 16) (N := none) #[true, true, true, true, true, true, true, true, true, true, true, true, true, true, true, true, true] rfl rfl (by kernel_rfl) (by decide) (fun K hK => ?_)
  refine skip_ (by rfl) rfl (exec_storeF rfl (by rfl) (by rfl) (HS3.out.st2 (some (w.heap.size + 1)))) ?_
  have HS4 := Aside0.mk (HS3.out.set2 (x := .map (some (w.heap.size + 1))))
  refine hK.out _ _ ?_
  clear hK K
  refine done_ (by kernel_rfl) ?_
  obtain ⟨PS, hPS⟩ : ∃ PS, List.replicate pn noP = PS := ⟨_, rfl⟩
  have hPl : PS.length = pn := by rw [← hPS, List.length_replicate]
  have hT : Tl w own g (w.heap.size + 1) w.heap.size pid PS (partO pid (pat : Int) (pn : Int) (.slice A9 bb.length c9)) A9 bb (w'.setCell ⟨g, 2, none⟩ (.map (some (w.heap.size + 1)))) := by
    refine ⟨by rw [hPl]; exact HS4.out.at_, HS4.out.mu.heap HG.out.2.2.2.2 HNE.out, ?_, (Mu.of_below HG.out.2.1 own).trans (HS4.out.mu.mono (fun k _ e => e ▸ HG.out.1.1)), ?_⟩
    · rw [← hPS]
      exact map_at_new (by have := HS4.out.new rfl; rwa [HG.out.2.2.1] at this) HN.out.2.2.2 (HN.out.1 _ (by omega)) (by have := HG.out.2.2.2.1; omega)
    · refine Kd.F_mono (Kd.F_step (Kd.F_bound HF.out) (fun k hk hl => ?_)) (fun k hk => ⟨hk.1.1, hk.1.2.1, by have := hk.2; omega⟩)
      exact (HS4.out.mu.block k (by rw [HG.out.2.2.1]; omega) hk.1.2.1).trans (HG.out.2.1.block k hk.2)
  generalize (w'.setCell ⟨g, 2, none⟩ (.map (some (w.heap.size + 1)))) = W4 at hT ⊢
  have HTW4 := Aside0.mk hT
  have HPL := Aside0.mk hPl
  have HPI := Aside0.mk (show pat < PS.length by rw [hPl]; exact HN.out.2.2.1)
  have HPG := Aside0.mk (show PS.getD pat noP = noP by rw [← hPS, List.getD_eq_getElem?_getD, List.getElem?_replicate, if_pos HN.out.2.2.1]; rfl)
  have HNB := Aside0.mk (show w.heap.size ≠ w.heap.size + 1 by omega)
  have HOG := Aside0.mk HG.out.1.1
  have HID := Aside0.mk (show pid = pid from rfl)
  have HRV : Aside0 (R = some ((pid, (PS.length : Int), PS.set pat bb), if haveN (PS.set pat bb) < PS.length then ([], false) else ((PS.set pat bb).flatten, true))) := ⟨by rw [← HR.out, hPl, ← hPS]; unfold takeV; rw [if_neg (by have := of_decide_eq_false d1; exact this), if_pos (of_decide_eq_true d2)]⟩
  clear hT hPS hPl HS3 HS4 HS_ hne
  have y1 := blk_cell HTW4.out.at_ 1
  have y2 := blk_cell HTW4.out.at_ 2
  have x1 := blk_cell HTW4.out.pb_ 1
  have x2 := blk_cell HTW4.out.pb_ 2
  have hlk := HTW4.out.none_ HPI.out HPG.out
  go_wp2_with fail
  go_quiet (fail)
  clear hlk y1 y2 x1 x2
  generalize hW_W5 : W4.drewN _ = W5
  have HTW5 : Aside0 (Tl w own g (w.heap.size + 1) w.heap.size pid PS (partO pid (pat : Int) (pn : Int) (.slice A9 bb.length c9)) A9 bb W5) := ⟨by rw [← hW_W5]; exact HTW4.out.drewN _⟩
  clear hW_W5
  have y1 := blk_cell HTW5.out.at_ 1
  have x2 := blk_cell HTW5.out.pb_ 2
  have e1 : ((pn : Int) == (PS.length : Int)) = true := beq_iff_eq.2 (by rw [HPL.out])
  have hask := fun (m : Nat) => Calls.quiet_of_same (n := m) (w := W5) ((fasks_ok (b := true) (w := W5.drewN m) rfl).mono fun _ _ z => ⟨z.1, z.2.symm⟩)
  go_wp2_with fail
  go_quiet ((go_at_call 60; exact hask _))
  clear hask y1 x2 e1
  generalize hW_W6 : W5.drewN _ = W6
  have HTW6 : Aside0 (Tl w own g (w.heap.size + 1) w.heap.size pid PS (partO pid (pat : Int) (pn : Int) (.slice A9 bb.length c9)) A9 bb W6) := ⟨by rw [← hW_W6]; exact HTW5.out.drewN _⟩
  clear hW_W6
  go_wp2_with fail
  obtain ⟨W8, hst8, hT8⟩ := HTW6.out.drew.store HNB.out (i := pat) HPI.out HBB.out.1 HBB.out.2.2 HBB.out.2.1
  have HTW8 := Aside0.mk hT8
  clear hT8
  refine start_ (n := 9) (S := fun w' => w'.cell? ⟨g, 2, none⟩ = some (.map (some (w.heap.size + 1))) ∧ w'.cell? ⟨w.heap.size, 1, none⟩ = some (.int .i64 (pat : Int)) ∧ w'.cell? ⟨w.heap.size, 3, none⟩ = some (.slice A9 bb.length c9)) (ds := [8]) #[false, false, false, false, false, false, false, false, false] (by kernel_rfl) rfl rfl ⟨(blk_cell HTW6.out.drew.at_ 2), (blk_cell HTW6.out.drew.pb_ 1), (blk_cell HTW6.out.drew.pb_ 3)⟩ (fun hHeld => ?_)
  refine pure_ (i := 0) (N := some 66) (v := ?_) (a' := ?_) #[true, false, false, false, false, false, false, false, false] rfl rfl (by kernel_rfl) (fun _ _ _ h => h) (Or.inl ⟨by rfl, ?_⟩) ?_ ?_
  rotate_left
  · intro w'
    go_simp
    with_reducible rfl
  rotate_left
  · simp only [Act.put, List.setIfInBounds_toArray, List.set_cons_zero, List.set_cons_succ, i64_w, i32_w]
    rfl
  refine pure_ (i := 1) (N := some 67) (v := ?_) (a' := ?_) #[true, true, false, false, false, false, false, false, false] rfl rfl (by kernel_rfl) (fun _ _ _ h => h) (Or.inl ⟨by rfl, ?_⟩) ?_ ?_
  rotate_left
  · intro w'
    go_simp
    with_reducible rfl
  rotate_left
  · simp only [Act.put, List.setIfInBounds_toArray, List.set_cons_zero, List.set_cons_succ, i64_w, i32_w]
    rfl
  refine pure_ (i := 2) (N := some 68) (v := ?_) (a' := ?_) #[true, true, true, false, false, false, false, false, false] rfl rfl (by kernel_rfl) (fun _ _ _ h => h) (Or.inl ⟨by rfl, ?_⟩) ?_ ?_
  rotate_left
  · intro w'
    go_simp
    with_reducible rfl
  rotate_left
  · simp only [Act.put, List.setIfInBounds_toArray, List.set_cons_zero, List.set_cons_succ, i64_w, i32_w]
    rfl
  refine pure_ (i := 4) (N := some 70) (v := ?_) (a' := ?_) #[true, true, true, false, true, false, false, false, false] rfl rfl (by kernel_rfl) (fun _ _ _ h => h) (Or.inl ⟨by rfl, ?_⟩) ?_ ?_
  rotate_left
  · intro w'
    go_simp
    with_reducible rfl
  rotate_left
  · simp only [Act.put, List.setIfInBounds_toArray, List.set_cons_zero, List.set_cons_succ, i64_w, i32_w]
    rfl
  refine pure_ (i := 6) (N := some 72) (v := ?_) (a' := ?_) #[true, true, true, false, true, false, true, false, false] rfl rfl (by kernel_rfl) (fun _ _ _ h => h) (Or.inl ⟨by rfl, ?_⟩) ?_ ?_
  rotate_left
  · intro w'
    go_simp
    with_reducible rfl
  rotate_left
  · simp only [Act.put, List.setIfInBounds_toArray, List.set_cons_zero, List.set_cons_succ, i64_w, i32_w]
    rfl
  refine take_ (i := 3) (N := some 69) (v := ?_) (a' := ?_) #[true, true, true, true, true, false, true, false, false] rfl rfl (by kernel_rfl) (fun _ _ _ h => h) (Or.inl ⟨by rfl, ?_⟩) hHeld ?_ ?_
  rotate_left
  · rintro w' ⟨s0, s1, s2⟩
    go_simp
    with_reducible rfl
  rotate_left
  · simp only [Act.put, List.setIfInBounds_toArray, List.set_cons_zero, List.set_cons_succ, i64_w, i32_w]
    rfl
  refine take_ (i := 5) (N := some 71) (v := ?_) (a' := ?_) #[true, true, true, true, true, true, true, false, false] rfl rfl (by kernel_rfl) (fun _ _ _ h => h) (Or.inl ⟨by rfl, ?_⟩) hHeld ?_ ?_
  rotate_left
  · rintro w' ⟨s0, s1, s2⟩
    go_simp
    with_reducible rfl
  rotate_left
  · simp only [Act.put, List.setIfInBounds_toArray, List.set_cons_zero, List.set_cons_succ, i64_w, i32_w]
    rfl
  refine take_ (i := 7) (N := some 73) (v := ?_) (a' := ?_) #[true, true, true, true, true, true, true, true, false] rfl rfl (by kernel_rfl) (fun _ _ _ h => h) (Or.inl ⟨by rfl, ?_⟩) hHeld ?_ ?_
  rotate_left
  · rintro w' ⟨s0, s1, s2⟩
    go_simp
    with_reducible rfl
  rotate_left
  · simp only [Act.put, List.setIfInBounds_toArray, List.set_cons_zero, List.set_cons_succ, i64_w, i32_w]
    rfl
  refine last_ (i := 8) (N := none) #[true, true, true, true, true, true, true, true, true] rfl rfl (by kernel_rfl) (by decide) (fun K hK => ?_)
  refine skip_ (by rfl) rfl (exec_updF rfl (by rfl) (by rfl) (by rfl) hst8) ?_
  refine hK.out _ _ ?_
  clear hK K
  refine done_ (by kernel_rfl) ?_
  clear hst8
  obtain ⟨PQ, hPQ⟩ : ∃ PQ, PS.set pat bb = PQ := ⟨_, rfl⟩
  have hPQl : PQ.length = PS.length := by rw [← hPQ, List.length_set]
  rw [hPQ] at HTW8 HRV
  rw [← hPQl] at HRV
  have HPQ := Aside0.mk hPQ
  have HQL := Aside0.mk (show PQ.length ≤ 4096 by rw [hPQl, HPL.out]; exact HN.out.2.2.2)
  clear hPQ hPQl
  have y1 := blk_cell HTW8.out.at_ 1
  have y2 := blk_cell HTW8.out.at_ 2
  have hlen := HTW8.out.len 3
  by_cases c8 : haveN PQ < PQ.length
  · have d8 : decide ((haveN PQ : Int) < (PQ.length : Int)) = true := decide_eq_true (by omega)
    have d9 : decide (haveN PQ < PQ.length) = true := decide_eq_true c8
    rw [if_pos c8] at HRV
    clear c8
    go_wp2_with fail
    go_quiet (fail)
    go_wp2_with fail
    go_ret2
    rw [HRV.out]
    exact ⟨(HTW8.out.drewN _).gat HOG.out (by have := HN.out.2.1; have := HID.out; omega), (HTW8.out.drewN _).mu, _, rfl, Kd.R_nil _ _ _ _ _⟩
  have d8 : decide ((haveN PQ : Int) < (PQ.length : Int)) = false := decide_eq_false (by omega)
  have d9 : decide (haveN PQ < PQ.length) = false := decide_eq_false c8
  rw [if_neg c8] at HRV
  have HALL := Aside0.mk (have_all PQ c8)
  clear c8
  go_wp2_with fail
  go_quiet (fail)
  clear hlen y1 y2 d8 d9
  generalize hW_W9 : W8.drewN _ = W9
  have HTW9 : Aside0 (Tl w own g (w.heap.size + 1) w.heap.size pid PQ (partO pid (pat : Int) (pn : Int) (.slice A9 bb.length c9)) A9 bb W9) := ⟨by rw [← hW_W9]; exact HTW8.out.drewN _⟩
  clear hW_W9
  have y1 := blk_cell HTW9.out.at_ 1
  have y2 := blk_cell HTW9.out.at_ 2
  have HR0 := Aside0.mk (Kd.R_nil (Kd.int .u8) 5 W9 W9.heap.size (fun _ => True))
  go_wp2_with fail
  clear y1 y2
  go_loopw [8, 9, 91, 92, 93, 94, 95, 96, 97, 98, 99, 100, 101, 102] (fun v8 v9 v91 v92 v93 v94 v95 v96 v97 v98 v99 v100 v101 v102 wr => ∃ i : Nat, i ≤ PQ.length ∧ v91 = .int .i64 (i : Int) ∧ Kd.R (Kd.int .u8) 5 wr W9.heap.size (fun _ => True) v8 (PQ.take i).flatten ∧ (PQ.take i).flatten.length ≤ 256 * i ∧ Below W9.heap.size W9 wr)
    (fun v8 v9 v91 v92 v93 v94 v95 v96 v97 v98 v99 v100 v101 v102 _ => PQ.length - (intOf v91).toNat)
  case atStart => exact ⟨0, Nat.zero_le _, rfl, HR0.out, by simp, Below.refl _ _⟩
  case round =>
    obtain ⟨i, hi, rfl, hR8, hl8, hB8⟩ := hrel
    obtain ⟨X, hX⟩ : ∃ X, (PQ.take i).flatten = X := ⟨_, rfl⟩
    rw [hX] at hR8 hl8
    obtain ⟨A8, c8, rfl⟩ := Kd.R_slice hR8
    have HX := Aside0.mk (And.intro hX (And.intro hl8 hi))
    have HR8 := Aside0.mk hR8
    have HB8 := Aside0.mk hB8
    have HTr : Aside0 (Tl w own g (w.heap.size + 1) w.heap.size pid PQ (partO pid (pat : Int) (pn : Int) (.slice A9 bb.length c9)) A9 bb wr) := ⟨HTW9.out.below HB8.out⟩
    clear hX hl8 hi hR8 hB8
    by_cases hlt : i < PQ.length
    · obtain ⟨Ai, ci, _, hlk, hci, hCi, _, h256⟩ := HTr.out.part hlt (HALL.out i hlt)
      have y2 := blk_cell HTr.out.at_ 2
      have hib : i < 4096 := by have := HQL.out; omega
      obtain ⟨pi, hpi⟩ : ∃ pi, PQ.getD i noP = pi := ⟨_, rfl⟩
      rw [hpi] at hlk hci hCi h256
      have HPI2 := Aside0.mk (And.intro hpi (And.intro h256 hlt))
      have HCi := Aside0.mk hCi
      have HBD : Aside0 ((X.length + pi.length) * 1 ≤ 140737488355328) := ⟨by have := HX.out.2.1; omega⟩
      have HBZ := Aside0.mk HB8.out.size
      clear hpi h256 hCi hci
      go_wp2_with (first | ((with_reducible refine gate_builtin (b := .append) (xs := #[.tmp 94, .tmp 100]) rfl ?_); at_builtin; refine Kd.R_append_rows (Kd.int .u8) (w0 := W9) W9.heap.size rfl (.tmp 94) (.tmp 100) 23 5 (.int .u8 0) 1 rfl Try.underlying23 info5 rfl (by decide) (by decide) (.slice A8 X.length c8) X pi Ai pi.length ci (fun _ => True) (fun _ => False) rfl rfl HR8.out HCi.out (fun _ _ h => h) (fun _ h => h.elim) (fun _ _ => trivial) HB8.out HBZ.out HBD.out ?_; intro v9 w9 hR9 hB9 hg9 hat9; obtain ⟨A10, c10, rfl⟩ := Kd.R_slice hR9; clear hg9 hat9))
      go_roundw
      case rel =>
        refine ⟨i + 1, HPI2.out.2.2, by simp, ?_, ?_, hB9⟩
        · rw [flat_take PQ i HPI2.out.2.2, HPI2.out.1, HX.out.1]
          first
            | exact hR9
            | (rw [List.length_append] at hR9; exact hR9)
        · rw [flat_take PQ i HPI2.out.2.2, HPI2.out.1, HX.out.1, List.length_append]
          have := HX.out.2.1; have := HPI2.out.2.1; omega
      case measure => have := HPI2.out.2.2; simp [intOf] <;> omega
    · have hiN : i = PQ.length := by have := HX.out.2.2; omega
      have hXe : X = PQ.flatten := by rw [← HX.out.1, hiN, List.take_of_length_le (Nat.le_refl _)]
      have HXE := Aside0.mk hXe
      clear hXe
      subst hiN
      have y1 := blk_cell HTr.out.at_ 1
      go_wp2_with fail
      go_ret2
      rw [HRV.out]
      refine ⟨HTr.out.gat HOG.out (by have := HN.out.2.1; have := HID.out; omega), HTr.out.mu, _, rfl, ?_⟩
      rw [← HXE.out]
      exact Kd.R_lower HR8.out HTW9.out.mu.size
set_option maxHeartbeats 4000000 in
theorem takes_eq {w : World} {own : Nat → Prop} {g : Nat} {id cnt : Int} {ps : List (List Int)} (hG : GatAt w own g id cnt ps) (hnew : ∀ k, w.heap.size ≤ k → own k) (pid : Int) (pat pn : Nat) (hid : 1 ≤ pid ∧ pid ≤ 4611686018427387904) (hpat : pat < pn) (hpn : pn ≤ 4096)
    {A9 : Option Addr} {c9 : Nat} {bb : List Int} (hbb : ∀ x ∈ bb, 0 ≤ x ∧ x < 256) (hc9 : bb.length ≤ c9) (hl9 : bb.length ≤ 256) (hF : Kd.F (Kd.int .u8) w (fun k => own k ∧ k ≠ g ∧ ∀ i c b, w.heap[g]? = some (gatO i c (some b)) → k ≠ b) A9 bb.length bb) (h1 : ¬ pid < id) (h2 : ¬ id < pid) :
    Calls Try.prog 51 #[.pointer (some ⟨g, 0, none⟩), .agg #[.int .u64 pid, .int .i64 (pat : Int), .int .i64 (pn : Int), .slice A9 bb.length c9]] w (TakePost w own g (id, cnt, ps) (takeV id cnt ps pid pat pn bb)) := by
  obtain ⟨R, hR⟩ : ∃ R, takeV id cnt ps pid pat pn bb = R := ⟨_, rfl⟩
  rw [hR]
  obtain rfl : pid = id := by omega
  obtain ⟨b, hg, hM, hcnt⟩ : ∃ b, w.heap[g]? = some (gatO pid cnt (some b)) ∧ MapAt w own g b ps ∧ cnt = ps.length := by
    rcases hG.2 with ⟨h, _⟩ | ⟨_, h3, b, h, h4⟩
    · omega
    · exact ⟨b, h, h4, h3⟩
  subst hcnt
  obtain ⟨w1, hw1⟩ : ∃ w1, w.alloc (partO pid pat pn (.slice A9 bb.length c9)) = w1 := ⟨_, rfl⟩
  have hb1 : Below w.heap.size w w1 := by rw [← hw1]; exact below_alloc (Below.refl _ _) _
  have hp1 : w1.heap[w.heap.size]? = some (partO pid pat pn (.slice A9 bb.length c9)) := by rw [← hw1]; exact alloc_new _ _
  have hT : Tl w own g b w.heap.size pid ps (partO pid (pat : Int) (pn : Int) (.slice A9 bb.length c9)) A9 bb w1 := ⟨(Mu.of_below hb1 (fun _ => False)).heap hg (fun h => h), hp1, hM.step (fun k _ _ hl => hb1.block k hl), Mu.of_below hb1 own, Kd.F_mono (Kd.F_below hF hb1) (fun k hk => ⟨hk.1, hk.2.1, hk.2.2 _ _ b hg⟩)⟩
  have HTW1 := Aside0.mk hT
  have x0 := blk_cell hT.pb_ 0
  have y0 := blk_cell hT.at_ 0
  have d1 : decide (pid < pid) = false := decide_eq_false (by omega)
  have HNB := Aside0.mk (show w.heap.size ≠ b by have := hM.lt; omega)
  have HOG := Aside0.mk hG.1
  have HID := Aside0.mk hid.1
  have HW1 := Aside0.mk hw1
  have HN := Aside0.mk (And.intro hnew (And.intro hid (And.intro hpat hpn)))
  have HBB := Aside0.mk (And.intro hbb (And.intro hc9 hl9))
  have HR := Aside0.mk hR
  clear hR hG hnew hid hpat hpn hF hb1 hp1 hg hM hT hbb hc9 hl9 hw1 h1 h2
  go_enter Try.func51, Try.ntmps51
  go_upto_region 1 with fail
  rw [HW1.out]
  go_quiet (fail)
  go_wp2_with fail
  go_quiet (fail)
  generalize hW_W4 : (w1.drewN _).drewN _ = W4
  have HTW4 : Aside0 (Tl w own g b w.heap.size pid ps (partO pid (pat : Int) (pn : Int) (.slice A9 bb.length c9)) A9 bb W4) := ⟨by rw [← hW_W4]; exact (HTW1.out.drewN _).drewN _⟩
  clear hW_W4 x0 y0
  by_cases c1 : pn = ps.length
  case neg =>
    have HRN : Aside0 (R = none) := ⟨by
      rw [← HR.out]; unfold takeV
      rw [if_neg (by omega), if_neg (by omega), if_neg (by omega), if_neg (by omega)]⟩
    have e1 : ((pn : Int) == (ps.length : Int)) = false := beq_eq_false_iff_ne.2 (by omega)
    clear c1
    have y2 := blk_cell HTW4.out.at_ 2
    have x1 := blk_cell HTW4.out.pb_ 1
    obtain ⟨va, xa, hlk⟩ := HTW4.out.any_ (i := pat) (by have := HN.out.2.2; omega)
    go_wp2_with fail
    go_quiet (fail)
    clear hlk y2 x1
    generalize hW_W5 : W4.drewN _ = W5
    have HTW5 : Aside0 (Tl w own g b w.heap.size pid ps (partO pid (pat : Int) (pn : Int) (.slice A9 bb.length c9)) A9 bb W5) := ⟨by rw [← hW_W5]; exact HTW4.out.drewN _⟩
    clear hW_W5
    go_wp2_with fail
    refine start_ (n := 18) (S := fun w' => w'.cell? ⟨g, 1, none⟩ = some (.int .i64 (ps.length : Int)) ∧ w'.cell? ⟨w.heap.size, 2, none⟩ = some (.int .i64 (pn : Int)) ∧ w'.cell? ⟨w.heap.size, 3, none⟩ = some (.slice A9 bb.length c9)) (ds := [17]) #[false, false, false, false, false, false, false, false, false, false, false, false, false, false, false, false, false, false] (by kernel_rfl) rfl rfl ⟨(blk_cell HTW5.out.drew.at_ 1), (blk_cell HTW5.out.drew.pb_ 2), (blk_cell HTW5.out.drew.pb_ 3)⟩ (fun hHeld => ?_)
    refine pure_ (i := 0) (N := some 48) (v := ?_) (a' := ?_) #[true, false, false, false, false, false, false, false, false, false, false, false, false, false, false, false, false, false] rfl rfl (by kernel_rfl) (fun _ _ _ h => h) (Or.inl ⟨by rfl, ?_⟩) ?_ ?_
    rotate_left
    · intro w'
      go_simp
      with_reducible rfl
    rotate_left
    · simp only [Act.put, List.setIfInBounds_toArray, List.set_cons_zero, List.set_cons_succ, i64_w, i32_w]
      rfl
    refine pure_ (i := 2) (N := some 50) (v := ?_) (a' := ?_) #[true, false, true, false, false, false, false, false, false, false, false, false, false, false, false, false, false, false] rfl rfl (by kernel_rfl) (fun _ _ _ h => h) (Or.inl ⟨by rfl, ?_⟩) ?_ ?_
    rotate_left
    · intro w'
      go_simp
      with_reducible rfl
    rotate_left
    · simp only [Act.put, List.setIfInBounds_toArray, List.set_cons_zero, List.set_cons_succ, i64_w, i32_w]
      rfl
    refine pure_ (i := 3) (N := some 51) (v := ?_) (a' := ?_) #[true, false, true, true, false, false, false, false, false, false, false, false, false, false, false, false, false, false] rfl rfl (by kernel_rfl) (fun _ _ _ h => h) (Or.inl ⟨by rfl, ?_⟩) ?_ ?_
    rotate_left
    · intro w'
      go_simp
      with_reducible rfl
    rotate_left
    · simp only [Act.put, List.setIfInBounds_toArray, List.set_cons_zero, List.set_cons_succ, i64_w, i32_w]
      rfl
    refine pure_ (i := 4) (N := some 52) (v := ?_) (a' := ?_) #[true, false, true, true, true, false, false, false, false, false, false, false, false, false, false, false, false, false] rfl rfl (by kernel_rfl) (fun _ _ _ h => h) (Or.inl ⟨by rfl, ?_⟩) ?_ ?_
    rotate_left
    · intro w'
      go_simp
      with_reducible rfl
    rotate_left
    · simp only [Act.put, List.setIfInBounds_toArray, List.set_cons_zero, List.set_cons_succ, i64_w, i32_w]
      rfl
    refine take_ (i := 1) (N := some 49) (v := ?_) (a' := ?_) #[true, true, true, true, true, false, false, false, false, false, false, false, false, false, false, false, false, false] rfl rfl (by kernel_rfl) (fun _ _ _ h => h) (Or.inl ⟨by rfl, ?_⟩) hHeld ?_ ?_
    rotate_left
    · rintro w' ⟨s0, s1, s2⟩
      go_simp
      with_reducible rfl
    rotate_left
    · simp only [Act.put, List.setIfInBounds_toArray, List.set_cons_zero, List.set_cons_succ, i64_w, i32_w]
      rfl
    refine take_ (i := 5) (N := some 53) (v := ?_) (a' := ?_) #[true, true, true, true, true, true, false, false, false, false, false, false, false, false, false, false, false, false] rfl rfl (by kernel_rfl) (fun _ _ _ h => h) (Or.inl ⟨by rfl, ?_⟩) hHeld ?_ ?_
    rotate_left
    · rintro w' ⟨s0, s1, s2⟩
      go_simp
      with_reducible rfl
    rotate_left
    · simp only [Act.put, List.setIfInBounds_toArray, List.set_cons_zero, List.set_cons_succ, i64_w, i32_w]
      rfl
    refine pure_ (i := 6) (N := some 54) (v := ?_) (a' := ?_) #[true, true, true, true, true, true, true, false, false, false, false, false, false, false, false, false, false, false] rfl rfl (by kernel_rfl) (fun _ _ _ h => h) (Or.inl ⟨by rfl, ?_⟩) ?_ ?_
    rotate_left
    · intro w'
      go_simp
      with_reducible rfl
    rotate_left
    · simp only [Act.put, List.setIfInBounds_toArray, List.set_cons_zero, List.set_cons_succ, i64_w, i32_w]
      rfl
    refine pure_ (i := 7) (N := some 55) (v := ?_) (a' := ?_) #[true, true, true, true, true, true, true, true, false, false, false, false, false, false, false, false, false, false] rfl rfl (by kernel_rfl) (fun _ _ _ h => h) (Or.inl ⟨by rfl, ?_⟩) ?_ ?_
    rotate_left
    · intro w'
      go_simp
      with_reducible rfl
    rotate_left
    · simp only [Act.put, List.setIfInBounds_toArray, List.set_cons_zero, List.set_cons_succ, i64_w, i32_w]
      rfl
    refine pure_ (i := 8) (N := some 56) (v := undef) (a' := ?_) #[true, true, true, true, true, true, true, true, true, false, false, false, false, false, false, false, false, false] rfl rfl (by kernel_rfl) (fun _ _ _ h => h) (Or.inr ⟨by rfl, rfl⟩) ?_ ?_
    rotate_left
    · simp only [Act.put, List.setIfInBounds_toArray, List.set_cons_zero, List.set_cons_succ, i64_w, i32_w]
      rfl
    refine pure_ (i := 9) (N := some 57) (v := undef) (a' := ?_) #[true, true, true, true, true, true, true, true, true, true, false, false, false, false, false, false, false, false] rfl rfl (by kernel_rfl) (fun _ _ _ h => h) (Or.inr ⟨by rfl, rfl⟩) ?_ ?_
    rotate_left
    · simp only [Act.put, List.setIfInBounds_toArray, List.set_cons_zero, List.set_cons_succ, i64_w, i32_w]
      rfl
    refine pure_ (i := 10) (N := some 58) (v := undef) (a' := ?_) #[true, true, true, true, true, true, true, true, true, true, true, false, false, false, false, false, false, false] rfl rfl (by kernel_rfl) (fun _ _ _ h => h) (Or.inr ⟨by rfl, rfl⟩) ?_ ?_
    rotate_left
    · simp only [Act.put, List.setIfInBounds_toArray, List.set_cons_zero, List.set_cons_succ, i64_w, i32_w]
      rfl
    refine pure_ (i := 11) (N := some 59) (v := undef) (a' := ?_) #[true, true, true, true, true, true, true, true, true, true, true, true, false, false, false, false, false, false] rfl rfl (by kernel_rfl) (fun _ _ _ h => h) (Or.inr ⟨by rfl, rfl⟩) ?_ ?_
    rotate_left
    · simp only [Act.put, List.setIfInBounds_toArray, List.set_cons_zero, List.set_cons_succ, i64_w, i32_w]
      rfl
    refine pure_ (i := 12) (N := some 60) (v := undef) (a' := ?_) #[true, true, true, true, true, true, true, true, true, true, true, true, true, false, false, false, false, false] rfl rfl (by kernel_rfl) (fun _ _ _ h => h) (Or.inr ⟨by rfl, rfl⟩) ?_ ?_
    rotate_left
    · simp only [Act.put, List.setIfInBounds_toArray, List.set_cons_zero, List.set_cons_succ, i64_w, i32_w]
      rfl
    refine pure_ (i := 13) (N := some 61) (v := undef) (a' := ?_) #[true, true, true, true, true, true, true, true, true, true, true, true, true, true, false, false, false, false] rfl rfl (by kernel_rfl) (fun _ _ _ h => h) (Or.inr ⟨by rfl, rfl⟩) ?_ ?_
    rotate_left
    · simp only [Act.put, List.setIfInBounds_toArray, List.set_cons_zero, List.set_cons_succ, i64_w, i32_w]
      rfl
    refine pure_ (i := 14) (N := some 62) (v := undef) (a' := ?_) #[true, true, true, true, true, true, true, true, true, true, true, true, true, true, true, false, false, false] rfl rfl (by kernel_rfl) (fun _ _ _ h => h) (Or.inr ⟨by rfl, rfl⟩) ?_ ?_
    rotate_left
    · simp only [Act.put, List.setIfInBounds_toArray, List.set_cons_zero, List.set_cons_succ, i64_w, i32_w]
      rfl
    refine pure_ (i := 15) (N := some 63) (v := undef) (a' := ?_) #[true, true, true, true, true, true, true, true, true, true, true, true, true, true, true, true, false, false] rfl rfl (by kernel_rfl) (fun _ _ _ h => h) (Or.inr ⟨by rfl, rfl⟩) ?_ ?_
    rotate_left
    · simp only [Act.put, List.setIfInBounds_toArray, List.set_cons_zero, List.set_cons_succ, i64_w, i32_w]
      rfl
    refine pure_ (i := 16) (N := some 64) (v := ?_) (a' := ?_) #[true, true, true, true, true, true, true, true, true, true, true, true, true, true, true, true, true, false] rfl rfl (by kernel_rfl) (fun _ _ _ h => h) (Or.inl ⟨by rfl, ?_⟩) ?_ ?_
    rotate_left
    · intro w'
      go_simp
      with_reducible rfl
    rotate_left
    · simp only [Act.put, List.setIfInBounds_toArray, List.set_cons_zero, List.set_cons_succ, i64_w, i32_w]
      rfl
    refine last_ (i := 17) (N := some 65) #[true, true, true, true, true, true, true, true, true, true, true, true, true, true, true, true, true, true] rfl rfl (by kernel_rfl) (by decide) (fun K hK => ?_)
    refine goesP_ Try.func60 (by kernel_rfl) rfl #[.bool false] (by rfl) rfl rfl (by (try simp only [List.map_toArray, List.map_cons, List.map_nil]); first | done | rfl) ?_
    refine (fasks_no rfl).mono ?_
    rintro en w7 ⟨rfl, rfl⟩
    rw [HRN.out]
    exact ⟨_, rfl, rfl, HTW5.out.drew.gat HOG.out HID.out, HTW5.out.drew.mu, rfl⟩
  have HPL := Aside0.mk c1.symm
  have HPI := Aside0.mk (show pat < ps.length by have := HN.out.2.2.1; omega)
  by_cases c2 : ps.getD pat noP = noP
  case pos =>
    have HPG := Aside0.mk c2
    have HRV : Aside0 (R = some ((pid, (ps.length : Int), ps.set pat bb), if haveN (ps.set pat bb) < ps.length then ([], false) else ((ps.set pat bb).flatten, true))) := ⟨by
      rw [← HR.out]; unfold takeV
      rw [if_neg (by omega), if_neg (by omega), if_pos ⟨by omega, c2⟩]⟩
    clear c1 c2
    have y1 := blk_cell HTW4.out.at_ 1
    have y2 := blk_cell HTW4.out.at_ 2
    have x1 := blk_cell HTW4.out.pb_ 1
    have x2 := blk_cell HTW4.out.pb_ 2
    have hlk := HTW4.out.none_ HPI.out HPG.out
    go_wp2_with fail
    go_quiet (fail)
    clear hlk y1 y2 x1 x2
    generalize hW_W5 : W4.drewN _ = W5
    have HTW5 : Aside0 (Tl w own g b w.heap.size pid ps (partO pid (pat : Int) (pn : Int) (.slice A9 bb.length c9)) A9 bb W5) := ⟨by rw [← hW_W5]; exact HTW4.out.drewN _⟩
    clear hW_W5
    have y1 := blk_cell HTW5.out.at_ 1
    have x2 := blk_cell HTW5.out.pb_ 2
    have e1 : ((pn : Int) == (ps.length : Int)) = true := beq_iff_eq.2 (by rw [HPL.out])
    have hask := fun (m : Nat) => Calls.quiet_of_same (n := m) (w := W5) ((fasks_ok (b := true) (w := W5.drewN m) rfl).mono fun _ _ z => ⟨z.1, z.2.symm⟩)
    go_wp2_with fail
    go_quiet ((go_at_call 60; exact hask _))
    clear hask y1 x2 e1
    generalize hW_W6 : W5.drewN _ = W6
    have HTW6 : Aside0 (Tl w own g b w.heap.size pid ps (partO pid (pat : Int) (pn : Int) (.slice A9 bb.length c9)) A9 bb W6) := ⟨by rw [← hW_W6]; exact HTW5.out.drewN _⟩
    clear hW_W6
    go_wp2_with fail
    obtain ⟨W8, hst8, hT8⟩ := HTW6.out.drew.store HNB.out (i := pat) HPI.out HBB.out.1 HBB.out.2.2 HBB.out.2.1
    have HTW8 := Aside0.mk hT8
    clear hT8
    refine start_ (n := 9) (S := fun w' => w'.cell? ⟨g, 2, none⟩ = some (.map (some b)) ∧ w'.cell? ⟨w.heap.size, 1, none⟩ = some (.int .i64 (pat : Int)) ∧ w'.cell? ⟨w.heap.size, 3, none⟩ = some (.slice A9 bb.length c9)) (ds := [8]) #[false, false, false, false, false, false, false, false, false] (by kernel_rfl) rfl rfl ⟨(blk_cell HTW6.out.drew.at_ 2), (blk_cell HTW6.out.drew.pb_ 1), (blk_cell HTW6.out.drew.pb_ 3)⟩ (fun hHeld => ?_)
    refine pure_ (i := 0) (N := some 66) (v := ?_) (a' := ?_) #[true, false, false, false, false, false, false, false, false] rfl rfl (by kernel_rfl) (fun _ _ _ h => h) (Or.inl ⟨by rfl, ?_⟩) ?_ ?_
    rotate_left
    · intro w'
      go_simp
      with_reducible rfl
    rotate_left
    · simp only [Act.put, List.setIfInBounds_toArray, List.set_cons_zero, List.set_cons_succ, i64_w, i32_w]
      rfl
    refine pure_ (i := 1) (N := some 67) (v := ?_) (a' := ?_) #[true, true, false, false, false, false, false, false, false] rfl rfl (by kernel_rfl) (fun _ _ _ h => h) (Or.inl ⟨by rfl, ?_⟩) ?_ ?_
    rotate_left
    · intro w'
      go_simp
      with_reducible rfl
    rotate_left
    · simp only [Act.put, List.setIfInBounds_toArray, List.set_cons_zero, List.set_cons_succ, i64_w, i32_w]
      rfl
    refine pure_ (i := 2) (N := some 68) (v := ?_) (a' := ?_) #[true, true, true, false, false, false, false, false, false] rfl rfl (by kernel_rfl) (fun _ _ _ h => h) (Or.inl ⟨by rfl, ?_⟩) ?_ ?_
    rotate_left
    · intro w'
      go_simp
      with_reducible rfl
    rotate_left
    · simp only [Act.put, List.setIfInBounds_toArray, List.set_cons_zero, List.set_cons_succ, i64_w, i32_w]
      rfl
    refine pure_ (i := 4) (N := some 70) (v := ?_) (a' := ?_) #[true, true, true, false, true, false, false, false, false] rfl rfl (by kernel_rfl) (fun _ _ _ h => h) (Or.inl ⟨by rfl, ?_⟩) ?_ ?_
    rotate_left
    · intro w'
      go_simp
      with_reducible rfl
    rotate_left
    · simp only [Act.put, List.setIfInBounds_toArray, List.set_cons_zero, List.set_cons_succ, i64_w, i32_w]
      rfl
    refine pure_ (i := 6) (N := some 72) (v := ?_) (a' := ?_) #[true, true, true, false, true, false, true, false, false] rfl rfl (by kernel_rfl) (fun _ _ _ h => h) (Or.inl ⟨by rfl, ?_⟩) ?_ ?_
    rotate_left
    · intro w'
      go_simp
      with_reducible rfl
    rotate_left
    · simp only [Act.put, List.setIfInBounds_toArray, List.set_cons_zero, List.set_cons_succ, i64_w, i32_w]
      rfl
    refine take_ (i := 3) (N := some 69) (v := ?_) (a' := ?_) #[true, true, true, true, true, false, true, false, false] rfl rfl (by kernel_rfl) (fun _ _ _ h => h) (Or.inl ⟨by rfl, ?_⟩) hHeld ?_ ?_
    rotate_left
    · rintro w' ⟨s0, s1, s2⟩
      go_simp
      with_reducible rfl
    rotate_left
    · simp only [Act.put, List.setIfInBounds_toArray, List.set_cons_zero, List.set_cons_succ, i64_w, i32_w]
      rfl
    refine take_ (i := 5) (N := some 71) (v := ?_) (a' := ?_) #[true, true, true, true, true, true, true, false, false] rfl rfl (by kernel_rfl) (fun _ _ _ h => h) (Or.inl ⟨by rfl, ?_⟩) hHeld ?_ ?_
    rotate_left
    · rintro w' ⟨s0, s1, s2⟩
      go_simp
      with_reducible rfl
    rotate_left
    · simp only [Act.put, List.setIfInBounds_toArray, List.set_cons_zero, List.set_cons_succ, i64_w, i32_w]
      rfl
    refine take_ (i := 7) (N := some 73) (v := ?_) (a' := ?_) #[true, true, true, true, true, true, true, true, false] rfl rfl (by kernel_rfl) (fun _ _ _ h => h) (Or.inl ⟨by rfl, ?_⟩) hHeld ?_ ?_
    rotate_left
    · rintro w' ⟨s0, s1, s2⟩
      go_simp
      with_reducible rfl
    rotate_left
    · simp only [Act.put, List.setIfInBounds_toArray, List.set_cons_zero, List.set_cons_succ, i64_w, i32_w]
      rfl
    refine last_ (i := 8) (N := none) #[true, true, true, true, true, true, true, true, true] rfl rfl (by kernel_rfl) (by decide) (fun K hK => ?_)
    refine skip_ (by rfl) rfl (exec_updF rfl (by rfl) (by rfl) (by rfl) hst8) ?_
    refine hK.out _ _ ?_
    clear hK K
    refine done_ (by kernel_rfl) ?_
    clear hst8
    obtain ⟨PQ, hPQ⟩ : ∃ PQ, ps.set pat bb = PQ := ⟨_, rfl⟩
    have hPQl : PQ.length = ps.length := by rw [← hPQ, List.length_set]
    rw [hPQ] at HTW8 HRV
    rw [← hPQl] at HRV
    have HPQ := Aside0.mk hPQ
    have HQL := Aside0.mk (show PQ.length ≤ 4096 by rw [hPQl, HPL.out]; exact HN.out.2.2.2)
    clear hPQ hPQl
    have y1 := blk_cell HTW8.out.at_ 1
    have y2 := blk_cell HTW8.out.at_ 2
    have hlen := HTW8.out.len 3
    by_cases c8 : haveN PQ < PQ.length
    · have d8 : decide ((haveN PQ : Int) < (PQ.length : Int)) = true := decide_eq_true (by omega)
      have d9 : decide (haveN PQ < PQ.length) = true := decide_eq_true c8
      rw [if_pos c8] at HRV
      clear c8
      go_wp2_with fail
      go_quiet (fail)
      go_wp2_with fail
      go_ret2
      rw [HRV.out]
      exact ⟨(HTW8.out.drewN _).gat HOG.out (by have := HN.out.2.1; have := HID.out; omega), (HTW8.out.drewN _).mu, _, rfl, Kd.R_nil _ _ _ _ _⟩
    have d8 : decide ((haveN PQ : Int) < (PQ.length : Int)) = false := decide_eq_false (by omega)
    have d9 : decide (haveN PQ < PQ.length) = false := decide_eq_false c8
    rw [if_neg c8] at HRV
    have HALL := Aside0.mk (have_all PQ c8)
    clear c8
    go_wp2_with fail
    go_quiet (fail)
    clear hlen y1 y2 d8 d9
    generalize hW_W9 : W8.drewN _ = W9
    have HTW9 : Aside0 (Tl w own g b w.heap.size pid PQ (partO pid (pat : Int) (pn : Int) (.slice A9 bb.length c9)) A9 bb W9) := ⟨by rw [← hW_W9]; exact HTW8.out.drewN _⟩
    clear hW_W9
    have y1 := blk_cell HTW9.out.at_ 1
    have y2 := blk_cell HTW9.out.at_ 2
    have HR0 := Aside0.mk (Kd.R_nil (Kd.int .u8) 5 W9 W9.heap.size (fun _ => True))
    go_wp2_with fail
    clear y1 y2
    go_loopw [8, 9, 91, 92, 93, 94, 95, 96, 97, 98, 99, 100, 101, 102] (fun v8 v9 v91 v92 v93 v94 v95 v96 v97 v98 v99 v100 v101 v102 wr => ∃ i : Nat, i ≤ PQ.length ∧ v91 = .int .i64 (i : Int) ∧ Kd.R (Kd.int .u8) 5 wr W9.heap.size (fun _ => True) v8 (PQ.take i).flatten ∧ (PQ.take i).flatten.length ≤ 256 * i ∧ Below W9.heap.size W9 wr)
      (fun v8 v9 v91 v92 v93 v94 v95 v96 v97 v98 v99 v100 v101 v102 _ => PQ.length - (intOf v91).toNat)
    case atStart => exact ⟨0, Nat.zero_le _, rfl, HR0.out, by simp, Below.refl _ _⟩
    case round =>
      obtain ⟨i, hi, rfl, hR8, hl8, hB8⟩ := hrel
      obtain ⟨X, hX⟩ : ∃ X, (PQ.take i).flatten = X := ⟨_, rfl⟩
      rw [hX] at hR8 hl8
      obtain ⟨A8, c8, rfl⟩ := Kd.R_slice hR8
      have HX := Aside0.mk (And.intro hX (And.intro hl8 hi))
      have HR8 := Aside0.mk hR8
      have HB8 := Aside0.mk hB8
      have HTr : Aside0 (Tl w own g b w.heap.size pid PQ (partO pid (pat : Int) (pn : Int) (.slice A9 bb.length c9)) A9 bb wr) := ⟨HTW9.out.below HB8.out⟩
      clear hX hl8 hi hR8 hB8
      by_cases hlt : i < PQ.length
      · obtain ⟨Ai, ci, _, hlk, hci, hCi, _, h256⟩ := HTr.out.part hlt (HALL.out i hlt)
        have y2 := blk_cell HTr.out.at_ 2
        have hib : i < 4096 := by have := HQL.out; omega
        obtain ⟨pi, hpi⟩ : ∃ pi, PQ.getD i noP = pi := ⟨_, rfl⟩
        rw [hpi] at hlk hci hCi h256
        have HPI2 := Aside0.mk (And.intro hpi (And.intro h256 hlt))
        have HCi := Aside0.mk hCi
        have HBD : Aside0 ((X.length + pi.length) * 1 ≤ 140737488355328) := ⟨by have := HX.out.2.1; omega⟩
        have HBZ := Aside0.mk HB8.out.size
        clear hpi h256 hCi hci
        go_wp2_with (first | ((with_reducible refine gate_builtin (b := .append) (xs := #[.tmp 94, .tmp 100]) rfl ?_); at_builtin; refine Kd.R_append_rows (Kd.int .u8) (w0 := W9) W9.heap.size rfl (.tmp 94) (.tmp 100) 23 5 (.int .u8 0) 1 rfl Try.underlying23 info5 rfl (by decide) (by decide) (.slice A8 X.length c8) X pi Ai pi.length ci (fun _ => True) (fun _ => False) rfl rfl HR8.out HCi.out (fun _ _ h => h) (fun _ h => h.elim) (fun _ _ => trivial) HB8.out HBZ.out HBD.out ?_; intro v9 w9 hR9 hB9 hg9 hat9; obtain ⟨A10, c10, rfl⟩ := Kd.R_slice hR9; clear hg9 hat9))
        go_roundw
        case rel =>
          refine ⟨i + 1, HPI2.out.2.2, by simp, ?_, ?_, hB9⟩
          · rw [flat_take PQ i HPI2.out.2.2, HPI2.out.1, HX.out.1]
            first
              | exact hR9
              | (rw [List.length_append] at hR9; exact hR9)
          · rw [flat_take PQ i HPI2.out.2.2, HPI2.out.1, HX.out.1, List.length_append]
            have := HX.out.2.1; have := HPI2.out.2.1; omega
        case measure => have := HPI2.out.2.2; simp [intOf] <;> omega
      · have hiN : i = PQ.length := by have := HX.out.2.2; omega
        have hXe : X = PQ.flatten := by rw [← HX.out.1, hiN, List.take_of_length_le (Nat.le_refl _)]
        have HXE := Aside0.mk hXe
        clear hXe
        subst hiN
        have y1 := blk_cell HTr.out.at_ 1
        go_wp2_with fail
        go_ret2
        rw [HRV.out]
        refine ⟨HTr.out.gat HOG.out (by have := HN.out.2.1; have := HID.out; omega), HTr.out.mu, _, rfl, ?_⟩
        rw [← HXE.out]
        exact Kd.R_lower HR8.out HTW9.out.mu.size
  obtain ⟨Aq, cq, hlk, _, hcq, hCq, hbq, h256⟩ := HTW4.out.part HPI.out c2
  obtain ⟨pq, hpq⟩ : ∃ pq, ps.getD pat noP = pq := ⟨_, rfl⟩
  rw [hpq] at hlk hcq hCq hbq h256
  have e1 : ((pn : Int) == (ps.length : Int)) = true := beq_iff_eq.2 (by omega)
  have HCQ := Aside0.mk (And.intro hcq (And.intro hCq hbq))
  have HR2 : Aside0 (R = if pq = bb then some ((pid, (ps.length : Int), ps.set pat bb), ([], false)) else none) := ⟨by
    rw [← HR.out]; unfold takeV
    rw [if_neg (by omega), if_neg (by omega), if_neg (fun h => c2 h.2)]
    by_cases c3 : pq = bb
    · rw [if_pos ⟨by omega, hpq.trans c3⟩, if_pos c3]
    · rw [if_neg (fun h => c3 (hpq.symm.trans h.2)), if_neg c3]⟩
  have HPQ0 := Aside0.mk (And.intro hpq c2)
  have HC1 := Aside0.mk c1
  have heq := equal_bytesF hbq HBB.out.1
  have HEQ := Aside0.mk heq
  clear c1 c2 hpq hcq hCq hbq h256 HR heq
  have y2 := blk_cell HTW4.out.at_ 2
  have x1 := blk_cell HTW4.out.pb_ 1
  go_wp2_with fail
  go_quiet (fail)
  clear hlk y2 x1
  have HCQ5 := Aside0.mk (Kd.C_drewN HCQ.out.2.1 nq)
  generalize hW_W5 : W4.drewN nq = W5 at *
  have HTW5 : Aside0 (Tl w own g b w.heap.size pid ps (partO pid (pat : Int) (pn : Int) (.slice A9 bb.length c9)) A9 bb W5) := ⟨by rw [← hW_W5]; exact HTW4.out.drewN _⟩
  clear hW_W5
  go_wp2_with fail
  by_cases c3 : pq = bb
  case neg =>
    have HRN : Aside0 (R = none) := ⟨by rw [HR2.out, if_neg c3]⟩
    have HEF : Aside0 (bytes_Equal.f pq bb = some false) := ⟨by rw [HEQ.out, decide_eq_false c3]⟩
    clear c3
    refine start_ (n := 18) (S := fun w' => w'.cell? ⟨g, 1, none⟩ = some (.int .i64 (ps.length : Int)) ∧ w'.cell? ⟨w.heap.size, 2, none⟩ = some (.int .i64 (pn : Int)) ∧ w'.cell? ⟨w.heap.size, 3, none⟩ = some (.slice A9 bb.length c9)) (ds := [17]) #[false, false, false, false, false, false, false, false, false, false, false, false, false, false, false, false, false, false] (by kernel_rfl) rfl rfl ⟨(blk_cell HTW5.out.drew.at_ 1), (blk_cell HTW5.out.drew.pb_ 2), (blk_cell HTW5.out.drew.pb_ 3)⟩ (fun hHeld => ?_)
    refine pure_ (i := 0) (N := some 48) (v := ?_) (a' := ?_) #[true, false, false, false, false, false, false, false, false, false, false, false, false, false, false, false, false, false] rfl rfl (by kernel_rfl) (fun _ _ _ h => h) (Or.inl ⟨by rfl, ?_⟩) ?_ ?_
    rotate_left
    · intro w'
      go_simp
      with_reducible rfl
    rotate_left
    · simp only [Act.put, List.setIfInBounds_toArray, List.set_cons_zero, List.set_cons_succ, i64_w, i32_w]
      rfl
    refine pure_ (i := 2) (N := some 50) (v := ?_) (a' := ?_) #[true, false, true, false, false, false, false, false, false, false, false, false, false, false, false, false, false, false] rfl rfl (by kernel_rfl) (fun _ _ _ h => h) (Or.inl ⟨by rfl, ?_⟩) ?_ ?_
    rotate_left
    · intro w'
      go_simp
      with_reducible rfl
    rotate_left
    · simp only [Act.put, List.setIfInBounds_toArray, List.set_cons_zero, List.set_cons_succ, i64_w, i32_w]
      rfl
    refine pure_ (i := 3) (N := some 51) (v := ?_) (a' := ?_) #[true, false, true, true, false, false, false, false, false, false, false, false, false, false, false, false, false, false] rfl rfl (by kernel_rfl) (fun _ _ _ h => h) (Or.inl ⟨by rfl, ?_⟩) ?_ ?_
    rotate_left
    · intro w'
      go_simp
      with_reducible rfl
    rotate_left
    · simp only [Act.put, List.setIfInBounds_toArray, List.set_cons_zero, List.set_cons_succ, i64_w, i32_w]
      rfl
    refine pure_ (i := 4) (N := some 52) (v := ?_) (a' := ?_) #[true, false, true, true, true, false, false, false, false, false, false, false, false, false, false, false, false, false] rfl rfl (by kernel_rfl) (fun _ _ _ h => h) (Or.inl ⟨by rfl, ?_⟩) ?_ ?_
    rotate_left
    · intro w'
      go_simp
      with_reducible rfl
    rotate_left
    · simp only [Act.put, List.setIfInBounds_toArray, List.set_cons_zero, List.set_cons_succ, i64_w, i32_w]
      rfl
    refine take_ (i := 1) (N := some 49) (v := ?_) (a' := ?_) #[true, true, true, true, true, false, false, false, false, false, false, false, false, false, false, false, false, false] rfl rfl (by kernel_rfl) (fun _ _ _ h => h) (Or.inl ⟨by rfl, ?_⟩) hHeld ?_ ?_
    rotate_left
    · rintro w' ⟨s0, s1, s2⟩
      go_simp
      with_reducible rfl
    rotate_left
    · simp only [Act.put, List.setIfInBounds_toArray, List.set_cons_zero, List.set_cons_succ, i64_w, i32_w]
      rfl
    refine take_ (i := 5) (N := some 53) (v := ?_) (a' := ?_) #[true, true, true, true, true, true, false, false, false, false, false, false, false, false, false, false, false, false] rfl rfl (by kernel_rfl) (fun _ _ _ h => h) (Or.inl ⟨by rfl, ?_⟩) hHeld ?_ ?_
    rotate_left
    · rintro w' ⟨s0, s1, s2⟩
      go_simp
      with_reducible rfl
    rotate_left
    · simp only [Act.put, List.setIfInBounds_toArray, List.set_cons_zero, List.set_cons_succ, i64_w, i32_w]
      rfl
    refine pure_ (i := 6) (N := some 54) (v := ?_) (a' := ?_) #[true, true, true, true, true, true, true, false, false, false, false, false, false, false, false, false, false, false] rfl rfl (by kernel_rfl) (fun _ _ _ h => h) (Or.inl ⟨by rfl, ?_⟩) ?_ ?_
    rotate_left
    · intro w'
      go_simp
      with_reducible rfl
    rotate_left
    · simp only [Act.put, List.setIfInBounds_toArray, List.set_cons_zero, List.set_cons_succ, i64_w, i32_w]
      rfl
    refine pure_ (i := 7) (N := some 55) (v := ?_) (a' := ?_) #[true, true, true, true, true, true, true, true, false, false, false, false, false, false, false, false, false, false] rfl rfl (by kernel_rfl) (fun _ _ _ h => h) (Or.inl ⟨by rfl, ?_⟩) ?_ ?_
    rotate_left
    · intro w'
      go_simp
      with_reducible rfl
    rotate_left
    · simp only [Act.put, List.setIfInBounds_toArray, List.set_cons_zero, List.set_cons_succ, i64_w, i32_w]
      rfl
    refine pure_ (i := 8) (N := some 56) (v := ?_) (a' := ?_) #[true, true, true, true, true, true, true, true, true, false, false, false, false, false, false, false, false, false] rfl rfl (by kernel_rfl) (fun _ _ _ h => h) (Or.inl ⟨by rfl, ?_⟩) ?_ ?_
    rotate_left
    · intro w'
      go_simp
      with_reducible rfl
    rotate_left
    · simp only [Act.put, List.setIfInBounds_toArray, List.set_cons_zero, List.set_cons_succ, i64_w, i32_w]
      rfl
    refine pure_ (i := 9) (N := some 57) (v := ?_) (a' := ?_) #[true, true, true, true, true, true, true, true, true, true, false, false, false, false, false, false, false, false] rfl rfl (by kernel_rfl) (fun _ _ _ h => h) (Or.inl ⟨by rfl, ?_⟩) ?_ ?_
    rotate_left
    · intro w'
      go_simp
      with_reducible rfl
    rotate_left
    · simp only [Act.put, List.setIfInBounds_toArray, List.set_cons_zero, List.set_cons_succ, i64_w, i32_w]
      rfl
    refine pure_ (i := 10) (N := some 58) (v := ?_) (a' := ?_) #[true, true, true, true, true, true, true, true, true, true, true, false, false, false, false, false, false, false] rfl rfl (by kernel_rfl) (fun _ _ _ h => h) (Or.inl ⟨by rfl, ?_⟩) ?_ ?_
    rotate_left
    · intro w'
      go_simp
      with_reducible rfl
    rotate_left
    · simp only [Act.put, List.setIfInBounds_toArray, List.set_cons_zero, List.set_cons_succ, i64_w, i32_w]
      rfl
    refine pure_ (i := 11) (N := some 59) (v := ?_) (a' := ?_) #[true, true, true, true, true, true, true, true, true, true, true, true, false, false, false, false, false, false] rfl rfl (by kernel_rfl) (fun _ _ _ h => h) (Or.inl ⟨by rfl, ?_⟩) ?_ ?_
    rotate_left
    · intro w'
      go_simp
      with_reducible rfl
    rotate_left
    · simp only [Act.put, List.setIfInBounds_toArray, List.set_cons_zero, List.set_cons_succ, i64_w, i32_w]
      rfl
    refine pure_ (i := 12) (N := some 60) (v := ?_) (a' := ?_) #[true, true, true, true, true, true, true, true, true, true, true, true, true, false, false, false, false, false] rfl rfl (by kernel_rfl) (fun _ _ _ h => h) (Or.inl ⟨by rfl, ?_⟩) ?_ ?_
    rotate_left
    · intro w'
      go_simp
      with_reducible rfl
    rotate_left
    · simp only [Act.put, List.setIfInBounds_toArray, List.set_cons_zero, List.set_cons_succ, i64_w, i32_w]
      rfl
    refine take_ (i := 13) (N := some 61) (v := ?_) (a' := ?_) #[true, true, true, true, true, true, true, true, true, true, true, true, true, true, false, false, false, false] rfl rfl (by kernel_rfl) (fun _ _ _ h => h) (Or.inl ⟨by rfl, ?_⟩) hHeld ?_ ?_
    rotate_left
    · rintro w' ⟨s0, s1, s2⟩
      go_simp
      with_reducible rfl
    rotate_left
    · simp only [Act.put, List.setIfInBounds_toArray, List.set_cons_zero, List.set_cons_succ, i64_w, i32_w]
      rfl
    refine one_ (i := 14) (N := some 62) #[true, true, true, true, true, true, true, true, true, true, true, true, true, true, true, false, false, false] rfl rfl (by kernel_rfl) (by decide) (fun K hK => ?_)
    refine goes_ Try.func44 (by kernel_rfl) rfl #[.slice Aq pq.length cq, .slice A9 bb.length c9] (by rfl) rfl rfl (by (try simp only [List.map_toArray, List.map_cons, List.map_nil]); first | done | rfl) ?_
    refine (bytes_Equal.calls Aq cq pq A9 c9 bb false _ (Kd.C_drew HCQ5.out) HCQ.out.1 (Kd.F_now HTW5.out.drew.F) HBB.out.2.1 HEF.out).mono ?_
    rintro e w6 ⟨rfl, ⟨nd, rfl⟩⟩
    refine ⟨_, rfl, ?_⟩
    refine hK.out _ _ ⟨(blk_cell (HTW5.out.drew.drewN nd).at_ 1), (blk_cell (HTW5.out.drew.drewN nd).pb_ 2), (blk_cell (HTW5.out.drew.drewN nd).pb_ 3)⟩ (fun hHeld => ?_)
    clear hK K
    refine norm_ (a' := ?_) ?_ ?_
    rotate_left
    · show Act.put _ (some 62) _ = _
      simp only [Act.put, List.setIfInBounds_toArray, List.set_cons_zero, List.set_cons_succ, i64_w, i32_w]
      rfl
    refine pure_ (i := 15) (N := some 63) (v := ?_) (a' := ?_) #[true, true, true, true, true, true, true, true, true, true, true, true, true, true, true, true, false, false] rfl rfl (by kernel_rfl) (fun _ _ _ h => h) (Or.inl ⟨by rfl, ?_⟩) ?_ ?_
    rotate_left
    · intro w'
      go_simp
      with_reducible rfl
    rotate_left
    · simp only [Act.put, List.setIfInBounds_toArray, List.set_cons_zero, List.set_cons_succ, i64_w, i32_w]
      rfl
    refine pure_ (i := 16) (N := some 64) (v := ?_) (a' := ?_) #[true, true, true, true, true, true, true, true, true, true, true, true, true, true, true, true, true, false] rfl rfl (by kernel_rfl) (fun _ _ _ h => h) (Or.inl ⟨by rfl, ?_⟩) ?_ ?_
    rotate_left
    · intro w'
      go_simp
      with_reducible rfl
    rotate_left
    · simp only [Act.put, List.setIfInBounds_toArray, List.set_cons_zero, List.set_cons_succ, i64_w, i32_w]
      rfl
    refine last_ (i := 17) (N := some 65) #[true, true, true, true, true, true, true, true, true, true, true, true, true, true, true, true, true, true] rfl rfl (by kernel_rfl) (by decide) (fun K hK => ?_)
    refine goesP_ Try.func60 (by kernel_rfl) rfl #[.bool false] (by rfl) rfl rfl (by (try simp only [List.map_toArray, List.map_cons, List.map_nil]); first | done | rfl) ?_
    refine (fasks_no rfl).mono ?_
    rintro en w7 ⟨rfl, rfl⟩
    rw [HRN.out]
    exact ⟨_, rfl, rfl, (HTW5.out.drew.drewN nd).gat HOG.out HID.out, (HTW5.out.drew.drewN nd).mu, rfl⟩
  have HRV : Aside0 (R = some ((pid, (ps.length : Int), ps.set pat bb), ([], false))) := ⟨by rw [HR2.out, if_pos c3]⟩
  have HEF : Aside0 (bytes_Equal.f pq bb = some true) := ⟨by rw [HEQ.out, decide_eq_true c3]⟩
  clear c3
  refine start_ (n := 18) (S := fun w' => w'.cell? ⟨g, 1, none⟩ = some (.int .i64 (ps.length : Int)) ∧ w'.cell? ⟨w.heap.size, 2, none⟩ = some (.int .i64 (pn : Int)) ∧ w'.cell? ⟨w.heap.size, 3, none⟩ = some (.slice A9 bb.length c9)) (ds := [17]) #[false, false, false, false, false, false, false, false, false, false, false, false, false, false, false, false, false, false] (by kernel_rfl) rfl rfl ⟨(blk_cell HTW5.out.drew.at_ 1), (blk_cell HTW5.out.drew.pb_ 2), (blk_cell HTW5.out.drew.pb_ 3)⟩ (fun hHeld => ?_)
  refine pure_ (i := 0) (N := some 48) (v := ?_) (a' := ?_) #[true, false, false, false, false, false, false, false, false, false, false, false, false, false, false, false, false, false] rfl rfl (by kernel_rfl) (fun _ _ _ h => h) (Or.inl ⟨by rfl, ?_⟩) ?_ ?_
  rotate_left
  · intro w'
    go_simp
    with_reducible rfl
  rotate_left
  · simp only [Act.put, List.setIfInBounds_toArray, List.set_cons_zero, List.set_cons_succ, i64_w, i32_w]
    rfl
  refine pure_ (i := 2) (N := some 50) (v := ?_) (a' := ?_) #[true, false, true, false, false, false, false, false, false, false, false, false, false, false, false, false, false, false] rfl rfl (by kernel_rfl) (fun _ _ _ h => h) (Or.inl ⟨by rfl, ?_⟩) ?_ ?_
  rotate_left
  · intro w'
    go_simp
    with_reducible rfl
  rotate_left
  · simp only [Act.put, List.setIfInBounds_toArray, List.set_cons_zero, List.set_cons_succ, i64_w, i32_w]
    rfl
  refine pure_ (i := 3) (N := some 51) (v := ?_) (a' := ?_) #[true, false, true, true, false, false, false, false, false, false, false, false, false, false, false, false, false, false] rfl rfl (by kernel_rfl) (fun _ _ _ h => h) (Or.inl ⟨by rfl, ?_⟩) ?_ ?_
  rotate_left
  · intro w'
    go_simp
    with_reducible rfl
  rotate_left
  · simp only [Act.put, List.setIfInBounds_toArray, List.set_cons_zero, List.set_cons_succ, i64_w, i32_w]
    rfl
  refine pure_ (i := 4) (N := some 52) (v := ?_) (a' := ?_) #[true, false, true, true, true, false, false, false, false, false, false, false, false, false, false, false, false, false] rfl rfl (by kernel_rfl) (fun _ _ _ h => h) (Or.inl ⟨by rfl, ?_⟩) ?_ ?_
  rotate_left
  · intro w'
    go_simp
    with_reducible rfl
  rotate_left
  · simp only [Act.put, List.setIfInBounds_toArray, List.set_cons_zero, List.set_cons_succ, i64_w, i32_w]
    rfl
  refine take_ (i := 1) (N := some 49) (v := ?_) (a' := ?_) #[true, true, true, true, true, false, false, false, false, false, false, false, false, false, false, false, false, false] rfl rfl (by kernel_rfl) (fun _ _ _ h => h) (Or.inl ⟨by rfl, ?_⟩) hHeld ?_ ?_
  rotate_left
  · rintro w' ⟨s0, s1, s2⟩
    go_simp
    with_reducible rfl
  rotate_left
  · simp only [Act.put, List.setIfInBounds_toArray, List.set_cons_zero, List.set_cons_succ, i64_w, i32_w]
    rfl
  refine take_ (i := 5) (N := some 53) (v := ?_) (a' := ?_) #[true, true, true, true, true, true, false, false, false, false, false, false, false, false, false, false, false, false] rfl rfl (by kernel_rfl) (fun _ _ _ h => h) (Or.inl ⟨by rfl, ?_⟩) hHeld ?_ ?_
  rotate_left
  · rintro w' ⟨s0, s1, s2⟩
    go_simp
    with_reducible rfl
  rotate_left
  · simp only [Act.put, List.setIfInBounds_toArray, List.set_cons_zero, List.set_cons_succ, i64_w, i32_w]
    rfl
  refine pure_ (i := 6) (N := some 54) (v := ?_) (a' := ?_) #[true, true, true, true, true, true, true, false, false, false, false, false, false, false, false, false, false, false] rfl rfl (by kernel_rfl) (fun _ _ _ h => h) (Or.inl ⟨by rfl, ?_⟩) ?_ ?_
  rotate_left
  · intro w'
    go_simp
    with_reducible rfl
  rotate_left
  · simp only [Act.put, List.setIfInBounds_toArray, List.set_cons_zero, List.set_cons_succ, i64_w, i32_w]
    rfl
  refine pure_ (i := 7) (N := some 55) (v := ?_) (a' := ?_) #[true, true, true, true, true, true, true, true, false, false, false, false, false, false, false, false, false, false] rfl rfl (by kernel_rfl) (fun _ _ _ h => h) (Or.inl ⟨by rfl, ?_⟩) ?_ ?_
  rotate_left
  · intro w'
    go_simp
    with_reducible rfl
  rotate_left
  · simp only [Act.put, List.setIfInBounds_toArray, List.set_cons_zero, List.set_cons_succ, i64_w, i32_w]
    rfl
  refine pure_ (i := 8) (N := some 56) (v := ?_) (a' := ?_) #[true, true, true, true, true, true, true, true, true, false, false, false, false, false, false, false, false, false] rfl rfl (by kernel_rfl) (fun _ _ _ h => h) (Or.inl ⟨by rfl, ?_⟩) ?_ ?_
  rotate_left
  · intro w'
    go_simp
    with_reducible rfl
  rotate_left
  · simp only [Act.put, List.setIfInBounds_toArray, List.set_cons_zero, List.set_cons_succ, i64_w, i32_w]
    rfl
  refine pure_ (i := 9) (N := some 57) (v := ?_) (a' := ?_) #[true, true, true, true, true, true, true, true, true, true, false, false, false, false, false, false, false, false] rfl rfl (by kernel_rfl) (fun _ _ _ h => h) (Or.inl ⟨by rfl, ?_⟩) ?_ ?_
  rotate_left
  · intro w'
    go_simp
    with_reducible rfl
  rotate_left
  · simp only [Act.put, List.setIfInBounds_toArray, List.set_cons_zero, List.set_cons_succ, i64_w, i32_w]
    rfl
  refine pure_ (i := 10) (N := some 58) (v := ?_) (a' := ?_) #[true, true, true, true, true, true, true, true, true, true, true, false, false, false, false, false, false, false] rfl rfl (by kernel_rfl) (fun _ _ _ h => h) (Or.inl ⟨by rfl, ?_⟩) ?_ ?_
  rotate_left
  · intro w'
    go_simp
    with_reducible rfl
  rotate_left
  · simp only [Act.put, List.setIfInBounds_toArray, List.set_cons_zero, List.set_cons_succ, i64_w, i32_w]
    rfl
  refine pure_ (i := 11) (N := some 59) (v := ?_) (a' := ?_) #[true, true, true, true, true, true, true, true, true, true, true, true, false, false, false, false, false, false] rfl rfl (by kernel_rfl) (fun _ _ _ h => h) (Or.inl ⟨by rfl, ?_⟩) ?_ ?_
  rotate_left
  · intro w'
    go_simp
    with_reducible rfl
  rotate_left
  · simp only [Act.put, List.setIfInBounds_toArray, List.set_cons_zero, List.set_cons_succ, i64_w, i32_w]
    rfl
  refine pure_ (i := 12) (N := some 60) (v := ?_) (a' := ?_) #[true, true, true, true, true, true, true, true, true, true, true, true, true, false, false, false, false, false] rfl rfl (by kernel_rfl) (fun _ _ _ h => h) (Or.inl ⟨by rfl, ?_⟩) ?_ ?_
  rotate_left
  · intro w'
    go_simp
    with_reducible rfl
  rotate_left
  · simp only [Act.put, List.setIfInBounds_toArray, List.set_cons_zero, List.set_cons_succ, i64_w, i32_w]
    rfl
  refine take_ (i := 13) (N := some 61) (v := ?_) (a' := ?_) #[true, true, true, true, true, true, true, true, true, true, true, true, true, true, false, false, false, false] rfl rfl (by kernel_rfl) (fun _ _ _ h => h) (Or.inl ⟨by rfl, ?_⟩) hHeld ?_ ?_
  rotate_left
  · rintro w' ⟨s0, s1, s2⟩
    go_simp
    with_reducible rfl
  rotate_left
  · simp only [Act.put, List.setIfInBounds_toArray, List.set_cons_zero, List.set_cons_succ, i64_w, i32_w]
    rfl
  refine one_ (i := 14) (N := some 62) #[true, true, true, true, true, true, true, true, true, true, true, true, true, true, true, false, false, false] rfl rfl (by kernel_rfl) (by decide) (fun K hK => ?_)
  refine goes_ Try.func44 (by kernel_rfl) rfl #[.slice Aq pq.length cq, .slice A9 bb.length c9] (by rfl) rfl rfl (by (try simp only [List.map_toArray, List.map_cons, List.map_nil]); first | done | rfl) ?_
  refine (bytes_Equal.calls Aq cq pq A9 c9 bb true _ (Kd.C_drew HCQ5.out) HCQ.out.1 (Kd.F_now HTW5.out.drew.F) HBB.out.2.1 HEF.out).mono ?_
  rintro e w6 ⟨rfl, ⟨nd, rfl⟩⟩
  refine ⟨_, rfl, ?_⟩
  refine hK.out _ _ ⟨(blk_cell (HTW5.out.drew.drewN nd).at_ 1), (blk_cell (HTW5.out.drew.drewN nd).pb_ 2), (blk_cell (HTW5.out.drew.drewN nd).pb_ 3)⟩ (fun hHeld => ?_)
  clear hK K
  refine norm_ (a' := ?_) ?_ ?_
  rotate_left
  · show Act.put _ (some 62) _ = _
    simp only [Act.put, List.setIfInBounds_toArray, List.set_cons_zero, List.set_cons_succ, i64_w, i32_w]
    rfl
  refine pure_ (i := 15) (N := some 63) (v := ?_) (a' := ?_) #[true, true, true, true, true, true, true, true, true, true, true, true, true, true, true, true, false, false] rfl rfl (by kernel_rfl) (fun _ _ _ h => h) (Or.inl ⟨by rfl, ?_⟩) ?_ ?_
  rotate_left
  · intro w'
    go_simp
    with_reducible rfl
  rotate_left
  · simp only [Act.put, List.setIfInBounds_toArray, List.set_cons_zero, List.set_cons_succ, i64_w, i32_w]
    rfl
  refine pure_ (i := 16) (N := some 64) (v := ?_) (a' := ?_) #[true, true, true, true, true, true, true, true, true, true, true, true, true, true, true, true, true, false] rfl rfl (by kernel_rfl) (fun _ _ _ h => h) (Or.inl ⟨by rfl, ?_⟩) ?_ ?_
  rotate_left
  · intro w'
    go_simp
    with_reducible rfl
  rotate_left
  · simp only [Act.put, List.setIfInBounds_toArray, List.set_cons_zero, List.set_cons_succ, i64_w, i32_w]
    rfl
  refine last_ (i := 17) (N := some 65) #[true, true, true, true, true, true, true, true, true, true, true, true, true, true, true, true, true, true] rfl rfl (by kernel_rfl) (by decide) (fun K hK => ?_)
  refine goes_ Try.func60 (by kernel_rfl) rfl #[.bool true] (by rfl) rfl rfl (by (try simp only [List.map_toArray, List.map_cons, List.map_nil]); first | done | rfl) ?_
  refine (fasks_ok rfl).mono ?_
  rintro en w7 ⟨rfl, rfl⟩
  refine ⟨_, rfl, ?_⟩
  refine hK.out _ _ ?_
  clear hK K
  refine norm_ (a' := ?_) ?_ ?_
  rotate_left
  · show Act.put _ (some 65) _ = _
    simp only [Act.put, List.setIfInBounds_toArray, List.set_cons_zero, List.set_cons_succ, i64_w, i32_w]
    rfl
  refine done_ (by kernel_rfl) ?_
  generalize hW_W6 : W5.drew.drewN nd = W6
  have HTW6 : Aside0 (Tl w own g b w.heap.size pid ps (partO pid (pat : Int) (pn : Int) (.slice A9 bb.length c9)) A9 bb W6) := ⟨by rw [← hW_W6]; exact HTW5.out.drew.drewN _⟩
  clear hW_W6
  go_wp2_with fail
  obtain ⟨W8, hst8, hT8⟩ := HTW6.out.drew.store HNB.out (i := pat) HPI.out HBB.out.1 HBB.out.2.2 HBB.out.2.1
  have HTW8 := Aside0.mk hT8
  clear hT8
  refine start_ (n := 9) (S := fun w' => w'.cell? ⟨g, 2, none⟩ = some (.map (some b)) ∧ w'.cell? ⟨w.heap.size, 1, none⟩ = some (.int .i64 (pat : Int)) ∧ w'.cell? ⟨w.heap.size, 3, none⟩ = some (.slice A9 bb.length c9)) (ds := [8]) #[false, false, false, false, false, false, false, false, false] (by kernel_rfl) rfl rfl ⟨(blk_cell HTW6.out.drew.at_ 2), (blk_cell HTW6.out.drew.pb_ 1), (blk_cell HTW6.out.drew.pb_ 3)⟩ (fun hHeld => ?_)
  refine pure_ (i := 0) (N := some 66) (v := ?_) (a' := ?_) #[true, false, false, false, false, false, false, false, false] rfl rfl (by kernel_rfl) (fun _ _ _ h => h) (Or.inl ⟨by rfl, ?_⟩) ?_ ?_
  rotate_left
  · intro w'
    go_simp
    with_reducible rfl
  rotate_left
  · simp only [Act.put, List.setIfInBounds_toArray, List.set_cons_zero, List.set_cons_succ, i64_w, i32_w]
    rfl
  refine pure_ (i := 1) (N := some 67) (v := ?_) (a' := ?_) #[true, true, false, false, false, false, false, false, false] rfl rfl (by kernel_rfl) (fun _ _ _ h => h) (Or.inl ⟨by rfl, ?_⟩) ?_ ?_
  rotate_left
  · intro w'
    go_simp
    with_reducible rfl
  rotate_left
  · simp only [Act.put, List.setIfInBounds_toArray, List.set_cons_zero, List.set_cons_succ, i64_w, i32_w]
    rfl
  refine pure_ (i := 2) (N := some 68) (v := ?_) (a' := ?_) #[true, true, true, false, false, false, false, false, false] rfl rfl (by kernel_rfl) (fun _ _ _ h => h) (Or.inl ⟨by rfl, ?_⟩) ?_ ?_
  rotate_left
  · intro w'
    go_simp
    with_reducible rfl
  rotate_left
  · simp only [Act.put, List.setIfInBounds_toArray, List.set_cons_zero, List.set_cons_succ, i64_w, i32_w]
    rfl
  refine pure_ (i := 4) (N := some 70) (v := ?_) (a' := ?_) #[true, true, true, false, true, false, false, false, false] rfl rfl (by kernel_rfl) (fun _ _ _ h => h) (Or.inl ⟨by rfl, ?_⟩) ?_ ?_
  rotate_left
  · intro w'
    go_simp
    with_reducible rfl
  rotate_left
  · simp only [Act.put, List.setIfInBounds_toArray, List.set_cons_zero, List.set_cons_succ, i64_w, i32_w]
    rfl
  refine pure_ (i := 6) (N := some 72) (v := ?_) (a' := ?_) #[true, true, true, false, true, false, true, false, false] rfl rfl (by kernel_rfl) (fun _ _ _ h => h) (Or.inl ⟨by rfl, ?_⟩) ?_ ?_
  rotate_left
  · intro w'
    go_simp
    with_reducible rfl
  rotate_left
  · simp only [Act.put, List.setIfInBounds_toArray, List.set_cons_zero, List.set_cons_succ, i64_w, i32_w]
    rfl
  refine take_ (i := 3) (N := some 69) (v := ?_) (a' := ?_) #[true, true, true, true, true, false, true, false, false] rfl rfl (by kernel_rfl) (fun _ _ _ h => h) (Or.inl ⟨by rfl, ?_⟩) hHeld ?_ ?_
  rotate_left
  · rintro w' ⟨s0, s1, s2⟩
    go_simp
    with_reducible rfl
  rotate_left
  · simp only [Act.put, List.setIfInBounds_toArray, List.set_cons_zero, List.set_cons_succ, i64_w, i32_w]
    rfl
  refine take_ (i := 5) (N := some 71) (v := ?_) (a' := ?_) #[true, true, true, true, true, true, true, false, false] rfl rfl (by kernel_rfl) (fun _ _ _ h => h) (Or.inl ⟨by rfl, ?_⟩) hHeld ?_ ?_
  rotate_left
  · rintro w' ⟨s0, s1, s2⟩
    go_simp
    with_reducible rfl
  rotate_left
  · simp only [Act.put, List.setIfInBounds_toArray, List.set_cons_zero, List.set_cons_succ, i64_w, i32_w]
    rfl
  refine take_ (i := 7) (N := some 73) (v := ?_) (a' := ?_) #[true, true, true, true, true, true, true, true, false] rfl rfl (by kernel_rfl) (fun _ _ _ h => h) (Or.inl ⟨by rfl, ?_⟩) hHeld ?_ ?_
  rotate_left
  · rintro w' ⟨s0, s1, s2⟩
    go_simp
    with_reducible rfl
  rotate_left
  · simp only [Act.put, List.setIfInBounds_toArray, List.set_cons_zero, List.set_cons_succ, i64_w, i32_w]
    rfl
  refine last_ (i := 8) (N := none) #[true, true, true, true, true, true, true, true, true] rfl rfl (by kernel_rfl) (by decide) (fun K hK => ?_)
  refine skip_ (by rfl) rfl (exec_updF rfl (by rfl) (by rfl) (by rfl) hst8) ?_
  refine hK.out _ _ ?_
  clear hK K
  refine done_ (by kernel_rfl) ?_
  clear hst8
  go_wp2_with fail
  go_quiet (fail)
  go_wp2_with fail
  go_ret2
  rw [HRV.out]
  refine ⟨?_, (HTW8.out.drewN _).mu, _, rfl, Kd.R_nil _ _ _ _ _⟩
  have := (HTW8.out.drewN nq).gat HOG.out HID.out
  rwa [List.length_set] at this
theorem takes_any {w : World} {own : Nat → Prop} {g : Nat} {id cnt : Int} {ps : List (List Int)} (hG : GatAt w own g id cnt ps) (hnew : ∀ k, w.heap.size ≤ k → own k) (pid : Int) (pat pn : Nat) (hid : 1 ≤ pid ∧ pid ≤ 4611686018427387904) (hpat : pat < pn) (hpn : pn ≤ 4096)
    {A9 : Option Addr} {c9 : Nat} {bb : List Int} (hbb : ∀ x ∈ bb, 0 ≤ x ∧ x < 256) (hc9 : bb.length ≤ c9) (hl9 : bb.length ≤ 256) (hF : Kd.F (Kd.int .u8) w (fun k => own k ∧ k ≠ g ∧ ∀ i c b, w.heap[g]? = some (gatO i c (some b)) → k ≠ b) A9 bb.length bb)  :
    Calls Try.prog 51 #[.pointer (some ⟨g, 0, none⟩), .agg #[.int .u64 pid, .int .i64 (pat : Int), .int .i64 (pn : Int), .slice A9 bb.length c9]] w (TakePost w own g (id, cnt, ps) (takeV id cnt ps pid pat pn bb)) := by
  by_cases h1 : pid < id
  · exact takes_lt hG hnew pid pat pn hid hpat hpn hbb hc9 hl9 hF h1
  by_cases h2 : id < pid
  · exact takes_gt hG hnew pid pat pn hid hpat hpn hbb hc9 hl9 hF h2
  · exact takes_eq hG hnew pid pat pn hid hpat hpn hbb hc9 hl9 hF h1 h2
end Go.Proofs.Ytdklanenmihpdaa.Hand
namespace Go.Proofs.Ytdklanenmihpdaa.Hand
open Go.RowKit Go.Maps Go.Proofs.YtdklanenmihpdaaW.PrintWords Go.Proofs.YtdklanenmihpdaaW.PrintLast Go.Proofs.Ytdklanenmihpdaa.PA
theorem GatAt.mono {w : World} {own own' : Nat → Prop} {g : Nat} {id cnt : Int} {ps : List (List Int)} (h : GatAt w own g id cnt ps) (hm : ∀ k, k < w.heap.size → own k → own' k) : GatAt w own' g id cnt ps := by
  obtain ⟨hg, ⟨h1, h2, h3, h4⟩ | ⟨h1, h2, b, h4, h5⟩⟩ := h
  · exact ⟨hm g (heap_lt h4) hg, .inl ⟨h1, h2, h3, h4⟩⟩
  · have hlt := h5.lt
    refine ⟨hm g (heap_lt h4) hg, .inr ⟨h1, h2, b, h4, h5.big, hm b hlt h5.mine, h5.ne, ?_⟩⟩
    obtain ⟨D, a1, a2, a3⟩ := h5.map
    refine ⟨D, a1, a2, fun i hi => ?_⟩
    rcases a3 i hi with h | ⟨q1, q2, q3, A, c, q4, q5, q6⟩
    · exact .inl h
    · exact .inr ⟨q1, q2, q3, A, c, q4, q5, Kd.F_mono (Kd.F_bound q6) (fun k hk => ⟨hm k hk.2 hk.1.1, hk.1.2⟩)⟩
theorem GatAt.lt {w : World} {own : Nat → Prop} {g : Nat} {id cnt : Int} {ps : List (List Int)} (h : GatAt w own g id cnt ps) : g < w.heap.size ∧ ∀ i c b, w.heap[g]? = some (gatO i c (some b)) → b < w.heap.size := by
  obtain ⟨hg, ⟨h1, h2, h3, h4⟩ | ⟨h1, h2, b, h4, h5⟩⟩ := h
  · refine ⟨heap_lt h4, fun i c b hb => ?_⟩
    rw [h4] at hb
    simp at hb
  · refine ⟨heap_lt h4, fun i c b' hb => ?_⟩
    rw [h4] at hb
    simp at hb
    obtain ⟨_, _, rfl⟩ := hb
    exact h5.lt
set_option maxRecDepth 100000
theorem newGather_any {w : World} {own : Nat → Prop} (ho : own w.heap.size) :
    Calls Try.prog 27 #[] w fun e w' => e = .returned (.pointer (some ⟨w.heap.size, 0, none⟩)) ∧ GatAt w' own w.heap.size 0 0 [] ∧ Below w.heap.size w w' ∧ w'.heap.size = w.heap.size + 1 := by
  have hbd : ∀ W : World, (Instr.build 85 #[]).run Try.prog W = .ok (.agg #[.int .u64 0, .int .i64 0, .map none]) W := fun W => run_build (P := Try.prog) W 85 #[] _ (by kernel_rfl)
  go_enter Try.func27, Try.ntmps27
  go_wp2
  go_ret
  exact ⟨rfl, ⟨ho, .inl ⟨rfl, rfl, rfl, alloc_new _ _⟩⟩, below_alloc (Below.refl _ _) _, by simp⟩
theorem gat_heap {w : World} {own : Nat → Prop} {g : Nat} {id cnt : Int} {ps : List (List Int)} (h : GatAt w own g id cnt ps) : ∃ m, w.heap[g]? = some (gatO id cnt m) := by
  rcases h.2 with ⟨h1, h2, _, h4⟩ | ⟨_, _, b, h4, _⟩
  · subst h1 h2; exact ⟨_, h4⟩
  · exact ⟨_, h4⟩
theorem gid_any {w : World} {own : Nat → Prop} {g : Nat} {id cnt : Int} {ps : List (List Int)} (h : GatAt w own g id cnt ps) :
    Calls Try.prog 30 #[.pointer (some ⟨g, 0, none⟩)] w fun e w' => e = .returned (.int .u64 id) ∧ w' = w := by
  obtain ⟨m, hg⟩ := gat_heap h
  have y0 := blk_cell hg 0
  clear hg h
  go_enter Try.func30, Try.ntmps30
  go_wp2
  go_ret
  exact ⟨rfl, rfl⟩
theorem ghave_any {w : World} {own : Nat → Prop} {g : Nat} {id cnt : Int} {ps : List (List Int)} (h : GatAt w own g id cnt ps) :
    Calls Try.prog 31 #[.pointer (some ⟨g, 0, none⟩)] w fun e w' => e = .returned (.int .i64 (haveN ps)) ∧ w' = w := by
  obtain ⟨_, ⟨h1, h2, rfl, h4⟩ | ⟨h1, h2, b, h4, h5⟩⟩ := h
  · have y2 := blk_cell h4 2
    have hlen : (Builtin.len_ #[83] 3 #[.map none]).run Try.prog w = .ok (.int .i64 0) w := by kernel_rfl
    clear h4
    go_enter Try.func31, Try.ntmps31
    go_wp2
    go_ret
    exact ⟨rfl, rfl⟩
  · have y2 := blk_cell h4 2
    have hlen := map_len h5 3
    clear h4 h5
    go_enter Try.func31, Try.ntmps31
    go_wp2
    go_ret
    exact ⟨rfl, rfl⟩
set_option maxHeartbeats 1000000 in
theorem fcaught_nil {w : World} {p : Addr} : Calls Try.prog 50 #[.nilIface, .pointer (some p)] w fun en w' => en = .returned (.tuple #[]) ∧ w' = w := by
  go_enter Try.func50, Try.ntmps50
  go_wp2
  go_end0
  exact ⟨rfl, rfl⟩
set_option maxHeartbeats 1000000 in
theorem fcaught_stop {w : World} {p : Nat} {x : Int} (h : w.heap[p]? = some (.cells #[.int .i64 x] 27 (0, 0))) :
    Calls Try.prog 50 #[fstopV, .pointer (some ⟨p, 0, none⟩)] w fun en w' => en = .returned (.tuple #[]) ∧ w'.heap[p]? = some (.cells #[.int .i64 2] 27 (0, 0)) ∧ Mu (· = p) w w' := by
  have hta : ∀ (v : Value) (W : World), (Instr.typeAssert (.iface 103 v) 20 103 true).run Try.prog W = .ok (.tuple #[v, .bool true]) W := fun v W => by kernel_rfl
  have h1 := alloc_blk (O := .cells #[] 103) h
  have c1 := blk_cell h1 0
  have f1 := blk_frozen h1 0
  have HH := Aside0.mk h1
  clear h1 h
  unfold fstopV
  go_enter Try.func50, Try.ntmps50
  go_wp2
  go_end0
  exact ⟨rfl, set_0 HH.out, ((Mu.refl (· = p) w).alloc _).setCell (p := ⟨p, 0, none⟩) (fun _ => rfl) _⟩
theorem put1_stop {w : World} {p : Nat} {f : Int} {older : List PanicEntry} (h : w.heap[p]? = some (.cells #[.int .i64 f] 27 (0, 0))) :
    CallsD Try.prog 49 #[.pointer (some ⟨p, 0, none⟩)] (.panicking ({ v := fstopV, recovered := false } :: older)) w fun en u w' =>
      en = .returned (.tuple #[]) ∧ u = .panicking ({ v := fstopV, recovered := true } :: older) ∧ w'.heap[p]? = some (.cells #[.int .i64 2] 27 (0, 0)) ∧ Mu (· = p) w w' := by
  refine callsD_of_wpS Try.func49 rfl fun c₀ cs hu => ?_
  have HS := Aside0.mk h
  clear h
  apply wpS_region
  simp [wpOpsS, go_sem, recoverD, hu, Try.ntmps49]
  refine (fcaught_stop HS.out).mono ?_
  rintro en w1 ⟨rfl, g1, hm⟩
  simp [wpOpsS, go_sem, Exit.thenS]
  exact ⟨rfl, _, rfl, .tuple #[], results_none rfl _ _ _, rfl, rfl, g1, hm⟩
theorem put1_idle {w : World} {p : Addr} :
    CallsD Try.prog 49 #[.pointer (some p)] .returning w fun en u w' => en = .returned (.tuple #[]) ∧ u = .returning ∧ w' = w := by
  refine callsD_of_wpS Try.func49 rfl fun c₀ cs hu => ?_
  apply wpS_region
  simp [wpOpsS, go_sem, recoverD, hu, Try.ntmps49]
  refine fcaught_nil.mono ?_
  rintro en w1 ⟨rfl, rfl⟩
  simp [wpOpsS, go_sem, Exit.thenS]
  exact ⟨rfl, .returning, by rw [← hu], .tuple #[], results_none rfl _ _ _, rfl, rfl, rfl⟩
end Go.Proofs.Ytdklanenmihpdaa.Hand
namespace Go.Proofs.Ytdklanenmihpdaa.Hand
open Go.RowKit Go.Maps Go.Proofs.YtdklanenmihpdaaW.PrintWords Go.Proofs.YtdklanenmihpdaaW.PrintLast Go.Proofs.Ytdklanenmihpdaa.PA
theorem readV_ok {l : List Int} {id at_ n : Int} {b : List Int} (hb : ∀ x ∈ l, 0 ≤ x ∧ x < 256) (h : readV l = some (id, at_, n, b)) :
    (1 ≤ id ∧ id ≤ 4611686018427387904) ∧ 0 ≤ at_ ∧ at_ < n ∧ n ≤ 4096 ∧ (∀ x ∈ b, 0 ≤ x ∧ x < 256) ∧ b.length ≤ 256 := by
  obtain ⟨id', p1, e1, h1⟩ : ∃ id p1 e1, rdNum l 0 0 4611686018427387904 = (id, p1, e1) := ⟨_, _, _, rfl⟩
  obtain ⟨at', p2, e2, h2⟩ : ∃ at_ p2 e2, rdNum l p1 e1 4096 = (at_, p2, e2) := ⟨_, _, _, rfl⟩
  obtain ⟨n', p3, e3, h3⟩ : ∃ n p3 e3, rdNum l p2 e2 4096 = (n, p3, e3) := ⟨_, _, _, rfl⟩
  have g1 := rdNum_range (by omega) h1
  have g2 := rdNum_range (by omega) h2
  have g3 := rdNum_range (by omega) h3
  unfold readV at h
  simp only [h1, h2, h3] at h
  by_cases c : e3 = 0 ∧ 0 < id' ∧ at' < n'
  case neg => rw [if_neg c] at h; cases h
  rw [if_pos c] at h
  by_cases d : (l.drop p3.toNat).length = 256 ∨ ((l.drop p3.toNat).length < 256 ∧ at' = n' - 1)
  case neg => rw [if_neg d] at h; cases h
  rw [if_pos d] at h
  simp only [Option.some.injEq, Prod.mk.injEq] at h
  obtain ⟨k1, k2, k3, k4⟩ := h
  subst k1 k2 k3 k4
  refine ⟨⟨by omega, g1.2⟩, g2.1, c.2.2, g3.2, fun x hx => hb x (List.mem_of_mem_drop hx), ?_⟩
  rcases d with d | d <;> omega
def putOut (id cnt : Int) (ps : List (List Int)) : Option ((Int × Int × List (List Int)) × (List Int × Bool)) → (Int × Int × List (List Int)) × (List Int × Bool × Int)
  | none => ((id, cnt, ps), ([], false, 2))
  | some (st, m, x) => (st, (m, x, 0))
def putV (id cnt : Int) (ps : List (List Int)) (l : List Int) : (Int × Int × List (List Int)) × (List Int × Bool × Int) :=
  match readV l with
  | none => ((id, cnt, ps), ([], false, 2))
  | some (pid, pat, pn, b) => putOut id cnt ps (takeV id cnt ps pid pat.toNat pn.toNat b)
def PutPost (w : World) (own : Nat → Prop) (g : Nat) (r : (Int × Int × List (List Int)) × (List Int × Bool × Int)) (e : Ending) (w' : World) : Prop :=
  GatAt w' own g r.1.1 r.1.2.1 r.1.2.2 ∧ Mu own w w' ∧ ∃ v, e = .returned (.tuple #[v, .bool r.2.2.1, .int .i64 r.2.2.2]) ∧ Kd.R (Kd.int .u8) 5 w' w.heap.size (fun _ => True) v r.2.1
theorem put_results {tmps : Array Value} {w : World} {p : Nat} {v : Value} {b : Bool} {X : Int} (h4 : tmps[4]? = some v) (h5 : tmps[5]? = some (.bool b)) (h6 : tmps[6]? = some (.pointer (some ⟨p, 0, none⟩))) (g2 : w.heap[p]? = some (.cells #[.int .i64 X] 27 (0, 0))) :
    (results Try.f28 tmps).run Try.prog w = .ok (.tuple #[v, .bool b, .int .i64 X]) w := by
  have c2 := blk_cell g2 0
  have e4 : tmps.getD 4 undef = v := by simp [Array.getD_eq_getD_getElem?, h4]
  have e5 : tmps.getD 5 undef = .bool b := by simp [Array.getD_eq_getD_getElem?, h5]
  have e6 : tmps.getD 6 undef = .pointer (some ⟨p, 0, none⟩) := by simp [Array.getD_eq_getD_getElem?, h6]
  have l2 : (loadVar 27 ⟨p, 0, none⟩).run Try.prog w = .ok (.int .i64 X) w := by simp [go_sem, c2]
  have hr : Try.f28.results = #[.tmp 4, .tmp 5, .cell 6 27] := by kernel_rfl
  unfold results
  rw [hr]
  simp [h4, h5, h6, l2, asAddr]
set_option maxRecDepth 100000
theorem leave_put {w0 w : World} {own : Nat → Prop} {g p : Nat} {id cnt : Int} {ps : List (List Int)} {f : Int} {tmps : Array Value} (h4 : tmps[4]? = some (.slice none 0 0)) (h5 : tmps[5]? = some (.bool false)) (h6 : tmps[6]? = some (.pointer (some ⟨p, 0, none⟩)))
    (hG : GatAt w (fun k => own k ∧ k ≠ p) g id cnt ps) (hm : Mu own w0 w) (hp : w0.heap.size ≤ p) (h : w.heap[p]? = some (.cells #[.int .i64 f] 27 (0, 0))) (hs : own p) :
    Leaves Try.prog Try.f28 tmps (PutPost w0 own g ((id, cnt, ps), ([], false, 2))) [{ target := .fn (.func 49) #[.pointer (some ⟨p, 0, none⟩)], args := #[] }] (.panicking fstopR) w := by
  refine leaves_cons (f := 49) (args := #[.pointer (some ⟨p, 0, none⟩)]) (by simp) (by simp [go_sem]) ?_
  refine (put1_stop (older := []) h).mono ?_
  rintro en u w3 ⟨rfl, rfl, g2, hm3⟩
  refine ⟨_, put_results h4 h5 h6 g2, ?_, ?_, _, rfl, Kd.R_nil _ _ _ _ _⟩
  · exact (hG.step (fun k hk hl => hm3.block k hl hk.2)).mono (fun k _ hk => hk.1)
  · exact hm.trans (hm3.mono (fun k _ e => by obtain rfl : k = p := e; exact hs))
set_option maxHeartbeats 4000000 in
theorem put_any {w : World} {own : Nat → Prop} {g : Nat} {id cnt : Int} {ps : List (List Int)} (hG : GatAt w own g id cnt ps) (hnew : ∀ k, w.heap.size ≤ k → own k) {A : Option Addr} {c : Nat} {l : List Int} (hC : Kd.C (Kd.int .u8) w A l.length l) (hc : l.length ≤ c) (hl : l.length < 140737488355328) (hb : ∀ x ∈ l, 0 ≤ x ∧ x < 256) :
    Calls Try.prog 28 #[.pointer (some ⟨g, 0, none⟩), .slice A l.length c] w (PutPost w own g (putV id cnt ps l)) := by
  obtain ⟨R, hR⟩ : ∃ R, putV id cnt ps l = R := ⟨_, rfl⟩
  rw [hR]
  obtain ⟨w1, hw1⟩ : ∃ w1, w.alloc (.cells #[.int .i64 0] 27) = w1 := ⟨_, rfl⟩
  have hb1 : Below w.heap.size w w1 := by rw [← hw1]; exact below_alloc (Below.refl _ _) _
  have hp1 : w1.heap[w.heap.size]? = some (.cells #[.int .i64 0] 27 (0, 0)) := by rw [← hw1]; exact alloc_new _ _
  have hs1 : w1.heap.size = w.heap.size + 1 := by rw [← hw1]; simp
  have HRD := Aside0.mk (read_any (Kd.C_below hC hb1) hc hl)
  obtain ⟨V, hV⟩ : ∃ V, readV l = V := ⟨_, rfl⟩
  rw [hV] at HRD
  have hG1 : GatAt w (fun k => own k ∧ k ≠ w.heap.size) g id cnt ps := hG.mono (fun k hk ho => ⟨ho, by omega⟩)
  have HG := Aside0.mk (And.intro hG1 (And.intro hG.lt (And.intro hb1 (And.intro hp1 hs1))))
  have HB := Aside0.mk (And.intro hnew hb)
  have HV := Aside0.mk hV
  have HR := Aside0.mk hR
  have HW1 := Aside0.mk hw1
  have hmf : ∀ (fn : Fn) (first cap : Array Value) (w : World), (Instr.makeFunc fn first cap).run Try.prog w = .ok (.func fn first cap) w := fun _ _ _ _ => rfl
  clear hR hw1 hb1 hp1 hs1 hV hG1 hG hnew hC hc hl hb
  go_enter_defers Try.func28, Try.ntmps28
  go_wp2_with fail
  rw [HW1.out]
  refine HRD.out.mono ?_
  cases V with
  | none =>
    rintro en w2 ⟨rfl, hb2⟩
    have hRv : R = ((id, cnt, ps), ([], false, 2)) := by rw [← HR.out]; unfold putV; rw [HV.out]
    rw [hRv]
    exact leave_put rfl rfl rfl ((HG.out.1.below HG.out.2.2.1).below hb2) (Mu.of_below (below_step HG.out.2.2.1 hb2) own) (Nat.le_refl _) ((Mu.of_below hb2 (fun _ => False)).heap HG.out.2.2.2.1 (fun h => h)) (HB.out.1 _ (Nat.le_refl _))
  | some q =>
  obtain ⟨pid, pat, pn, bb⟩ := q
  rintro en w2 ⟨v2, rfl, hR2, hb2⟩
  obtain ⟨q1, q2, q3, q4, q5, q6⟩ := readV_ok HB.out.2 HV.out
  obtain ⟨at', rfl⟩ := Int.eq_ofNat_of_zero_le q2
  obtain ⟨n', rfl⟩ := Int.eq_ofNat_of_zero_le (show 0 ≤ pn by omega)
  obtain ⟨A2, c2, rfl, hc2, _⟩ := Kd.R_reads hR2
  have hG2 := (HG.out.1.below HG.out.2.2.1).below hb2
  have hp2 := (Mu.of_below hb2 (fun _ => False)).heap HG.out.2.2.2.1 (fun h => h)
  have hgw : w2.heap[g]? = w.heap[g]? := (hb2.block g (by have := HG.out.2.2.2.2; have := HG.out.2.1.1; omega)).trans (HG.out.2.2.1.block g HG.out.2.1.1)
  have hsz2 := hb2.size
  have hF2 : Kd.F (Kd.int .u8) w2 (fun k => (own k ∧ k ≠ w.heap.size) ∧ k ≠ g ∧ ∀ i c b, w2.heap[g]? = some (gatO i c (some b)) → k ≠ b) A2 bb.length bb := by
    refine Kd.F_mono (Kd.R_F (Kd.R_bound hR2)) (fun k hk => ?_)
    have hk2 := hk.2.1
    have hw := HG.out.2.2.2.2
    refine ⟨⟨HB.out.1 k (by omega), by omega⟩, by have := HG.out.2.1.1; omega, fun i c b hb => ?_⟩
    rw [hgw] at hb
    have := HG.out.2.1.2 i c b hb
    omega
  have HT := Aside0.mk (takes_any hG2 (fun k hk => ⟨HB.out.1 k (by have := HG.out.2.2.2.2; omega), by have := HG.out.2.2.2.2; omega⟩) pid at' n' q1 (by omega) (by omega) q5 hc2 q6 hF2)
  obtain ⟨T, hT⟩ : ∃ T, takeV id cnt ps pid at' n' bb = T := ⟨_, rfl⟩
  rw [hT] at HT
  have hRv : R = putOut id cnt ps T := by
    rw [← HR.out]; unfold putV; rw [HV.out]
    simp only [Int.toNat_natCast, hT]
  have HRv := Aside0.mk hRv
  have HB2 := Aside0.mk (And.intro (below_step HG.out.2.2.1 hb2) (And.intro hp2 (show w.heap.size < w2.heap.size by have := HG.out.2.2.2.2; omega)))
  clear hRv hT hF2 hgw hsz2 hp2 hG2 hR2 hb2 q1 q2 q3 q4 q5 q6 hc2 HRD HR
  go_wp2_with fail
  refine HT.out.mono ?_
  cases T with
  | none =>
    rintro en w3 ⟨hG3, hm3, rfl⟩
    rw [HRv.out]
    exact leave_put rfl rfl rfl hG3 ((Mu.of_below HB2.out.1 own).trans (hm3.mono (fun k _ h => h.1))) (Nat.le_refl _) (hm3.heap HB2.out.2.1 (fun h => h.2 rfl)) (HB.out.1 _ (Nat.le_refl _))
  | some q =>
  obtain ⟨st, m, x⟩ := q
  rintro en w3 ⟨hG3, hm3, v3, rfl, hR3⟩
  obtain ⟨A3, c3, rfl⟩ := Kd.R_slice hR3
  have hp3 := hm3.heap HB2.out.2.1 (fun h => h.2 rfl)
  have y0 := blk_cell hp3 0
  have z0 := blk_frozen hp3 0
  have HX := Aside0.mk (And.intro hG3 (And.intro hm3 (And.intro hR3 hp3)))
  clear hG3 hm3 hR3 hp3
  go_wp2_with fail
  refine leaves_cons (f := 49) (args := #[.pointer (some ⟨w.heap.size, 0, none⟩)]) (by simp) (by simp [go_sem]) ?_
  refine put1_idle.mono ?_
  rintro en u w5 ⟨rfl, rfl, rfl⟩
  refine ⟨_, put_results rfl rfl rfl (set_0 HX.out.2.2.2), ?_⟩
  rw [HRv.out]
  have hms : Mu (· = w.heap.size) w3 (w3.setCell ⟨w.heap.size, 0, none⟩ (.int .i64 0)) := (Mu.refl (· = w.heap.size) w3).setCell (p := ⟨w.heap.size, 0, none⟩) (fun _ => rfl) _
  refine ⟨(HX.out.1.step (fun k hk hl => hms.block k hl hk.2)).mono (fun k _ hk => hk.1), ?_, _, rfl, ?_⟩
  · exact ((Mu.of_below HB2.out.1 own).trans (HX.out.2.1.mono (fun k _ h => h.1))).trans (hms.mono (fun k _ e => by obtain rfl : k = w.heap.size := e; exact HB.out.1 _ (Nat.le_refl _)))
  · have h1 := Kd.R_bound HX.out.2.2.1
    exact Kd.R_lower (Kd.R_mono (Kd.R_move h1 (fun k hk => hms.block k hk.2.2.1 (by have := hk.2.1; have := HB2.out.2.2; omega))) (fun _ _ => trivial)) (by have := HB2.out.2.2; omega)
end Go.Proofs.Ytdklanenmihpdaa.Hand
namespace Go.Proofs.Ytdklanenmihpdaa.Hand
open Go.RowKit Go.Maps Go.Proofs.YtdklanenmihpdaaW.PrintWords Go.Proofs.YtdklanenmihpdaaW.PrintLast Go.Proofs.YtdklanenmihpdaaW.PrintMore Go.Proofs.Ytdklanenmihpdaa.PA
theorem rows_get {w : World} {A : Option Addr} {l : List (List Int)} (h : Kd.C (Kd.slice 5 (Kd.int .u8)) w A l.length l) (i : Nat) (hi : i < l.length) :
    ∃ ad Ai ci, A = some ad ∧ w.cell? (ad.add i) = some (.slice Ai (l.getD i []).length ci) ∧ (l.getD i []).length ≤ ci ∧ Kd.C (Kd.int .u8) w Ai (l.getD i []).length (l.getD i []) := by
  obtain ⟨ad, cc, e1, _, ⟨Ak, ck, rfl, hck, hCk⟩, hcell⟩ := Kd.C_get h [] (i : Int) (by omega) (by omega)
  have hcl := hcell 0 _ rfl
  rw [show (Kd.slice 5 (Kd.int IntKind.u8)).sz = 1 from rfl, Nat.mul_one, Nat.add_zero, Int.toNat_natCast] at hcl
  rw [Int.toNat_natCast] at hck hCk
  exact ⟨ad, Ak, ck, e1, hcl, hck, hCk⟩
theorem C_lit3 {w : World} {x y z : Int} : Kd.C (Kd.int .u8) (w.alloc (.cells #[.int .u8 x, .int .u8 y, .int .u8 z] 5)) (some ⟨w.heap.size, 0, none⟩) [x, y, z].length [x, y, z] := by
  have hn := alloc_new w (.cells #[.int .u8 x, .int .u8 y, .int .u8 z] 5)
  refine ⟨rfl, by simp, fun _ => ⟨_, rfl, fun j p hj => ⟨[.int .u8 p], rfl, rfl, fun i u hu => ?_⟩⟩⟩
  have hi : i = 0 := by
    cases i with
    | zero => rfl
    | succ i => simp at hu
  subst hi
  simp at hu
  subst hu
  have e : ((⟨w.heap.size, 0, none⟩ : Addr).add (j * (Kd.int .u8).sz + 0)) = ⟨w.heap.size, j, none⟩ := by
    show (⟨w.heap.size, 0, none⟩ : Addr).add (j * 1 + 0) = _
    unfold Addr.add
    split
    · next h => have : j = 0 := by omega
                rw [this]
    · simp
  rw [e]
  simp only [World.cell?, hn]
  rcases j with _ | _ | _ | j
  · obtain rfl : x = p := by simpa using hj
    rfl
  · obtain rfl : y = p := by simpa using hj
    rfl
  · obtain rfl : z = p := by simpa using hj
    rfl
  · simp at hj
set_option maxRecDepth 100000
def tiklaw26_first.f : Option Bool := some true
set_option maxHeartbeats 4000000 in
theorem tiklaw26_first.calls (r : Bool) (w : World) (h : tiklaw26_first.f = some r) :
    Calls Try.prog 24 #[] w fun e w' => e = .returned (.bool r) ∧ Below w.heap.size w w' := by
  obtain rfl : true = r := Option.some.inj h
  clear h
  go_enter Try.func24, Try.ntmps24
  go_wp2_with fail
  refine (frag_Cut.calls 1 none 0 [] [[1, 0, 1]] 0 _ (Kd.C_nil _ _) (by simp) (by decide +kernel)).mono ?_
  rintro en w1 ⟨v1, rfl, hv1, hb1⟩
  obtain ⟨A1, c1, rfl, hc1, hF1⟩ := hv1
  have hC1 := Kd.F_now hF1
  have HC1 := Aside0.mk hC1
  have HB1 := Aside0.mk hb1
  have HO : Aside0 (∀ k, w1.heap.size ≤ k → (fun k => w1.heap.size ≤ k) k) := ⟨fun _ h => h⟩
  clear hc1 hF1 hC1 hb1
  go_wp2_with fail
  refine (newGather_any (own := fun k => w1.heap.size ≤ k) (Nat.le_refl _)).mono ?_
  rintro en w2 ⟨rfl, hG2, hb2, hs2⟩
  have hC2 := Kd.C_below HC1.out hb2
  obtain ⟨ad, A0, c0, rfl, hcl, hck, hCk⟩ := rows_get hC2 0 (by simp)
  have e0 : ad.add 0 = ad := by unfold Addr.add; simp
  have hcl2 := hcl
  rw [e0] at hcl2
  have HG2 := Aside0.mk (And.intro hG2 (And.intro hb2 hs2))
  have HCk := Aside0.mk (And.intro hck hCk)
  have HC2 := Aside0.mk hC2
  clear hG2 hb2 hs2 hck hCk hC2
  go_wp2_with fail
  refine (tikref_Bytes.calls A0 c0 [1, 0, 1] (some ⟨w2.heap.size, 0, none⟩) 3 [1, 0, 1] true _ (Kd.C_alloc HCk.out.2 _) HCk.out.1 C_lit3 (by decide) (by decide +kernel)).mono ?_
  rintro en w3 ⟨rfl, hd3⟩
  have hb3 : Below w2.heap.size w2 w3 := below_step (below_alloc (Below.refl _ _) _) hd3.below
  have HG3 := Aside0.mk (And.intro (HG2.out.1.below hb3) (below_step HG2.out.2.1 hb3))
  have hcl3 : w3.cell? ad = some (.slice A0 3 c0) := by
    have hh := hcl2
    obtain ⟨hlt, _⟩ : ad.block < w2.heap.size ∧ True := ⟨by
      rcases Nat.lt_or_ge ad.block w2.heap.size with h | h
      · exact h
      · simp [World.cell?, Array.getElem?_eq_none h] at hh, trivial⟩
    exact (hb3.cell hlt).trans hh
  have HCk3 := Aside0.mk (Kd.C_below HCk.out.2 hb3)
  clear hd3 hb3 hcl hcl2 HG2 e0
  go_wp2_with fail
  refine (put_any HG3.out.1 (fun k hk => Nat.le_trans HG3.out.2.size hk) HCk3.out HCk.out.1 (by simp) (by simp)).mono ?_
  rintro en w4 ⟨hG4, hm4, v4, rfl, hR4⟩
  have ep : putV 0 0 [] [1, 0, 1] = ((1, 1, [[]]), ([], true, 0)) := by decide +kernel
  rw [show ([[1, 0, 1]] : List (List Int)).getD 0 [] = [1, 0, 1] from rfl, ep] at hG4 hR4 ⊢
  obtain ⟨A4, c4, rfl⟩ := Kd.R_slice hR4
  have hb4 : Below w1.heap.size w1 w4 := Mu.below_of HG3.out.2 hm4 (fun k hk h => by omega)
  have hC4 := Kd.C_below HC1.out hb4
  obtain ⟨ad4, A04, c04, ea4, hcl4, hck4, hCk4⟩ := rows_get hC4 0 (by simp)
  obtain rfl := Option.some.inj ea4
  have e0 : ad.add 0 = ad := by unfold Addr.add; simp
  rw [e0] at hcl4
  have HG4 := Aside0.mk (And.intro hG4 hb4)
  have HCk4 := Aside0.mk (And.intro hck4 hCk4)
  clear hG4 hm4 hR4 ep hb4 hC4 ea4 hck4 hCk4 HG3 HCk3 HCk hcl3
  go_wp2_with fail
  refine (put_any HG4.out.1 (fun k hk => Nat.le_trans HG4.out.2.size hk) HCk4.out.2 HCk4.out.1 (by simp) (by simp)).mono ?_
  rintro en w5 ⟨hG5, hm5, v5, rfl, hR5⟩
  have ep : putV 1 1 [[]] [1, 0, 1] = ((1, 1, [[]]), ([], false, 0)) := by decide +kernel
  rw [show ([[1, 0, 1]] : List (List Int)).getD 0 [] = [1, 0, 1] from rfl, ep] at hG5 hR5 ⊢
  obtain ⟨A5, c5, rfl⟩ := Kd.R_slice hR5
  have hb5 : Below w1.heap.size w1 w5 := Mu.below_of HG4.out.2 hm5 (fun k hk h => by omega)
  have HG5 := Aside0.mk (And.intro hG5 hb5)
  clear hG5 hm5 hR5 ep hb5 HG4 HCk4 hcl4 e0
  go_wp2_with fail
  refine (frag_Cut.calls 0 none 0 [] [] 17 _ (Kd.C_nil _ _) (by simp) (by decide +kernel)).mono ?_
  rintro en w6 ⟨v6, rfl, hv6, hb6⟩
  obtain ⟨A6, c6, rfl, hc6, hF6⟩ := hv6
  have HG6 := Aside0.mk (And.intro (HG5.out.1.below hb6) (below_step HG5.out.2 hb6))
  clear hc6 hF6 hb6 HG5
  go_wp2_with fail
  refine (gid_any HG6.out.1).mono ?_
  rintro en w7 ⟨rfl, rfl⟩
  go_wp2_with fail
  refine (ghave_any HG6.out.1).mono ?_
  rintro en w8 ⟨rfl, rfl⟩
  go_wp2_with fail
  go_ret
  exact ⟨rfl, HB1.out.trans (HG6.out.2.mono HB1.out.size)⟩
end Go.Proofs.Ytdklanenmihpdaa.Hand
namespace Go.Proofs.Ytdklanenmihpdaa.Hand
open Go.RowKit Go.Proofs.YtdklanenmihpdaaW.PrintWords Go.Proofs.YtdklanenmihpdaaW.PrintLast Go.Proofs.YtdklanenmihpdaaW.PrintMore Go.Proofs.Ytdklanenmihpdaa.PA Go.Proofs.Ytdklanenmihpdaa.Chunks
def nparts (l : List Int) : Nat := max (nch l.length) 1
theorem pieces_len (l : List Int) : (piecesL l).length = nparts l := by
  unfold piecesL nparts
  by_cases h : l = []
  · rw [if_pos h, h]; rfl
  · rw [if_neg h]
    have : 0 < l.length := List.length_pos_iff.2 h
    simp only [segsL, List.length_map, List.length_range]
    have : 1 ≤ nch l.length := by unfold nch; omega
    omega
theorem pieces_get (l : List Int) (i : Nat) (h : i < nparts l) : (piecesL l).getD i [] = segN l i := by
  unfold piecesL
  by_cases hl : l = []
  · subst hl
    have : i = 0 := by unfold nparts nch at h; simp at h; omega
    subst this
    rfl
  · rw [if_neg hl]
    have h0 : 0 < l.length := List.length_pos_iff.2 hl
    have h1 : 1 ≤ nch l.length := by unfold nch; omega
    have hi : i < nch l.length := by unfold nparts at h; omega
    rw [segsL, List.getD_eq_getElem?_getD, List.getElem?_map, List.getElem?_range hi]; rfl
theorem cutL_len (a : Int) (l : List Int) : (cutL a l).length = nparts l := by rw [cutL, cutOf_len, pieces_len]
theorem cutL_get (a : Int) (l : List Int) (i : Nat) (h : i < nparts l) : (cutL a l).getD i [] = partL a i (nparts l) (segN l i) := by
  have h2 : i < (piecesL l).length := by rw [pieces_len]; exact h
  rw [← pieces_get l i h, ← pieces_len l]
  rw [cutL, cutOf, List.getD_eq_getElem?_getD, List.getElem?_map, List.getElem?_range h2]; rfl
theorem nparts_small {l : List Int} (h : l.length ≤ 5000) : 1 ≤ nparts l ∧ nparts l ≤ 20 := by unfold nparts nch; omega
end Go.Proofs.Ytdklanenmihpdaa.Hand
namespace Go.Proofs.Ytdklanenmihpdaa.Hand
open Go.RowKit Go.Proofs.YtdklanenmihpdaaW.PrintWords Go.Proofs.YtdklanenmihpdaaW.PrintLast Go.Proofs.YtdklanenmihpdaaW.PrintMore Go.Proofs.Ytdklanenmihpdaa.PA Go.Proofs.Ytdklanenmihpdaa.Chunks
theorem nparts_max {l : List Int} (h : l.length ≤ 1048576) : nparts l ≤ 4096 := by unfold nparts nch; omega
theorem bytes_seg {l : List Int} (hb : ∀ x ∈ l, 0 ≤ x ∧ x < 256) (i : Nat) : ∀ x ∈ segN l i, 0 ≤ x ∧ x < 256 := fun x hx => hb x (List.mem_of_mem_drop (List.mem_of_mem_take hx))
theorem cut_bytes {a : Int} {l : List Int} (h1 : 1 ≤ a) (h2 : a ≤ 4611686018427387904) (hl : l.length ≤ 1048576) (hb : ∀ x ∈ l, 0 ≤ x ∧ x < 256) (i : Nat) (hi : i < nparts l) : (∀ x ∈ (cutL a l).getD i [], 0 ≤ x ∧ x < 256) ∧ ((cutL a l).getD i []).length < 140737488355328 := by
  have hm := nparts_max hl
  have b1 := varL_b a (by omega) (by omega)
  have b2 := varL_b (i : Int) (by omega) (by omega)
  have b3 := varL_b (nparts l : Int) (by omega) (by omega)
  rw [cutL_get a l i hi]
  constructor
  · intro x hx
    unfold partL at hx
    rcases List.mem_append.1 hx with h | h
    · exact b1.1 x h
    rcases List.mem_append.1 h with h | h
    · exact b2.1 x h
    rcases List.mem_append.1 h with h | h
    · exact b3.1 x h
    · exact bytes_seg hb i x h
  · unfold partL
    simp only [List.length_append]
    have := b1.2; have := b2.2; have := b3.2
    have := segN_len l i
    unfold chLen at this
    omega
end Go.Proofs.Ytdklanenmihpdaa.Hand
namespace Go.Proofs.Ytdklanenmihpdaa.Hand
open Go.RowKit Go.Proofs.YtdklanenmihpdaaW.PrintWords Go.Proofs.YtdklanenmihpdaaW.PrintLast Go.Proofs.YtdklanenmihpdaaW.PrintMore Go.Proofs.Ytdklanenmihpdaa.PA Go.Proofs.Ytdklanenmihpdaa.Chunks
end Go.Proofs.Ytdklanenmihpdaa.Hand
namespace Go.Proofs.Ytdklanenmihpdaa.Hand
open Go.RowKit Go.Maps Go.Proofs.YtdklanenmihpdaaW.PrintWords Go.Proofs.YtdklanenmihpdaaW.PrintLast Go.Proofs.YtdklanenmihpdaaW.PrintMore Go.Proofs.Ytdklanenmihpdaa.PA Go.Proofs.Ytdklanenmihpdaa.Chunks
theorem rows_getN {w : World} {A : Addr} {n : Nat} {l : List (List Int)} (h : Kd.C (Kd.slice 5 (Kd.int .u8)) w (some A) n l) (i : Nat) (hi : i < n) :
    ∃ Ai ci, w.cell? (A.add i) = some (.slice Ai (l.getD i []).length ci) ∧ (l.getD i []).length ≤ ci ∧ Kd.C (Kd.int .u8) w Ai (l.getD i []).length (l.getD i []) := by
  have hl := h.1
  subst hl
  obtain ⟨ad, Ai, ci, e, h1, h2, h3⟩ := rows_get h i hi
  obtain rfl := Option.some.inj e
  exact ⟨Ai, ci, h1, h2, h3⟩
set_option maxRecDepth 100000
end Go.Proofs.Ytdklanenmihpdaa.Hand
namespace Go.Proofs.Ytdklanenmihpdaa.Hand
open Go.RowKit Go.Proofs.YtdklanenmihpdaaW.PrintWords Go.Proofs.YtdklanenmihpdaaW.PrintLast Go.Proofs.YtdklanenmihpdaaW.PrintMore Go.Proofs.Ytdklanenmihpdaa.PA Go.Proofs.Ytdklanenmihpdaa.Chunks
end Go.Proofs.Ytdklanenmihpdaa.Hand
namespace Go.Proofs.Ytdklanenmihpdaa.Hand
open Go.RowKit Go.Maps Go.Proofs.YtdklanenmihpdaaW.PrintWords Go.Proofs.YtdklanenmihpdaaW.PrintLast Go.Proofs.YtdklanenmihpdaaW.PrintMore Go.Proofs.Ytdklanenmihpdaa.PA Go.Proofs.Ytdklanenmihpdaa.Chunks
set_option maxRecDepth 100000
end Go.Proofs.Ytdklanenmihpdaa.Hand
namespace Go.Proofs.Ytdklanenmihpdaa.PK
open Go.RowKit Go.Proofs.YtdklanenmihpdaaW.PrintWords Go.Proofs.YtdklanenmihpdaaW.PrintLast Go.Proofs.YtdklanenmihpdaaW.PrintMore
attribute [local go_sem] max2_int min2_int max_two min_two max_three min_three max_four min_four
set_option linter.unusedVariables false
set_option linter.unusedSimpArgs false
def errW : Option Int → Value
  | none => .nilIface
  | some c => .iface 0 (.int .i64 c)
theorem errW_none : errW none = .nilIface := rfl
theorem errW_some (c : Int) : errW (some c) = .iface 0 (.int .i64 c) := rfl
end Go.Proofs.Ytdklanenmihpdaa.PK
namespace Go.Proofs.Ytdklanenmihpdaa.PK
open Go.RowKit Go.Proofs.YtdklanenmihpdaaW.PrintWords Go.Proofs.YtdklanenmihpdaaW.PrintLast Go.Proofs.YtdklanenmihpdaaW.PrintMore
attribute [local go_sem] max2_int min2_int max_two min_two max_three min_three max_four min_four
set_option linter.unusedVariables false
set_option linter.unusedSimpArgs false
def IsS95 (w0 W : World) (g : Nat) (f0 : List Int) (f1 : Int) (f2 : Int) : Prop := ∃ A0 c0, W.heap[g]? = some (.cells #[.slice A0 f0.length c0, .int .i64 f1, .int .i64 f2] 95 (0, 0)) ∧ w0.heap.size ≤ g ∧ (Kd.C (Kd.int .u8) w0 A0 f0.length f0 ∧ f0.length ≤ c0)
theorem IsS95.grown {w0 W : World} {g : Nat} {f0 : List Int} {f1 : Int} {f2 : Int} {W1 : World} {row : Option Nat} (h : IsS95 w0 W g f0 f1 f2) (hw : W.grownBy W1 row) (hne : some g ≠ row) : IsS95 w0 W1 g f0 f1 f2 := by
  obtain ⟨A0, c0, hb, hg, hr0⟩ := h
  exact ⟨A0, c0, blk_grown hb hw hne, hg, hr0⟩
theorem IsS95.below {w0 W : World} {g : Nat} {f0 : List Int} {f1 : Int} {f2 : Int} {W1 : World} (h : IsS95 w0 W g f0 f1 f2) (hw : Below W.heap.size W W1) : IsS95 w0 W1 g f0 f1 f2 := h.grown (grown_of_below hw none) (by simp)
theorem IsS95.drewN {w0 W : World} {g : Nat} {f0 : List Int} {f1 : Int} {f2 : Int} (h : IsS95 w0 W g f0 f1 f2) (m : Nat) : IsS95 w0 (W.drewN m) g f0 f1 f2 := h
theorem IsS95.drew {w0 W : World} {g : Nat} {f0 : List Int} {f1 : Int} {f2 : Int} (h : IsS95 w0 W g f0 f1 f2) : IsS95 w0 W.drew g f0 f1 f2 := h
theorem IsS95.at_ {w0 W : World} {g : Nat} {f0 : List Int} {f1 : Int} {f2 : Int} {w' : World} {m : Nat} (hq : W.drewN m = w') (h : IsS95 w0 W g f0 f1 f2) : IsS95 w0 w' g f0 f1 f2 := by subst hq; exact IsS95.drewN h m
theorem IsS95.ge {w0 W : World} {g : Nat} {f0 : List Int} {f1 : Int} {f2 : Int} (h : IsS95 w0 W g f0 f1 f2) : w0.heap.size ≤ g := by
  obtain ⟨A0, c0, hb, hg, hr0⟩ := h
  exact hg
theorem cellS95_0 {W : World} {g : Nat} {A0 : Option Addr} {c0 : Nat} {f0 : List Int} {f1 : Int} {f2 : Int} (h : W.heap[g]? = some (.cells #[.slice A0 f0.length c0, .int .i64 f1, .int .i64 f2] 95 (0, 0))) : W.cell? ⟨g, 0, none⟩ = some (.slice A0 f0.length c0) := (blk_cell h 0).trans rfl
theorem cellS95_1 {W : World} {g : Nat} {A0 : Option Addr} {c0 : Nat} {f0 : List Int} {f1 : Int} {f2 : Int} (h : W.heap[g]? = some (.cells #[.slice A0 f0.length c0, .int .i64 f1, .int .i64 f2] 95 (0, 0))) : W.cell? ⟨g, 1, none⟩ = some (.int .i64 f1) := (blk_cell h 1).trans rfl
theorem IsS95.set_1 {w0 W : World} {g : Nat} {f0 : List Int} {f1 : Int} {f2 : Int} (h : IsS95 w0 W g f0 f1 f2) (x : Int) : IsS95 w0 (W.setCell ⟨g, 1, none⟩ (.int .i64 x)) g f0 x f2 := by
  obtain ⟨A0, c0, hb, hg, hr0⟩ := h
  exact ⟨A0, c0, by simpa using blk_set hb 1 (.int .i64 x), hg, hr0⟩
theorem cellS95_2 {W : World} {g : Nat} {A0 : Option Addr} {c0 : Nat} {f0 : List Int} {f1 : Int} {f2 : Int} (h : W.heap[g]? = some (.cells #[.slice A0 f0.length c0, .int .i64 f1, .int .i64 f2] 95 (0, 0))) : W.cell? ⟨g, 2, none⟩ = some (.int .i64 f2) := (blk_cell h 2).trans rfl
theorem IsS95.set_2 {w0 W : World} {g : Nat} {f0 : List Int} {f1 : Int} {f2 : Int} (h : IsS95 w0 W g f0 f1 f2) (x : Int) : IsS95 w0 (W.setCell ⟨g, 2, none⟩ (.int .i64 x)) g f0 f1 x := by
  obtain ⟨A0, c0, hb, hg, hr0⟩ := h
  exact ⟨A0, c0, by simpa using blk_set hb 2 (.int .i64 x), hg, hr0⟩
theorem IsS95.new (w0 W : World) (A0 : Option Addr) (c0 : Nat) (f0 : List Int) (f1 : Int) (f2 : Int) (hB : Below w0.heap.size w0 W) (hr0 : Kd.C (Kd.int .u8) w0 A0 f0.length f0) (hc0 : f0.length ≤ c0) : IsS95 w0 (W.alloc (.cells #[.slice A0 f0.length c0, .int .i64 f1, .int .i64 f2] 95)) W.heap.size f0 f1 f2 := ⟨A0, c0, by simpa using heap_alloc_new W _, hB.size, hr0, hc0⟩
def tikref2_Reader_Left.f (s0_0 : List Int) (s0_1 : Int) (s0_2 : Int) : Option (Int × Int × Int) := some (wrap64 ((s0_0.length : Int) - s0_1), s0_1, s0_2)
set_option maxHeartbeats 8000000 in
set_option maxRecDepth 100000 in
theorem tikref2_Reader_Left.calls (g : Nat) (s0_0 : List Int) (s0_1 : Int) (s0_2 : Int) (r1 : Int) (r2 : Int) (r3 : Int) (w0 w : World) (hI : IsS95 w0 w g s0_0 s0_1 s0_2) (hB : Below w0.heap.size w0 w) (h : tikref2_Reader_Left.f s0_0 s0_1 s0_2 = some (r1, r2, r3)) :
    Calls Try.prog 55 #[.pointer (some ⟨g, 0, none⟩)] w fun e w' => e = .returned (.int .i64 r1) ∧ IsS95 w0 w' g s0_0 r2 r3 ∧ Below w0.heap.size w0 w' ∧ KeepBut w w' g none := by
  have HI0 := Aside0.mk hI
  have HK := Aside0.mk (KeepBut.refl w g none)
  have HL := Aside0.mk hB.size
  clear hI
  have HW0 := Aside0.mk hB.size
  have HB := Aside0.mk hB
  clear hB
  have H : (some (wrap64 ((s0_0.length : Int) - s0_1), s0_1, s0_2)) = some (r1, r2, r3) := h
  clear h
  simp only [Option.some.injEq, Prod.mk.injEq] at H
  obtain ⟨rfl, rfl, rfl⟩ := H
  obtain ⟨ASz2_0, cSz2_0, HGz2, hgz2, HSz2_0⟩ := HI0.out
  have hcz2_0 := cellS95_0 HGz2
  have hcz2_1 := cellS95_1 HGz2
  have hcz2_2 := cellS95_2 HGz2
  have hfz2_1 := blk_frozen HGz2 1
  have hfz2_2 := blk_frozen HGz2 2
  clear HGz2 hgz2
  go_enter Try.func55, Try.ntmps55
  go_wp2
  repeat (go_quiet (fail); try go_wp2)
  go_ret
  exact ⟨by first | rfl | (simp [errW_none, errW_some] <;> rfl) | (simp [*, errW_none, errW_some] <;> rfl), by repeat (first | (with_reducible first | exact HI0.out | apply IsS95.alloc | apply IsS95.drewN | apply IsS95.drew | apply IsS95.set_1 | apply IsS95.set_2) | exact HI0.out), by repeat (first | (with_reducible first | exact HB.out | apply below_alloc | apply pw_below_drewN | apply below_drew1 | refine below_set ?_ (IsS95.ge HI0.out)) | exact HB.out), by repeat (first | (with_reducible first | exact HK.out | apply KeepBut.set_ | apply keep_drewN | apply keep_drew | apply keep_alloc) | exact HK.out)⟩
end Go.Proofs.Ytdklanenmihpdaa.PK
namespace Go.Proofs.Ytdklanenmihpdaa.Hand
open Go.RowKit Go.Proofs.YtdklanenmihpdaaW.PrintWords Go.Proofs.YtdklanenmihpdaaW.PrintLast Go.Proofs.YtdklanenmihpdaaW.PrintMore Go.Proofs.Ytdklanenmihpdaa.PA Go.Proofs.Ytdklanenmihpdaa.PK
set_option linter.unusedSimpArgs false
set_option linter.unusedVariables false
set_option maxRecDepth 100000
theorem ref_open {w0 w : World} {g : Nat} {l : List Int} {p e : Int} (h : IsS95 w0 w g l p e) (hB : Below w0.heap.size w0 w) :
    ∃ A c, w.cell? ⟨g, 0, none⟩ = some (.slice A l.length c) ∧ w.cell? ⟨g, 1, none⟩ = some (.int .i64 p) ∧ w.cell? ⟨g, 2, none⟩ = some (.int .i64 e) ∧ w.frozen? ⟨g, 1, none⟩ = false ∧ w.frozen? ⟨g, 2, none⟩ = false ∧
      w.heap[g]? = some (.cells #[.slice A l.length c, .int .i64 p, .int .i64 e] 95 (0, 0)) ∧ Kd.C (Kd.int .u8) w0 A l.length l ∧ l.length ≤ c := by
  obtain ⟨A, c, hb, hg, hr, hc⟩ := h
  exact ⟨A, c, cellS95_0 hb, cellS95_1 hb, cellS95_2 hb, blk_frozen hb 1, blk_frozen hb 2, hb, hr, hc⟩
def tikref2_Reader_Num.f (k : Nat) (l : List Int) (p e m : Int) : Option (Int × Int × Int) :=
  if e = 0 then (tikref2_Get.f k l p).bind fun r => if r.2.2 = 0 then if r.1 > m then some (0, p, 1) else some (r.1, r.2.1, e) else some (0, p, r.2.2)
  else some (0, p, e)
set_option maxHeartbeats 4000000 in
theorem tikref2_Reader_Num.calls (k : Nat) (g : Nat) (s0_0 : List Int) (s0_1 s0_2 a1 r1 r2 r3 : Int) (w0 w : World) (hI : IsS95 w0 w g s0_0 s0_1 s0_2) (hB : Below w0.heap.size w0 w) (h : tikref2_Reader_Num.f k s0_0 s0_1 s0_2 a1 = some (r1, r2, r3)) :
    Calls Try.prog 53 #[.pointer (some ⟨g, 0, none⟩), .int .u64 a1] w fun e w' => e = .returned (.int .u64 r1) ∧ IsS95 w0 w' g s0_0 r2 r3 ∧ Below w0.heap.size w0 w' ∧ KeepBut w w' g none := by
  obtain ⟨A, c, c0, c1, c2, f1, f2, hg, hr, hc⟩ := ref_open hI hB
  have HI := Aside0.mk hI
  have HB := Aside0.mk hB
  unfold tikref2_Reader_Num.f at h
  by_cases he : s0_2 = 0
  · rw [if_pos he] at h
    obtain ⟨⟨n, q, x⟩, hq, h'⟩ := Option.bind_eq_some_iff.mp h
    clear h
    have h := h'
    clear h'
    dsimp only at h
    have d0 : (s0_2 != 0) = false := by simp [he]
    have HE := Aside0.mk he
    have hget := fun (m : Nat) => Calls.quiet_of (n := m) (w := w) ((tikref2_Get.calls k A c s0_0 s0_1 n q x (w.drewN m) (by have := Kd.C_below hr hB; exact this) hc hq).mono fun _ _ z => by obtain ⟨z1, m1, z2⟩ := z; exact ⟨z1, m1, z2 ▸ rfl⟩)
    clear hI hB hg hr hc hq he
    go_enter Try.func53, Try.ntmps53
    go_wp2_with fail
    go_quiet ((go_at_call 45; exact hget _))
    clear hget
    by_cases h0 : x = 0
    · rw [if_pos h0] at h
      have d1 : (x == 0) = true := by simp [h0]
      have d2 : (x != 0) = false := by simp [h0]
      by_cases h1 : n > a1
      · rw [if_pos h1] at h
        obtain ⟨rfl, rfl, rfl⟩ : (0 : Int) = r1 ∧ s0_1 = r2 ∧ (1 : Int) = r3 := by simpa using Option.some.inj h
        have d3 : decide (a1 < n) = true := decide_eq_true h1
        clear h h0 h1
        go_wp2_with fail
        go_ret
        exact ⟨rfl, (HI.out.drewN _).set_2 1, below_set (pw_below_drewN HB.out _) HI.out.ge, (keep_drewN (KeepBut.refl w g none) _).set_ 2 _⟩
      · rw [if_neg h1] at h
        obtain ⟨rfl, rfl, rfl⟩ : n = r1 ∧ q = r2 ∧ s0_2 = r3 := by simpa using Option.some.inj h
        have d3 : decide (a1 < n) = false := decide_eq_false h1
        clear h h0 h1
        go_wp2_with fail
        go_ret
        exact ⟨rfl, (HI.out.drewN _).set_1 q, below_set (pw_below_drewN HB.out _) HI.out.ge, (keep_drewN (KeepBut.refl w g none) _).set_ 1 _⟩
    · rw [if_neg h0] at h
      obtain ⟨rfl, rfl, rfl⟩ : (0 : Int) = r1 ∧ s0_1 = r2 ∧ x = r3 := by simpa using Option.some.inj h
      have d1 : (x == 0) = false := by simp [h0]
      have d2 : (x != 0) = true := by simp [h0]
      clear h h0
      go_wp2_with fail
      go_ret
      exact ⟨rfl, (HI.out.drewN _).set_2 x, below_set (pw_below_drewN HB.out _) HI.out.ge, (keep_drewN (KeepBut.refl w g none) _).set_ 2 _⟩
  · rw [if_neg he] at h
    obtain ⟨rfl, rfl, rfl⟩ : (0 : Int) = r1 ∧ s0_1 = r2 ∧ s0_2 = r3 := by simpa using Option.some.inj h
    have d0 : (s0_2 != 0) = true := by simp [he]
    clear hI hB hg hr hc h he
    go_enter Try.func53, Try.ntmps53
    go_wp2_with fail
    go_ret
    exact ⟨rfl, HI.out, HB.out, KeepBut.refl w g none⟩
theorem copy_f (l : List Int) (h : l.length < 140737488355328) : tikref_CopyBytes.f l = some l := by
  unfold tikref_CopyBytes.f
  rw [Option.bind_some, if_pos (by simpa using h), List.nil_append]
def tikref2_Reader_Raw.f (l : List Int) (p e n : Int) : Option (List Int × Int × Int) :=
  if e = 0 then if n < 0 then some ([], p, 1) else if 0 ≤ p ∧ p ≤ l.length ∧ l.length < 140737488355328 then if n > l.length - p then some ([], p, 3) else some ((l.drop p.toNat).take n.toNat, p + n, e) else none
  else some ([], p, e)
set_option maxHeartbeats 4000000 in
theorem tikref2_Reader_Raw.calls (g : Nat) (s0_0 : List Int) (s0_1 s0_2 a1 : Int) (r1 : List Int) (r2 r3 : Int) (w0 w : World) (hI : IsS95 w0 w g s0_0 s0_1 s0_2) (hB : Below w0.heap.size w0 w) (h : tikref2_Reader_Raw.f s0_0 s0_1 s0_2 a1 = some (r1, r2, r3)) :
    Calls Try.prog 54 #[.pointer (some ⟨g, 0, none⟩), .int .i64 a1] w fun e w' => ∃ v0_ : Value, e = .returned v0_ ∧ Kd.R (Kd.int .u8) 5 w' w.heap.size (fun _ => True) v0_ r1 ∧ IsS95 w0 w' g s0_0 r2 r3 ∧ Below w0.heap.size w0 w' ∧ KeepBut w w' g none := by
  obtain ⟨A, c, c0, c1, c2, f1, f2, hg, hr, hc⟩ := ref_open hI hB
  have HI := Aside0.mk hI
  have HB := Aside0.mk hB
  have HG := Aside0.mk hg
  unfold tikref2_Reader_Raw.f at h
  by_cases he : s0_2 = 0
  · rw [if_pos he] at h
    have d0 : (s0_2 != 0) = false := by simp [he]
    have HE := Aside0.mk he
    by_cases hn : a1 < 0
    · rw [if_pos hn] at h
      obtain ⟨rfl, rfl, rfl⟩ : ([] : List Int) = r1 ∧ s0_1 = r2 ∧ (1 : Int) = r3 := by simpa using Option.some.inj h
      have d1 : decide (a1 < 0) = true := decide_eq_true hn
      clear hI hB hg hr hc h he hn
      go_enter Try.func54, Try.ntmps54
      go_wp2_with fail
      go_ret
      exact ⟨_, rfl, Kd.R_nil _ _ _ _ _, HI.out.set_2 1, below_set HB.out HI.out.ge, (KeepBut.refl w g none).set_ 2 _⟩
    · rw [if_neg hn] at h
      have d1 : decide (a1 < 0) = false := decide_eq_false hn
      by_cases hp : 0 ≤ s0_1 ∧ s0_1 ≤ s0_0.length ∧ s0_0.length < 140737488355328
      case neg => rw [if_neg hp] at h; cases h
      obtain ⟨p0, p1, p2⟩ := hp
      rw [if_pos ⟨p0, p1, p2⟩] at h
      by_cases hm : a1 > s0_0.length - s0_1
      · rw [if_pos hm] at h
        obtain ⟨rfl, rfl, rfl⟩ : ([] : List Int) = r1 ∧ s0_1 = r2 ∧ (3 : Int) = r3 := by simpa using Option.some.inj h
        have d2 : decide ((s0_0.length : Int) - s0_1 < a1) = true := decide_eq_true hm
        clear hI hB hg hr hc h he hn hm
        go_enter Try.func54, Try.ntmps54
        go_wp2_with fail
        go_quiet (fail)
        go_wp2_with fail
        go_ret
        exact ⟨_, rfl, Kd.R_nil _ _ _ _ _, (HI.out.drewN _).set_2 3, below_set (pw_below_drewN HB.out _) HI.out.ge, (keep_drewN (KeepBut.refl w g none) _).set_ 2 _⟩
      · rw [if_neg hm] at h
        obtain ⟨l', hl'⟩ : ∃ l', (s0_0.drop s0_1.toNat).take a1.toNat = l' := ⟨_, rfl⟩
        rw [hl'] at h
        obtain ⟨rfl, rfl, rfl⟩ : l' = r1 ∧ s0_1 + a1 = r2 ∧ s0_2 = r3 := by simpa using Option.some.inj h
        have d2 : decide ((s0_0.length : Int) - s0_1 < a1) = false := decide_eq_false hm
        have hm' : a1 ≤ s0_0.length - s0_1 := by omega
        have hn' : 0 ≤ a1 := by omega
        have HR := Aside0.mk hr
        have HC := Aside0.mk hc
        have HL := Aside0.mk hl'
        clear hI hB hg hr hc h he hn hm hl'
        go_enter Try.func54, Try.ntmps54
        go_wp2_with fail
        go_quiet (fail)
        go_wp2_with fail
        obtain ⟨W1, hW1⟩ : ∃ W1, (w.drewN nq).setCell ⟨g, 1, none⟩ (.int .i64 (s0_1 + a1)) = W1 := ⟨_, rfl⟩
        rw [hW1]
        have hI1 : IsS95 w0 W1 g s0_0 (s0_1 + a1) s0_2 := by rw [← hW1]; exact (HI.out.drewN _).set_1 _
        have hB1 : Below w0.heap.size w0 W1 := by rw [← hW1]; exact below_set (pw_below_drewN HB.out _) HI.out.ge
        have hK1 : KeepBut w W1 g none := by rw [← hW1]; exact (keep_drewN (KeepBut.refl w g none) _).set_ 1 _
        have J2 : W1.heap[g]? = some (.cells #[.slice A s0_0.length c, .int .i64 (s0_1 + a1), .int .i64 s0_2] 95 (0, 0)) := by rw [← hW1]; exact set_at HG.out
        have HI1 := Aside0.mk hI1
        have HB1 := Aside0.mk hB1
        have HK1 := Aside0.mk hK1
        have e0 := blk_cell J2 0
        have e1 := blk_cell J2 1
        clear hW1 c0 c1 c2 f1 f2 hI1 hB1 hK1 J2
        obtain ⟨i0, hi, _, hz1, _⟩ := info_parts info5
        obtain ⟨A', hA'⟩ : ∃ A', (if c = s0_1.toNat then A else A.map (·.add (s0_1.toNat * 1))) = A' := ⟨_, rfl⟩
        have i3 := HC.out
        have hcut : ∀ W : World, (Instr.slice 23 (.slice A s0_0.length c) (some (.int .i64 s0_1)) (some (.int .i64 (s0_1 + a1))) none).run Try.prog W = .ok (.slice A' a1.toNat (c - s0_1.toNat)) W := by
          intro W
          rw [cut_mid (P := Try.prog) 23 5 .i64 .i64 Try.underlying23 hi 1 hz1 A s0_0.length c s0_1 (s0_1 + a1) p0 (by omega) (by omega) i3 W, hA', show (s0_1 + a1).toNat - s0_1.toNat = a1.toNat by omega]
        have hll : l'.length = a1.toNat := by rw [← HL.out, List.length_take, List.length_drop]; omega
        have hC' : Kd.C (Kd.int .u8) W1 A' l'.length l' := by
          have := Kd.C_mid (lo := s0_1.toNat) (hi := (s0_1 + a1).toNat) (Kd.C_below HR.out HB1.out) (by omega) (by omega) i3
          rw [List.drop_take, show (s0_1 + a1).toNat - s0_1.toNat = a1.toNat by omega, HL.out] at this
          rw [← hA']
          exact this
        have hcopy := tikref_CopyBytes.calls A' (c - s0_1.toNat) l' l' W1.drew (Kd.C_drew hC') (by have := i3; omega) (copy_f l' (by omega))
        rw [hll] at hcopy
        have HCP := Aside0.mk hcopy
        have hws : IntKind.i64.wrap s0_1 = s0_1 := IntWalk.i64_in _ (by omega)
        clear hcopy hC' hll hA' hi hz1 i3
        go_still_tail 15, (by kernel_rfl)
        change wpList _ _ _ _ _ W1.drew
        go_wp2_with fail
        refine HCP.out.mono ?_
        rintro en w2 ⟨v, rfl, hr, hb⟩
        have HR2 := Aside0.mk hr
        have HB2 := Aside0.mk hb
        clear hr hb e0 e1
        go_wp2_with fail
        go_ret
        exact ⟨v, rfl, Kd.R_lower HR2.out HK1.out.1, HI1.out.drew.below HB2.out, below_step (below_drew1 HB1.out) HB2.out, KeepBut.trans (keep_drew HK1.out) (KeepBut.of_below HB2.out g none) (.inl rfl)⟩
  · rw [if_neg he] at h
    obtain ⟨rfl, rfl, rfl⟩ : ([] : List Int) = r1 ∧ s0_1 = r2 ∧ s0_2 = r3 := by simpa using Option.some.inj h
    have d0 : (s0_2 != 0) = true := by simp [he]
    clear hI hB hg hr hc h he
    go_enter Try.func54, Try.ntmps54
    go_wp2_with fail
    go_ret
    exact ⟨_, rfl, Kd.R_nil _ _ _ _ _, HI.out, HB.out, KeepBut.refl w g none⟩
end Go.Proofs.Ytdklanenmihpdaa.Hand
namespace Go.Proofs.Ytdklanenmihpdaa.Hand
open Go.RowKit Go.Maps Go.Proofs.YtdklanenmihpdaaW.PrintWords Go.Proofs.YtdklanenmihpdaaW.PrintLast Go.Proofs.YtdklanenmihpdaaW.PrintMore Go.Proofs.Ytdklanenmihpdaa.PA
set_option maxRecDepth 100000
abbrev refO (id n : Int) (hv pv : Value) (told : Bool) : Obj := .cells #[.int .u64 id, .int .i64 n, hv, pv, .bool told] 56 (0, 0)
def MarksAt (w : World) (b : Nat) (ps : List (List Int)) : Prop := ∃ cs, w.heap[b]? = some (.cells cs 4 (0, 0)) ∧ ∀ i, i < ps.length → cs[i]? = some (.bool (decide (ps.getD i noP ≠ noP)))
def CellAt (w : World) (ok : Nat → Prop) (u : Value) (p : List Int) : Prop :=
  (p = noP ∧ u = .slice none 0 0) ∨ (p ≠ noP ∧ ((∀ x ∈ p, 0 ≤ x ∧ x < 256) ∧ p.length ≤ 256) ∧ ∃ A c, u = .slice A p.length c ∧ p.length ≤ c ∧ Kd.F (Kd.int .u8) w ok A p.length p)
def PartsAt (w : World) (ok : Nat → Prop) (b : Nat) (ps : List (List Int)) : Prop := ∃ cs, w.heap[b]? = some (.cells cs 23 (0, 0)) ∧ ∀ i, i < ps.length → ∃ u, cs[i]? = some u ∧ CellAt w ok u (ps.getD i noP)
structure RowsAt (w : World) (own : Nat → Prop) (h hb pb : Nat) (ps : List (List Int)) : Prop where
  big : ps.length ≤ 4096
  own1 : own hb
  own2 : own pb
  ne1 : hb ≠ h
  ne2 : pb ≠ h
  ne3 : hb ≠ pb
  marks : MarksAt w hb ps
  parts : PartsAt w (fun k => own k ∧ k ≠ h ∧ k ≠ hb ∧ k ≠ pb) pb ps
def RefAt (w : World) (own : Nat → Prop) (h : Nat) (id n : Int) (told : Bool) (ps : List (List Int)) : Prop :=
  own h ∧ ((id = 0 ∧ n = 0 ∧ told = false ∧ ps = [] ∧ w.heap[h]? = some (refO 0 0 (.slice none 0 0) (.slice none 0 0) false)) ∨
    (1 ≤ id ∧ n = ps.length ∧ 1 ≤ ps.length ∧ ∃ hb hc pb pc, w.heap[h]? = some (refO id n (.slice (some ⟨hb, 0, none⟩) ps.length hc) (.slice (some ⟨pb, 0, none⟩) ps.length pc) told) ∧ RowsAt w own h hb pb ps))
theorem CellAt.step {w w' : World} {ok ok' : Nat → Prop} {u : Value} {p : List Int} (h : CellAt w ok u p) (hm : ∀ k, ok k → k < w.heap.size → w'.heap[k]? = w.heap[k]?) (hok : ∀ k, k < w.heap.size → ok k → ok' k) : CellAt w' ok' u p := by
  rcases h with h | ⟨h1, hb, A, c, h3, h4, h5⟩
  · exact .inl h
  · exact .inr ⟨h1, hb, A, c, h3, h4, Kd.F_mono (Kd.F_step (Kd.F_bound h5) (fun k hk hl => hm k hk.1 hl)) (fun k hk => hok k hk.2 hk.1)⟩
theorem MarksAt.lt {w : World} {b : Nat} {ps : List (List Int)} (h : MarksAt w b ps) : b < w.heap.size := by
  obtain ⟨cs, h, _⟩ := h
  exact heap_lt h
theorem PartsAt.lt {w : World} {ok : Nat → Prop} {b : Nat} {ps : List (List Int)} (h : PartsAt w ok b ps) : b < w.heap.size := by
  obtain ⟨cs, h, _⟩ := h
  exact heap_lt h
theorem RowsAt.step {w w' : World} {own own' : Nat → Prop} {h hb pb : Nat} {ps : List (List Int)} (H : RowsAt w own h hb pb ps) (hm : ∀ k, own k → k ≠ h → k < w.heap.size → w'.heap[k]? = w.heap[k]?) (ho : ∀ k, k < w.heap.size → own k → own' k) : RowsAt w' own' h hb pb ps := by
  have l1 := H.marks.lt
  have l2 := H.parts.lt
  obtain ⟨cs, m1, m2⟩ := H.marks
  obtain ⟨ds, p1, p2⟩ := H.parts
  refine ⟨H.big, ho _ l1 H.own1, ho _ l2 H.own2, H.ne1, H.ne2, H.ne3, ⟨cs, (hm hb H.own1 H.ne1 l1).trans m1, m2⟩, ⟨ds, (hm pb H.own2 H.ne2 l2).trans p1, fun i hi => ?_⟩⟩
  obtain ⟨u, q1, q2⟩ := p2 i hi
  exact ⟨u, q1, q2.step (fun k hk hl => hm k hk.1 hk.2.1 hl) (fun k hl hk => ⟨ho k hl hk.1, hk.2⟩)⟩
theorem RefAt.step {w w' : World} {own own' : Nat → Prop} {h : Nat} {id n : Int} {told : Bool} {ps : List (List Int)} (H : RefAt w own h id n told ps) (hm : ∀ k, own k → k < w.heap.size → w'.heap[k]? = w.heap[k]?) (ho : ∀ k, k < w.heap.size → own k → own' k) : RefAt w' own' h id n told ps := by
  obtain ⟨hg, ⟨h1, h2, h3, h4, h5⟩ | ⟨h1, h2, h3, hb, hc, pb, pc, h4, h5⟩⟩ := H
  · exact ⟨ho h (heap_lt h5) hg, .inl ⟨h1, h2, h3, h4, (hm h hg (heap_lt h5)).trans h5⟩⟩
  · exact ⟨ho h (heap_lt h4) hg, .inr ⟨h1, h2, h3, hb, hc, pb, pc, (hm h hg (heap_lt h4)).trans h4, h5.step (fun k hk _ hl => hm k hk hl) ho⟩⟩
theorem RefAt.below {w w' : World} {own : Nat → Prop} {h : Nat} {id n : Int} {told : Bool} {ps : List (List Int)} (H : RefAt w own h id n told ps) (hb : Below w.heap.size w w') : RefAt w' own h id n told ps := H.step (fun k _ hl => hb.block k hl) (fun _ _ hk => hk)
theorem set_raw {w : World} {g t j : Nat} {cs : Array Value} {x : Value} (h : w.heap[g]? = some (.cells cs t (0, 0))) : (w.setCell ⟨g, j, none⟩ x).heap[g]? = some (.cells (cs.setIfInBounds j x) t (0, 0)) := by
  obtain ⟨hlt, hk⟩ := Array.getElem?_eq_some_iff.1 h
  show (w.heap.modify g _)[g]? = _
  rw [Array.getElem?_eq_getElem (by rw [Array.size_modify]; exact hlt), Array.getElem_modify_self, hk]
  rfl
theorem mark_cell {w : World} {b i : Nat} {ps : List (List Int)} (h : MarksAt w b ps) (hi : i < ps.length) : w.cell? ⟨b, i, none⟩ = some (.bool (decide (ps.getD i noP ≠ noP))) ∧ w.frozen? ⟨b, i, none⟩ = false := by
  obtain ⟨cs, h1, h2⟩ := h
  have := h2 i hi
  constructor
  · simp only [World.cell?, h1]; rw [this]; rfl
  · exact blk_frozen h1 i
theorem part_cell {w : World} {ok : Nat → Prop} {b i : Nat} {ps : List (List Int)} (h : PartsAt w ok b ps) (hi : i < ps.length) : ∃ u, w.cell? ⟨b, i, none⟩ = some u ∧ w.frozen? ⟨b, i, none⟩ = false ∧ CellAt w ok u (ps.getD i noP) := by
  obtain ⟨cs, h1, h2⟩ := h
  obtain ⟨u, q1, q2⟩ := h2 i hi
  refine ⟨u, ?_, blk_frozen h1 i, q2⟩
  simp only [World.cell?, h1]; rw [q1]; rfl
theorem set_cellq {cs : Array Value} {i j : Nat} {u x : Value} (h : cs[j]? = some u) : (cs.setIfInBounds i x)[j]? = some (if i = j then x else u) := by
  have hlt := (Array.getElem?_eq_some_iff.1 h).1
  by_cases e : i = j
  · subst e; rw [if_pos rfl, Array.getElem?_setIfInBounds_self_of_lt hlt]
  · rw [if_neg e, Array.getElem?_setIfInBounds_ne e]; exact h
theorem getD_set {ps : List (List Int)} {i j : Nat} {q : List Int} (hj : j < ps.length) : (ps.set i q).getD j noP = if i = j then q else ps.getD j noP := by
  by_cases e : i = j
  · subst e; rw [if_pos rfl, List.getD_eq_getElem?_getD, List.getElem?_set_self hj]; rfl
  · rw [if_neg e, List.getD_eq_getElem?_getD, List.getElem?_set_ne e, List.getD_eq_getElem?_getD]
theorem rows_store {w : World} {own : Nat → Prop} {h hb pb i : Nat} {ps : List (List Int)} {q : List Int} {A : Option Addr} {c : Nat} (H : RowsAt w own h hb pb ps) (hi : i < ps.length) (hq : ∀ x ∈ q, 0 ≤ x ∧ x < 256) (hq2 : q.length ≤ 256) (hc : q.length ≤ c)
    (hF : Kd.F (Kd.int .u8) w (fun k => own k ∧ k ≠ h ∧ k ≠ hb ∧ k ≠ pb) A q.length q) :
    RowsAt ((w.setCell ⟨hb, i, none⟩ (.bool true)).setCell ⟨pb, i, none⟩ (.slice A q.length c)) own h hb pb (ps.set i q) := by
  have hm : ∀ k, k ≠ hb → k ≠ pb → ((w.setCell ⟨hb, i, none⟩ (.bool true)).setCell ⟨pb, i, none⟩ (.slice A q.length c)).heap[k]? = w.heap[k]? := fun k h1 h2 => (Below.heap_setCell _ _ _ k h2).trans (Below.heap_setCell _ _ _ k h1)
  obtain ⟨cs, m1, m2⟩ := H.marks
  obtain ⟨ds, p1, p2⟩ := H.parts
  refine ⟨by rw [List.length_set]; exact H.big, H.own1, H.own2, H.ne1, H.ne2, H.ne3, ?_, ?_⟩
  · refine ⟨_, (Below.heap_setCell _ _ _ hb (by show hb ≠ pb; exact H.ne3)).trans (set_raw m1), fun j hj => ?_⟩
    rw [List.length_set] at hj
    rw [set_cellq (m2 j hj), getD_set hj]
    by_cases e : i = j
    · rw [if_pos e, if_pos e, decide_eq_true (noP_bytes hq)]
    · rw [if_neg e, if_neg e]
  · refine ⟨_, set_raw ((Below.heap_setCell _ _ _ pb (by show pb ≠ hb; exact H.ne3.symm)).trans p1), fun j hj => ?_⟩
    rw [List.length_set] at hj
    obtain ⟨u, q1, q2⟩ := p2 j hj
    rw [set_cellq q1, getD_set hj]
    by_cases e : i = j
    · rw [if_pos e, if_pos e]
      exact ⟨_, rfl, .inr ⟨noP_bytes hq, ⟨hq, hq2⟩, A, c, rfl, hc, Kd.F_step hF (fun k hk _ => hm k hk.2.2.1 hk.2.2.2)⟩⟩
    · rw [if_neg e, if_neg e]
      exact ⟨u, rfl, q2.step (fun k hk _ => hm k hk.2.2.1 hk.2.2.2) (fun _ _ hk => hk)⟩
theorem rows_new {w : World} {own : Nat → Prop} {h hb pb n : Nat} {cs ds : Array Value} (hn : n ≤ 4096) (o1 : own hb) (o2 : own pb) (n1 : hb ≠ h) (n2 : pb ≠ h) (n3 : hb ≠ pb) (h1 : w.heap[hb]? = some (.cells cs 4 (0, 0))) (h2 : ∀ i, i < n → cs[i]? = some (.bool false))
    (h3 : w.heap[pb]? = some (.cells ds 23 (0, 0))) (h4 : ∀ i, i < n → ds[i]? = some (.slice none 0 0)) : RowsAt w own h hb pb (List.replicate n noP) := by
  have hg : ∀ i, i < n → (List.replicate n noP).getD i noP = noP := fun i hi => by rw [List.getD_eq_getElem?_getD, List.getElem?_replicate, if_pos hi]; rfl
  refine ⟨by rw [List.length_replicate]; exact hn, o1, o2, n1, n2, n3, ⟨cs, h1, fun i hi => ?_⟩, ⟨ds, h3, fun i hi => ⟨_, h4 i (by simpa using hi), .inl ⟨?_, rfl⟩⟩⟩⟩
  · rw [List.length_replicate] at hi
    rw [h2 i hi, hg i hi, decide_eq_false (by simp)]
  · rw [List.length_replicate] at hi
    exact hg i hi
theorem ref_store {W : World} {g : Nat} {a b : Int} {x y : Value} {t : Bool} (a' b' : Int) (hb hc pb pc n : Nat) (h : W.heap[g]? = some (refO a b x y t)) :
    ∃ W', (Instr.storeAt 56 (.pointer (some ⟨g, 0, none⟩)) (.agg #[.int .u64 a', .int .i64 b', .slice (some ⟨hb, 0, none⟩) n hc, .slice (some ⟨pb, 0, none⟩) n pc, .bool false])).run Try.prog W = .ok () W' ∧ W'.heap[g]? = some (refO a' b' (.slice (some ⟨hb, 0, none⟩) n hc) (.slice (some ⟨pb, 0, none⟩) n pc) false) ∧ Mu (· = g) W W' := by
  refine ⟨W.setRow g #[.int .u64 a', .int .i64 b', .slice (some ⟨hb, 0, none⟩) n hc, .slice (some ⟨pb, 0, none⟩) n pc, .bool false], ?_, setRow_heap W g _ _ _ _ h, ⟨rfl, rfl, rfl, by simp, fun j _ hj => setRow_other W g j _ hj⟩⟩
  simp only [Instr.storeAt, Instr.sureAddr, Sem.run_bind, Sem.run_pure, Result.andThen_ok, run_storeVar_row (P := Try.prog) W g 56 56 _ #[.int .u64 a', .int .i64 b', .slice (some ⟨hb, 0, none⟩) n hc, .slice (some ⟨pb, 0, none⟩) n pc, .bool false] h (by kernel_rfl) rfl (by simp [Value.oneCell'])]
end Go.Proofs.Ytdklanenmihpdaa.Hand
namespace Go.Proofs.Ytdklanenmihpdaa.Hand
open Go.RowKit Go.Maps Go.Proofs.YtdklanenmihpdaaW.PrintWords Go.Proofs.YtdklanenmihpdaaW.PrintLast Go.Proofs.YtdklanenmihpdaaW.PrintMore Go.Proofs.Ytdklanenmihpdaa.PA Go.Proofs.Ytdklanenmihpdaa.PK
set_option linter.unusedSimpArgs false
set_option linter.unusedVariables false
set_option maxRecDepth 100000
theorem numL_endF (l : List Int) : ∀ (k i : Nat) (n p : Int) (m q : Int), 0 ≤ p → p ≤ l.length → numL l k i n p = .ok (m, q) → p ≤ q ∧ q ≤ l.length
  | 0, i, n, p, m, q, h0, h1, h => by simp only [numL] at h; cases h
  | k + 1, i, n, p, m, q, h0, h1, h => by
    simp only [numL] at h
    by_cases h2 : p = l.length
    · rw [if_pos h2] at h; cases h
    rw [if_neg h2] at h
    split at h
    · cases h
    · split at h
      · injection h with h; injection h with h3 h4; omega
      · have := numL_endF l k _ _ _ m q (by omega) (by omega) h
        omega
theorem rdNum_place {l : List Int} {p e m n q x : Int} (h0 : 0 ≤ p) (h1 : p ≤ l.length) (h : rdNum l p e m = (n, q, x)) : 0 ≤ q ∧ q ≤ l.length := by
  unfold rdNum at h
  by_cases he : e = 0
  · rw [if_neg (by simpa using he)] at h
    unfold upL at h
    cases hn : numL l 10 0 0 p with
    | error y =>
      rw [hn] at h
      dsimp only at h
      injection h with h2 h3; injection h3 with h3 h4; omega
    | ok nq =>
      obtain ⟨n', q'⟩ := nq
      have hq := numL_endF l 10 0 0 p n' q' h0 h1 hn
      rw [hn] at h
      dsimp only at h
      by_cases hm : n' > m
      · rw [if_pos hm] at h; dsimp only at h; injection h with h2 h3; injection h3 with h3 h4; omega
      · rw [if_neg hm] at h; dsimp only at h; injection h with h2 h3; injection h3 with h3 h4; omega
  · rw [if_pos he] at h
    injection h with h2 h3; injection h3 with h3 h4; omega
theorem ref_num {l : List Int} {p e m : Int} (hb : ∀ x ∈ l, 0 ≤ x ∧ x < 256) (hl : l.length ≤ 9223372036854775000) (h0 : 0 ≤ p) (h1 : p ≤ l.length) : tikref2_Reader_Num.f 30 l p e m = some (rdNum l p e m) := by
  unfold rdNum tikref2_Reader_Num.f
  by_cases he : e = 0
  · subst he
    rw [if_pos rfl, if_neg (show ¬ ((0 : Int) ≠ 0) by simp), refGet_any l hl hb p 30 (Nat.le_refl _), Option.bind_some]
    have hv : getV l p = numOut (numL l 10 0 0 p) := by unfold getV; rw [if_neg (by omega), if_neg (by omega)]
    rw [hv]
    cases hn : numL l 10 0 0 p with
    | error x =>
      have hx : x ≠ 0 := by have := numL_nz l _ _ _ _ _ hn; simpa using this
      have hu : upL l p m = .error x := by unfold upL; rw [hn]
      rw [hu, show numOut (Except.error x : Except Int (Int × Int)) = (0, 0, x) from rfl]
      dsimp only
      rw [if_neg hx]
    | ok nq =>
      obtain ⟨n, q⟩ := nq
      rw [show numOut (Except.ok (n, q)) = (n, q, 0) from rfl]
      dsimp only
      rw [if_pos rfl]
      by_cases hm : n > m
      · have hu : upL l p m = .error 1 := by unfold upL; rw [hn]; exact if_pos hm
        rw [hu, if_pos hm]
      · have hu : upL l p m = .ok (n, q) := by unfold upL; rw [hn]; exact if_neg hm
        rw [hu, if_neg hm]
  · rw [if_pos he, if_neg he]
theorem rdNum_lower {l : List Int} {p e : Int} : rdNum l p e 4095 = rdNum l p e 4096 ∨ ((rdNum l p e 4096).1 = 4096 ∧ (rdNum l p e 4095).2.2 ≠ 0) := by
  unfold rdNum upL
  by_cases he : e = 0
  · subst he
    rw [if_neg (by simp), if_neg (by simp)]
    cases hn : numL l 10 0 0 p with
    | error y => exact .inl rfl
    | ok nq =>
      obtain ⟨n, q⟩ := nq
      dsimp only
      by_cases h1 : n > 4096
      · rw [if_pos h1, if_pos (show n > 4095 by omega)]; exact .inl rfl
      · by_cases h2 : n > 4095
        · rw [if_neg h1, if_pos h2]
          exact .inr ⟨by show n = 4096; omega, by show (1 : Int) ≠ 0; decide⟩
        · rw [if_neg h1, if_neg h2]; exact .inl rfl
  · rw [if_pos he, if_pos he]; exact .inl rfl
theorem rdNum_stuck {l : List Int} {p e m : Int} (he : e ≠ 0) : rdNum l p e m = (0, p, e) := by unfold rdNum; rw [if_pos he]
theorem doc_read {l : List Int} {id p1 e1 at_ p2 e2 n p3 e3 : Int} (h1 : rdNum l 0 0 4611686018427387904 = (id, p1, e1)) (h2 : rdNum l p1 e1 4095 = (at_, p2, e2)) (h3 : rdNum l p2 e2 4096 = (n, p3, e3)) :
    readV l = if e3 ≠ 0 ∨ id = 0 ∨ n ≤ at_ ∨ (l.drop p3.toNat).length > 256 ∨ (at_ < n - 1 ∧ (l.drop p3.toNat).length ≠ 256) then none else some (id, at_, n, l.drop p3.toNat) := by
  have g1 := rdNum_range (by omega) h1
  have g2 := rdNum_range (by omega) h2
  have g3 := rdNum_range (by omega) h3
  unfold readV
  rcases @rdNum_lower l p1 e1 with h | ⟨h, hx⟩
  · rw [h] at h2
    simp only [h1, h2, h3]
    obtain ⟨d, hd⟩ : ∃ d, l.drop p3.toNat = d := ⟨_, rfl⟩
    rw [hd]
    by_cases c : e3 = 0 ∧ 0 < id ∧ at_ < n
    · rw [if_pos c]
      by_cases c2 : d.length = 256 ∨ d.length < 256 ∧ at_ = n - 1
      · rw [if_pos c2, if_neg (by omega)]
      · rw [if_neg c2, if_pos (by omega)]
    · rw [if_neg c, if_pos (by omega)]
  · rw [h2] at hx
    have he3 : e3 ≠ 0 := by rw [rdNum_stuck hx] at h3; injection h3 with _ h3; injection h3 with _ h3; rw [← h3]; exact hx
    obtain ⟨a', p', x', h4⟩ : ∃ a' p' x', rdNum l p1 e1 4096 = (a', p', x') := ⟨_, _, _, rfl⟩
    obtain ⟨n', q', y', h5⟩ : ∃ n' q' y', rdNum l p' x' 4096 = (n', q', y') := ⟨_, _, _, rfl⟩
    have g5 := rdNum_range (by omega) h5
    rw [h4] at h
    have h : a' = 4096 := h
    simp only [h1, h4, h5]
    rw [if_neg (by omega), if_pos (.inl he3)]
theorem refNum_any {w0 w : World} {g : Nat} {l : List Int} {p e m n q x : Int} (hI : IsS95 w0 w g l p e) (hB : Below w0.heap.size w0 w) (hb : ∀ x ∈ l, 0 ≤ x ∧ x < 256) (hl : l.length ≤ 9223372036854775000) (h0 : 0 ≤ p) (h1 : p ≤ l.length) (h : rdNum l p e m = (n, q, x)) :
    Calls Try.prog 53 #[.pointer (some ⟨g, 0, none⟩), .int .u64 m] w fun e' w' => e' = .returned (.int .u64 n) ∧ IsS95 w0 w' g l q x ∧ Below w0.heap.size w0 w' ∧ KeepBut w w' g none :=
  tikref2_Reader_Num.calls 30 g l p e m n q x w0 w hI hB (by rw [ref_num hb hl h0 h1, h])
theorem refRaw_rest {l : List Int} {p e : Int} (hl : l.length < 140737488355328) (h0 : 0 ≤ p) (h1 : p ≤ l.length) :
    ∃ q, tikref2_Reader_Raw.f l p e ((l.length : Int) - p) = some (if e = 0 then l.drop p.toNat else [], q, e) := by
  unfold tikref2_Reader_Raw.f
  by_cases he : e = 0
  · refine ⟨p + ((l.length : Int) - p), ?_⟩
    rw [if_pos he, if_neg (by omega), if_pos ⟨h0, h1, hl⟩, if_neg (by omega), if_pos he, List.take_of_length_le (by rw [List.length_drop]; omega)]
  · rw [if_neg he, if_neg he]; exact ⟨_, rfl⟩
theorem left_is {l : List Int} {p e : Int} (hl : l.length < 140737488355328) (h0 : 0 ≤ p) (h1 : p ≤ l.length) : tikref2_Reader_Left.f l p e = some ((l.length : Int) - p, p, e) := by
  unfold tikref2_Reader_Left.f
  rw [show wrap64 ((l.length : Int) - p) = (l.length : Int) - p from IntWalk.wrap64_in _ (by omega)]
theorem haveN_snoc : ∀ (ps : List (List Int)) (i : Nat), i < ps.length → haveN (ps.take (i + 1)) = haveN (ps.take i) + (if ps.getD i noP = noP then 0 else 1)
  | [], i, h => by simp at h
  | p :: ps, 0, _ => by simp only [List.take_succ_cons, List.take_zero, haveN, List.getD_cons_zero]; omega
  | p :: ps, i + 1, h => by
    have := haveN_snoc ps i (by simpa using h)
    simp only [List.take_succ_cons, haveN, List.getD_cons_succ]
    omega
set_option maxHeartbeats 4000000 in
theorem refHave_any {w : World} {own : Nat → Prop} {h : Nat} {id n : Int} {told : Bool} {ps : List (List Int)} (H : RefAt w own h id n told ps) :
    Calls Try.prog 32 #[.pointer (some ⟨h, 0, none⟩)] w fun e w' => e = .returned (.int .i64 (haveN ps)) ∧ w' = w := by
  obtain ⟨A, hc, pv, o, hg, hle, hcells⟩ : ∃ A hc pv o, w.heap[h]? = some (refO id n (.slice A ps.length hc) pv o) ∧ ps.length ≤ 4096 ∧ ∀ i, i < ps.length → ∃ hb, A = some ⟨hb, 0, none⟩ ∧ w.cell? ⟨hb, i, none⟩ = some (.bool (decide (ps.getD i noP ≠ noP))) := by
    rcases H.2 with ⟨rfl, rfl, rfl, rfl, h5⟩ | ⟨h1, h2, h3, hb, hc, pb, pc, h4, h5⟩
    · exact ⟨_, _, _, _, h5, Nat.zero_le _, fun i hi => by simp at hi⟩
    · exact ⟨_, _, _, _, h4, h5.big, fun i hi => ⟨hb, rfl, (mark_cell h5.marks hi).1⟩⟩
  have y2 := blk_cell hg 2
  have HC := Aside0.mk hcells
  have HL := Aside0.mk hle
  clear hg hcells hle H
  go_enter Try.func32, Try.ntmps32
  go_wp2_with fail
  go_loopw [3, 4, 5, 6, 7, 8, 9, 10, 11, 12, 13, 14, 15, 16, 17, 18, 19, 20, 21, 22] (fun v3 v4 v5 v6 v7 v8 v9 v10 v11 v12 v13 v14 v15 v16 v17 v18 v19 v20 v21 v22 wr => ∃ i : Nat, i ≤ ps.length ∧ v4 = .int .i64 (i : Int) ∧ v3 = .int .i64 ((haveN (ps.take i) : Nat) : Int) ∧ wr = w)
    (fun v3 v4 v5 v6 v7 v8 v9 v10 v11 v12 v13 v14 v15 v16 v17 v18 v19 v20 v21 v22 _ => ps.length - (intOf v4).toNat)
  case atStart => exact ⟨0, Nat.zero_le _, rfl, rfl, rfl⟩
  case round =>
    obtain ⟨i, hi, rfl, rfl, rfl⟩ := hrel
    obtain ⟨X, hX⟩ : ∃ X, haveN (ps.take i) = X := ⟨_, rfl⟩
    rw [hX]
    have HX := Aside0.mk (And.intro hX hi)
    have hXb : X ≤ 4096 := by rw [← hX]; have := haveN_le (ps.take i); have := HL.out; rw [List.length_take] at *; omega
    clear hX hi
    by_cases hlt : i < ps.length
    · obtain ⟨hb, rfl, hcl⟩ := HC.out i hlt
      have hib : i < 4096 := by have := HL.out; omega
      have HS := Aside0.mk (haveN_snoc ps i hlt)
      by_cases hm : ps.getD i noP = noP
      · rw [decide_eq_false (by simpa using hm)] at hcl
        rw [if_pos hm] at HS
        have HLT := Aside0.mk hlt
        clear hm
        go_wp2_with fail
        go_roundw
        case rel => exact ⟨i + 1, HLT.out, by simp, by rw [HS.out, HX.out.1]; simp, trivial⟩
        case measure => have := HLT.out; simp [intOf] <;> omega
      · rw [decide_eq_true hm] at hcl
        rw [if_neg hm] at HS
        have HLT := Aside0.mk hlt
        clear hm
        go_wp2_with fail
        go_roundw
        case rel => exact ⟨i + 1, HLT.out, by simp, by rw [HS.out, HX.out.1]; simp, trivial⟩
        case measure => have := HLT.out; simp [intOf] <;> omega
    · have hE : Aside0 (X = haveN ps) := ⟨by rw [← HX.out.1, List.take_of_length_le (by have := HX.out.2; omega)]⟩
      go_wp2_with fail
      go_ret
      exact ⟨congrArg (fun (z : Nat) => Ending.returned (.int .i64 (z : Int))) hE.out, rfl⟩
end Go.Proofs.Ytdklanenmihpdaa.Hand
namespace Go.Proofs.Ytdklanenmihpdaa.Hand
open Go.RowKit Go.Maps Go.Proofs.YtdklanenmihpdaaW.PrintWords Go.Proofs.YtdklanenmihpdaaW.PrintLast Go.Proofs.YtdklanenmihpdaaW.PrintMore Go.Proofs.Ytdklanenmihpdaa.PA Go.Proofs.Ytdklanenmihpdaa.PK
set_option linter.unusedSimpArgs false
set_option linter.unusedVariables false
set_option maxRecDepth 100000
abbrev RefSt := Int × Int × Bool × List (List Int)
def docS (id n : Int) (told : Bool) (ps : List (List Int)) : RefSt × (List Int × Bool × Int) :=
  if told = true then ((id, n, told, ps), ([], false, 0)) else if haveN ps < ps.length then ((id, n, told, ps), ([], false, 0)) else ((id, n, true, ps), (ps.flatten, true, 0))
def docV (id n : Int) (told : Bool) (ps : List (List Int)) (pid : Int) (pat pn : Nat) (b : List Int) : RefSt × (List Int × Bool × Int) :=
  if pid < id then ((id, n, told, ps), ([], false, 0))
  else if id < pid then docS pid (pn : Int) false ((List.replicate pn noP).set pat b)
  else if (pn : Int) = n then
    if ps.getD pat noP = noP then docS id n told (ps.set pat b)
    else if ps.getD pat noP = b then docS id n told (ps.set pat b)
    else ((id, n, told, ps), ([], false, 2))
  else ((id, n, told, ps), ([], false, 2))
def refV (id n : Int) (told : Bool) (ps : List (List Int)) (l : List Int) : RefSt × (List Int × Bool × Int) :=
  match readV l with
  | none => ((id, n, told, ps), ([], false, 2))
  | some (pid, pat, pn, b) => docV id n told ps pid pat.toNat pn.toNat b
def RefPost (w : World) (own : Nat → Prop) (h : Nat) (r : RefSt × (List Int × Bool × Int)) (e : Ending) (w' : World) : Prop :=
  RefAt w' own h r.1.1 r.1.2.1 r.1.2.2.1 r.1.2.2.2 ∧ Mu own w w' ∧ ∃ v, e = .returned (.tuple #[v, .bool r.2.2.1, .int .i64 r.2.2.2]) ∧ Kd.R (Kd.int .u8) 5 w' w.heap.size (fun _ => True) v r.2.1
theorem exec_sliceF {P : Program} {w : World} {ev : Operand → Value} {o : Oper} {t : TypeId} {x y : Operand} {e : TypeId} {z : Value} {bytes n s : Nat} (ho : o.op = .makeSlice t x y) (hx : ev x = .int .i64 (n : Int)) (hy : ev y = .int .i64 (n : Int)) (ht : P.underlying t = some (.slice e))
    (hinfo : (P.info? e).map (fun i => (i.zero, i.size, i.bytes)) = some (some z, 1, bytes)) (hz : z.cells = #[z]) (hn : n ≤ 4096) (hb : bytes ≤ 24) (hs : w.heap.size = s) : (execOp ev o).run P w = .ok (.value (.slice (some ⟨s, 0, none⟩) n n)) (w.alloc (.cells (madeCells #[z] n) e)) := by
  subst hs
  obtain ⟨i0, hi, hzz⟩ := Option.map_eq_some_iff.1 hinfo
  simp only [Prod.mk.injEq] at hzz
  obtain ⟨hz0, hz1, hz2⟩ := hzz
  have h4 : i0.bytes * n ≤ 24 * 4096 := Nat.mul_le_mul (by omega) hn
  have hr := run_make (P := P) w t e i0 z ht hi hz0 .i64 .i64 (n : Int) (n : Int) (by omega) (by omega)
    (by
      have h3 : ((i0.bytes * n : Nat) : Int) ≤ 281474976710656 := by omega
      rwa [Int.natCast_mul] at h3) (by omega)
  simp only [Int.toNat_natCast] at hr
  rw [hz1, hz, Nat.mul_one] at hr
  simp [execOp, ho, hx, hy, hr]
theorem made_at {z : Value} {n i : Nat} (h : i < n) : (madeCells #[z] n)[i]? = some z := by simp [madeCells, h, Nat.mod_one]
theorem st_bool {W : World} {b j : Nat} {u : Value} {x : Bool} (c : W.cell? ⟨b, j, none⟩ = some u) (f : W.frozen? ⟨b, j, none⟩ = false) : (Instr.storeAt 4 (.pointer (some ⟨b, j, none⟩)) (.bool x)).run Try.prog W = .ok () (W.setCell ⟨b, j, none⟩ (.bool x)) := by
  simp [go_sem, c, f]
theorem st_row {W : World} {b j : Nat} {u : Value} {A : Option Addr} {n k : Nat} (c : W.cell? ⟨b, j, none⟩ = some u) (f : W.frozen? ⟨b, j, none⟩ = false) : (Instr.storeAt 23 (.pointer (some ⟨b, j, none⟩)) (.slice A n k)).run Try.prog W = .ok () (W.setCell ⟨b, j, none⟩ (.slice A n k)) := by
  simp [go_sem, c, f]
theorem RefAt.lt {w : World} {own : Nat → Prop} {h : Nat} {id n : Int} {told : Bool} {ps : List (List Int)} (H : RefAt w own h id n told ps) : h < w.heap.size := by
  rcases H.2 with ⟨_, _, _, _, h5⟩ | ⟨_, _, _, hb, hc, pb, pc, h4, _⟩
  · exact heap_lt h5
  · exact heap_lt h4
theorem bytes_fF {a b : List Int} (ha : ∀ x ∈ a, 0 ≤ x ∧ x < 256) (hb : ∀ x ∈ b, 0 ≤ x ∧ x < 256) : tikref_Bytes.f a b = some (decide (a = b)) := by
  unfold tikref_Bytes.f
  rw [Lib.strOfNums_toList, Lib.strOfNums_toList]
  by_cases h : a = b
  · rw [h]; simp
  · rw [decide_eq_false h]
    congr 1
    rw [beq_eq_false_iff_ne]
    exact fun e => h (bytesOf_inj ha hb e)
def Mk (w : World) (n hb pb : Nat) (W : World) : Prop :=
  Below w.heap.size w W ∧ w.heap.size ≤ hb ∧ w.heap.size ≤ pb ∧ hb ≠ pb ∧ W.heap[hb]? = some (.cells (madeCells #[.bool false] n) 4 (0, 0)) ∧ W.heap[pb]? = some (.cells (madeCells #[.slice none 0 0] n) 23 (0, 0))
theorem mk_hp {w : World} {n : Nat} : Mk w n w.heap.size (w.heap.size + 1) ((w.alloc (.cells (madeCells #[.bool false] n) 4)).alloc (.cells (madeCells #[.slice none 0 0] n) 23)) := by
  have h2 := alloc_new (w.alloc (.cells (madeCells #[.bool false] n) 4)) (.cells (madeCells #[.slice none 0 0] n) 23)
  rw [show (w.alloc (.cells (madeCells #[.bool false] n) 4)).heap.size = w.heap.size + 1 by simp] at h2
  exact ⟨below_alloc (below_alloc (Below.refl _ _) _) _, Nat.le_refl _, by omega, by omega, (Below.heap_alloc _ _ _ (by simp)).trans (alloc_new _ _), h2⟩
theorem mk_ph {w : World} {n : Nat} : Mk w n (w.heap.size + 1) w.heap.size ((w.alloc (.cells (madeCells #[.slice none 0 0] n) 23)).alloc (.cells (madeCells #[.bool false] n) 4)) := by
  have h2 := alloc_new (w.alloc (.cells (madeCells #[.slice none 0 0] n) 23)) (.cells (madeCells #[.bool false] n) 4)
  rw [show (w.alloc (.cells (madeCells #[.slice none 0 0] n) 23)).heap.size = w.heap.size + 1 by simp] at h2
  exact ⟨below_alloc (below_alloc (Below.refl _ _) _) _, by omega, Nat.le_refl _, by omega, h2, (Below.heap_alloc _ _ _ (by simp)).trans (alloc_new _ _)⟩
theorem infoB : (Try.prog.info? 4).map (fun i => (i.zero, i.size, i.bytes)) = some (some (.bool false), 1, 1) := by kernel_rfl
theorem infoR : (Try.prog.info? 23).map (fun i => (i.zero, i.size, i.bytes)) = some (some (.slice none 0 0), 1, 24) := by kernel_rfl
structure Dl (w0 : World) (own : Nat → Prop) (g hb hc pb pc : Nat) (id : Int) (told : Bool) (ps : List (List Int)) (A9 : Option Addr) (bb : List Int) (W : World) : Prop where
  at_ : W.heap[g]? = some (refO id (ps.length : Int) (.slice (some ⟨hb, 0, none⟩) ps.length hc) (.slice (some ⟨pb, 0, none⟩) ps.length pc) told)
  rows : RowsAt W own g hb pb ps
  mu : Mu own w0 W
  F : Kd.F (Kd.int .u8) W (fun k => own k ∧ k ≠ g ∧ k ≠ hb ∧ k ≠ pb) A9 bb.length bb
section
variable {w0 W W' : World} {own : Nat → Prop} {g hb hc pb pc : Nat} {id : Int} {told : Bool} {ps : List (List Int)} {A9 : Option Addr} {bb : List Int}
theorem Dl.below (h : Dl w0 own g hb hc pb pc id told ps A9 bb W) (hB : Below W.heap.size W W') : Dl w0 own g hb hc pb pc id told ps A9 bb W' :=
  ⟨(Mu.of_below hB (fun _ => False)).heap h.at_ (fun h => h), h.rows.step (fun k _ _ hl => hB.block k hl) (fun _ _ hk => hk), h.mu.trans (Mu.of_below hB own), Kd.F_below h.F hB⟩
theorem Dl.drew (h : Dl w0 own g hb hc pb pc id told ps A9 bb W) : Dl w0 own g hb hc pb pc id told ps A9 bb W.drew := h.below (below_drew (Below.refl _ _))
theorem Dl.gat (h : Dl w0 own g hb hc pb pc id told ps A9 bb W) (hg : own g) (hid : 1 ≤ id) (hn : 1 ≤ ps.length) : RefAt W own g id (ps.length : Int) told ps := ⟨hg, .inr ⟨hid, rfl, hn, hb, hc, pb, pc, h.at_, h.rows⟩⟩
theorem set5 {w : World} {g t : Nat} {a b c d e x : Value} (h : w.heap[g]? = some (.cells #[a, b, c, d, e] t (0, 0))) : (w.setCell ⟨g, 4, none⟩ x).heap[g]? = some (.cells #[a, b, c, d, x] t (0, 0)) := by
  obtain ⟨hlt, hk⟩ := Array.getElem?_eq_some_iff.1 h
  show (w.heap.modify g _)[g]? = _
  rw [Array.getElem?_eq_getElem (by rw [Array.size_modify]; exact hlt), Array.getElem_modify_self, hk]
  rfl
theorem Dl.tell (h : Dl w0 own g hb hc pb pc id told ps A9 bb W) (hg : own g) : Dl w0 own g hb hc pb pc id true ps A9 bb (W.setCell ⟨g, 4, none⟩ (.bool true)) :=
  have hm : Mu (· = g) W (W.setCell ⟨g, 4, none⟩ (.bool true)) := (Mu.refl (· = g) W).setCell (p := ⟨g, 4, none⟩) (fun _ => rfl) _
  ⟨set5 h.at_, h.rows.step (fun k _ hk hl => hm.block k hl hk) (fun _ _ hk => hk), h.mu.trans (hm.mono (fun k _ e => e ▸ hg)), Kd.F_step h.F (fun k hk hl => hm.block k hl hk.2.1)⟩
theorem Dl.store (h : Dl w0 own g hb hc pb pc id told ps A9 bb W) {i c : Nat} (hi : i < ps.length) (hb1 : ∀ x ∈ bb, 0 ≤ x ∧ x < 256) (hb2 : bb.length ≤ 256) (hcc : bb.length ≤ c) :
    Dl w0 own g hb hc pb pc id told (ps.set i bb) A9 bb ((W.setCell ⟨hb, i, none⟩ (.bool true)).setCell ⟨pb, i, none⟩ (.slice A9 bb.length c)) := by
  have hr := rows_store h.rows hi hb1 hb2 hcc h.F
  have hm : ∀ k, k ≠ hb → k ≠ pb → ((W.setCell ⟨hb, i, none⟩ (.bool true)).setCell ⟨pb, i, none⟩ (.slice A9 bb.length c)).heap[k]? = W.heap[k]? := fun k h1 h2 => (Below.heap_setCell _ _ _ k h2).trans (Below.heap_setCell _ _ _ k h1)
  refine ⟨?_, hr, ?_, Kd.F_step h.F (fun k hk _ => hm k hk.2.2.1 hk.2.2.2)⟩
  · rw [List.length_set]; exact (hm g h.rows.ne1.symm h.rows.ne2.symm).trans h.at_
  · exact (h.mu.setCell (p := ⟨hb, i, none⟩) (fun _ => h.rows.own1) _).setCell (p := ⟨pb, i, none⟩) (fun _ => h.rows.own2) _
end
set_option maxHeartbeats 16000000 in
theorem refPut_any {w : World} {own : Nat → Prop} {h : Nat} {id n : Int} {told : Bool} {ps : List (List Int)} (hG : RefAt w own h id n told ps) (hnew : ∀ k, w.heap.size ≤ k → own k) {A : Option Addr} {c : Nat} {l : List Int} (hC : Kd.C (Kd.int .u8) w A l.length l) (hc : l.length ≤ c) (hl : l.length < 140737488355328) (hb : ∀ x ∈ l, 0 ≤ x ∧ x < 256) :
    Calls Try.prog 29 #[.pointer (some ⟨h, 0, none⟩), .slice A l.length c] w (RefPost w own h (refV id n told ps l)) := by
  obtain ⟨R, hR⟩ : ∃ R, refV id n told ps l = R := ⟨_, rfl⟩
  rw [hR]
  obtain ⟨pid, p1, e1, h1⟩ : ∃ a b c, rdNum l 0 0 4611686018427387904 = (a, b, c) := ⟨_, _, _, rfl⟩
  obtain ⟨at', p2, e2, h2⟩ : ∃ a b c, rdNum l p1 e1 4095 = (a, b, c) := ⟨_, _, _, rfl⟩
  obtain ⟨n', p3, e3, h3⟩ : ∃ a b c, rdNum l p2 e2 4096 = (a, b, c) := ⟨_, _, _, rfl⟩
  have g1 := rdNum_range (by omega) h1
  have g2 := rdNum_range (by omega) h2
  have g3 := rdNum_range (by omega) h3
  have k1 := rdNum_place (by omega) (by omega) h1
  have k2 := rdNum_place k1.1 k1.2 h2
  have k3 := rdNum_place k2.1 k2.2 h3
  obtain ⟨pat, rfl⟩ := Int.eq_ofNat_of_zero_le g2.1
  obtain ⟨pn, rfl⟩ := Int.eq_ofNat_of_zero_le g3.1
  have HV := Aside0.mk (doc_read h1 h2 h3)
  have HH := Aside0.mk (And.intro h1 (And.intro h2 h3))
  have HK := Aside0.mk (And.intro k1 (And.intro k2 k3))
  have HGR := Aside0.mk (And.intro g1 (And.intro g2.2 g3.2))
  have HBL := Aside0.mk (And.intro hb (show l.length ≤ 9223372036854775000 by omega))
  have HLL := Aside0.mk hl
  obtain ⟨w1, hw1⟩ : ∃ w1, w.alloc (.cells #[.slice A l.length c, .int .i64 0, .int .i64 0] 95) = w1 := ⟨_, rfl⟩
  have HI1 := Aside0.mk (show IsS95 w w1 w.heap.size l 0 0 by rw [← hw1]; exact IsS95.new w w A c l 0 0 (Below.refl _ _) hC hc)
  have HB1 := Aside0.mk (show Below w.heap.size w w1 by rw [← hw1]; exact below_alloc (Below.refl _ _) _)
  have HG := Aside0.mk (And.intro hG hnew)
  have HR := Aside0.mk hR
  have HW1 := Aside0.mk hw1
  have hbd : ∀ W : World, (Instr.build 95 #[(0, .slice A l.length c)]).run Try.prog W = .ok (.agg #[.slice A l.length c, .int .i64 0, .int .i64 0]) W := fun W => run_build (P := Try.prog) W 95 _ _ (by kernel_rfl)
  have wr1 : IntKind.i64.wrap (pat : Int) = pat := IntWalk.i64_in _ (by omega)
  have wr2 : IntKind.i64.wrap (pn : Int) = pn := IntWalk.i64_in _ (by omega)
  have b1 : pat ≤ 4095 := by omega
  have b2 : pn ≤ 4096 := by omega
  clear h1 h2 h3 g1 g2 g3 k1 k2 k3 hb hl hw1 hG hnew hR hC hc
  go_enter Try.func29, Try.ntmps29
  go_wp2_with fail
  rw [HW1.out]
  refine (refNum_any HI1.out HB1.out HBL.out.1 HBL.out.2 (by omega) (by omega) HH.out.1).mono ?_
  rintro en w2 ⟨rfl, hI2, hB2, _⟩
  have HI2 := Aside0.mk hI2
  have HB2 := Aside0.mk hB2
  clear hI2 hB2
  go_wp2_with fail
  refine (refNum_any HI2.out HB2.out HBL.out.1 HBL.out.2 HK.out.1.1 HK.out.1.2 HH.out.2.1).mono ?_
  rintro en w3 ⟨rfl, hI3, hB3, _⟩
  have HI3 := Aside0.mk hI3
  have HB3 := Aside0.mk hB3
  clear hI3 hB3
  go_wp2_with fail
  refine (refNum_any HI3.out HB3.out HBL.out.1 HBL.out.2 HK.out.2.1.1 HK.out.2.1.2 HH.out.2.2).mono ?_
  rintro en w4 ⟨rfl, hI4, hB4, _⟩
  have HI4 := Aside0.mk hI4
  have HB4 := Aside0.mk hB4
  clear hI4 hB4
  go_wp2_with fail
  refine (tikref2_Reader_Left.calls w.heap.size l p3 e3 _ _ _ w _ HI4.out HB4.out (left_is HLL.out HK.out.2.2.1 HK.out.2.2.2)).mono ?_
  rintro en w5 ⟨rfl, hI5, hB5, _⟩
  have HI5 := Aside0.mk hI5
  have HB5 := Aside0.mk hB5
  clear hI5 hB5
  go_wp2_with fail
  obtain ⟨q5, hq5⟩ := refRaw_rest (l := l) (p := p3) (e := e3) HLL.out HK.out.2.2.1 HK.out.2.2.2
  obtain ⟨bb, hbb⟩ : ∃ bb, (if e3 = 0 then l.drop p3.toNat else []) = bb := ⟨_, rfl⟩
  rw [hbb] at hq5
  refine (tikref2_Reader_Raw.calls w.heap.size l p3 e3 _ _ _ _ w _ HI5.out HB5.out hq5).mono ?_
  rintro en w6 ⟨v6, rfl, hR6, hI6, hB6, _⟩
  obtain ⟨A6, c6, rfl, hc6, _⟩ := Kd.R_reads hR6
  have HR6 := Aside0.mk hR6
  have HI6 := Aside0.mk hI6
  have HB6 := Aside0.mk hB6
  have HC6 := Aside0.mk hc6
  have HZ6 := Aside0.mk (show w.heap.size ≤ w5.heap.size from HB5.out.size)
  have HBB := Aside0.mk hbb
  have hbl : bb.length ≤ 140737488355328 := by rw [← hbb]; split <;> simp <;> have := HLL.out <;> omega
  clear hR6 hI6 hB6 hc6 hq5 hbb
  obtain ⟨_, _, c0, c1, c2, f1, f2, _, _, _⟩ := ref_open HI6.out HB6.out
  clear c0 c1 f1 f2
  go_upto_region 4 with fail
  go_cut [58] from 29 to 57 (fun s58 wx => ∃ z, s58 = .bool z ∧ w6 = wx ∧ (z = true → Aside0 (R = ((id, n, told, ps), ([], false, 2)))) ∧ (z = false → Aside0 (R = docV id n told ps pid pat pn bb ∧ 1 ≤ pid ∧ pat < pn ∧ pn ≤ 4096 ∧ bb.length ≤ 256 ∧ ∀ x ∈ bb, 0 ≤ x ∧ x < 256)))
  case first =>
    by_cases z1 : e3 ≠ 0
    · have HRB : Aside0 (R = ((id, n, told, ps), ([], false, 2))) := ⟨by rw [← HR.out]; unfold refV; rw [HV.out, if_pos (.inl z1)]⟩
      have d1 : (e3 != 0) = true := by simpa using z1
      clear z1
      go_wp2_with fail
      go_meet
      case rel => exact ⟨true, rfl, rfl, fun _ => HRB, fun z => by cases z⟩
    have z1' : e3 = 0 := by omega
    have hbb' : l.drop p3.toNat = bb := by rw [← HBB.out, if_pos z1']
    rw [hbb'] at HV
    have d1 : (e3 != 0) = false := by simp [z1']
    have HZ1 := Aside0.mk (And.intro z1' hbb')
    clear z1 z1' hbb'
    by_cases z2 : pid = 0
    · have HRB : Aside0 (R = ((id, n, told, ps), ([], false, 2))) := ⟨by rw [← HR.out]; unfold refV; rw [HV.out, if_pos (.inr (.inl z2))]⟩
      have d2 : (pid == 0) = true := by simpa using z2
      clear z2
      go_wp2_with fail
      go_meet
      case rel => exact ⟨true, rfl, rfl, fun _ => HRB, fun z => by cases z⟩
    have d2 : (pid == 0) = false := by simpa using z2
    have HZ2 := Aside0.mk z2
    clear z2
    by_cases z3 : (pn : Int) ≤ (pat : Int)
    · have HRB : Aside0 (R = ((id, n, told, ps), ([], false, 2))) := ⟨by rw [← HR.out]; unfold refV; rw [HV.out, if_pos (.inr (.inr (.inl z3)))]⟩
      have d3 : decide ((pn : Int) ≤ (pat : Int)) = true := decide_eq_true z3
      have d3' : decide (pn ≤ pat) = true := decide_eq_true (by omega)
      clear z3
      go_wp2_with fail
      go_meet
      case rel => exact ⟨true, rfl, rfl, fun _ => HRB, fun z => by cases z⟩
    have d3 : decide ((pn : Int) ≤ (pat : Int)) = false := decide_eq_false z3
    have d3' : decide (pn ≤ pat) = false := decide_eq_false (by omega)
    have hap : pat < pn := by omega
    have HAP := Aside0.mk hap
    clear z3
    by_cases z4 : bb.length > 256
    · have HRB : Aside0 (R = ((id, n, told, ps), ([], false, 2))) := ⟨by rw [← HR.out]; unfold refV; rw [HV.out, if_pos (.inr (.inr (.inr (.inl z4))))]⟩
      have d4 : decide ((256 : Int) < (bb.length : Int)) = true := decide_eq_true (by omega)
      clear z4 hap
      go_wp2_with fail
      go_meet
      case rel => exact ⟨true, rfl, rfl, fun _ => HRB, fun z => by cases z⟩
    have d4 : decide ((256 : Int) < (bb.length : Int)) = false := decide_eq_false (by omega)
    have h256 : bb.length ≤ 256 := by omega
    have H256 := Aside0.mk h256
    clear z4
    by_cases z5 : (pat : Int) < (pn : Int) - 1
    case neg =>
      have HZ6 := Aside0.mk z5
      have d5 : decide ((pat : Int) < (pn : Int) - 1) = false := decide_eq_false z5
      have HRG : Aside0 (R = docV id n told ps pid pat pn bb ∧ 1 ≤ pid ∧ pat < pn ∧ pn ≤ 4096 ∧ bb.length ≤ 256 ∧ ∀ x ∈ bb, 0 ≤ x ∧ x < 256) := ⟨by
        refine ⟨?_, by have := HZ2.out; have := HGR.out.1.1; omega, HAP.out, by have := HGR.out; omega, H256.out, fun x hx => HBL.out.1 x (by rw [← HZ1.out.2] at hx; exact List.mem_of_mem_drop hx)⟩
        rw [← HR.out]; unfold refV; rw [HV.out, if_neg (by have := HZ1.out.1; have := HZ2.out; have := HAP.out; have := H256.out; have := HZ6.out; omega)]
        simp only [Int.toNat_natCast]⟩
      clear z5
      go_wp2_with fail
      go_meet
      case rel => exact ⟨false, rfl, rfl, (fun z => by cases z), fun _ => HRG⟩
    have d5 : decide ((pat : Int) < (pn : Int) - 1) = true := decide_eq_true z5
    by_cases z6 : bb.length ≠ 256
    · have HRB : Aside0 (R = ((id, n, told, ps), ([], false, 2))) := ⟨by rw [← HR.out]; unfold refV; rw [HV.out, if_pos (.inr (.inr (.inr (.inr ⟨z5, z6⟩))))]⟩
      have d6 : ((bb.length : Int) != 256) = true := by simpa using (show ¬ (bb.length : Int) = 256 by omega)
      clear z5 z6
      go_wp2_with fail
      go_meet
      case rel => exact ⟨true, rfl, rfl, fun _ => HRB, fun z => by cases z⟩
    have d6 : ((bb.length : Int) != 256) = false := by simpa using (show (bb.length : Int) = 256 by omega)
    have HZ6 := Aside0.mk z6
    clear z6
    have HRG : Aside0 (R = docV id n told ps pid pat pn bb ∧ 1 ≤ pid ∧ pat < pn ∧ pn ≤ 4096 ∧ bb.length ≤ 256 ∧ ∀ x ∈ bb, 0 ≤ x ∧ x < 256) := ⟨by
      refine ⟨?_, by have := HZ2.out; have := HGR.out.1.1; omega, HAP.out, by have := HGR.out; omega, H256.out, fun x hx => HBL.out.1 x (by rw [← HZ1.out.2] at hx; exact List.mem_of_mem_drop hx)⟩
      rw [← HR.out]; unfold refV; rw [HV.out, if_neg (by have := HZ1.out.1; have := HZ2.out; have := HAP.out; have := H256.out; have := HZ6.out; omega)]
      simp only [Int.toNat_natCast]⟩
    clear z5
    go_wp2_with fail
    go_meet
    case rel => exact ⟨false, rfl, rfl, (fun z => by cases z), fun _ => HRG⟩
  case rest =>
    obtain ⟨z, rfl, rfl, hz1, hz2⟩ := hcut
    cases z with
    | true =>
      have HRB := hz1 rfl
      clear hz1 hz2
      go_wp2_with fail
      go_ret3
      rw [HRB.out]
      exact ⟨HG.out.1.below HB6.out, Mu.of_below HB6.out own, _, rfl, Kd.R_nil _ _ _ _ _⟩
    | false =>
    have HQ := hz2 rfl
    clear hz1 hz2
    obtain ⟨hv, pv, hh⟩ : ∃ hv pv, w6.heap[h]? = some (refO id n hv pv told) := by
      rcases (HG.out.1.below HB6.out).2 with ⟨rfl, rfl, rfl, rfl, h5⟩ | ⟨_, _, _, hb, hc, pb, pc, h4, _⟩
      · exact ⟨_, _, h5⟩
      · exact ⟨_, _, h4⟩
    have y0 := blk_cell hh 0
    have HH6 := Aside0.mk hh
    clear hh hbd wr1 wr2 c2
    by_cases z1 : pid < id
    · have HRV : Aside0 (R = ((id, n, told, ps), ([], false, 0))) := ⟨by rw [HQ.out.1]; unfold docV; rw [if_pos z1]⟩
      have d1 : decide (pid < id) = true := decide_eq_true z1
      clear z1
      go_wp2_with fail
      go_ret3
      rw [HRV.out]
      exact ⟨HG.out.1.below HB6.out, Mu.of_below HB6.out own, _, rfl, Kd.R_nil _ _ _ _ _⟩
    have d1 : decide (pid < id) = false := decide_eq_false z1
    have HZ1 := Aside0.mk z1
    clear z1
    have HBA := Aside0.mk (And.intro b1 b2)
    go_upto_if 70 with fail
    clear y0 d1
    go_cut [] from 59 to 79 (fun wx => ∃ W T PS hb hc pb pc, W = wx ∧ Aside0 (Dl w own h hb hc pb pc pid T PS A6 bb W ∧ 1 ≤ PS.length ∧ R = docV pid (PS.length : Int) T PS pid pat pn bb))
    case first =>
      by_cases z2 : id < pid
      case neg =>
        have d2 : decide (id < pid) = false := decide_eq_false z2
        obtain rfl : pid = id := by have := HZ1.out; omega
        have HRL : Aside0 (∃ T PS hb hc pb pc, Aside0 (Dl w own h hb hc pb pc pid T PS A6 bb w6 ∧ 1 ≤ PS.length ∧ R = docV pid (PS.length : Int) T PS pid pat pn bb)) := ⟨by
          rcases HG.out.1.2 with ⟨e1, _, _, _, _⟩ | ⟨_, e2, e3, hb, hc, pb, pc, h4, h5⟩
          · have := HQ.out.2.1; omega
          · have hB := HB6.out
            have hlt := heap_lt h4
            have l1 := h5.marks.lt
            have l2 := h5.parts.lt
            have hs := HZ6.out
            refine ⟨told, ps, hb, hc, pb, pc, ⟨⟨?_, ?_, Mu.of_below hB own, ?_⟩, e3, ?_⟩⟩
            · rw [← e2]; exact (hB.block h hlt).trans h4
            · exact h5.step (fun k _ _ hl => hB.block k hl) (fun _ _ hk => hk)
            · exact Kd.F_mono (Kd.R_F (Kd.R_bound HR6.out)) (fun k hk => by
                have := hk.2.1
                exact ⟨HG.out.2 k (by omega), by omega, by omega, by omega⟩)
            · rw [HQ.out.1, e2]⟩
        clear z2
        go_wp2_with fail
        go_meet
        case rel =>
          obtain ⟨T, PS, hb, hc, pb, pc, hD⟩ := HRL.out
          exact ⟨_, T, PS, hb, hc, pb, pc, rfl, hD⟩
      have d2 : decide (id < pid) = true := decide_eq_true z2
      have HZ2 := Aside0.mk z2
      have hbd9 : ∀ (W : World) (hb pb : Nat), (Instr.build 56 #[(0, .int .u64 pid), (1, .int .i64 (pn : Int)), (2, .slice (some ⟨hb, 0, none⟩) pn pn), (3, .slice (some ⟨pb, 0, none⟩) pn pn)]).run Try.prog W = .ok (.agg #[.int .u64 pid, .int .i64 (pn : Int), .slice (some ⟨hb, 0, none⟩) pn pn, .slice (some ⟨pb, 0, none⟩) pn pn, .bool false]) W := fun W hb pb => run_build (P := Try.prog) W 56 _ _ (by kernel_rfl)
      go_wp2_with fail
      clear z2
      refine start_ (n := 10) (S := fun w' => True) (ds := [9]) #[false, false, false, false, false, false, false, false, false, false] (by kernel_rfl) rfl rfl trivial (fun hHeld => ?_)
      refine pure_ (i := 0) (N := some 71) (v := ?_) (a' := ?_) #[true, false, false, false, false, false, false, false, false, false] rfl rfl (by kernel_rfl) (fun _ _ _ h => h) (Or.inl ⟨by rfl, ?_⟩) ?_ ?_
      rotate_left
      · intro w'
        go_simp
        with_reducible rfl
      rotate_left
      · simp only [Act.put, List.setIfInBounds_toArray, List.set_cons_zero, List.set_cons_succ, i64_w, i32_w]
        rfl
      refine pure_ (i := 1) (N := some 72) (v := ?_) (a' := ?_) #[true, true, false, false, false, false, false, false, false, false] rfl rfl (by kernel_rfl) (fun _ _ _ h => h) (Or.inl ⟨by rfl, ?_⟩) ?_ ?_
      rotate_left
      · intro w'
        go_simp
        with_reducible rfl
      rotate_left
      · simp only [Act.put, List.setIfInBounds_toArray, List.set_cons_zero, List.set_cons_succ, i64_w, i32_w]
        rfl
      refine pure_ (i := 2) (N := some 73) (v := ?_) (a' := ?_) #[true, true, true, false, false, false, false, false, false, false] rfl rfl (by kernel_rfl) (fun _ _ _ h => h) (Or.inl ⟨by rfl, ?_⟩) ?_ ?_
      rotate_left
      · intro w'
        go_simp
        with_reducible rfl
      rotate_left
      · simp only [Act.put, List.setIfInBounds_toArray, List.set_cons_zero, List.set_cons_succ, i64_w, i32_w]
        rfl
      refine pure_ (i := 3) (N := some 74) (v := ?_) (a' := ?_) #[true, true, true, true, false, false, false, false, false, false] rfl rfl (by kernel_rfl) (fun _ _ _ h => h) (Or.inl ⟨by rfl, ?_⟩) ?_ ?_
      rotate_left
      · intro w'
        go_simp
        with_reducible rfl
      rotate_left
      · simp only [Act.put, List.setIfInBounds_toArray, List.set_cons_zero, List.set_cons_succ, i64_w, i32_w]
        rfl
      refine pure_ (i := 5) (N := some 76) (v := ?_) (a' := ?_) #[true, true, true, true, false, true, false, false, false, false] rfl rfl (by kernel_rfl) (fun _ _ _ h => h) (Or.inl ⟨by rfl, ?_⟩) ?_ ?_
      rotate_left
      · intro w'
        go_simp
        with_reducible rfl
      rotate_left
      · simp only [Act.put, List.setIfInBounds_toArray, List.set_cons_zero, List.set_cons_succ, i64_w, i32_w]
        rfl
      refine join_ (σ := Nat × Nat) 3 #[true, true, true, true, true, true, true, false, false, false] (fun s => [(75, .slice (some ⟨s.1, 0, none⟩) pn pn), (77, .slice (some ⟨s.2, 0, none⟩) pn pn)]) (fun s w' => Mk w6.drew pn s.1 s.2 w') ?_ ?_
      rotate_left
      · intro hCont
        refine two_ (i := 4) (j := 6) (Ni := some 75) (Nj := some 77) #[true, true, true, true, true, true, false, false, false, false] #[true, true, true, true, false, true, true, false, false, false] rfl rfl rfl rfl (by kernel_rfl) (by decide) (by decide) (fun K hK => ?_) (fun K hK => ?_)
        · skip
          refine value_ (by rfl) rfl (exec_sliceF (n := pn) (s := w6.drew.heap.size) rfl (by rfl) (by rfl) Try.underlying54 infoB rfl HBA.out.2 (by decide) rfl) ?_
          refine hK.out _ _ trivial (fun hHeld => ?_)
          clear hK K
          refine norm_ (a' := ?_) ?_ ?_
          rotate_left
          · show Act.put _ (some 75) _ = _
            simp only [Act.put, List.setIfInBounds_toArray, List.set_cons_zero, List.set_cons_succ, i64_w, i32_w]
            rfl
          refine one_ (i := 6) (N := some 77) #[true, true, true, true, true, true, true, false, false, false] rfl rfl (by kernel_rfl) (by decide) (fun K hK => ?_)
          refine value_ (by rfl) rfl (exec_sliceF (n := pn) (s := (w6.drew.heap.size + 1)) rfl (by rfl) (by rfl) Try.underlying48 infoR rfl HBA.out.2 (by decide) (by simp)) ?_
          refine hK.out _ _ trivial (fun hHeld => ?_)
          clear hK K
          refine norm_ (a' := ?_) ?_ ?_
          rotate_left
          · show Act.put _ (some 77) _ = _
            simp only [Act.put, List.setIfInBounds_toArray, List.set_cons_zero, List.set_cons_succ, i64_w, i32_w]
            rfl
          exact norm_ (by simp only [putAll, Act.put, List.setIfInBounds_toArray, List.set_cons_zero, List.set_cons_succ]) (hCont (w6.drew.heap.size, w6.drew.heap.size + 1) _ mk_hp)
        · skip
          refine value_ (by rfl) rfl (exec_sliceF (n := pn) (s := w6.drew.heap.size) rfl (by rfl) (by rfl) Try.underlying48 infoR rfl HBA.out.2 (by decide) rfl) ?_
          refine hK.out _ _ trivial (fun hHeld => ?_)
          clear hK K
          refine norm_ (a' := ?_) ?_ ?_
          rotate_left
          · show Act.put _ (some 77) _ = _
            simp only [Act.put, List.setIfInBounds_toArray, List.set_cons_zero, List.set_cons_succ, i64_w, i32_w]
            rfl
          refine one_ (i := 4) (N := some 75) #[true, true, true, true, true, true, true, false, false, false] rfl rfl (by kernel_rfl) (by decide) (fun K hK => ?_)
          refine value_ (by rfl) rfl (exec_sliceF (n := pn) (s := (w6.drew.heap.size + 1)) rfl (by rfl) (by rfl) Try.underlying54 infoB rfl HBA.out.2 (by decide) (by simp)) ?_
          refine hK.out _ _ trivial (fun hHeld => ?_)
          clear hK K
          refine norm_ (a' := ?_) ?_ ?_
          rotate_left
          · show Act.put _ (some 75) _ = _
            simp only [Act.put, List.setIfInBounds_toArray, List.set_cons_zero, List.set_cons_succ, i64_w, i32_w]
            rfl
          exact norm_ (by simp only [putAll, Act.put, List.setIfInBounds_toArray, List.set_cons_zero, List.set_cons_succ]) (hCont (w6.drew.heap.size + 1, w6.drew.heap.size) _ mk_ph)
      rintro ⟨hb, pb⟩ w' hM
      have hHeld : True := trivial
      have hh9 := (Mu.of_below (below_step (below_drew (Below.refl _ _)) hM.1) (fun _ => False)).heap HH6.out (fun h => h)
      obtain ⟨W9, hst9, hg9, hm9⟩ := ref_store pid (pn : Int) hb pn pb pn pn hh9
      have HM := Aside0.mk (And.intro hM (And.intro hg9 (And.intro hm9 hh9)))
      clear hM hg9 hm9 hh9
      refine norm_ (a' := ?_) ?_ ?_
      rotate_left
      · simp only [putAll, Act.put, List.setIfInBounds_toArray, List.set_cons_zero, List.set_cons_succ]
        rfl
      refine pure_ (i := 7) (N := some 78) (v := ?_) (a' := ?_) #[true, true, true, true, true, true, true, true, false, false] rfl rfl (by kernel_rfl) (fun _ _ _ h => h) (Or.inl ⟨by rfl, ?_⟩) ?_ ?_
      rotate_left
      · intro w'
        go_simp
        with_reducible rfl
      rotate_left
      · simp only [Act.put, List.setIfInBounds_toArray, List.set_cons_zero, List.set_cons_succ, i64_w, i32_w]
        rfl
      refine pure_ (i := 8) (N := some 79) (v := ?_) (a' := ?_) #[true, true, true, true, true, true, true, true, true, false] rfl rfl (by kernel_rfl) (fun _ _ _ h => h) (Or.inl ⟨by rfl, ?_⟩) ?_ ?_
      rotate_left
      · intro w'
        go_simp
        with_reducible rfl
      rotate_left
      · simp only [Act.put, List.setIfInBounds_toArray, List.set_cons_zero, List.set_cons_succ, i64_w, i32_w]
        rfl
      refine last_ (i := 9) (N := none) #[true, true, true, true, true, true, true, true, true, true] rfl rfl (by kernel_rfl) (by decide) (fun K hK => ?_)
      refine skip_ (by rfl) rfl (exec_storeF rfl (by rfl) (by rfl) hst9) ?_
      refine hK.out _ _ ?_
      clear hK K
      refine done_ (by kernel_rfl) ?_
      have HRL : Aside0 (∃ T PS hb hc pb pc, Aside0 (Dl w own h hb hc pb pc pid T PS A6 bb W9 ∧ 1 ≤ PS.length ∧ R = docV pid (PS.length : Int) T PS pid pat pn bb)) := ⟨by
        obtain ⟨⟨m1, m2, m3, m4, m5, m6⟩, m7, m8, m9⟩ := HM.out
        have m2' : w6.heap.size ≤ hb := m2
        have m3' : w6.heap.size ≤ pb := m3
        have l0 := heap_lt HH6.out
        have s0 := HB6.out.size
        have s5 := HZ6.out
        have hne1 : hb ≠ h := by omega
        have hne2 : pb ≠ h := by omega
        have hb9 : Below w6.heap.size w6 w' := below_step (below_drew (Below.refl _ _)) m1
        refine ⟨false, List.replicate pn noP, hb, pn, pb, pn, ⟨⟨?_, ?_, ?_, ?_⟩, by rw [List.length_replicate]; have := HQ.out.2.2.1; omega, ?_⟩⟩
        · rw [List.length_replicate]; exact m7
        · exact rows_new HBA.out.2 (HG.out.2 _ (by omega)) (HG.out.2 _ (by omega)) hne1 hne2 m4 (m8.heap m5 hne1) (fun i hi => made_at hi) (m8.heap m6 hne2) (fun i hi => made_at hi)
        · exact ((Mu.of_below HB6.out own).trans (Mu.of_below hb9 own)).trans (m8.mono (fun k _ e => e ▸ HG.out.1.1))
        · have l00 := HG.out.1.lt
          refine Kd.F_mono (Kd.F_step (Kd.F_bound (Kd.R_F (Kd.R_bound HR6.out))) (fun k hk hl => ?_)) (fun k hk => ?_)
          · have := hk.1.2.1
            exact (m8.block k (by have := hb9.size; omega) (by omega)).trans (hb9.block k hl)
          · have := hk.1.2.1
            have := hk.2
            exact ⟨HG.out.2 k (by omega), by omega, by omega, by omega⟩
        · rw [HQ.out.1, List.length_replicate]
          unfold docV
          rw [if_neg (by have := HZ1.out; omega), if_pos HZ2.out, if_neg (by omega), if_neg (by omega), if_pos rfl, if_pos (by rw [List.getD_eq_getElem?_getD, List.getElem?_replicate, if_pos HQ.out.2.2.1]; rfl)]⟩
      go_wp2_with fail
      go_meet
      case rel => obtain ⟨T, PS, hb, hc, pb, pc, hD⟩ := HRL.out; exact ⟨_, T, PS, hb, hc, pb, pc, rfl, hD⟩
    case rest =>
      obtain ⟨W7, T, PS, hb, hc, pb, pc, rfl, hD⟩ := hcut
      have HD := Aside0.mk hD.out.1
      have HQ2 := Aside0.mk hD.out.2.2
      have HPS1 := Aside0.mk hD.out.2.1
      clear hD
      go_upto_region 10 with fail
      go_cut [106] from 80 to 105 (fun s106 wx => ∃ z, s106 = .bool z ∧ ∃ W, W = wx ∧ Aside0 (Dl w own h hb hc pb pc pid T PS A6 bb W) ∧ (z = true → Aside0 (R = ((pid, (PS.length : Int), T, PS), ([], false, 2)))) ∧ (z = false → Aside0 (pn = PS.length ∧ R = docS pid (PS.length : Int) T (PS.set pat bb))))
      case first =>
        have y1 := blk_cell HD.out.at_ 1
        have hpl : PS.length ≤ 4096 := HD.out.rows.big
        by_cases c1 : pn = PS.length
        case neg =>
          have HRB : Aside0 (R = ((pid, (PS.length : Int), T, PS), ([], false, 2))) := ⟨by rw [HQ2.out]; unfold docV; rw [if_neg (by omega), if_neg (by omega), if_neg (by omega)]⟩
          have e1 : ((pn : Int) != (PS.length : Int)) = true := by simpa using (show ¬ (pn : Int) = (PS.length : Int) by omega)
          have e1' : (pn != PS.length) = true := by simpa using c1
          clear c1
          go_wp2_with fail
          go_meet
          case rel => exact ⟨true, rfl, _, rfl, HD, fun _ => HRB, fun z => by cases z⟩
        have HC1 := Aside0.mk c1
        have e1 : ((pn : Int) != (PS.length : Int)) = false := by simpa using (show (pn : Int) = (PS.length : Int) by omega)
        have e1' : (pn != PS.length) = false := by simpa using c1
        have hpi : pat < PS.length := by have := HQ.out.2.2.1; omega
        obtain ⟨q1, _⟩ := mark_cell HD.out.rows.marks hpi
        have y2 := blk_cell HD.out.at_ 2
        have y3 := blk_cell HD.out.at_ 3
        have HRS : Aside0 (R = if PS.getD pat noP = noP then docS pid (PS.length : Int) T (PS.set pat bb) else if PS.getD pat noP = bb then docS pid (PS.length : Int) T (PS.set pat bb) else ((pid, (PS.length : Int), T, PS), ([], false, 2))) := ⟨by rw [HQ2.out]; unfold docV; rw [if_neg (by omega), if_neg (by omega), if_pos (by omega)]⟩
        clear c1
        by_cases c2 : PS.getD pat noP = noP
        case pos =>
          have HRV : Aside0 (pn = PS.length ∧ R = docS pid (PS.length : Int) T (PS.set pat bb)) := ⟨HC1.out, by rw [HRS.out, if_pos c2]⟩
          rw [decide_eq_false (by simpa using c2)] at q1
          clear c2
          go_wp2_with fail
          go_meet
          case rel => exact ⟨false, rfl, _, rfl, HD, (fun z => by cases z), fun _ => HRV⟩
        obtain ⟨u, r1, _, r3⟩ := part_cell HD.out.rows.parts hpi
        rw [decide_eq_true c2] at q1
        obtain ⟨Aq, cq, rfl, hcq, hCq, hbq⟩ : ∃ Aq cq, u = .slice Aq (PS.getD pat noP).length cq ∧ (PS.getD pat noP).length ≤ cq ∧ Kd.C (Kd.int .u8) W7 Aq (PS.getD pat noP).length (PS.getD pat noP) ∧ (∀ x ∈ PS.getD pat noP, 0 ≤ x ∧ x < 256) := by
          rcases r3 with ⟨r, _⟩ | ⟨_, ⟨r4, _⟩, A9, c9, r5, r6, r7⟩
          · exact absurd r c2
          · exact ⟨A9, c9, r5, r6, Kd.F_now r7, r4⟩
        obtain ⟨pq, hpq⟩ : ∃ pq, PS.getD pat noP = pq := ⟨_, rfl⟩
        rw [hpq] at r1 hcq hCq hbq HRS c2
        have HCQ := Aside0.mk (And.intro hcq (And.intro hCq hbq))
        rw [if_neg c2] at HRS
        clear r3 hcq hCq hbq c2 hpq
        go_wp2_with fail
        refine (tikref_Bytes.calls Aq cq pq A6 c6 bb (decide (pq = bb)) _ HCQ.out.2.1 HCQ.out.1 (Kd.F_now HD.out.F) HC6.out (bytes_fF HCQ.out.2.2 HQ.out.2.2.2.2.2)).mono ?_
        rintro en w8 ⟨rfl, hd⟩
        have HD8 := Aside0.mk (HD.out.below hd.below)
        clear hd
        by_cases c3 : pq = bb
        case pos =>
          have HRV : Aside0 (pn = PS.length ∧ R = docS pid (PS.length : Int) T (PS.set pat bb)) := ⟨HC1.out, by rw [HRS.out, if_pos c3]⟩
          rw [decide_eq_true c3]
          clear c3
          go_wp2_with fail
          go_meet
          case rel => exact ⟨false, rfl, _, rfl, HD8, (fun z => by cases z), fun _ => HRV⟩
        have HRB : Aside0 (R = ((pid, (PS.length : Int), T, PS), ([], false, 2))) := ⟨by rw [HRS.out, if_neg c3]⟩
        rw [decide_eq_false c3]
        clear c3
        go_wp2_with fail
        go_meet
        case rel => exact ⟨true, rfl, _, rfl, HD8, (fun _ => HRB), fun z => by cases z⟩
      case rest =>
        obtain ⟨z, rfl, W8, rfl, hD, hz1, hz2⟩ := hcut
        have HD5 := hD
        clear hD
        cases z with
        | true =>
          have HRB := hz1 rfl
          clear hz1 hz2
          go_wp2_with fail
          go_ret3
          rw [HRB.out]
          exact ⟨HD5.out.gat HG.out.1.1 HQ.out.2.1 HPS1.out, HD5.out.mu, _, rfl, Kd.R_nil _ _ _ _ _⟩
        | false =>
        have HQ5 := hz2 rfl
        clear hz1 hz2
        go_wp2_with fail
        have hpi : pat < PS.length := by have := HQ.out.2.2.1; have := HQ5.out.1; omega
        obtain ⟨mk1, mk2⟩ := mark_cell HD5.out.rows.marks hpi
        obtain ⟨u, mp1, mp2, _⟩ := part_cell HD5.out.rows.parts hpi
        have hst12 : (Instr.storeAt 4 (.pointer (some ⟨hb, pat, none⟩)) (.bool true)).run Try.prog W8.drew = .ok () (W8.drew.setCell ⟨hb, pat, none⟩ (.bool true)) := by
          exact st_bool (show W8.drew.cell? ⟨hb, pat, none⟩ = _ from mk1) (show W8.drew.frozen? ⟨hb, pat, none⟩ = false from mk2)
        have hst14 : (Instr.storeAt 23 (.pointer (some ⟨pb, pat, none⟩)) (.slice A6 bb.length c6)).run Try.prog (W8.drew.setCell ⟨hb, pat, none⟩ (.bool true)) = .ok () ((W8.drew.setCell ⟨hb, pat, none⟩ (.bool true)).setCell ⟨pb, pat, none⟩ (.slice A6 bb.length c6)) := by
          have hne : (W8.drew.setCell ⟨hb, pat, none⟩ (.bool true)).heap[pb]? = W8.heap[pb]? := Below.heap_setCell _ _ _ pb (by show pb ≠ hb; exact HD5.out.rows.ne3.symm)
          have c := (cell_of_heap (j := pat) hne).trans mp1
          have f : (W8.drew.setCell ⟨hb, pat, none⟩ (.bool true)).frozen? ⟨pb, pat, none⟩ = false := by
            obtain ⟨ds, p1, _⟩ := HD5.out.rows.parts
            exact blk_frozen (hne.trans p1) pat
          exact st_row c f
        have HD7 := Aside0.mk (HD5.out.drew.store (i := pat) (c := c6) hpi HQ.out.2.2.2.2.2 HQ.out.2.2.2.2.1 HC6.out)
        have hn2 := (show h ≠ hb from HD5.out.rows.ne1.symm)
        have HS12 := Aside0.mk (And.intro (blk_cell HD5.out.drew.at_ 2) (And.intro (blk_cell HD5.out.drew.at_ 3) (And.intro ((cell_of_heap (j := 2) (Below.heap_setCell W8.drew ⟨hb, pat, none⟩ (.bool true) h hn2)).trans (blk_cell HD5.out.drew.at_ 2)) ((cell_of_heap (j := 3) (Below.heap_setCell W8.drew ⟨hb, pat, none⟩ (.bool true) h hn2)).trans (blk_cell HD5.out.drew.at_ 3)))))
        clear mk1 mk2 mp1 mp2 hn2
        refine start_ (n := 15) (S := fun w' => w'.cell? ⟨h, 2, none⟩ = some (.slice (some ⟨hb, 0, none⟩) PS.length hc) ∧ w'.cell? ⟨h, 3, none⟩ = some (.slice (some ⟨pb, 0, none⟩) PS.length pc)) (ds := [14]) #[false, false, false, false, false, false, false, false, false, false, false, false, false, false, false] (by kernel_rfl) rfl rfl ⟨HS12.out.1, HS12.out.2.1⟩ (fun hHeld => ?_)
        refine pure_ (i := 0) (N := some 107) (v := ?_) (a' := ?_) #[true, false, false, false, false, false, false, false, false, false, false, false, false, false, false] rfl rfl (by kernel_rfl) (fun _ _ _ h => h) (Or.inl ⟨by rfl, ?_⟩) ?_ ?_
        rotate_left
        · intro w'
          go_simp
          with_reducible rfl
        rotate_left
        · simp only [Act.put, List.setIfInBounds_toArray, List.set_cons_zero, List.set_cons_succ, i64_w, i32_w]
          rfl
        refine pure_ (i := 1) (N := some 108) (v := ?_) (a' := ?_) #[true, true, false, false, false, false, false, false, false, false, false, false, false, false, false] rfl rfl (by kernel_rfl) (fun _ _ _ h => h) (Or.inl ⟨by rfl, ?_⟩) ?_ ?_
        rotate_left
        · intro w'
          go_simp
          with_reducible rfl
        rotate_left
        · simp only [Act.put, List.setIfInBounds_toArray, List.set_cons_zero, List.set_cons_succ, i64_w, i32_w]
          rfl
        refine pure_ (i := 2) (N := some 109) (v := ?_) (a' := ?_) #[true, true, true, false, false, false, false, false, false, false, false, false, false, false, false] rfl rfl (by kernel_rfl) (fun _ _ _ h => h) (Or.inl ⟨by rfl, ?_⟩) ?_ ?_
        rotate_left
        · intro w'
          go_simp
          with_reducible rfl
        rotate_left
        · simp only [Act.put, List.setIfInBounds_toArray, List.set_cons_zero, List.set_cons_succ, i64_w, i32_w]
          rfl
        refine pure_ (i := 4) (N := some 111) (v := ?_) (a' := ?_) #[true, true, true, false, true, false, false, false, false, false, false, false, false, false, false] rfl rfl (by kernel_rfl) (fun _ _ _ h => h) (Or.inl ⟨by rfl, ?_⟩) ?_ ?_
        rotate_left
        · intro w'
          go_simp
          with_reducible rfl
        rotate_left
        · simp only [Act.put, List.setIfInBounds_toArray, List.set_cons_zero, List.set_cons_succ, i64_w, i32_w]
          rfl
        refine pure_ (i := 5) (N := some 112) (v := ?_) (a' := ?_) #[true, true, true, false, true, true, false, false, false, false, false, false, false, false, false] rfl rfl (by kernel_rfl) (fun _ _ _ h => h) (Or.inl ⟨by rfl, ?_⟩) ?_ ?_
        rotate_left
        · intro w'
          go_simp
          with_reducible rfl
        rotate_left
        · simp only [Act.put, List.setIfInBounds_toArray, List.set_cons_zero, List.set_cons_succ, i64_w, i32_w]
          rfl
        refine pure_ (i := 6) (N := some 113) (v := ?_) (a' := ?_) #[true, true, true, false, true, true, true, false, false, false, false, false, false, false, false] rfl rfl (by kernel_rfl) (fun _ _ _ h => h) (Or.inl ⟨by rfl, ?_⟩) ?_ ?_
        rotate_left
        · intro w'
          go_simp
          with_reducible rfl
        rotate_left
        · simp only [Act.put, List.setIfInBounds_toArray, List.set_cons_zero, List.set_cons_succ, i64_w, i32_w]
          rfl
        refine pure_ (i := 7) (N := some 114) (v := ?_) (a' := ?_) #[true, true, true, false, true, true, true, true, false, false, false, false, false, false, false] rfl rfl (by kernel_rfl) (fun _ _ _ h => h) (Or.inl ⟨by rfl, ?_⟩) ?_ ?_
        rotate_left
        · intro w'
          go_simp
          with_reducible rfl
        rotate_left
        · simp only [Act.put, List.setIfInBounds_toArray, List.set_cons_zero, List.set_cons_succ, i64_w, i32_w]
          rfl
        refine pure_ (i := 9) (N := some 116) (v := ?_) (a' := ?_) #[true, true, true, false, true, true, true, true, false, true, false, false, false, false, false] rfl rfl (by kernel_rfl) (fun _ _ _ h => h) (Or.inl ⟨by rfl, ?_⟩) ?_ ?_
        rotate_left
        · intro w'
          go_simp
          with_reducible rfl
        rotate_left
        · simp only [Act.put, List.setIfInBounds_toArray, List.set_cons_zero, List.set_cons_succ, i64_w, i32_w]
          rfl
        refine pure_ (i := 10) (N := some 117) (v := ?_) (a' := ?_) #[true, true, true, false, true, true, true, true, false, true, true, false, false, false, false] rfl rfl (by kernel_rfl) (fun _ _ _ h => h) (Or.inl ⟨by rfl, ?_⟩) ?_ ?_
        rotate_left
        · intro w'
          go_simp
          with_reducible rfl
        rotate_left
        · simp only [Act.put, List.setIfInBounds_toArray, List.set_cons_zero, List.set_cons_succ, i64_w, i32_w]
          rfl
        refine take_ (i := 3) (N := some 110) (v := ?_) (a' := ?_) #[true, true, true, true, true, true, true, true, false, true, true, false, false, false, false] rfl rfl (by kernel_rfl) (fun _ _ _ h => h) (Or.inl ⟨by rfl, ?_⟩) hHeld ?_ ?_
        rotate_left
        · rintro w' ⟨s0, s1⟩
          go_simp
          with_reducible rfl
        rotate_left
        · simp only [Act.put, List.setIfInBounds_toArray, List.set_cons_zero, List.set_cons_succ, i64_w, i32_w]
          rfl
        refine take_ (i := 8) (N := some 115) (v := ?_) (a' := ?_) #[true, true, true, true, true, true, true, true, true, true, true, false, false, false, false] rfl rfl (by kernel_rfl) (fun _ _ _ h => h) (Or.inl ⟨by rfl, ?_⟩) hHeld ?_ ?_
        rotate_left
        · rintro w' ⟨s0, s1⟩
          go_simp
          with_reducible rfl
        rotate_left
        · simp only [Act.put, List.setIfInBounds_toArray, List.set_cons_zero, List.set_cons_succ, i64_w, i32_w]
          rfl
        refine pure_ (i := 11) (N := some 118) (v := ?_) (a' := ?_) #[true, true, true, true, true, true, true, true, true, true, true, true, false, false, false] rfl rfl (by kernel_rfl) (fun _ _ _ h => h) (Or.inl ⟨by rfl, ?_⟩) ?_ ?_
        rotate_left
        · intro w'
          go_simp
          with_reducible rfl
        rotate_left
        · simp only [Act.put, List.setIfInBounds_toArray, List.set_cons_zero, List.set_cons_succ, i64_w, i32_w]
          rfl
        refine one_ (i := 12) (N := none) #[true, true, true, true, true, true, true, true, true, true, true, true, true, false, false] rfl rfl (by kernel_rfl) (by decide) (fun K hK => ?_)
        refine skip_ (by rfl) rfl (exec_storeF rfl (by rfl) (by rfl) hst12) ?_
        refine hK.out _ _ ⟨HS12.out.2.2.1, HS12.out.2.2.2⟩ (fun hHeld => ?_)
        clear hK K
        refine pure_ (i := 13) (N := some 119) (v := ?_) (a' := ?_) #[true, true, true, true, true, true, true, true, true, true, true, true, true, true, false] rfl rfl (by kernel_rfl) (fun _ _ _ h => h) (Or.inl ⟨by rfl, ?_⟩) ?_ ?_
        rotate_left
        · intro w'
          go_simp
          with_reducible rfl
        rotate_left
        · simp only [Act.put, List.setIfInBounds_toArray, List.set_cons_zero, List.set_cons_succ, i64_w, i32_w]
          rfl
        refine last_ (i := 14) (N := none) #[true, true, true, true, true, true, true, true, true, true, true, true, true, true, true] rfl rfl (by kernel_rfl) (by decide) (fun K hK => ?_)
        refine skip_ (by rfl) rfl (exec_storeF rfl (by rfl) (by rfl) hst14) ?_
        refine hK.out _ _ ?_
        clear hK K
        refine done_ (by kernel_rfl) ?_
        clear hst12 hst14
        obtain ⟨W9, hW9⟩ : ∃ W, (W8.drew.setCell ⟨hb, pat, none⟩ (.bool true)).setCell ⟨pb, pat, none⟩ (.slice A6 bb.length c6) = W := ⟨_, rfl⟩
        rw [hW9] at HD7 ⊢
        obtain ⟨PQ, hPQ⟩ : ∃ PQ, PS.set pat bb = PQ := ⟨_, rfl⟩
        have hPQl : PQ.length = PS.length := by rw [← hPQ, List.length_set]
        rw [hPQ] at HD7 HQ5
        rw [← hPQl] at HQ5 HPS1
        have hQ5 := HQ5.out.2
        have hpn := HQ5.out.1
        clear HQ5
        subst hpn
        have HQ5 := Aside0.mk hQ5
        have HL9 := Aside0.mk HD7.out.rows.big
        have HG9 := Aside0.mk (HD7.out.gat HG.out.1.1 HQ.out.2.1 HPS1.out)
        clear hW9 hPQ hPQl hQ5 hpi
        have y4 := blk_cell HD7.out.at_ 4
        cases T with
        | true =>
          have HRV : Aside0 (R = ((pid, (PQ.length : Int), true, PQ), ([], false, 0))) := ⟨by rw [HQ5.out]; unfold docS; rw [if_pos rfl]⟩
          go_wp2_with fail
          go_ret3
          rw [HRV.out]
          exact ⟨HG9.out, HD7.out.mu, _, rfl, Kd.R_nil _ _ _ _ _⟩
        | false =>
        go_wp2_with fail
        refine (refHave_any HG9.out).mono ?_
        rintro en w10 ⟨rfl, rfl⟩
        by_cases c8 : haveN PQ < PQ.length
        case pos =>
          have HRV : Aside0 (R = ((pid, (PQ.length : Int), false, PQ), ([], false, 0))) := ⟨by rw [HQ5.out]; unfold docS; rw [if_neg (by simp), if_pos c8]⟩
          have d8 : decide ((haveN PQ : Int) < (PQ.length : Int)) = true := decide_eq_true (by omega)
          have d9 : decide (haveN PQ < PQ.length) = true := decide_eq_true c8
          clear c8
          go_wp2_with fail
          go_ret3
          rw [HRV.out]
          exact ⟨HG9.out, HD7.out.mu, _, rfl, Kd.R_nil _ _ _ _ _⟩
        have HRV : Aside0 (R = ((pid, (PQ.length : Int), true, PQ), (PQ.flatten, true, 0))) := ⟨by rw [HQ5.out]; unfold docS; rw [if_neg (by simp), if_neg c8]⟩
        have HALL := Aside0.mk (have_all PQ c8)
        have d8 : decide ((haveN PQ : Int) < (PQ.length : Int)) = false := decide_eq_false (by omega)
        have d9 : decide (haveN PQ < PQ.length) = false := decide_eq_false c8
        have f4 := blk_frozen HD7.out.at_ 4
        have HD9 := Aside0.mk (HD7.out.tell HG.out.1.1)
        clear c8
        go_wp2_with fail
        clear d8 d9 y4 f4
        generalize w10.setCell ⟨h, 4, none⟩ (.bool true) = W15 at HD9 ⊢
        have HR0 := Aside0.mk (Kd.R_nil (Kd.int .u8) 5 W15 W15.heap.size (fun _ => True))
        go_loopw [12, 13, 133, 134, 135, 136, 137, 138, 139, 140, 141, 142, 143, 144, 145, 146] (fun v12 v13 v133 v134 v135 v136 v137 v138 v139 v140 v141 v142 v143 v144 v145 v146 wr => ∃ i : Nat, i ≤ PQ.length ∧ v13 = .int .i64 (i : Int) ∧ Kd.R (Kd.int .u8) 5 wr W15.heap.size (fun _ => True) v12 (PQ.take i).flatten ∧ (PQ.take i).flatten.length ≤ 256 * i ∧ Below W15.heap.size W15 wr)
          (fun v12 v13 v133 v134 v135 v136 v137 v138 v139 v140 v141 v142 v143 v144 v145 v146 _ => PQ.length - (intOf v13).toNat)
        case atStart => exact ⟨0, Nat.zero_le _, rfl, HR0.out, by simp, Below.refl _ _⟩
        case round =>
          obtain ⟨i, hi, rfl, hR8, hl8, hB8⟩ := hrel
          obtain ⟨X, hX⟩ : ∃ X, (PQ.take i).flatten = X := ⟨_, rfl⟩
          rw [hX] at hR8 hl8
          obtain ⟨A8, c8, rfl⟩ := Kd.R_slice hR8
          have HX := Aside0.mk (And.intro hX (And.intro hl8 hi))
          have HR8 := Aside0.mk hR8
          have HB8 := Aside0.mk hB8
          have HDr := Aside0.mk (HD9.out.below HB8.out)
          clear hX hl8 hi hR8 hB8
          by_cases hlt : i < PQ.length
          · obtain ⟨u, q1, _, q3⟩ := part_cell HDr.out.rows.parts hlt
            obtain ⟨Ai, ci, rfl, hCi, h256⟩ : ∃ Ai ci, u = .slice Ai (PQ.getD i noP).length ci ∧ Kd.C (Kd.int .u8) wr Ai (PQ.getD i noP).length (PQ.getD i noP) ∧ (PQ.getD i noP).length ≤ 256 := by
              rcases q3 with ⟨r, _⟩ | ⟨_, ⟨_, r4⟩, A9, c9, r5, r6, r7⟩
              · exact absurd r (HALL.out i hlt)
              · exact ⟨A9, c9, r5, Kd.F_now r7, r4⟩
            have y3 := blk_cell HDr.out.at_ 3
            have hib : i < 4096 := by have := HL9.out; omega
            obtain ⟨pi, hpi⟩ : ∃ pi, PQ.getD i noP = pi := ⟨_, rfl⟩
            rw [hpi] at q1 hCi h256
            have HPI2 := Aside0.mk (And.intro hpi (And.intro h256 hlt))
            have HCi := Aside0.mk hCi
            have HBD : Aside0 ((X.length + pi.length) * 1 ≤ 140737488355328) := ⟨by have := HX.out.2.1; omega⟩
            have HBZ := Aside0.mk HB8.out.size
            clear hpi h256 hCi q3
            go_wp2_with (first | ((with_reducible refine gate_builtin (b := .append) (xs := #[.tmp 138, .tmp 145]) rfl ?_); at_builtin; refine Kd.R_append_rows (Kd.int .u8) (w0 := W15) W15.heap.size rfl (.tmp 138) (.tmp 145) 23 5 (.int .u8 0) 1 rfl Try.underlying23 info5 rfl (by decide) (by decide) (.slice A8 X.length c8) X pi Ai pi.length ci (fun _ => True) (fun _ => False) rfl rfl HR8.out HCi.out (fun _ _ h => h) (fun _ h => h.elim) (fun _ _ => trivial) HB8.out HBZ.out HBD.out ?_; intro v9 w9 hR9 hB9 hg9 hat9; obtain ⟨A10, c10, rfl⟩ := Kd.R_slice hR9; clear hg9 hat9))
            go_roundw
            case rel =>
              refine ⟨i + 1, HPI2.out.2.2, by simp, ?_, ?_, hB9⟩
              · rw [flat_take PQ i HPI2.out.2.2, HPI2.out.1, HX.out.1]
                first
                  | exact hR9
                  | (rw [List.length_append] at hR9; exact hR9)
              · rw [flat_take PQ i HPI2.out.2.2, HPI2.out.1, HX.out.1, List.length_append]
                have := HX.out.2.1; have := HPI2.out.2.1; omega
            case measure => have := HPI2.out.2.2; simp [intOf] <;> omega
          · have hiN : i = PQ.length := by have := HX.out.2.2; omega
            have hXe : X = PQ.flatten := by rw [← HX.out.1, hiN, List.take_of_length_le (Nat.le_refl _)]
            have HXE := Aside0.mk hXe
            clear hXe
            subst hiN
            go_wp2_with fail
            go_ret3
            rw [HRV.out]
            refine ⟨HDr.out.gat HG.out.1.1 HQ.out.2.1 HPS1.out, HDr.out.mu, _, rfl, ?_⟩
            rw [← HXE.out]
            exact Kd.R_lower HR8.out HD9.out.mu.size
end Go.Proofs.Ytdklanenmihpdaa.Hand
namespace Go.Proofs.Ytdklanenmihpdaa.PC
open Go.RowKit Go.Proofs.YtdklanenmihpdaaW.PrintWords Go.Proofs.YtdklanenmihpdaaW.PrintLast Go.Proofs.YtdklanenmihpdaaW.PrintMore
attribute [local go_sem] max2_int min2_int max_two min_two max_three min_three max_four min_four
open Go.Proofs.Ytdklanenmihpdaa.Hand
open Go.Proofs.Ytdklanenmihpdaa.PA
set_option linter.unusedVariables false
set_option linter.unusedSimpArgs false
def errW : Option Int → Value
  | none => .nilIface
  | some c => .iface 0 (.int .i64 c)
theorem errW_none : errW none = .nilIface := rfl
theorem errW_some (c : Int) : errW (some c) = .iface 0 (.int .i64 c) := rfl
theorem info5 : (Try.prog.info? 5).map (fun i => (i.zero, i.size, i.bytes)) = some (some (.int .u8 0), 1, 1) := by kernel_rfl
theorem info23 : (Try.prog.info? 23).map (fun i => (i.zero, i.size, i.bytes)) = some (some (.slice none 0 0), 1, 24) := by kernel_rfl
end Go.Proofs.Ytdklanenmihpdaa.PC
namespace Go.Proofs.Ytdklanenmihpdaa.PC
open Go.RowKit Go.Proofs.YtdklanenmihpdaaW.PrintWords Go.Proofs.YtdklanenmihpdaaW.PrintLast Go.Proofs.YtdklanenmihpdaaW.PrintMore
attribute [local go_sem] max2_int min2_int max_two min_two max_three min_three max_four min_four
open Go.Proofs.Ytdklanenmihpdaa.Hand
open Go.Proofs.Ytdklanenmihpdaa.PA
set_option linter.unusedVariables false
set_option linter.unusedSimpArgs false
mutual
def tikref25_Cut.j0 : Nat → Int → List Int → Bool → Option ((List (List Int)) × Int)
  | 0, _, _, _ => none
  | k + 1, x0, x1, x15 => if x15 = true then (some (([] : List (List Int)), 17)) else (if (x1.length : Int) > 1048576 then (some (([] : List (List Int)), 4)) else (tikref25_Cut.l0 k x0 x1 (mx (wrap64 (Int.tdiv (wrap64 ((wrap64 ((x1.length : Int) + 256)) - 1)) 256)) 1) ([] : List (List Int)) 0))
def tikref25_Cut.l0 : Nat → Int → List Int → Int → List (List Int) → Int → Option ((List (List Int)) × Int)
  | 0, _, _, _, _, _ => none
  | k + 1, x0, x1, x6, x7, x8 => if x8 < x6 then ((tikref2_Var.f k x0).bind fun t101 => ((tikref2_Var.f k (IntKind.u64.wrap (x8))).bind fun t104 => (if t101.length + t104.length < 140737488355328 then ((some (t101 ++ t104 : List Int)).bind fun y107 => ((tikref2_Var.f k (IntKind.u64.wrap (x6))).bind fun t110 => (if y107.length + t110.length < 140737488355328 then ((some (y107 ++ t110 : List Int)).bind fun y113 => (if 0 ≤ (wrap64 (x8 * 256)) then (if (wrap64 (x8 * 256)) ≤ (mn (wrap64 ((wrap64 (x8 + 1)) * 256)) (x1.length : Int)) then (if (mn (wrap64 ((wrap64 (x8 + 1)) * 256)) (x1.length : Int)) ≤ (x1.length : Int) then (if y113.length + ((x1.take ((mn (wrap64 ((wrap64 (x8 + 1)) * 256)) (x1.length : Int)) : Int).toNat).drop ((wrap64 (x8 * 256)) : Int).toNat).length < 140737488355328 then (if x7.length < 5864062014805 then (tikref25_Cut.l0 k x0 x1 x6 (x7 ++ [(y113 ++ ((x1.take ((mn (wrap64 ((wrap64 (x8 + 1)) * 256)) (x1.length : Int)) : Int).toNat).drop ((wrap64 (x8 * 256)) : Int).toNat))]) (wrap64 (x8 + 1))) else (none)) else (none)) else (none)) else (none)) else (none))) else (none)))) else (none)))) else (some (x7, 0))
end
def tikref25_Cut.f (k : Nat) (a0 : Int) (l1 : List Int) : Option ((List (List Int)) × Int) := if a0 < 1 then (tikref25_Cut.j0 k a0 l1 true) else (tikref25_Cut.j0 k a0 l1 (decide (a0 > 4611686018427387904)))
set_option maxHeartbeats 8000000 in
set_option maxRecDepth 100000 in
theorem tikref25_Cut.calls (k : Nat) (a0 : Int) (A1 : Option Addr) (c1 : Nat) (l1 : List Int) (r1 : List (List Int)) (r2 : Int) (w : World) (hr1 : Kd.C (Kd.int .u8) w A1 l1.length l1) (hc1 : l1.length ≤ c1) (h : tikref25_Cut.f k a0 l1 = some (r1, r2)) :
    Calls Try.prog 26 #[.int .u64 a0, .slice A1 l1.length c1] w fun e w' => ∃ v0_ : Value, e = .returned (.tuple #[v0_, .int .i64 r2]) ∧ Kd.S (Kd.slice 5 (Kd.int .u8)) 23 w' w.heap.size (fun _ => True) v0_ r1 ∧ Below w.heap.size w w' := by
  have HR1 := Aside0.mk hr1
  have HC1 := Aside0.mk hc1
  clear hr1 hc1
  have HB := Aside0.mk (Below.refl w.heap.size w)
  have H : (if a0 < 1 then (tikref25_Cut.j0 k a0 l1 true) else (tikref25_Cut.j0 k a0 l1 (decide (a0 > 4611686018427387904)))) = some (r1, r2) := h
  clear h
  have HC3 := Aside0.mk H
  clear H
  go_enter Try.func26, Try.ntmps26
  go_upto_region 1 with (fail)
  go_cut [15] (fun v15 wc => ∃ (kq : Nat) (x15_2 : Bool), v15 = .bool x15_2 ∧ Aside0 (tikref25_Cut.j0 kq a0 l1 x15_2 = some (r1, r2)) ∧ Aside0 (kq ≤ k) ∧ Aside0 (Below w.heap.size w wc))
  case first =>
    have H := HC3.out
    clear HC3
    by_cases c4 : a0 < 1
    · rw [if_pos c4] at H
      have c4b0 : decide (a0 < 1) = true := decide_eq_true c4
      clear c4
      (first | rw [c4b0] | (simp only [i64_w, i32_w]; rw [c4b0]) | skip)
      have H' := Aside0.mk H
      clear H
      go_wp2
      go_meet
      case rel => exact ⟨_, (true), (by first | rfl | (simp; done) | (simp [*]; done)), H', ⟨by first | omega | exact Nat.le_refl _⟩, ⟨by repeat (first | (with_reducible first | exact HB.out | apply below_alloc | apply pw_below_drewN | apply below_drew1) | exact HB.out)⟩⟩
    · rw [if_neg c4] at H
      have c4b0 : decide (a0 < 1) = false := decide_eq_false c4
      clear c4
      (first | rw [c4b0] | (simp only [i64_w, i32_w]; rw [c4b0]) | skip)
      have H' := Aside0.mk H
      clear H
      go_wp2
      go_meet
      case rel => exact ⟨_, (decide (a0 > 4611686018427387904)), (by first | rfl | (simp; done) | (simp [*]; done)), H', ⟨by first | omega | exact Nat.le_refl _⟩, ⟨by repeat (first | (with_reducible first | exact HB.out | apply below_alloc | apply pw_below_drewN | apply below_drew1) | exact HB.out)⟩⟩
  case rest =>
    clear HC3
    try clear c1
    try clear c2
    try clear p2
    try clear c4
    try clear c4b0
    obtain ⟨kq, x15_2, rfl, HA, HJ2, HB⟩ := hcut
    cases kq with
    | zero => exact absurd HA.out (by simp [tikref25_Cut.j0])
    | succ kj2 =>
      have H := HA.out
      clear HA
      simp only [tikref25_Cut.j0] at H
      by_cases c5 : x15_2 = true
      · subst c5
        have H1 : (some (([] : List (List Int)), 17)) = some (r1, r2) := by rw [if_pos rfl] at H; exact H
        clear H
        have H := H1
        clear H1
        simp only [Option.some.injEq, Prod.mk.injEq] at H
        obtain ⟨rfl, rfl⟩ := H
        go_wp2
        go_ret2
        exact ⟨_, by first | rfl | (simp [errW_none, errW_some] <;> rfl) | (simp [*, errW_none, errW_some] <;> rfl), by first | exact Kd.S_nil _ _ _ _ _ | exact Kd.N_nil _ _ _ _ _ | exact Kd.V_nil _ _ _ _ _ | exact Kd.Q_nil _ _ _ _ _ | exact Kd.R_nil _ _ _ _ _, by repeat (first | (with_reducible first | exact HB.out | apply below_alloc | apply pw_below_drewN | apply below_drew1) | exact HB.out)⟩
      · replace c5 := Bool.eq_false_iff.mpr c5
        subst c5
        have H1 : (if (l1.length : Int) > 1048576 then (some (([] : List (List Int)), 4)) else (tikref25_Cut.l0 kj2 a0 l1 (mx (wrap64 (Int.tdiv (wrap64 ((wrap64 ((l1.length : Int) + 256)) - 1)) 256)) 1) ([] : List (List Int)) 0)) = some (r1, r2) := by rw [if_neg (show ¬ (false = true) by decide)] at H; exact H
        clear H
        have H := H1
        clear H1
        by_cases c6 : (l1.length : Int) > 1048576
        · rw [if_pos c6] at H
          have c6b0 : decide (1048576 < (l1.length : Int)) = true := decide_eq_true c6
          have c6b1 : decide (1048576 < l1.length) = true := decide_eq_true (by omega)
          clear c6
          simp only [Option.some.injEq, Prod.mk.injEq] at H
          obtain ⟨rfl, rfl⟩ := H
          go_wp2
          go_ret2
          exact ⟨_, by first | rfl | (simp [errW_none, errW_some] <;> rfl) | (simp [*, errW_none, errW_some] <;> rfl), by first | exact Kd.S_nil _ _ _ _ _ | exact Kd.N_nil _ _ _ _ _ | exact Kd.V_nil _ _ _ _ _ | exact Kd.Q_nil _ _ _ _ _ | exact Kd.R_nil _ _ _ _ _, by repeat (first | (with_reducible first | exact HB.out | apply below_alloc | apply pw_below_drewN | apply below_drew1) | exact HB.out)⟩
        · rw [if_neg c6] at H
          have c6b0 : decide (1048576 < (l1.length : Int)) = false := decide_eq_false c6
          have c6b1 : decide (1048576 < l1.length) = false := decide_eq_false (by omega)
          clear c6
          obtain ⟨ji7, hji7⟩ : ∃ j_ : Int, (mx (wrap64 (Int.tdiv (wrap64 ((wrap64 ((l1.length : Int) + 256)) - 1)) 256)) 1) = j_ := ⟨_, rfl⟩
          replace H : (tikref25_Cut.l0 kj2 a0 l1 ji7 ([] : List (List Int)) 0) = some (r1, r2) := by first | (rw [hji7] at H; exact H) | (simp only [hji7] at H ⊢; exact H)
          have hji7_ : (if (wrap64 (Int.tdiv (wrap64 ((wrap64 ((l1.length : Int) + 256)) - 1)) 256)) < 1 then 1 else (wrap64 (Int.tdiv (wrap64 ((wrap64 ((l1.length : Int) + 256)) - 1)) 256))) = ji7 := hji7
          have H' := Aside0.mk H
          clear H
          go_wp2
          go_loopg [7, 8] kj2 (fun kq v7 v8 w' => ∃ (x7_2 : List (List Int)) (x8_2 : Int), v8 = .int .i64 x8_2 ∧ Aside0 (tikref25_Cut.l0 kq a0 l1 ji7 x7_2 x8_2 = some (r1, r2)) ∧ Aside0 (kq ≤ kj2) ∧ Aside0 (Kd.S (Kd.slice 5 (Kd.int .u8)) 23 w' w.heap.size (fun _ => True) v7 x7_2) ∧ Aside0 (Below w.heap.size w w'))
          case atStart => exact ⟨(([] : List (List Int))), (0), (by first | rfl | (simp; done) | (simp [*]; done)), H', ⟨Nat.le_refl _⟩, ⟨by first | exact Kd.S_nil _ _ _ _ _ | exact Kd.N_nil _ _ _ _ _ | exact Kd.V_nil _ _ _ _ _ | exact Kd.Q_nil _ _ _ _ _ | exact Kd.R_nil _ _ _ _ _⟩, ⟨by repeat (first | (with_reducible first | exact HB.out | apply below_alloc | apply pw_below_drewN | apply below_drew1) | exact HB.out)⟩⟩
          case round =>
            clear H'
            try clear c1
            try clear c2
            try clear p2
            try clear c4
            try clear c4b0
            try clear c5
            try clear c6
            try clear c6b0
            try clear c6b1
            try clear p6
            try clear p2
            obtain ⟨x7_2, x8_2, rfl, HA, HK2, HO_7, HB⟩ := hrel
            cases gk with
            | zero => exact absurd HA.out (by simp [tikref25_Cut.l0])
            | succ k2 =>
              have H := HA.out
              clear HA
              simp only [tikref25_Cut.l0] at H
              by_cases c8 : x8_2 < ji7
              · rw [if_pos c8] at H
                have c8b0 : decide (x8_2 < ji7) = true := decide_eq_true c8
                clear c8
                replace H := Option.bind_eq_some_iff.mp H
                obtain ⟨t101, A90, H⟩ := H
                replace H : ((tikref2_Var.f k2 (IntKind.u64.wrap (x8_2))).bind fun t104 => (if t101.length + t104.length < 140737488355328 then ((some (t101 ++ t104 : List Int)).bind fun y107 => ((tikref2_Var.f k2 (IntKind.u64.wrap (ji7))).bind fun t110 => (if y107.length + t110.length < 140737488355328 then ((some (y107 ++ t110 : List Int)).bind fun y113 => (if 0 ≤ (wrap64 (x8_2 * 256)) then (if (wrap64 (x8_2 * 256)) ≤ (mn (wrap64 ((wrap64 (x8_2 + 1)) * 256)) (l1.length : Int)) then (if (mn (wrap64 ((wrap64 (x8_2 + 1)) * 256)) (l1.length : Int)) ≤ (l1.length : Int) then (if y113.length + ((l1.take ((mn (wrap64 ((wrap64 (x8_2 + 1)) * 256)) (l1.length : Int)) : Int).toNat).drop ((wrap64 (x8_2 * 256)) : Int).toNat).length < 140737488355328 then (if x7_2.length < 5864062014805 then (tikref25_Cut.l0 k2 a0 l1 ji7 (x7_2 ++ [(y113 ++ ((l1.take ((mn (wrap64 ((wrap64 (x8_2 + 1)) * 256)) (l1.length : Int)) : Int).toNat).drop ((wrap64 (x8_2 * 256)) : Int).toNat))]) (wrap64 (x8_2 + 1))) else (none)) else (none)) else (none)) else (none)) else (none))) else (none)))) else (none))) = some (r1, r2) := H
                have A9 := Aside0.mk A90
                clear A90
                replace H := Option.bind_eq_some_iff.mp H
                obtain ⟨t104, A100, H⟩ := H
                replace H : (if t101.length + t104.length < 140737488355328 then ((some (t101 ++ t104 : List Int)).bind fun y107 => ((tikref2_Var.f k2 (IntKind.u64.wrap (ji7))).bind fun t110 => (if y107.length + t110.length < 140737488355328 then ((some (y107 ++ t110 : List Int)).bind fun y113 => (if 0 ≤ (wrap64 (x8_2 * 256)) then (if (wrap64 (x8_2 * 256)) ≤ (mn (wrap64 ((wrap64 (x8_2 + 1)) * 256)) (l1.length : Int)) then (if (mn (wrap64 ((wrap64 (x8_2 + 1)) * 256)) (l1.length : Int)) ≤ (l1.length : Int) then (if y113.length + ((l1.take ((mn (wrap64 ((wrap64 (x8_2 + 1)) * 256)) (l1.length : Int)) : Int).toNat).drop ((wrap64 (x8_2 * 256)) : Int).toNat).length < 140737488355328 then (if x7_2.length < 5864062014805 then (tikref25_Cut.l0 k2 a0 l1 ji7 (x7_2 ++ [(y113 ++ ((l1.take ((mn (wrap64 ((wrap64 (x8_2 + 1)) * 256)) (l1.length : Int)) : Int).toNat).drop ((wrap64 (x8_2 * 256)) : Int).toNat))]) (wrap64 (x8_2 + 1))) else (none)) else (none)) else (none)) else (none)) else (none))) else (none)))) else (none)) = some (r1, r2) := H
                have A10 := Aside0.mk A100
                clear A100
                by_cases c11 : t101.length + t104.length < 140737488355328
                · rw [if_pos c11] at H
                  have LMc11 := Aside0.mk c11
                  clear c11
                  obtain ⟨y107, hy107⟩ : ∃ y_ : List Int, y_ = (t101 ++ t104) := ⟨_, rfl⟩
                  replace H : ((tikref2_Var.f k2 (IntKind.u64.wrap (ji7))).bind fun t110 => (if y107.length + t110.length < 140737488355328 then ((some (y107 ++ t110 : List Int)).bind fun y113 => (if 0 ≤ (wrap64 (x8_2 * 256)) then (if (wrap64 (x8_2 * 256)) ≤ (mn (wrap64 ((wrap64 (x8_2 + 1)) * 256)) (l1.length : Int)) then (if (mn (wrap64 ((wrap64 (x8_2 + 1)) * 256)) (l1.length : Int)) ≤ (l1.length : Int) then (if y113.length + ((l1.take ((mn (wrap64 ((wrap64 (x8_2 + 1)) * 256)) (l1.length : Int)) : Int).toNat).drop ((wrap64 (x8_2 * 256)) : Int).toNat).length < 140737488355328 then (if x7_2.length < 5864062014805 then (tikref25_Cut.l0 k2 a0 l1 ji7 (x7_2 ++ [(y113 ++ ((l1.take ((mn (wrap64 ((wrap64 (x8_2 + 1)) * 256)) (l1.length : Int)) : Int).toNat).drop ((wrap64 (x8_2 * 256)) : Int).toNat))]) (wrap64 (x8_2 + 1))) else (none)) else (none)) else (none)) else (none)) else (none))) else (none))) = some (r1, r2) := by first | (rw [hy107]; with_reducible exact H) | (have H2_ := (Option.bind_some _ _).symm.trans H; rw [hy107]; with_reducible exact H2_) | (have H2_ := (Option.bind_some _ _).symm.trans H; with_reducible exact H2_) | with_reducible exact H | (rw [hy107]; exact H) | exact H
                  have Ny107 := Aside0.mk hy107
                  clear hy107
                  replace H := Option.bind_eq_some_iff.mp H
                  obtain ⟨t110, A120, H⟩ := H
                  replace H : (if y107.length + t110.length < 140737488355328 then ((some (y107 ++ t110 : List Int)).bind fun y113 => (if 0 ≤ (wrap64 (x8_2 * 256)) then (if (wrap64 (x8_2 * 256)) ≤ (mn (wrap64 ((wrap64 (x8_2 + 1)) * 256)) (l1.length : Int)) then (if (mn (wrap64 ((wrap64 (x8_2 + 1)) * 256)) (l1.length : Int)) ≤ (l1.length : Int) then (if y113.length + ((l1.take ((mn (wrap64 ((wrap64 (x8_2 + 1)) * 256)) (l1.length : Int)) : Int).toNat).drop ((wrap64 (x8_2 * 256)) : Int).toNat).length < 140737488355328 then (if x7_2.length < 5864062014805 then (tikref25_Cut.l0 k2 a0 l1 ji7 (x7_2 ++ [(y113 ++ ((l1.take ((mn (wrap64 ((wrap64 (x8_2 + 1)) * 256)) (l1.length : Int)) : Int).toNat).drop ((wrap64 (x8_2 * 256)) : Int).toNat))]) (wrap64 (x8_2 + 1))) else (none)) else (none)) else (none)) else (none)) else (none))) else (none)) = some (r1, r2) := H
                  have A12 := Aside0.mk A120
                  clear A120
                  by_cases c13 : y107.length + t110.length < 140737488355328
                  · rw [if_pos c13] at H
                    have LMc13 := Aside0.mk c13
                    clear c13
                    obtain ⟨y113, hy113⟩ : ∃ y_ : List Int, y_ = (y107 ++ t110) := ⟨_, rfl⟩
                    replace H : (if 0 ≤ (wrap64 (x8_2 * 256)) then (if (wrap64 (x8_2 * 256)) ≤ (mn (wrap64 ((wrap64 (x8_2 + 1)) * 256)) (l1.length : Int)) then (if (mn (wrap64 ((wrap64 (x8_2 + 1)) * 256)) (l1.length : Int)) ≤ (l1.length : Int) then (if y113.length + ((l1.take ((mn (wrap64 ((wrap64 (x8_2 + 1)) * 256)) (l1.length : Int)) : Int).toNat).drop ((wrap64 (x8_2 * 256)) : Int).toNat).length < 140737488355328 then (if x7_2.length < 5864062014805 then (tikref25_Cut.l0 k2 a0 l1 ji7 (x7_2 ++ [(y113 ++ ((l1.take ((mn (wrap64 ((wrap64 (x8_2 + 1)) * 256)) (l1.length : Int)) : Int).toNat).drop ((wrap64 (x8_2 * 256)) : Int).toNat))]) (wrap64 (x8_2 + 1))) else (none)) else (none)) else (none)) else (none)) else (none)) = some (r1, r2) := by first | (rw [hy113]; with_reducible exact H) | (have H2_ := (Option.bind_some _ _).symm.trans H; rw [hy113]; with_reducible exact H2_) | (have H2_ := (Option.bind_some _ _).symm.trans H; with_reducible exact H2_) | with_reducible exact H | (rw [hy113]; exact H) | exact H
                    have Ny113 := Aside0.mk hy113
                    clear hy113
                    obtain ⟨ji14, hji14⟩ : ∃ j_ : Int, (mn (wrap64 ((wrap64 (x8_2 + 1)) * 256)) (l1.length : Int)) = j_ := ⟨_, rfl⟩
                    replace H : (if 0 ≤ (wrap64 (x8_2 * 256)) then (if (wrap64 (x8_2 * 256)) ≤ (ji14) then (if (ji14) ≤ (l1.length : Int) then (if y113.length + ((l1.take ((ji14) : Int).toNat).drop ((wrap64 (x8_2 * 256)) : Int).toNat).length < 140737488355328 then (if x7_2.length < 5864062014805 then (tikref25_Cut.l0 k2 a0 l1 ji7 (x7_2 ++ [(y113 ++ ((l1.take ((ji14) : Int).toNat).drop ((wrap64 (x8_2 * 256)) : Int).toNat))]) (wrap64 (x8_2 + 1))) else (none)) else (none)) else (none)) else (none)) else (none)) = some (r1, r2) := by first | (rw [hji14] at H; exact H) | (simp only [hji14] at H ⊢; exact H)
                    (try rw [hji14] at A9)
                    (try rw [hji14] at A10)
                    (try rw [hji14] at A12)
                    have hji14_ : (if (l1.length : Int) < (wrap64 ((wrap64 (x8_2 + 1)) * 256)) then (l1.length : Int) else (wrap64 ((wrap64 (x8_2 + 1)) * 256))) = ji14 := hji14
                    obtain ⟨ji15, hji15⟩ : ∃ j_ : Int, (wrap64 (x8_2 * 256)) = j_ := ⟨_, rfl⟩
                    replace H : (if 0 ≤ (ji15) then (if (ji15) ≤ (ji14) then (if (ji14) ≤ (l1.length : Int) then (if y113.length + ((l1.take ((ji14) : Int).toNat).drop ((ji15) : Int).toNat).length < 140737488355328 then (if x7_2.length < 5864062014805 then (tikref25_Cut.l0 k2 a0 l1 ji7 (x7_2 ++ [(y113 ++ ((l1.take ((ji14) : Int).toNat).drop ((ji15) : Int).toNat))]) (wrap64 (x8_2 + 1))) else (none)) else (none)) else (none)) else (none)) else (none)) = some (r1, r2) := by first | (rw [hji15] at H; exact H) | (simp only [hji15] at H ⊢; exact H)
                    (try rw [hji15] at A9)
                    (try rw [hji15] at A10)
                    (try rw [hji15] at A12)
                    have hji15w : (IntKind.i64.wrap (x8_2 * 256)) = ji15 := (i64_w _).trans hji15
                    by_cases c16 : 0 ≤ (ji15)
                    · rw [if_pos c16] at H
                      have c16b0 := eq_true c16
                      have c16b1 : decide (0 ≤ (ji15)) = true := decide_eq_true c16
                      clear c16
                      by_cases c17 : (ji15) ≤ (ji14)
                      · rw [if_pos c17] at H
                        have c17b0 := eq_true c17
                        have c17b1 : decide ((ji15) ≤ (ji14)) = true := decide_eq_true c17
                        clear c17
                        by_cases c18 : (ji14) ≤ (l1.length : Int)
                        · rw [if_pos c18] at H
                          have c18b0 := eq_true c18
                          have c18b1 : decide ((ji14) ≤ (l1.length : Int)) = true := decide_eq_true c18
                          clear c18
                          by_cases c19 : y113.length + ((l1.take ((ji14) : Int).toNat).drop ((ji15) : Int).toNat).length < 140737488355328
                          · rw [if_pos c19] at H
                            have LMc19 := Aside0.mk c19
                            clear c19
                            obtain ⟨y117, hy117⟩ : ∃ y_ : List Int, y_ = (y113 ++ ((l1.take ((ji14) : Int).toNat).drop ((ji15) : Int).toNat)) := ⟨_, rfl⟩
                            replace H : (if x7_2.length < 5864062014805 then (tikref25_Cut.l0 k2 a0 l1 ji7 (x7_2 ++ [y117]) (wrap64 (x8_2 + 1))) else (none)) = some (r1, r2) := by first | (rw [hy117]; with_reducible exact H) | (have H2_ := (Option.bind_some _ _).symm.trans H; rw [hy117]; with_reducible exact H2_) | (have H2_ := (Option.bind_some _ _).symm.trans H; with_reducible exact H2_) | with_reducible exact H | (rw [hy117]; exact H) | exact H
                            have Ny117 := Aside0.mk hy117
                            clear hy117
                            by_cases c20 : x7_2.length < 5864062014805
                            · rw [if_pos c20] at H
                              have LMc20 := Aside0.mk c20
                              clear c20
                              obtain ⟨y120, hy120⟩ : ∃ y_ : List (List Int), y_ = (x7_2 ++ [y117]) := ⟨_, rfl⟩
                              replace H : (tikref25_Cut.l0 k2 a0 l1 ji7 y120 (wrap64 (x8_2 + 1))) = some (r1, r2) := by first | (rw [hy120]; with_reducible exact H) | (have H2_ := (Option.bind_some _ _).symm.trans H; rw [hy120]; with_reducible exact H2_) | (have H2_ := (Option.bind_some _ _).symm.trans H; with_reducible exact H2_) | with_reducible exact H | (rw [hy120]; exact H) | exact H
                              have Ny120 := Aside0.mk hy120
                              clear hy120
                              have H' := Aside0.mk H
                              clear H
                              go_wp2_with (first | ((with_reducible refine gate_callee (f := 48) rfl ?_); refine goesL_ (some 31) rfl rfl Try.func48 (by kernel_rfl) rfl #[.int .u64 a0] rfl (by (try simp only [List.map_toArray, List.map_cons, List.map_nil]); first | done | rfl | (simp only [List.length_drop, List.length_take]; rfl)) ?_; (with_reducible refine (tikref2_Var.calls k2 a0 t101 _ A9.out).mono ?_); rintro e w21 ⟨v102, rfl, ho0, hb⟩; refine ⟨_, rfl, ?_⟩; have n0_ := Aside0.mk (Kd.S_elder' (by (with_reducible repeat (first | apply Kd.S_alloc | apply Kd.S_drewN | apply Kd.S_drew)); exact HO_7.out) (Kd.R_base ho0) hb); have n1_ := Aside0.mk (Kd.R_lower ho0 (below_size (by repeat (first | (with_reducible first | exact HB.out | apply below_alloc | apply pw_below_drewN | apply below_drew1) | exact HB.out)))); have n2_ := Aside0.mk (below_step (by repeat (first | (with_reducible first | exact HB.out | apply below_alloc | apply pw_below_drewN | apply below_drew1) | exact HB.out)) hb); clear HO_7; clear HB; have HO_7 := n0_; have HO103 := n1_; have HB := n2_; clear n0_ n1_ n2_; (try clear hb); (try clear hb2); (try clear hk); (try clear hi); (try clear ho0)) | ((with_reducible refine gate_callee (f := 48) rfl ?_); refine goesL_ (some 34) rfl rfl Try.func48 (by kernel_rfl) rfl #[.int .u64 (IntKind.u64.wrap (x8_2))] rfl (by (try simp only [List.map_toArray, List.map_cons, List.map_nil]); first | done | rfl | (simp only [List.length_drop, List.length_take]; rfl)) ?_; (with_reducible refine (tikref2_Var.calls k2 (IntKind.u64.wrap (x8_2)) t104 _ A10.out).mono ?_); rintro e w22 ⟨v105, rfl, ho0, hb⟩; refine ⟨_, rfl, ?_⟩; have n0_ := Aside0.mk (Kd.S_elder' (by (with_reducible repeat (first | apply Kd.S_alloc | apply Kd.S_drewN | apply Kd.S_drew)); exact HO_7.out) (Kd.R_base ho0) hb); have n1_ := Aside0.mk (Kd.R_elder' (by (with_reducible repeat (first | apply Kd.R_alloc | apply Kd.R_drewN | apply Kd.R_drew)); exact HO103.out) (Kd.R_base ho0) hb); have n2_ := Aside0.mk (Kd.R_lower (Kd.R_new' ho0 (Kd.R_lt (by (with_reducible repeat (first | apply Kd.R_alloc | apply Kd.R_drewN | apply Kd.R_drew)); exact HO103.out))) (below_size (by repeat (first | (with_reducible first | exact HB.out | apply below_alloc | apply pw_below_drewN | apply below_drew1) | exact HB.out)))); have n3_ := Aside0.mk (below_step (by repeat (first | (with_reducible first | exact HB.out | apply below_alloc | apply pw_below_drewN | apply below_drew1) | exact HB.out)) hb); clear HO_7; clear HO103; clear HB; have HO_7 := n0_; have HO103 := n1_; have HO106 := n2_; have HB := n3_; clear n0_ n1_ n2_ n3_; (try clear hb); (try clear hb2); (try clear hk); (try clear hi); (try clear ho0); obtain ⟨Ao24, co24, eo24⟩ := Kd.R_slice HO106.out; subst eo24) | ((with_reducible refine gate_builtin (b := .append) (xs := #[.tmp 31, .tmp 34]) rfl ?_); at_builtin; refine Kd.R_append_rows (Kd.int .u8) (w0 := w) w.heap.size rfl (.tmp 31) (.tmp 34) 23 5 (.int .u8 0) 1 rfl Try.underlying23 info5 rfl (by decide) (by omega) v102 t101 t104 _ _ _ (fun k_ => some k_ ≠ (.slice Ao24 t104.length co24 : Value).ownBlock) (fun _ => False) rfl rfl ?aO ?aR (fun _ _ h => h) (fun _ h => h.elim) ?aF ?aB ?aS ?aL ?_; (case aR => repeat (first | exact (Kd.R_reads' HO106.out).2.2 | (with_reducible refine Kd.C_alloc ?_ _) | (with_reducible refine Kd.C_drewN ?_ _) | (with_reducible refine Kd.C_drew ?_))); (case aB => exact (by repeat (first | (with_reducible first | exact HB.out | apply below_alloc | apply pw_below_drewN | apply below_drew1) | exact HB.out))); (case aF => exact (fun k_ hk => Kd.fresh' (Kd.R_lt (by (with_reducible repeat (first | apply Kd.R_alloc | apply Kd.R_drewN | apply Kd.R_drew)); exact HO106.out)) k_ hk)); (case aO => exact (by (with_reducible repeat (first | apply Kd.R_alloc | apply Kd.R_drewN | apply Kd.R_drew)); exact Kd.R_mono HO103.out (fun _ hk => hk.2))); (case aS => exact (below_size (by repeat (first | (with_reducible first | exact HB.out | apply below_alloc | apply pw_below_drewN | apply below_drew1) | exact HB.out)))); (case aL => have := LMc11.out; omega); intro v108 w23 ho hb hg hat; rw [← Ny107.out] at ho; have n0_ := Aside0.mk (Kd.S_after (ok := (fun k_ => some k_ ≠ (.slice Ao24 t104.length co24 : Value).ownBlock)) (by (with_reducible repeat (first | apply Kd.S_alloc | apply Kd.S_drewN | apply Kd.S_drew)); exact Kd.S_mono HO_7.out (fun _ hk => ⟨hk.2, hk.1.2⟩)) hg hat); have n1_ := Aside0.mk (Kd.R_after (ok := (fun _ => True)) (by (with_reducible repeat (first | apply Kd.R_alloc | apply Kd.R_drewN | apply Kd.R_drew)); exact HO106.out) hg hat); have n2_ := Aside0.mk (hb); have n3_ := Aside0.mk (ho); clear HO_7; clear HO106; clear HB; clear HO103; have HO_7 := n0_; have HO106 := n1_; have HB := n2_; have HO109 := n3_; clear n0_ n1_ n2_ n3_; clear ho hb hg hat) | ((with_reducible refine gate_callee (f := 48) rfl ?_); refine goesL_ (some 38) rfl rfl Try.func48 (by kernel_rfl) rfl #[.int .u64 (IntKind.u64.wrap (ji7))] rfl (by (try simp only [List.map_toArray, List.map_cons, List.map_nil]); first | done | (simp only [hji7]; rfl) | rfl | (simp only [List.length_drop, List.length_take]; rfl)) ?_; (with_reducible refine (tikref2_Var.calls k2 (IntKind.u64.wrap (ji7)) t110 _ A12.out).mono ?_); rintro e w25 ⟨v111, rfl, ho0, hb⟩; refine ⟨_, rfl, ?_⟩; have n0_ := Aside0.mk (Kd.S_elder' (by (with_reducible repeat (first | apply Kd.S_alloc | apply Kd.S_drewN | apply Kd.S_drew)); exact HO_7.out) (Kd.R_base ho0) hb); have n1_ := Aside0.mk (Kd.R_elder' (by (with_reducible repeat (first | apply Kd.R_alloc | apply Kd.R_drewN | apply Kd.R_drew)); exact HO106.out) (Kd.R_base ho0) hb); have n2_ := Aside0.mk (Kd.R_elder' (by (with_reducible repeat (first | apply Kd.R_alloc | apply Kd.R_drewN | apply Kd.R_drew)); exact HO109.out) (Kd.R_base ho0) hb); have n3_ := Aside0.mk (Kd.R_lower (Kd.R_new' (Kd.R_new' ho0 (Kd.R_lt (by (with_reducible repeat (first | apply Kd.R_alloc | apply Kd.R_drewN | apply Kd.R_drew)); exact HO106.out))) (Kd.R_lt (by (with_reducible repeat (first | apply Kd.R_alloc | apply Kd.R_drewN | apply Kd.R_drew)); exact HO109.out))) (below_size (by repeat (first | (with_reducible first | exact HB.out | apply below_alloc | apply pw_below_drewN | apply below_drew1) | exact HB.out)))); have n4_ := Aside0.mk (below_step (by repeat (first | (with_reducible first | exact HB.out | apply below_alloc | apply pw_below_drewN | apply below_drew1) | exact HB.out)) hb); clear HO_7; clear HO106; clear HO109; clear HB; have HO_7 := n0_; have HO106 := n1_; have HO109 := n2_; have HO112 := n3_; have HB := n4_; clear n0_ n1_ n2_ n3_ n4_; (try clear hb); (try clear hb2); (try clear hk); (try clear hi); (try clear ho0); obtain ⟨Ao27, co27, eo27⟩ := Kd.R_slice HO112.out; subst eo27) | ((with_reducible refine gate_builtin (b := .append) (xs := #[.tmp 35, .tmp 38]) rfl ?_); at_builtin; refine Kd.R_append_rows (Kd.int .u8) (w0 := w) w.heap.size rfl (.tmp 35) (.tmp 38) 23 5 (.int .u8 0) 1 rfl Try.underlying23 info5 rfl (by decide) (by omega) v108 y107 t110 _ _ _ (fun k_ => some k_ ≠ (.slice Ao24 t104.length co24 : Value).ownBlock ∧ some k_ ≠ (.slice Ao27 t110.length co27 : Value).ownBlock) (fun _ => False) rfl rfl ?aO ?aR (fun _ _ h => h) (fun _ h => h.elim) ?aF ?aB ?aS ?aL ?_; (case aR => repeat (first | exact (Kd.R_reads' HO112.out).2.2 | (with_reducible refine Kd.C_alloc ?_ _) | (with_reducible refine Kd.C_drewN ?_ _) | (with_reducible refine Kd.C_drew ?_))); (case aB => exact (by repeat (first | (with_reducible first | exact HB.out | apply below_alloc | apply pw_below_drewN | apply below_drew1) | exact HB.out))); (case aF => exact (fun k_ hk => ⟨Kd.fresh' (Kd.R_lt (by (with_reducible repeat (first | apply Kd.R_alloc | apply Kd.R_drewN | apply Kd.R_drew)); exact HO106.out)) k_ hk, Kd.fresh' (Kd.R_lt (by (with_reducible repeat (first | apply Kd.R_alloc | apply Kd.R_drewN | apply Kd.R_drew)); exact HO112.out)) k_ hk⟩)); (case aO => exact (by (with_reducible repeat (first | apply Kd.R_alloc | apply Kd.R_drewN | apply Kd.R_drew)); exact HO109.out)); (case aS => exact (below_size (by repeat (first | (with_reducible first | exact HB.out | apply below_alloc | apply pw_below_drewN | apply below_drew1) | exact HB.out)))); (case aL => have := LMc13.out; omega); intro v114 w26 ho hb hg hat; rw [← Ny113.out] at ho; have n0_ := Aside0.mk (Kd.S_after (ok := (fun k_ => some k_ ≠ (.slice Ao24 t104.length co24 : Value).ownBlock ∧ some k_ ≠ (.slice Ao27 t110.length co27 : Value).ownBlock)) (by (with_reducible repeat (first | apply Kd.S_alloc | apply Kd.S_drewN | apply Kd.S_drew)); exact Kd.S_mono HO_7.out (fun _ hk => ⟨⟨hk.1.1, hk.2⟩, hk.1.2⟩)) hg hat); have n1_ := Aside0.mk (Kd.R_after (ok := (fun k_ => some k_ ≠ (.slice Ao27 t110.length co27 : Value).ownBlock)) (by (with_reducible repeat (first | apply Kd.R_alloc | apply Kd.R_drewN | apply Kd.R_drew)); exact Kd.R_mono HO106.out (fun _ hk => ⟨hk.2, hk.1.2⟩)) hg hat); have n2_ := Aside0.mk (Kd.R_after (ok := (fun k_ => some k_ ≠ (.slice Ao24 t104.length co24 : Value).ownBlock)) (by (with_reducible repeat (first | apply Kd.R_alloc | apply Kd.R_drewN | apply Kd.R_drew)); exact Kd.R_mono HO112.out (fun _ hk => ⟨hk.1.2, hk.2⟩)) hg hat); have n3_ := Aside0.mk (hb); have n4_ := Aside0.mk (ho); clear HO_7; clear HO106; clear HO112; clear HB; clear HO109; have HO_7 := n0_; have HO106 := n1_; have HO112 := n2_; have HB := n3_; have HO115 := n4_; clear n0_ n1_ n2_ n3_ n4_; clear ho hb hg hat; obtain ⟨i028, hi028, _, hsz28, _⟩ := info_parts info5; obtain ⟨A28, hcut28, hA28, hC28⟩ := print_mid_of (P := Try.prog) (Value.int .u8) 0 23 5 .i64 .i64 Try.underlying23 hi028 hsz28 A1 c1 l1 (ji15) (ji14) (of_decide_eq_true (by first | (with_reducible assumption) | assumption)) (by first | omega | exact of_decide_eq_true (by first | (with_reducible assumption) | assumption)) (of_decide_eq_true (by first | (with_reducible assumption) | assumption)) HC1.out; have HR116 := Aside0.mk (Kd.C_of_reads (h1 := fun _ => rfl) (hA28 _ (Kd.reads_of_C HR1.out))); have HC116 := Aside0.mk hC28; clear hA28 hC28 hi028 hsz28) | ((with_reducible refine gate_builtin (b := .append) (xs := #[.tmp 41, .tmp 51]) rfl ?_); at_builtin; refine Kd.R_append_rows (Kd.int .u8) (w0 := w) w.heap.size rfl (.tmp 41) (.tmp 51) 23 5 (.int .u8 0) 1 rfl Try.underlying23 info5 rfl (by decide) (by omega) v114 y113 ((l1.take ((ji14) : Int).toNat).drop ((ji15) : Int).toNat) _ _ _ (fun k_ => some k_ ≠ (.slice Ao24 t104.length co24 : Value).ownBlock ∧ some k_ ≠ (.slice Ao27 t110.length co27 : Value).ownBlock) (fun _ => False) rfl rfl ?aO ?aR (fun _ _ h => h) (fun _ h => h.elim) ?aF ?aB ?aS ?aL ?_; (case aR => first | (rw [← show ((l1.take ((ji14) : Int).toNat).drop ((ji15) : Int).toNat).length = ((ji14).toNat - (ji15).toNat) from (by rw [List.length_drop, List.length_take]; have h_ : ((ji14) : Int) ≤ (l1.length : Int) := of_decide_eq_true (by first | (with_reducible assumption) | assumption); omega)]; repeat (first | exact (Kd.C_below HR116.out HB.out) | (with_reducible refine Kd.C_alloc ?_ _) | (with_reducible refine Kd.C_drewN ?_ _) | (with_reducible refine Kd.C_drew ?_))) | (repeat (first | exact (Kd.C_below HR116.out HB.out) | (with_reducible refine Kd.C_alloc ?_ _) | (with_reducible refine Kd.C_drewN ?_ _) | (with_reducible refine Kd.C_drew ?_)))); (case aB => exact (by repeat (first | (with_reducible first | exact HB.out | apply below_alloc | apply pw_below_drewN | apply below_drew1) | exact HB.out))); (case aF => exact (fun k_ hk => ⟨Kd.fresh' (Kd.R_lt (by (with_reducible repeat (first | apply Kd.R_alloc | apply Kd.R_drewN | apply Kd.R_drew)); exact HO106.out)) k_ hk, Kd.fresh' (Kd.R_lt (by (with_reducible repeat (first | apply Kd.R_alloc | apply Kd.R_drewN | apply Kd.R_drew)); exact HO112.out)) k_ hk⟩)); (case aO => exact (by (with_reducible repeat (first | apply Kd.R_alloc | apply Kd.R_drewN | apply Kd.R_drew)); exact HO115.out)); (case aS => exact (below_size (by repeat (first | (with_reducible first | exact HB.out | apply below_alloc | apply pw_below_drewN | apply below_drew1) | exact HB.out)))); (case aL => have := LMc19.out; have hlx_ := (show ((l1.take ((ji14) : Int).toNat).drop ((ji15) : Int).toNat).length = ((ji14).toNat - (ji15).toNat) from (by rw [List.length_drop, List.length_take]; have h_ : ((ji14) : Int) ≤ (l1.length : Int) := of_decide_eq_true (by first | (with_reducible assumption) | assumption); omega)); omega); intro v118 w29 ho hb hg hat; rw [← Ny117.out] at ho; have n0_ := Aside0.mk (Kd.S_after (ok := (fun k_ => some k_ ≠ (.slice Ao24 t104.length co24 : Value).ownBlock ∧ some k_ ≠ (.slice Ao27 t110.length co27 : Value).ownBlock)) (by (with_reducible repeat (first | apply Kd.S_alloc | apply Kd.S_drewN | apply Kd.S_drew)); exact HO_7.out) hg hat); have n1_ := Aside0.mk (Kd.R_after (ok := (fun k_ => some k_ ≠ (.slice Ao27 t110.length co27 : Value).ownBlock)) (by (with_reducible repeat (first | apply Kd.R_alloc | apply Kd.R_drewN | apply Kd.R_drew)); exact HO106.out) hg hat); have n2_ := Aside0.mk (Kd.R_after (ok := (fun k_ => some k_ ≠ (.slice Ao24 t104.length co24 : Value).ownBlock)) (by (with_reducible repeat (first | apply Kd.R_alloc | apply Kd.R_drewN | apply Kd.R_drew)); exact HO112.out) hg hat); have n3_ := Aside0.mk (hb); have n4_ := Aside0.mk (ho); clear HO_7; clear HO106; clear HO112; clear HB; clear HO115; have HO_7 := n0_; have HO106 := n1_; have HO112 := n2_; have HB := n3_; have HO119 := n4_; clear n0_ n1_ n2_ n3_ n4_; clear ho hb hg hat; obtain ⟨Ao31, co31, eo31⟩ := Kd.R_slice HO119.out; subst eo31) | ((with_reducible refine gate_builtin (b := .append) (xs := #[.tmp 40, .tmp 53]) rfl ?_); at_builtin; refine Kd.S_append (Kd.slice 5 (Kd.int .u8)) (w0 := w) w.heap.size rfl (.tmp 40) (.tmp 53) 48 23 (.slice none 0 0) 24 rfl Try.underlying48 info23 rfl (by decide) (by omega) u7 x7_2 y117 [.slice Ao31 y117.length co31] (fun k_ => some k_ ≠ (.slice Ao24 t104.length co24 : Value).ownBlock ∧ some k_ ≠ (.slice Ao27 t110.length co27 : Value).ownBlock) (fun k_ => some k_ = (.slice Ao31 y117.length co31 : Value).ownBlock) rfl rfl ?aP (fun k_ hk_ => ((Kd.R_mono (ok' := fun k_ => ((fun k_ => some k_ ≠ (.slice Ao24 t104.length co24 : Value).ownBlock ∧ some k_ ≠ (.slice Ao27 t110.length co27 : Value).ownBlock)) k_ ∧ some k_ ≠ (u7 : Value).ownBlock) (Kd.R_apart' (HO119.out) (Kd.S_typed HO_7.out) (by decide)) (fun k_ hk => ⟨⟨hk.1.1, hk.1.2⟩, hk.2⟩))).1 k_ hk_.symm) ?aF ?aO ?aB ?aS ?aL ?_; (case aP => exact Kd.M_row (Kd.R_mono (Kd.R_tight rfl (Kd.R_mono (ok' := fun k_ => ((fun k_ => some k_ ≠ (.slice Ao24 t104.length co24 : Value).ownBlock ∧ some k_ ≠ (.slice Ao27 t110.length co27 : Value).ownBlock)) k_ ∧ some k_ ≠ (u7 : Value).ownBlock) (Kd.R_apart' (HO119.out) (Kd.S_typed HO_7.out) (by decide)) (fun k_ hk => ⟨⟨hk.1.1, hk.1.2⟩, hk.2⟩))) (fun _ h_ => h_))); (case aB => exact (by repeat (first | (with_reducible first | exact HB.out | apply below_alloc | apply pw_below_drewN | apply below_drew1) | exact HB.out))); (case aF => exact (fun k_ hk => ⟨Kd.fresh' (Kd.R_lt (by (with_reducible repeat (first | apply Kd.R_alloc | apply Kd.R_drewN | apply Kd.R_drew)); exact HO106.out)) k_ hk, Kd.fresh' (Kd.R_lt (by (with_reducible repeat (first | apply Kd.R_alloc | apply Kd.R_drewN | apply Kd.R_drew)); exact HO112.out)) k_ hk⟩)); (case aO => exact (by (with_reducible repeat (first | apply Kd.S_alloc | apply Kd.S_drewN | apply Kd.S_drew)); exact Kd.S_mono HO_7.out (fun k_ hk => ⟨⟨hk.1.1, hk.1.2⟩, fun e_ => hk.2 e_⟩))); (case aS => exact (below_size (by repeat (first | (with_reducible first | exact HB.out | apply below_alloc | apply pw_below_drewN | apply below_drew1) | exact HB.out)))); (case aL => have := LMc20.out; omega); intro v121 w30 ho hb hg hat; rw [← Ny120.out] at ho; have n0_ := Aside0.mk (Kd.R_over' (by (with_reducible repeat (first | apply Kd.R_alloc | apply Kd.R_drewN | apply Kd.R_drew)); exact HO106.out) (Kd.S_typed (by (with_reducible repeat (first | apply Kd.S_alloc | apply Kd.S_drewN | apply Kd.S_drew)); exact HO_7.out)) (by decide) hg); have n1_ := Aside0.mk (Kd.R_over' (by (with_reducible repeat (first | apply Kd.R_alloc | apply Kd.R_drewN | apply Kd.R_drew)); exact HO112.out) (Kd.S_typed (by (with_reducible repeat (first | apply Kd.S_alloc | apply Kd.S_drewN | apply Kd.S_drew)); exact HO_7.out)) (by decide) hg); have n2_ := Aside0.mk (hb); have n3_ := Aside0.mk (ho); clear HO106; clear HO112; clear HB; clear HO_7; clear HO119; have HO106 := n0_; have HO112 := n1_; have HB := n2_; have HO122 := n3_; clear n0_ n1_ n2_ n3_; clear ho hb hg hat))
                              go_roundg k2
                              case measure => have := HJ2.out; have := HK2.out; omega
                              case rel => exact ⟨(y120), (wrap64 (x8_2 + 1)), (by first | rfl | (simp; done) | (simp [*]; done)), H', ⟨by have := HJ2.out; have := HK2.out; omega⟩, ⟨by (with_reducible repeat (first | apply Kd.S_alloc | apply Kd.S_drewN | apply Kd.S_drew)); exact Kd.S_mono HO122.out (fun _ hk => trivial)⟩, ⟨by repeat (first | (with_reducible first | exact HB.out | apply below_alloc | apply pw_below_drewN | apply below_drew1) | exact HB.out)⟩⟩
                            · rw [if_neg c20] at H
                              exact absurd H (by simp)
                          · rw [if_neg c19] at H
                            exact absurd H (by simp)
                        · rw [if_neg c18] at H
                          exact absurd H (by simp)
                      · rw [if_neg c17] at H
                        exact absurd H (by simp)
                    · rw [if_neg c16] at H
                      exact absurd H (by simp)
                  · rw [if_neg c13] at H
                    exact absurd H (by simp)
                · rw [if_neg c11] at H
                  exact absurd H (by simp)
              · rw [if_neg c8] at H
                have c8b0 : decide (x8_2 < ji7) = false := decide_eq_false c8
                clear c8
                simp only [Option.some.injEq, Prod.mk.injEq] at H
                obtain ⟨rfl, rfl⟩ := H
                go_wp2
                go_ret2
                exact ⟨_, by first | rfl | (simp [errW_none, errW_some] <;> rfl) | (simp only [← hji7]; first | rfl | (simp [errW_none, errW_some] <;> rfl)) | (simp [*, errW_none, errW_some] <;> rfl), by (with_reducible repeat (first | apply Kd.S_alloc | apply Kd.S_drewN | apply Kd.S_drew)); exact HO_7.out, by repeat (first | (with_reducible first | exact HB.out | apply below_alloc | apply pw_below_drewN | apply below_drew1) | exact HB.out)⟩
end Go.Proofs.Ytdklanenmihpdaa.PC
