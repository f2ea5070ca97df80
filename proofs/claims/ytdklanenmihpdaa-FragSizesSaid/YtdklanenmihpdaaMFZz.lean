/- Texts of this claim, put together. -/
import Derived.Test.YtdklanenmihpdaaMFZb
import Derived.Test.YtdklanenmihpdaaProg
import Derived.Below
import Derived.Deep.Draws
import Derived.Deep.AppendLies
import Derived.Maps.AppendAt
import Derived.OwnWalk
import Derived.Laws.BytesArg
import Derived.Laws.MakeOwn
import Derived.Laws.OwnMore
import Derived.Deep.OwnRows
import Derived.Tactics
import Derived.Lib.ConvBytes
import Derived.Laws.Slices
import Derived.WalkKit
import Derived.KernelRfl
import Derived.RowKit3
import Derived.Deep.LoopGhost
import Derived.Deep.QuietTactic
import Derived.BigQuiet
import Derived.WideLaws
import Derived.Deep.DeepCutAuto
import Derived.Deep.CutBlock
import Derived.Deep.RegionHeld3
import Derived.Laws.Rows
import Derived.Lib.AppendStr
import Derived.ArgAppend
import Derived.Laws.IdiomCopy
import Derived.OrdersHeld
import Derived.Laws.BitsLemmas
import Derived.RowKit
import Derived.Test.YtdklanenmihpdaaMFZWWords
import Derived.Test.YtdklanenmihpdaaMFZWLast
import Derived.Test.YtdklanenmihpdaaMFZWApart
import Derived.Test.YtdklanenmihpdaaMFZWFoot
import Derived.Test.YtdklanenmihpdaaMFZWShare
import Derived.Test.YtdklanenmihpdaaMFZWN
import Derived.Laws.StructEq
import Derived.Test.YtdklanenmihpdaaMFZWRepsOne
import Derived.Test.YtdklanenmihpdaaMFZWGuard
import Derived.Test.YtdklanenmihpdaaMFZWNEv
import Derived.Test.YtdklanenmihpdaaMFZWMore
import Derived.Test.YtdklanenmihpdaaRows
import Derived.ProofKit
import Derived.OpenShut
import Derived.ShutString
import Derived.ChangeOld
import Derived.SizedLaws
set_option linter.unusedVariables false
set_option linter.unusedSimpArgs false
namespace Go.Proofs.Ytdklanenmihpdaa.Hand
open Go.RowKit Go.Maps Go.Proofs.YtdklanenmihpdaaW.PrintWords Go.Proofs.YtdklanenmihpdaaW.PrintLast Go.Proofs.Ytdklanenmihpdaa.PA
def takeV (id cnt : Int) (ps : List (List Int)) (pid : Int) (pat pn : Nat) (b : List Int) : Option ((Int × Int × List (List Int)) × (List Int × Bool)) :=
  if pid < id then some ((id, cnt, ps), ([], false))
  else if id < pid then
    some ((pid, (pn : Int), (List.replicate pn noP).set pat b), if haveN ((List.replicate pn noP).set pat b) < pn then ([], false) else (((List.replicate pn noP).set pat b).flatten, true))
  else if (pn : Int) = cnt ∧ ps.getD pat noP = noP then
    some ((id, cnt, ps.set pat b), if haveN (ps.set pat b) < ps.length then ([], false) else ((ps.set pat b).flatten, true))
  else if (pn : Int) = cnt ∧ ps.getD pat noP = b then some ((id, cnt, ps.set pat b), ([], false))
  else none
def TakePost (w : World) (own : Nat → Prop) (g : Nat) (st : Int × Int × List (List Int)) : Option ((Int × Int × List (List Int)) × (List Int × Bool)) → Ending → World → Prop
  | some (st', m, x), e, w' => GatAt w' own g st'.1 st'.2.1 st'.2.2 ∧ Mu own w w' ∧ ∃ v, e = .returned (.tuple #[v, .bool x]) ∧ Kd.R (Kd.int .u8) 5 w' w.heap.size (fun _ => True) v m
  | none, e, w' => GatAt w' own g st.1 st.2.1 st.2.2 ∧ Mu own w w' ∧ e = .panicked fstopR
set_option maxRecDepth 100000
structure St (w1 : World) (g : Nat) (v0 v1 v2 : Value) (n : Nat) (W : World) : Prop where
  at_ : W.heap[g]? = some (.cells #[v0, v1, v2] 85 (0, 0))
  size : W.heap.size = w1.heap.size + n
  lt : g < w1.heap.size
  mu : Mu (· = g) w1 W
  new : n = 1 → W.heap[w1.heap.size]? = some (.map #[] 0)
theorem St.drew {w1 W : World} {g n : Nat} {a b c : Value} (h : St w1 g a b c n W) : St w1 g a b c n W.drew := ⟨h.at_, h.size, h.lt, h.mu.drew, h.new⟩
theorem St.drewN {w1 W : World} {g n : Nat} {a b c : Value} (h : St w1 g a b c n W) (k : Nat) : St w1 g a b c n (W.drewN k) := ⟨h.at_, h.size, h.lt, h.mu.drewN k, h.new⟩
theorem St.alloc {w1 W : World} {g : Nat} {a b c : Value} (h : St w1 g a b c 0 W) : St w1 g a b c 1 (W.alloc (.map #[] 0)) :=
  ⟨(Below.heap_alloc _ _ _ (by rw [h.size]; have := h.lt; omega)).trans h.at_, by simp [h.size], h.lt, h.mu.alloc _, fun _ => by have := alloc_new W (.map #[] 0); rwa [h.size] at this⟩
theorem set3 {w : World} {g t : Nat} {a b c x : Value} (j : Nat) (h : w.heap[g]? = some (.cells #[a, b, c] t (0, 0))) : (w.setCell ⟨g, j, none⟩ x).heap[g]? = some (.cells (#[a, b, c].setIfInBounds j x) t (0, 0)) := by
  obtain ⟨hlt, hk⟩ := Array.getElem?_eq_some_iff.1 h
  show (w.heap.modify g _)[g]? = _
  rw [Array.getElem?_eq_getElem (by rw [Array.size_modify]; exact hlt), Array.getElem_modify_self, hk]
  rfl
theorem St.set_ {w1 W : World} {g n : Nat} {a b c x a' b' c' : Value} (j : Nat) (hj : #[a, b, c].setIfInBounds j x = #[a', b', c']) (h : St w1 g a b c n W) : St w1 g a' b' c' n (W.setCell ⟨g, j, none⟩ x) :=
  ⟨by rw [set3 j h.at_, hj], by simpa [World.setCell] using h.size, h.lt, h.mu.setCell (p := ⟨g, j, none⟩) (fun _ => rfl) _, fun hn => (Below.heap_setCell _ _ _ _ (by show w1.heap.size ≠ g; have := h.lt; omega)).trans (h.new hn)⟩
theorem St.set0 {w1 W : World} {g n : Nat} {a b c x : Value} (h : St w1 g a b c n W) : St w1 g x b c n (W.setCell ⟨g, 0, none⟩ x) := h.set_ 0 rfl
theorem St.set1 {w1 W : World} {g n : Nat} {a b c x : Value} (h : St w1 g a b c n W) : St w1 g a x c n (W.setCell ⟨g, 1, none⟩ x) := h.set_ 1 rfl
theorem St.set2 {w1 W : World} {g n : Nat} {a b c x : Value} (h : St w1 g a b c n W) : St w1 g a b x n (W.setCell ⟨g, 2, none⟩ x) := h.set_ 2 rfl
theorem exec_storeF {P : Program} {w w' : World} {ev : Operand → Value} {o : Oper} {t : TypeId} {x y : Operand} {u v : Value} (ho : o.op = .store t x y) (hx : ev x = u) (hy : ev y = v) (hr : (Instr.storeAt t u v).run P w = .ok () w') : (execOp ev o).run P w = .ok .skip w' := by
  unfold execOp
  simp only [ho, hx, hy, Sem.run_bind, hr, Result.andThen_ok, Sem.run_pure]
theorem exec_makeF {P : Program} {w : World} {ev : Operand → Value} {o : Oper} {t : TypeId} {n : Nat} (ho : o.op = .makeMap t none) (hs : w.heap.size = n) : (execOp ev o).run P w = .ok (.value (.map (some n))) (w.alloc (.map #[] 0)) := by
  subst hs
  unfold execOp
  simp only [ho]
  rfl
theorem St.st0 {w1 W : World} {g n : Nat} {a b c : Value} (x : Int) (h : St w1 g a b c n W) : (Instr.storeAt 22 (.pointer (some ⟨g, 0, none⟩)) (.int .u64 x)).run Try.prog W = .ok () (W.setCell ⟨g, 0, none⟩ (.int .u64 x)) := by
  have c := blk_cell h.at_ 0
  have f := blk_frozen h.at_ 0
  simp [go_sem, c, f]
theorem St.st1 {w1 W : World} {g n : Nat} {a b c : Value} (x : Int) (h : St w1 g a b c n W) : (Instr.storeAt 3 (.pointer (some ⟨g, 1, none⟩)) (.int .i64 x)).run Try.prog W = .ok () (W.setCell ⟨g, 1, none⟩ (.int .i64 x)) := by
  have c := blk_cell h.at_ 1
  have f := blk_frozen h.at_ 1
  simp [go_sem, c, f]
theorem St.st2 {w1 W : World} {g n : Nat} {a b c : Value} (m : Option Nat) (h : St w1 g a b c n W) : (Instr.storeAt 83 (.pointer (some ⟨g, 2, none⟩)) (.map m)).run Try.prog W = .ok () (W.setCell ⟨g, 2, none⟩ (.map m)) := by
  have c := blk_cell h.at_ 2
  have f := blk_frozen h.at_ 2
  simp [go_sem, c, f]
theorem exec_updF {P : Program} {w w' : World} {ev : Operand → Value} {o : Oper} {t : TypeId} {m x y : Operand} {a u v : Value} (ho : o.op = .mapUpdate t m x y) (hm : ev m = a) (hx : ev x = u) (hy : ev y = v) (hr : (Instr.mapUpdate t a u v).run P w = .ok () w') : (execOp ev o).run P w = .ok .skip w' := by
  unfold execOp
  simp only [ho, hm, hx, hy, Sem.run_bind, hr, Result.andThen_ok, Sem.run_pure]
section
variable {P : Program} {ops : Array Oper} {Q : Exit → Act → World → Prop}
theorem goesP_ {oi : Oper} {N : Option Tmp} {a : Act} {w : World} {K : Act → World → Prop} {f : FuncId} {fn : Func} {xs_ : Array Operand} {ts : Array TypeId} (hf : P.funcs[f]? = some fn) (hname : (fn.name == "runtime.NumGoroutine") = false) (hb : fn.body.isSome = true) (args : Array Value)
    (hw : Region.wanted oi (yielded ops a.tmps) = true) (hN : oi.dst = N) (hop : oi.op = .call { callee := .value (.func f), args := xs_, argTypes := ts }) (hargs : xs_.map a.eval = args)
    (h : Calls P f args w fun e w' => ∃ c, e = .panicked c ∧ Q (.panic c) a w') : if Region.wanted oi (yielded ops a.tmps) = true then Oper.wp P oi a w K Q else K (a.put N undef) w := by
  have he := enters_ hf hname hb args w
  have hrun : (execOp a.eval oi).run P w = .ok (.enter f args) w := by
    unfold execOp
    simp [hop, resolve, Deferred.ofValue, invoke, Act.eval, hargs, he]
  rw [if_pos hw]
  unfold Oper.wp
  rw [hrun, Oper.upon_enter]
  refine h.mono fun e w'' hh => ?_
  obtain ⟨c, rfl, hk⟩ := hh
  exact hk
end
structure Tl (w0 : World) (own : Nat → Prop) (g B pb : Nat) (id : Int) (ps : List (List Int)) (o : Obj) (A9 : Option Addr) (bb : List Int) (W : World) : Prop where
  at_ : W.heap[g]? = some (gatO id (ps.length : Int) (some B))
  pb_ : W.heap[pb]? = some o
  map : MapAt W own g B ps
  mu : Mu own w0 W
  F : Kd.F (Kd.int .u8) W (fun k => own k ∧ k ≠ g ∧ k ≠ B) A9 bb.length bb
section
variable {w0 W W' : World} {own : Nat → Prop} {g B pb : Nat} {id : Int} {ps : List (List Int)} {o : Obj} {A9 : Option Addr} {bb : List Int}
theorem Tl.below (h : Tl w0 own g B pb id ps o A9 bb W) (hb : Below W.heap.size W W') : Tl w0 own g B pb id ps o A9 bb W' :=
  ⟨(Mu.of_below hb (fun _ => False)).heap h.at_ (fun h => h), (Mu.of_below hb (fun _ => False)).heap h.pb_ (fun h => h), h.map.step (fun k _ _ hl => hb.block k hl), h.mu.trans (Mu.of_below hb own), Kd.F_below h.F hb⟩
theorem Tl.drewN (h : Tl w0 own g B pb id ps o A9 bb W) (m : Nat) : Tl w0 own g B pb id ps o A9 bb (W.drewN m) := h.below (pw_below_drewN (Below.refl _ _) m)
theorem Tl.drew (h : Tl w0 own g B pb id ps o A9 bb W) : Tl w0 own g B pb id ps o A9 bb W.drew := h.below (below_drew (Below.refl _ _))
theorem Tl.none_ (h : Tl w0 own g B pb id ps o A9 bb W) {i : Nat} (hi : i < ps.length) (hp : ps.getD i noP = noP) : ∀ m, (Instr.lookup 83 (.map (some B)) (.int .i64 (i : Int)) true).run Try.prog (W.drewN m) = .ok (.tuple #[.slice none 0 0, .bool false]) (W.drewN m) := by
  intro m
  have hbig := h.map.big
  obtain ⟨D, ho, _, hs⟩ := h.map.map
  have h2 := hs i hi
  rw [hp] at h2
  exact look_none (by omega) h2 _ _ (ownsMap_move (w' := W.drewN m) ho rfl)
theorem Tl.part (h : Tl w0 own g B pb id ps o A9 bb W) {i : Nat} (hi : i < ps.length) (hp : ps.getD i noP ≠ noP) :
    ∃ A c, (∀ m, (Instr.lookup 83 (.map (some B)) (.int .i64 (i : Int)) true).run Try.prog (W.drewN m) = .ok (.tuple #[.slice A (ps.getD i noP).length c, .bool true]) (W.drewN m)) ∧
      (Instr.lookup 83 (.map (some B)) (.int .i64 (i : Int)) false).run Try.prog W = .ok (.slice A (ps.getD i noP).length c) W ∧ (ps.getD i noP).length ≤ c ∧ Kd.C (Kd.int .u8) W A (ps.getD i noP).length (ps.getD i noP) ∧ (∀ x ∈ ps.getD i noP, 0 ≤ x ∧ x < 256) ∧ (ps.getD i noP).length ≤ 256 := by
  have hbig := h.map.big
  obtain ⟨D, ho, _, hs⟩ := h.map.map
  obtain ⟨A, c, h1, h2, h3, h4, h5⟩ := look_some (by omega) (hs i hi) hp
  exact ⟨A, c, fun m => h1 _ _ (ownsMap_move (w' := W.drewN m) ho rfl), h2 _ _ ho, h3, Kd.F_now h4, h5⟩
theorem Tl.any_ (h : Tl w0 own g B pb id ps o A9 bb W) {i : Nat} (hi : i ≤ 4096) : ∃ v x, ∀ m, (Instr.lookup 83 (.map (some B)) (.int .i64 (i : Int)) true).run Try.prog (W.drewN m) = .ok (.tuple #[v, .bool x]) (W.drewN m) := by
  obtain ⟨D, ho, _, hs⟩ := h.map.map
  obtain ⟨v, x, hr⟩ := look_any (b := B) (D := D) hi
  exact ⟨v, x, fun m => hr _ _ (ownsMap_move (w' := W.drewN m) ho rfl)⟩
theorem Tl.len (h : Tl w0 own g B pb id ps o A9 bb W) (ty : TypeId) : ∀ m, (Builtin.len_ #[83] ty #[.map (some B)]).run Try.prog (W.drewN m) = .ok (.int .i64 (haveN ps)) (W.drewN m) :=
  fun m => map_len (h.drewN m).map ty
theorem Tl.store (h : Tl w0 own g B pb id ps o A9 bb W) (hne : pb ≠ B) {i : Nat} (hi : i < ps.length) {c : Nat} (hb : ∀ x ∈ bb, 0 ≤ x ∧ x < 256) (hb2 : bb.length ≤ 256) (hc : bb.length ≤ c) :
    ∃ W', (Instr.mapUpdate 83 (.map (some B)) (.int .i64 (i : Int)) (.slice A9 bb.length c)).run Try.prog W = .ok () W' ∧ Tl w0 own g B pb id (ps.set i bb) o A9 bb W' := by
  obtain ⟨W', hr, hm, hg⟩ := map_store h.map hi hb hb2 hc h.F
  refine ⟨W', hr, ?_, ?_, hm, ?_, ?_⟩
  · rw [List.length_set]; exact (hg.block g (heap_lt h.at_) (by have := h.map.ne; simp; omega)).trans h.at_
  · exact (hg.block pb (heap_lt h.pb_) (by simp; omega)).trans h.pb_
  · exact h.mu.trans ⟨hg.os, hg.tape, hg.output, hg.size, fun k hk hn => hg.block k hk (fun e => by injection e with e; exact hn (e ▸ h.map.mine))⟩
  · exact Kd.F_step h.F (fun k hk hl => hg.block k hl (by have := hk.2.2; simp; omega))
theorem Tl.gat (h : Tl w0 own g B pb id ps o A9 bb W) (hg : own g) (hid : 1 ≤ id) : GatAt W own g id (ps.length : Int) ps := ⟨hg, .inr ⟨hid, rfl, B, h.at_, h.map⟩⟩
end
theorem have_all : ∀ (ps : List (List Int)), ¬ haveN ps < ps.length → ∀ i, i < ps.length → ps.getD i noP ≠ noP
  | [], _, i, hi => by simp at hi
  | p :: ps, h, 0, _ => by
    intro e
    rw [List.getD_cons_zero] at e
    have := haveN_le ps
    unfold haveN at h
    rw [if_pos e, List.length_cons] at h
    omega
  | p :: ps, h, i + 1, hi => by
    rw [List.getD_cons_succ]
    refine have_all ps (fun h2 => h ?_) i (by simpa using hi)
    unfold haveN
    rw [List.length_cons]
    split <;> omega
theorem flat_take (ps : List (List Int)) (i : Nat) (hi : i < ps.length) : (ps.take (i + 1)).flatten = (ps.take i).flatten ++ ps.getD i noP := by
  have e : ((some ps[i]).toList).flatten = ps[i] := by simp
  rw [List.take_add_one, List.getElem?_eq_getElem hi, List.getD_eq_getElem?_getD, List.getElem?_eq_getElem hi, List.flatten_append, e]
  rfl
theorem map_at_new {w : World} {own : Nat → Prop} {g b n : Nat} (hb : w.heap[b]? = some (.map #[] 0)) (hn : n ≤ 4096) (ho : own b) (hg : b ≠ g) : MapAt w own g b (List.replicate n noP) := by
  refine ⟨by rw [List.length_replicate]; exact hn, ho, hg, .map [], ?_, by rw [haveN_none]; rfl, fun i hi => .inl ⟨?_, rfl⟩⟩
  · obtain ⟨es, clock, h1, r⟩ := World.ownsMap_made (H := Value) w Try.prog 3 heldE
    have h2 := alloc_new w (.map #[] 0)
    rw [h2] at h1
    injection h1 with h1
    injection h1 with h1 h3
    subst h1 h3
    exact ⟨_, _, hb, r⟩
  · rw [List.length_replicate] at hi
    rw [List.getD_eq_getElem?_getD, List.getElem?_replicate, if_pos hi]; rfl
theorem equal_bytesF {a b : List Int} (ha : ∀ x ∈ a, 0 ≤ x ∧ x < 256) (hb : ∀ x ∈ b, 0 ≤ x ∧ x < 256) : bytes_Equal.f a b = some (decide (a = b)) := by
  unfold bytes_Equal.f
  rw [Lib.strOfNums_toList, Lib.strOfNums_toList]
  by_cases h : a = b
  · rw [h]; simp
  · rw [decide_eq_false h]
    congr 1
    rw [beq_eq_false_iff_ne]
    exact fun e => h (bytesOf_inj ha hb e)
set_option maxHeartbeats 4000000 in
theorem takes_lt {w : World} {own : Nat → Prop} {g : Nat} {id cnt : Int} {ps : List (List Int)} (hG : GatAt w own g id cnt ps) (hnew : ∀ k, w.heap.size ≤ k → own k) (pid : Int) (pat pn : Nat) (hid : 1 ≤ pid ∧ pid ≤ 4611686018427387904) (hpat : pat < pn) (hpn : pn ≤ 4096)
    {A9 : Option Addr} {c9 : Nat} {bb : List Int} (hbb : ∀ x ∈ bb, 0 ≤ x ∧ x < 256) (hc9 : bb.length ≤ c9) (hl9 : bb.length ≤ 256) (hF : Kd.F (Kd.int .u8) w (fun k => own k ∧ k ≠ g ∧ ∀ i c b, w.heap[g]? = some (gatO i c (some b)) → k ≠ b) A9 bb.length bb) (hlt : pid < id) :
    Calls Try.prog 51 #[.pointer (some ⟨g, 0, none⟩), .agg #[.int .u64 pid, .int .i64 (pat : Int), .int .i64 (pn : Int), .slice A9 bb.length c9]] w (TakePost w own g (id, cnt, ps) (takeV id cnt ps pid pat pn bb)) := by
  obtain ⟨R, hR⟩ : ∃ R, takeV id cnt ps pid pat pn bb = R := ⟨_, rfl⟩
  rw [hR]
  have hRv : R = some ((id, cnt, ps), ([], false)) := by rw [← hR]; unfold takeV; rw [if_pos hlt]
  obtain ⟨b, hg⟩ : ∃ m, w.heap[g]? = some (gatO id cnt m) := by
    rcases hG.2 with ⟨h1, _, _, _⟩ | ⟨_, _, b, h, _⟩
    · omega
    · exact ⟨_, h⟩
  have hb1 : Below w.heap.size w (w.alloc (partO pid pat pn (.slice A9 bb.length c9))) := below_alloc (Below.refl _ _) _
  have hp1 : (w.alloc (partO pid pat pn (.slice A9 bb.length c9))).heap[w.heap.size]? = some (partO pid pat pn (.slice A9 bb.length c9)) := alloc_new _ _
  have hg1 := (Mu.of_below hb1 (fun _ => False)).heap hg (fun h => h)
  have x0 := blk_cell hp1 0
  have y0 := blk_cell hg1 0
  have d1 : decide (pid < id) = true := decide_eq_true hlt
  have HG := Aside0.mk (And.intro hG hb1)
  have HRV := Aside0.mk hRv
  clear hRv hR hG hnew hid hpat hpn hF hb1 hp1 hg hg1 hlt
  go_enter Try.func51, Try.ntmps51
  go_wp2_with fail
  go_quiet (fail)
  go_wp2_with fail
  go_ret2
  rw [HRV.out]
  refine ⟨(HG.out.1.below HG.out.2).below (pw_below_drewN (Below.refl _ _) _), (Mu.of_below HG.out.2 own).drewN _, _, rfl, Kd.R_nil _ _ _ _ _⟩
set_option maxHeartbeats 4000000 in
theorem takes_gt {w : World} {own : Nat → Prop} {g : Nat} {id cnt : Int} {ps : List (List Int)} (hG : GatAt w own g id cnt ps) (hnew : ∀ k, w.heap.size ≤ k → own k) (pid : Int) (pat pn : Nat) (hid : 1 ≤ pid ∧ pid ≤ 4611686018427387904) (hpat : pat < pn) (hpn : pn ≤ 4096)
    {A9 : Option Addr} {c9 : Nat} {bb : List Int} (hbb : ∀ x ∈ bb, 0 ≤ x ∧ x < 256) (hc9 : bb.length ≤ c9) (hl9 : bb.length ≤ 256) (hF : Kd.F (Kd.int .u8) w (fun k => own k ∧ k ≠ g ∧ ∀ i c b, w.heap[g]? = some (gatO i c (some b)) → k ≠ b) A9 bb.length bb) (hlt : id < pid) :
    Calls Try.prog 51 #[.pointer (some ⟨g, 0, none⟩), .agg #[.int .u64 pid, .int .i64 (pat : Int), .int .i64 (pn : Int), .slice A9 bb.length c9]] w (TakePost w own g (id, cnt, ps) (takeV id cnt ps pid pat pn bb)) := by
  obtain ⟨R, hR⟩ : ∃ R, takeV id cnt ps pid pat pn bb = R := ⟨_, rfl⟩
  rw [hR]
  obtain ⟨m, hg⟩ : ∃ m, w.heap[g]? = some (gatO id cnt m) := by
    rcases hG.2 with ⟨h1, h2, _, h⟩ | ⟨_, _, b, h, _⟩
    · subst h1 h2; exact ⟨_, h⟩
    · exact ⟨_, h⟩
  obtain ⟨w1, hw1⟩ : ∃ w1, w.alloc (partO pid pat pn (.slice A9 bb.length c9)) = w1 := ⟨_, rfl⟩
  have hb1 : Below w.heap.size w w1 := by rw [← hw1]; exact below_alloc (Below.refl _ _) _
  have hp1 : w1.heap[w.heap.size]? = some (partO pid pat pn (.slice A9 bb.length c9)) := by rw [← hw1]; exact alloc_new _ _
  have hs1 : w1.heap.size = w.heap.size + 1 := by rw [← hw1]; simp
  have hg1 := (Mu.of_below hb1 (fun _ => False)).heap hg (fun h => h)
  have hgl : g < w.heap.size := heap_lt hg
  have x0 := blk_cell hp1 0
  have y0 := blk_cell hg1 0
  have y1 := blk_cell hg1 1
  have y2 := blk_cell hg1 2
  have z0 := blk_frozen hg1 0
  have z1 := blk_frozen hg1 1
  have z2 := blk_frozen hg1 2
  have x2 := blk_cell hp1 2
  have d1 : decide (pid < id) = false := decide_eq_false (by omega)
  have d2 : decide (id < pid) = true := decide_eq_true hlt
  have hne : g ≠ w.heap.size := by omega
  have HST : Aside0 (St w1 g (.int .u64 id) (.int .i64 cnt) (.map m) 0 w1) := ⟨⟨hg1, rfl, by omega, Mu.refl _ _, fun h => by cases h⟩⟩
  have HG := Aside0.mk (And.intro hG (And.intro hb1 (And.intro hs1 (And.intro hgl hp1))))
  have HW1 := Aside0.mk hw1
  have HN := Aside0.mk (And.intro hnew (And.intro hid (And.intro hpat hpn)))
  have HF := Aside0.mk hF
  have HBB := Aside0.mk (And.intro hbb (And.intro hc9 hl9))
  have HR := Aside0.mk hR
  have HM := Aside0.mk hg
  clear hR hG hnew hid hpat hpn hF hb1 hp1 hg1 hg hs1 hlt hbb hc9 hl9 hw1 hgl
  go_enter Try.func51, Try.ntmps51
  go_upto_region 1 with fail
  rw [HW1.out]
  go_quiet (fail)
  go_wp2_with fail
  go_quiet (fail)
  go_wp2_with fail
  generalize hW3 : (w1.drewN _).drewN _ = W3
  have HNE : Aside0 (¬ (w.heap.size = g)) := ⟨fun e => hne e.symm⟩
  have HS_ : Aside0 (St w1 g (.int .u64 id) (.int .i64 cnt) (.map m) 0 W3.drew) := ⟨by rw [← hW3]; exact ((HST.out.drewN _).drewN _).drew⟩
  clear hW3
  refine start_ (n := 17) (S := fun w' => w'.cell? ⟨w.heap.size, 0, none⟩ = some (.int .u64 pid) ∧ w'.cell? ⟨w.heap.size, 2, none⟩ = some (.int .i64 (pn : Int))) (ds := [16]) #[false, false, false, false, false, false, false, false, false, false, false, false, false, false, false, false, false] (by kernel_rfl) rfl rfl ⟨(blk_cell (HS_.out.mu.heap HG.out.2.2.2.2 HNE.out) 0), (blk_cell (HS_.out.mu.heap HG.out.2.2.2.2 HNE.out) 2)⟩ (fun hHeld => ?_)
  refine pure_ (i := 0) (N := some 24) (v := ?_) (a' := ?_) #[true, false, false, false, false, false, false, false, false, false, false, false, false, false, false, false, false] rfl rfl (by kernel_rfl) (fun _ _ _ h => h) (Or.inl ⟨by rfl, ?_⟩) ?_ ?_
  rotate_left
  · intro w'
    go_simp
    with_reducible rfl
  rotate_left
  · simp only [Act.put, List.setIfInBounds_toArray, List.set_cons_zero, List.set_cons_succ, i64_w, i32_w]
    rfl
  refine pure_ (i := 1) (N := some 25) (v := ?_) (a' := ?_) #[true, true, false, false, false, false, false, false, false, false, false, false, false, false, false, false, false] rfl rfl (by kernel_rfl) (fun _ _ _ h => h) (Or.inl ⟨by rfl, ?_⟩) ?_ ?_
  rotate_left
  · intro w'
    go_simp
    with_reducible rfl
  rotate_left
  · simp only [Act.put, List.setIfInBounds_toArray, List.set_cons_zero, List.set_cons_succ, i64_w, i32_w]
    rfl
  refine pure_ (i := 2) (N := some 26) (v := ?_) (a' := ?_) #[true, true, true, false, false, false, false, false, false, false, false, false, false, false, false, false, false] rfl rfl (by kernel_rfl) (fun _ _ _ h => h) (Or.inl ⟨by rfl, ?_⟩) ?_ ?_
  rotate_left
  · intro w'
    go_simp
    with_reducible rfl
  rotate_left
  · simp only [Act.put, List.setIfInBounds_toArray, List.set_cons_zero, List.set_cons_succ, i64_w, i32_w]
    rfl
  refine pure_ (i := 3) (N := some 27) (v := ?_) (a' := ?_) #[true, true, true, true, false, false, false, false, false, false, false, false, false, false, false, false, false] rfl rfl (by kernel_rfl) (fun _ _ _ h => h) (Or.inl ⟨by rfl, ?_⟩) ?_ ?_
  rotate_left
  · intro w'
    go_simp
    with_reducible rfl
  rotate_left
  · simp only [Act.put, List.setIfInBounds_toArray, List.set_cons_zero, List.set_cons_succ, i64_w, i32_w]
    rfl
  refine pure_ (i := 5) (N := some 29) (v := ?_) (a' := ?_) #[true, true, true, true, false, true, false, false, false, false, false, false, false, false, false, false, false] rfl rfl (by kernel_rfl) (fun _ _ _ h => h) (Or.inl ⟨by rfl, ?_⟩) ?_ ?_
  rotate_left
  · intro w'
    go_simp
    with_reducible rfl
  rotate_left
  · simp only [Act.put, List.setIfInBounds_toArray, List.set_cons_zero, List.set_cons_succ, i64_w, i32_w]
    rfl
  refine take_ (i := 4) (N := some 28) (v := ?_) (a' := ?_) #[true, true, true, true, true, true, false, false, false, false, false, false, false, false, false, false, false] rfl rfl (by kernel_rfl) (fun _ _ _ h => h) (Or.inl ⟨by rfl, ?_⟩) hHeld ?_ ?_
  rotate_left
  · rintro w' ⟨s0, s1⟩
    go_simp
    with_reducible rfl
  rotate_left
  · simp only [Act.put, List.setIfInBounds_toArray, List.set_cons_zero, List.set_cons_succ, i64_w, i32_w]
    rfl
  refine pure_ (i := 8) (N := some 32) (v := ?_) (a' := ?_) #[true, true, true, true, true, true, false, false, true, false, false, false, false, false, false, false, false] rfl rfl (by kernel_rfl) (fun _ _ _ h => h) (Or.inl ⟨by rfl, ?_⟩) ?_ ?_
  rotate_left
  · intro w'
    go_simp
    with_reducible rfl
  rotate_left
  · simp only [Act.put, List.setIfInBounds_toArray, List.set_cons_zero, List.set_cons_succ, i64_w, i32_w]
    rfl
  refine pure_ (i := 9) (N := some 33) (v := ?_) (a' := ?_) #[true, true, true, true, true, true, false, false, true, true, false, false, false, false, false, false, false] rfl rfl (by kernel_rfl) (fun _ _ _ h => h) (Or.inl ⟨by rfl, ?_⟩) ?_ ?_
  rotate_left
  · intro w'
    go_simp
    with_reducible rfl
  rotate_left
  · simp only [Act.put, List.setIfInBounds_toArray, List.set_cons_zero, List.set_cons_succ, i64_w, i32_w]
    rfl
  refine take_ (i := 6) (N := some 30) (v := ?_) (a' := ?_) #[true, true, true, true, true, true, true, false, true, true, false, false, false, false, false, false, false] rfl rfl (by kernel_rfl) (fun _ _ _ h => h) (Or.inl ⟨by rfl, ?_⟩) hHeld ?_ ?_
  rotate_left
  · rintro w' ⟨s0, s1⟩
    go_simp
    with_reducible rfl
  rotate_left
  · simp only [Act.put, List.setIfInBounds_toArray, List.set_cons_zero, List.set_cons_succ, i64_w, i32_w]
    rfl
  refine join_ (σ := Unit) 3 #[true, true, true, true, true, true, true, true, true, true, true, true, true, true, false, false, false] (fun _ => [(31, .map (some (w.heap.size + 1))), (34, .pointer (some ⟨g, 0, none⟩)), (35, .pointer (some ⟨g, 1, none⟩))]) (fun _ w' => St w1 g (.int .u64 pid) (.int .i64 (pn : Int)) (.map m) 1 w') ?_ ?_
  rotate_left
  · intro hCont
    refine two_ (i := 7) (j := 10) (Ni := some 31) (Nj := none) #[true, true, true, true, true, true, true, true, true, true, false, false, false, false, false, false, false] #[true, true, true, true, true, true, true, false, true, true, true, false, false, false, false, false, false] rfl rfl rfl rfl (by kernel_rfl) (by decide) (by decide) (fun K hK => ?_) (fun K hK => ?_)
    · skip
      refine value_ (by rfl) rfl (exec_makeF (n := w.heap.size + 1) rfl (by rw [HS_.out.size]; exact HG.out.2.2.1)) ?_
      have HS_7 := Aside0.mk HS_.out.alloc
      refine hK.out _ _ ⟨(blk_cell (HS_7.out.mu.heap HG.out.2.2.2.2 HNE.out) 0), (blk_cell (HS_7.out.mu.heap HG.out.2.2.2.2 HNE.out) 2)⟩ (fun hHeld => ?_)
      clear hK K
      refine norm_ (a' := ?_) ?_ ?_
      rotate_left
      · show Act.put _ (some 31) _ = _
        simp only [Act.put, List.setIfInBounds_toArray, List.set_cons_zero, List.set_cons_succ, i64_w, i32_w]
        rfl
      refine one_ (i := 10) (N := none) #[true, true, true, true, true, true, true, true, true, true, true, false, false, false, false, false, false] rfl rfl (by kernel_rfl) (by decide) (fun K hK => ?_)
      refine skip_ (by rfl) rfl (exec_storeF rfl (by rfl) (by rfl) (HS_7.out.st0 pid)) ?_
      have HS_7_10 := Aside0.mk (HS_7.out.set0 (x := .int .u64 pid))
      refine hK.out _ _ ⟨(blk_cell (HS_7_10.out.mu.heap HG.out.2.2.2.2 HNE.out) 0), (blk_cell (HS_7_10.out.mu.heap HG.out.2.2.2.2 HNE.out) 2)⟩ (fun hHeld => ?_)
      clear hK K
      refine pure_ (i := 11) (N := some 34) (v := ?_) (a' := ?_) #[true, true, true, true, true, true, true, true, true, true, true, true, false, false, false, false, false] rfl rfl (by kernel_rfl) (fun _ _ _ h => h) (Or.inl ⟨by rfl, ?_⟩) ?_ ?_
      rotate_left
      · intro w'
        go_simp
        with_reducible rfl
      rotate_left
      · simp only [Act.put, List.setIfInBounds_toArray, List.set_cons_zero, List.set_cons_succ, i64_w, i32_w]
        rfl
      refine pure_ (i := 12) (N := some 35) (v := ?_) (a' := ?_) #[true, true, true, true, true, true, true, true, true, true, true, true, true, false, false, false, false] rfl rfl (by kernel_rfl) (fun _ _ _ h => h) (Or.inl ⟨by rfl, ?_⟩) ?_ ?_
      rotate_left
      · intro w'
        go_simp
        with_reducible rfl
      rotate_left
      · simp only [Act.put, List.setIfInBounds_toArray, List.set_cons_zero, List.set_cons_succ, i64_w, i32_w]
        rfl
      refine one_ (i := 13) (N := none) #[true, true, true, true, true, true, true, true, true, true, true, true, true, true, false, false, false] rfl rfl (by kernel_rfl) (by decide) (fun K hK => ?_)
      refine skip_ (by rfl) rfl (exec_storeF rfl (by rfl) (by rfl) (HS_7_10.out.st1 (pn : Int))) ?_
      have HS_7_10_13 := Aside0.mk (HS_7_10.out.set1 (x := .int .i64 (pn : Int)))
      refine hK.out _ _ ⟨(blk_cell (HS_7_10_13.out.mu.heap HG.out.2.2.2.2 HNE.out) 0), (blk_cell (HS_7_10_13.out.mu.heap HG.out.2.2.2.2 HNE.out) 2)⟩ (fun hHeld => ?_)
      clear hK K
      exact norm_ (by simp only [putAll, Act.put, List.setIfInBounds_toArray, List.set_cons_zero, List.set_cons_succ]) (hCont () _ HS_7_10_13.out)
    · skip
      refine skip_ (by rfl) rfl (exec_storeF rfl (by rfl) (by rfl) (HS_.out.st0 pid)) ?_
      have HS_10 := Aside0.mk (HS_.out.set0 (x := .int .u64 pid))
      refine hK.out _ _ ⟨(blk_cell (HS_10.out.mu.heap HG.out.2.2.2.2 HNE.out) 0), (blk_cell (HS_10.out.mu.heap HG.out.2.2.2.2 HNE.out) 2)⟩ (fun hHeld => ?_)
      clear hK K
      refine pure_ (i := 11) (N := some 34) (v := ?_) (a' := ?_) #[true, true, true, true, true, true, true, false, true, true, true, true, false, false, false, false, false] rfl rfl (by kernel_rfl) (fun _ _ _ h => h) (Or.inl ⟨by rfl, ?_⟩) ?_ ?_
      rotate_left
      · intro w'
        go_simp
        with_reducible rfl
      rotate_left
      · simp only [Act.put, List.setIfInBounds_toArray, List.set_cons_zero, List.set_cons_succ, i64_w, i32_w]
        rfl
      refine pure_ (i := 12) (N := some 35) (v := ?_) (a' := ?_) #[true, true, true, true, true, true, true, false, true, true, true, true, true, false, false, false, false] rfl rfl (by kernel_rfl) (fun _ _ _ h => h) (Or.inl ⟨by rfl, ?_⟩) ?_ ?_
      rotate_left
      · intro w'
        go_simp
        with_reducible rfl
      rotate_left
      · simp only [Act.put, List.setIfInBounds_toArray, List.set_cons_zero, List.set_cons_succ, i64_w, i32_w]
        rfl
      refine two_ (i := 7) (j := 13) (Ni := some 31) (Nj := none) #[true, true, true, true, true, true, true, true, true, true, true, true, true, false, false, false, false] #[true, true, true, true, true, true, true, false, true, true, true, true, true, true, false, false, false] rfl rfl rfl rfl (by kernel_rfl) (by decide) (by decide) (fun K hK => ?_) (fun K hK => ?_)
      · skip
        refine value_ (by rfl) rfl (exec_makeF (n := w.heap.size + 1) rfl (by rw [HS_10.out.size]; exact HG.out.2.2.1)) ?_
        have HS_10_7 := Aside0.mk HS_10.out.alloc
        refine hK.out _ _ ⟨(blk_cell (HS_10_7.out.mu.heap HG.out.2.2.2.2 HNE.out) 0), (blk_cell (HS_10_7.out.mu.heap HG.out.2.2.2.2 HNE.out) 2)⟩ (fun hHeld => ?_)
        clear hK K
        refine norm_ (a' := ?_) ?_ ?_
        rotate_left
        · show Act.put _ (some 31) _ = _
          simp only [Act.put, List.setIfInBounds_toArray, List.set_cons_zero, List.set_cons_succ, i64_w, i32_w]
          rfl
        refine one_ (i := 13) (N := none) #[true, true, true, true, true, true, true, true, true, true, true, true, true, true, false, false, false] rfl rfl (by kernel_rfl) (by decide) (fun K hK => ?_)
        refine skip_ (by rfl) rfl (exec_storeF rfl (by rfl) (by rfl) (HS_10_7.out.st1 (pn : Int))) ?_
        have HS_10_7_13 := Aside0.mk (HS_10_7.out.set1 (x := .int .i64 (pn : Int)))
        refine hK.out _ _ ⟨(blk_cell (HS_10_7_13.out.mu.heap HG.out.2.2.2.2 HNE.out) 0), (blk_cell (HS_10_7_13.out.mu.heap HG.out.2.2.2.2 HNE.out) 2)⟩ (fun hHeld => ?_)
        clear hK K
        exact norm_ (by simp only [putAll, Act.put, List.setIfInBounds_toArray, List.set_cons_zero, List.set_cons_succ]) (hCont () _ HS_10_7_13.out)
      · skip
        refine skip_ (by rfl) rfl (exec_storeF rfl (by rfl) (by rfl) (HS_10.out.st1 (pn : Int))) ?_
        have HS_10_13 := Aside0.mk (HS_10.out.set1 (x := .int .i64 (pn : Int)))
        refine hK.out _ _ ⟨(blk_cell (HS_10_13.out.mu.heap HG.out.2.2.2.2 HNE.out) 0), (blk_cell (HS_10_13.out.mu.heap HG.out.2.2.2.2 HNE.out) 2)⟩ (fun hHeld => ?_)
        clear hK K
        refine one_ (i := 7) (N := some 31) #[true, true, true, true, true, true, true, true, true, true, true, true, true, true, false, false, false] rfl rfl (by kernel_rfl) (by decide) (fun K hK => ?_)
        refine value_ (by rfl) rfl (exec_makeF (n := w.heap.size + 1) rfl (by rw [HS_10_13.out.size]; exact HG.out.2.2.1)) ?_
        have HS_10_13_7 := Aside0.mk HS_10_13.out.alloc
        refine hK.out _ _ ⟨(blk_cell (HS_10_13_7.out.mu.heap HG.out.2.2.2.2 HNE.out) 0), (blk_cell (HS_10_13_7.out.mu.heap HG.out.2.2.2.2 HNE.out) 2)⟩ (fun hHeld => ?_)
        clear hK K
        refine norm_ (a' := ?_) ?_ ?_
        rotate_left
        · show Act.put _ (some 31) _ = _
          simp only [Act.put, List.setIfInBounds_toArray, List.set_cons_zero, List.set_cons_succ, i64_w, i32_w]
          rfl
        exact norm_ (by simp only [putAll, Act.put, List.setIfInBounds_toArray, List.set_cons_zero, List.set_cons_succ]) (hCont () _ HS_10_13_7.out)
  rintro _ w' hS3
  have HS3 := Aside0.mk hS3
  clear hS3
  have hHeld : w'.cell? ⟨w.heap.size, 0, none⟩ = some (.int .u64 pid) ∧ w'.cell? ⟨w.heap.size, 2, none⟩ = some (.int .i64 (pn : Int)) := ⟨(blk_cell (HS3.out.mu.heap HG.out.2.2.2.2 HNE.out) 0), (blk_cell (HS3.out.mu.heap HG.out.2.2.2.2 HNE.out) 2)⟩
  refine norm_ (a' := ?_) ?_ ?_
  rotate_left
  · simp only [putAll, Act.put, List.setIfInBounds_toArray, List.set_cons_zero, List.set_cons_succ]
    rfl
  refine pure_ (i := 14) (N := some 36) (v := ?_) (a' := ?_) #[true, true, true, true, true, true, true, true, true, true, true, true, true, true, true, false, false] rfl rfl (by kernel_rfl) (fun _ _ _ h => h) (Or.inl ⟨by rfl, ?_⟩) ?_ ?_
  rotate_left
  · intro w'
    go_simp
    with_reducible rfl
  rotate_left
  · simp only [Act.put, List.setIfInBounds_toArray, List.set_cons_zero, List.set_cons_succ, i64_w, i32_w]
    rfl
  refine pure_ (i := 15) (N := some 37) (v := ?_) (a' := ?_) #[true, true, true, true, true, true, true, true, true, true, true, true, true, true, true, true, false] rfl rfl (by kernel_rfl) (fun _ _ _ h => h) (Or.inl ⟨by rfl, ?_⟩) ?_ ?_
  rotate_left
  · intro w'
    go_simp
    with_reducible rfl
  rotate_left
  · simp only [Act.put, List.setIfInBounds_toArray, List.set_cons_zero, List.set_cons_succ, i64_w, i32_w]
    rfl
  refine last_ (i := 16) (N := none) #[true, true, true, true, true, true, true, true, true, true, true, true, true, true, true, true, true] rfl rfl (by kernel_rfl) (by decide) (fun K hK => ?_)
  refine skip_ (by rfl) rfl (exec_storeF rfl (by rfl) (by rfl) (HS3.out.st2 (some (w.heap.size + 1)))) ?_
  have HS4 := Aside0.mk (HS3.out.set2 (x := .map (some (w.heap.size + 1))))
  refine hK.out _ _ ?_
  clear hK K
  refine done_ (by kernel_rfl) ?_
  obtain ⟨PS, hPS⟩ : ∃ PS, List.replicate pn noP = PS := ⟨_, rfl⟩
  have hPl : PS.length = pn := by rw [← hPS, List.length_replicate]
  have hT : Tl w own g (w.heap.size + 1) w.heap.size pid PS (partO pid (pat : Int) (pn : Int) (.slice A9 bb.length c9)) A9 bb (w'.setCell ⟨g, 2, none⟩ (.map (some (w.heap.size + 1)))) := by
    refine ⟨by rw [hPl]; exact HS4.out.at_, HS4.out.mu.heap HG.out.2.2.2.2 HNE.out, ?_, (Mu.of_below HG.out.2.1 own).trans (HS4.out.mu.mono (fun k _ e => e ▸ HG.out.1.1)), ?_⟩
    · rw [← hPS]
      exact map_at_new (by have := HS4.out.new rfl; rwa [HG.out.2.2.1] at this) HN.out.2.2.2 (HN.out.1 _ (by omega)) (by have := HG.out.2.2.2.1; omega)
    · refine Kd.F_mono (Kd.F_step (Kd.F_bound HF.out) (fun k hk hl => ?_)) (fun k hk => ⟨hk.1.1, hk.1.2.1, by have := hk.2; omega⟩)
      exact (HS4.out.mu.block k (by rw [HG.out.2.2.1]; omega) hk.1.2.1).trans (HG.out.2.1.block k hk.2)
  generalize (w'.setCell ⟨g, 2, none⟩ (.map (some (w.heap.size + 1)))) = W4 at hT ⊢
  have HTW4 := Aside0.mk hT
  have HPL := Aside0.mk hPl
  have HPI := Aside0.mk (show pat < PS.length by rw [hPl]; exact HN.out.2.2.1)
  have HPG := Aside0.mk (show PS.getD pat noP = noP by rw [← hPS, List.getD_eq_getElem?_getD, List.getElem?_replicate, if_pos HN.out.2.2.1]; rfl)
  have HNB := Aside0.mk (show w.heap.size ≠ w.heap.size + 1 by omega)
  have HOG := Aside0.mk HG.out.1.1
  have HID := Aside0.mk (show pid = pid from rfl)
  have HRV : Aside0 (R = some ((pid, (PS.length : Int), PS.set pat bb), if haveN (PS.set pat bb) < PS.length then ([], false) else ((PS.set pat bb).flatten, true))) := ⟨by rw [← HR.out, hPl, ← hPS]; unfold takeV; rw [if_neg (by have := of_decide_eq_false d1; exact this), if_pos (of_decide_eq_true d2)]⟩
  clear hT hPS hPl HS3 HS4 HS_ hne
  have y1 := blk_cell HTW4.out.at_ 1
  have y2 := blk_cell HTW4.out.at_ 2
  have x1 := blk_cell HTW4.out.pb_ 1
  have x2 := blk_cell HTW4.out.pb_ 2
  have hlk := HTW4.out.none_ HPI.out HPG.out
  go_wp2_with fail
  go_quiet (fail)
  clear hlk y1 y2 x1 x2
  generalize hW_W5 : W4.drewN _ = W5
  have HTW5 : Aside0 (Tl w own g (w.heap.size + 1) w.heap.size pid PS (partO pid (pat : Int) (pn : Int) (.slice A9 bb.length c9)) A9 bb W5) := ⟨by rw [← hW_W5]; exact HTW4.out.drewN _⟩
  clear hW_W5
  have y1 := blk_cell HTW5.out.at_ 1
  have x2 := blk_cell HTW5.out.pb_ 2
  have e1 : ((pn : Int) == (PS.length : Int)) = true := beq_iff_eq.2 (by rw [HPL.out])
  have hask := fun (m : Nat) => Calls.quiet_of_same (n := m) (w := W5) ((fasks_ok (b := true) (w := W5.drewN m) rfl).mono fun _ _ z => ⟨z.1, z.2.symm⟩)
  go_wp2_with fail
  go_quiet ((go_at_call 60; exact hask _))
  clear hask y1 x2 e1
  generalize hW_W6 : W5.drewN _ = W6
  have HTW6 : Aside0 (Tl w own g (w.heap.size + 1) w.heap.size pid PS (partO pid (pat : Int) (pn : Int) (.slice A9 bb.length c9)) A9 bb W6) := ⟨by rw [← hW_W6]; exact HTW5.out.drewN _⟩
  clear hW_W6
  go_wp2_with fail
  obtain ⟨W8, hst8, hT8⟩ := HTW6.out.drew.store HNB.out (i := pat) HPI.out HBB.out.1 HBB.out.2.2 HBB.out.2.1
  have HTW8 := Aside0.mk hT8
  clear hT8
  refine start_ (n := 9) (S := fun w' => w'.cell? ⟨g, 2, none⟩ = some (.map (some (w.heap.size + 1))) ∧ w'.cell? ⟨w.heap.size, 1, none⟩ = some (.int .i64 (pat : Int)) ∧ w'.cell? ⟨w.heap.size, 3, none⟩ = some (.slice A9 bb.length c9)) (ds := [8]) #[false, false, false, false, false, false, false, false, false] (by kernel_rfl) rfl rfl ⟨(blk_cell HTW6.out.drew.at_ 2), (blk_cell HTW6.out.drew.pb_ 1), (blk_cell HTW6.out.drew.pb_ 3)⟩ (fun hHeld => ?_)
  refine pure_ (i := 0) (N := some 66) (v := ?_) (a' := ?_) #[true, false, false, false, false, false, false, false, false] rfl rfl (by kernel_rfl) (fun _ _ _ h => h) (Or.inl ⟨by rfl, ?_⟩) ?_ ?_
  rotate_left
  · intro w'
    go_simp
    with_reducible rfl
  rotate_left
  · simp only [Act.put, List.setIfInBounds_toArray, List.set_cons_zero, List.set_cons_succ, i64_w, i32_w]
    rfl
  refine pure_ (i := 1) (N := some 67) (v := ?_) (a' := ?_) #[true, true, false, false, false, false, false, false, false] rfl rfl (by kernel_rfl) (fun _ _ _ h => h) (Or.inl ⟨by rfl, ?_⟩) ?_ ?_
  rotate_left
  · intro w'
    go_simp
    with_reducible rfl
  rotate_left
  · simp only [Act.put, List.setIfInBounds_toArray, List.set_cons_zero, List.set_cons_succ, i64_w, i32_w]
    rfl
  refine pure_ (i := 2) (N := some 68) (v := ?_) (a' := ?_) #[true, true, true, false, false, false, false, false, false] rfl rfl (by kernel_rfl) (fun _ _ _ h => h) (Or.inl ⟨by rfl, ?_⟩) ?_ ?_
  rotate_left
  · intro w'
    go_simp
    with_reducible rfl
  rotate_left
  · simp only [Act.put, List.setIfInBounds_toArray, List.set_cons_zero, List.set_cons_succ, i64_w, i32_w]
    rfl
  refine pure_ (i := 4) (N := some 70) (v := ?_) (a' := ?_) #[true, true, true, false, true, false, false, false, false] rfl rfl (by kernel_rfl) (fun _ _ _ h => h) (Or.inl ⟨by rfl, ?_⟩) ?_ ?_
  rotate_left
  · intro w'
    go_simp
    with_reducible rfl
  rotate_left
  · simp only [Act.put, List.setIfInBounds_toArray, List.set_cons_zero, List.set_cons_succ, i64_w, i32_w]
    rfl
  refine pure_ (i := 6) (N := some 72) (v := ?_) (a' := ?_) #[true, true, true, false, true, false, true, false, false] rfl rfl (by kernel_rfl) (fun _ _ _ h => h) (Or.inl ⟨by rfl, ?_⟩) ?_ ?_
  rotate_left
  · intro w'
    go_simp
    with_reducible rfl
  rotate_left
  · simp only [Act.put, List.setIfInBounds_toArray, List.set_cons_zero, List.set_cons_succ, i64_w, i32_w]
    rfl
  refine take_ (i := 3) (N := some 69) (v := ?_) (a' := ?_) #[true, true, true, true, true, false, true, false, false] rfl rfl (by kernel_rfl) (fun _ _ _ h => h) (Or.inl ⟨by rfl, ?_⟩) hHeld ?_ ?_
  rotate_left
  · rintro w' ⟨s0, s1, s2⟩
    go_simp
    with_reducible rfl
  rotate_left
  · simp only [Act.put, List.setIfInBounds_toArray, List.set_cons_zero, List.set_cons_succ, i64_w, i32_w]
    rfl
  refine take_ (i := 5) (N := some 71) (v := ?_) (a' := ?_) #[true, true, true, true, true, true, true, false, false] rfl rfl (by kernel_rfl) (fun _ _ _ h => h) (Or.inl ⟨by rfl, ?_⟩) hHeld ?_ ?_
  rotate_left
  · rintro w' ⟨s0, s1, s2⟩
    go_simp
    with_reducible rfl
  rotate_left
  · simp only [Act.put, List.setIfInBounds_toArray, List.set_cons_zero, List.set_cons_succ, i64_w, i32_w]
    rfl
  refine take_ (i := 7) (N := some 73) (v := ?_) (a' := ?_) #[true, true, true, true, true, true, true, true, false] rfl rfl (by kernel_rfl) (fun _ _ _ h => h) (Or.inl ⟨by rfl, ?_⟩) hHeld ?_ ?_
  rotate_left
  · rintro w' ⟨s0, s1, s2⟩
    go_simp
    with_reducible rfl
  rotate_left
  · simp only [Act.put, List.setIfInBounds_toArray, List.set_cons_zero, List.set_cons_succ, i64_w, i32_w]
    rfl
  refine last_ (i := 8) (N := none) #[true, true, true, true, true, true, true, true, true] rfl rfl (by kernel_rfl) (by decide) (fun K hK => ?_)
  refine skip_ (by rfl) rfl (exec_updF rfl (by rfl) (by rfl) (by rfl) hst8) ?_
  refine hK.out _ _ ?_
  clear hK K
  refine done_ (by kernel_rfl) ?_
  clear hst8
  obtain ⟨PQ, hPQ⟩ : ∃ PQ, PS.set pat bb = PQ := ⟨_, rfl⟩
  have hPQl : PQ.length = PS.length := by rw [← hPQ, List.length_set]
  rw [hPQ] at HTW8 HRV
  rw [← hPQl] at HRV
  have HPQ := Aside0.mk hPQ
  have HQL := Aside0.mk (show PQ.length ≤ 4096 by rw [hPQl, HPL.out]; exact HN.out.2.2.2)
  clear hPQ hPQl
  have y1 := blk_cell HTW8.out.at_ 1
  have y2 := blk_cell HTW8.out.at_ 2
  have hlen := HTW8.out.len 3
  by_cases c8 : haveN PQ < PQ.length
  · have d8 : decide ((haveN PQ : Int) < (PQ.length : Int)) = true := decide_eq_true (by omega)
    have d9 : decide (haveN PQ < PQ.length) = true := decide_eq_true c8
    rw [if_pos c8] at HRV
    clear c8
    go_wp2_with fail
    go_quiet (fail)
    go_wp2_with fail
    go_ret2
    rw [HRV.out]
    exact ⟨(HTW8.out.drewN _).gat HOG.out (by have := HN.out.2.1; have := HID.out; omega), (HTW8.out.drewN _).mu, _, rfl, Kd.R_nil _ _ _ _ _⟩
  have d8 : decide ((haveN PQ : Int) < (PQ.length : Int)) = false := decide_eq_false (by omega)
  have d9 : decide (haveN PQ < PQ.length) = false := decide_eq_false c8
  rw [if_neg c8] at HRV
  have HALL := Aside0.mk (have_all PQ c8)
  clear c8
  go_wp2_with fail
  go_quiet (fail)
  clear hlen y1 y2 d8 d9
  generalize hW_W9 : W8.drewN _ = W9
  have HTW9 : Aside0 (Tl w own g (w.heap.size + 1) w.heap.size pid PQ (partO pid (pat : Int) (pn : Int) (.slice A9 bb.length c9)) A9 bb W9) := ⟨by rw [← hW_W9]; exact HTW8.out.drewN _⟩
  clear hW_W9
  have y1 := blk_cell HTW9.out.at_ 1
  have y2 := blk_cell HTW9.out.at_ 2
  have HR0 := Aside0.mk (Kd.R_nil (Kd.int .u8) 5 W9 W9.heap.size (fun _ => True))
  go_wp2_with fail
  clear y1 y2
  go_loopw [8, 9, 91, 92, 93, 94, 95, 96, 97, 98, 99, 100, 101, 102] (fun v8 v9 v91 v92 v93 v94 v95 v96 v97 v98 v99 v100 v101 v102 wr => ∃ i : Nat, i ≤ PQ.length ∧ v91 = .int .i64 (i : Int) ∧ Kd.R (Kd.int .u8) 5 wr W9.heap.size (fun _ => True) v8 (PQ.take i).flatten ∧ (PQ.take i).flatten.length ≤ 256 * i ∧ Below W9.heap.size W9 wr)
    (fun v8 v9 v91 v92 v93 v94 v95 v96 v97 v98 v99 v100 v101 v102 _ => PQ.length - (intOf v91).toNat)
  case atStart => exact ⟨0, Nat.zero_le _, rfl, HR0.out, by simp, Below.refl _ _⟩
  case round =>
    obtain ⟨i, hi, rfl, hR8, hl8, hB8⟩ := hrel
    obtain ⟨X, hX⟩ : ∃ X, (PQ.take i).flatten = X := ⟨_, rfl⟩
    rw [hX] at hR8 hl8
    obtain ⟨A8, c8, rfl⟩ := Kd.R_slice hR8
    have HX := Aside0.mk (And.intro hX (And.intro hl8 hi))
    have HR8 := Aside0.mk hR8
    have HB8 := Aside0.mk hB8
    have HTr : Aside0 (Tl w own g (w.heap.size + 1) w.heap.size pid PQ (partO pid (pat : Int) (pn : Int) (.slice A9 bb.length c9)) A9 bb wr) := ⟨HTW9.out.below HB8.out⟩
    clear hX hl8 hi hR8 hB8
    by_cases hlt : i < PQ.length
    · obtain ⟨Ai, ci, _, hlk, hci, hCi, _, h256⟩ := HTr.out.part hlt (HALL.out i hlt)
      have y2 := blk_cell HTr.out.at_ 2
      have hib : i < 4096 := by have := HQL.out; omega
      obtain ⟨pi, hpi⟩ : ∃ pi, PQ.getD i noP = pi := ⟨_, rfl⟩
      rw [hpi] at hlk hci hCi h256
      have HPI2 := Aside0.mk (And.intro hpi (And.intro h256 hlt))
      have HCi := Aside0.mk hCi
      have HBD : Aside0 ((X.length + pi.length) * 1 ≤ 140737488355328) := ⟨by have := HX.out.2.1; omega⟩
      have HBZ := Aside0.mk HB8.out.size
      clear hpi h256 hCi hci
      go_wp2_with (first | ((with_reducible refine gate_builtin (b := .append) (xs := #[.tmp 94, .tmp 100]) rfl ?_); at_builtin; refine Kd.R_append_rows (Kd.int .u8) (w0 := W9) W9.heap.size rfl (.tmp 94) (.tmp 100) 23 5 (.int .u8 0) 1 rfl Try.underlying23 info5 rfl (by decide) (by decide) (.slice A8 X.length c8) X pi Ai pi.length ci (fun _ => True) (fun _ => False) rfl rfl HR8.out HCi.out (fun _ _ h => h) (fun _ h => h.elim) (fun _ _ => trivial) HB8.out HBZ.out HBD.out ?_; intro v9 w9 hR9 hB9 hg9 hat9; obtain ⟨A10, c10, rfl⟩ := Kd.R_slice hR9; clear hg9 hat9))
      go_roundw
      case rel =>
        refine ⟨i + 1, HPI2.out.2.2, by simp, ?_, ?_, hB9⟩
        · rw [flat_take PQ i HPI2.out.2.2, HPI2.out.1, HX.out.1]
          first
            | exact hR9
            | (rw [List.length_append] at hR9; exact hR9)
        · rw [flat_take PQ i HPI2.out.2.2, HPI2.out.1, HX.out.1, List.length_append]
          have := HX.out.2.1; have := HPI2.out.2.1; omega
      case measure => have := HPI2.out.2.2; simp [intOf] <;> omega
    · have hiN : i = PQ.length := by have := HX.out.2.2; omega
      have hXe : X = PQ.flatten := by rw [← HX.out.1, hiN, List.take_of_length_le (Nat.le_refl _)]
      have HXE := Aside0.mk hXe
      clear hXe
      subst hiN
      have y1 := blk_cell HTr.out.at_ 1
      go_wp2_with fail
      go_ret2
      rw [HRV.out]
      refine ⟨HTr.out.gat HOG.out (by have := HN.out.2.1; have := HID.out; omega), HTr.out.mu, _, rfl, ?_⟩
      rw [← HXE.out]
      exact Kd.R_lower HR8.out HTW9.out.mu.size
set_option maxHeartbeats 4000000 in
theorem takes_eq {w : World} {own : Nat → Prop} {g : Nat} {id cnt : Int} {ps : List (List Int)} (hG : GatAt w own g id cnt ps) (hnew : ∀ k, w.heap.size ≤ k → own k) (pid : Int) (pat pn : Nat) (hid : 1 ≤ pid ∧ pid ≤ 4611686018427387904) (hpat : pat < pn) (hpn : pn ≤ 4096)
    {A9 : Option Addr} {c9 : Nat} {bb : List Int} (hbb : ∀ x ∈ bb, 0 ≤ x ∧ x < 256) (hc9 : bb.length ≤ c9) (hl9 : bb.length ≤ 256) (hF : Kd.F (Kd.int .u8) w (fun k => own k ∧ k ≠ g ∧ ∀ i c b, w.heap[g]? = some (gatO i c (some b)) → k ≠ b) A9 bb.length bb) (h1 : ¬ pid < id) (h2 : ¬ id < pid) :
    Calls Try.prog 51 #[.pointer (some ⟨g, 0, none⟩), .agg #[.int .u64 pid, .int .i64 (pat : Int), .int .i64 (pn : Int), .slice A9 bb.length c9]] w (TakePost w own g (id, cnt, ps) (takeV id cnt ps pid pat pn bb)) := by
  obtain ⟨R, hR⟩ : ∃ R, takeV id cnt ps pid pat pn bb = R := ⟨_, rfl⟩
  rw [hR]
  obtain rfl : pid = id := by omega
  obtain ⟨b, hg, hM, hcnt⟩ : ∃ b, w.heap[g]? = some (gatO pid cnt (some b)) ∧ MapAt w own g b ps ∧ cnt = ps.length := by
    rcases hG.2 with ⟨h, _⟩ | ⟨_, h3, b, h, h4⟩
    · omega
    · exact ⟨b, h, h4, h3⟩
  subst hcnt
  obtain ⟨w1, hw1⟩ : ∃ w1, w.alloc (partO pid pat pn (.slice A9 bb.length c9)) = w1 := ⟨_, rfl⟩
  have hb1 : Below w.heap.size w w1 := by rw [← hw1]; exact below_alloc (Below.refl _ _) _
  have hp1 : w1.heap[w.heap.size]? = some (partO pid pat pn (.slice A9 bb.length c9)) := by rw [← hw1]; exact alloc_new _ _
  have hT : Tl w own g b w.heap.size pid ps (partO pid (pat : Int) (pn : Int) (.slice A9 bb.length c9)) A9 bb w1 := ⟨(Mu.of_below hb1 (fun _ => False)).heap hg (fun h => h), hp1, hM.step (fun k _ _ hl => hb1.block k hl), Mu.of_below hb1 own, Kd.F_mono (Kd.F_below hF hb1) (fun k hk => ⟨hk.1, hk.2.1, hk.2.2 _ _ b hg⟩)⟩
  have HTW1 := Aside0.mk hT
  have x0 := blk_cell hT.pb_ 0
  have y0 := blk_cell hT.at_ 0
  have d1 : decide (pid < pid) = false := decide_eq_false (by omega)
  have HNB := Aside0.mk (show w.heap.size ≠ b by have := hM.lt; omega)
  have HOG := Aside0.mk hG.1
  have HID := Aside0.mk hid.1
  have HW1 := Aside0.mk hw1
  have HN := Aside0.mk (And.intro hnew (And.intro hid (And.intro hpat hpn)))
  have HBB := Aside0.mk (And.intro hbb (And.intro hc9 hl9))
  have HR := Aside0.mk hR
  clear hR hG hnew hid hpat hpn hF hb1 hp1 hg hM hT hbb hc9 hl9 hw1 h1 h2
  go_enter Try.func51, Try.ntmps51
  go_upto_region 1 with fail
  rw [HW1.out]
  go_quiet (fail)
  go_wp2_with fail
  go_quiet (fail)
  generalize hW_W4 : (w1.drewN _).drewN _ = W4
  have HTW4 : Aside0 (Tl w own g b w.heap.size pid ps (partO pid (pat : Int) (pn : Int) (.slice A9 bb.length c9)) A9 bb W4) := ⟨by rw [← hW_W4]; exact (HTW1.out.drewN _).drewN _⟩
  clear hW_W4 x0 y0
  by_cases c1 : pn = ps.length
  case neg =>
    have HRN : Aside0 (R = none) := ⟨by
      rw [← HR.out]; unfold takeV
      rw [if_neg (by omega), if_neg (by omega), if_neg (by omega), if_neg (by omega)]⟩
    have e1 : ((pn : Int) == (ps.length : Int)) = false := beq_eq_false_iff_ne.2 (by omega)
    clear c1
    have y2 := blk_cell HTW4.out.at_ 2
    have x1 := blk_cell HTW4.out.pb_ 1
    obtain ⟨va, xa, hlk⟩ := HTW4.out.any_ (i := pat) (by have := HN.out.2.2; omega)
    go_wp2_with fail
    go_quiet (fail)
    clear hlk y2 x1
    generalize hW_W5 : W4.drewN _ = W5
    have HTW5 : Aside0 (Tl w own g b w.heap.size pid ps (partO pid (pat : Int) (pn : Int) (.slice A9 bb.length c9)) A9 bb W5) := ⟨by rw [← hW_W5]; exact HTW4.out.drewN _⟩
    clear hW_W5
    go_wp2_with fail
    refine start_ (n := 18) (S := fun w' => w'.cell? ⟨g, 1, none⟩ = some (.int .i64 (ps.length : Int)) ∧ w'.cell? ⟨w.heap.size, 2, none⟩ = some (.int .i64 (pn : Int)) ∧ w'.cell? ⟨w.heap.size, 3, none⟩ = some (.slice A9 bb.length c9)) (ds := [17]) #[false, false, false, false, false, false, false, false, false, false, false, false, false, false, false, false, false, false] (by kernel_rfl) rfl rfl ⟨(blk_cell HTW5.out.drew.at_ 1), (blk_cell HTW5.out.drew.pb_ 2), (blk_cell HTW5.out.drew.pb_ 3)⟩ (fun hHeld => ?_)
    refine pure_ (i := 0) (N := some 48) (v := ?_) (a' := ?_) #[true, false, false, false, false, false, false, false, false, false, false, false, false, false, false, false, false, false] rfl rfl (by kernel_rfl) (fun _ _ _ h => h) (Or.inl ⟨by rfl, ?_⟩) ?_ ?_
    rotate_left
    · intro w'
      go_simp
      with_reducible rfl
    rotate_left
    · simp only [Act.put, List.setIfInBounds_toArray, List.set_cons_zero, List.set_cons_succ, i64_w, i32_w]
      rfl
    refine pure_ (i := 2) (N := some 50) (v := ?_) (a' := ?_) #[true, false, true, false, false, false, false, false, false, false, false, false, false, false, false, false, false, false] rfl rfl (by kernel_rfl) (fun _ _ _ h => h) (Or.inl ⟨by rfl, ?_⟩) ?_ ?_
    rotate_left
    · intro w'
      go_simp
      with_reducible rfl
    rotate_left
    · simp only [Act.put, List.setIfInBounds_toArray, List.set_cons_zero, List.set_cons_succ, i64_w, i32_w]
      rfl
    refine pure_ (i := 3) (N := some 51) (v := ?_) (a' := ?_) #[true, false, true, true, false, false, false, false, false, false, false, false, false, false, false, false, false, false] rfl rfl (by kernel_rfl) (fun _ _ _ h => h) (Or.inl ⟨by rfl, ?_⟩) ?_ ?_
    rotate_left
    · intro w'
      go_simp
      with_reducible rfl
    rotate_left
    · simp only [Act.put, List.setIfInBounds_toArray, List.set_cons_zero, List.set_cons_succ, i64_w, i32_w]
      rfl
    refine pure_ (i := 4) (N := some 52) (v := ?_) (a' := ?_) #[true, false, true, true, true, false, false, false, false, false, false, false, false, false, false, false, false, false] rfl rfl (by kernel_rfl) (fun _ _ _ h => h) (Or.inl ⟨by rfl, ?_⟩) ?_ ?_
    rotate_left
    · intro w'
      go_simp
      with_reducible rfl
    rotate_left
    · simp only [Act.put, List.setIfInBounds_toArray, List.set_cons_zero, List.set_cons_succ, i64_w, i32_w]
      rfl
    refine take_ (i := 1) (N := some 49) (v := ?_) (a' := ?_) #[true, true, true, true, true, false, false, false, false, false, false, false, false, false, false, false, false, false] rfl rfl (by kernel_rfl) (fun _ _ _ h => h) (Or.inl ⟨by rfl, ?_⟩) hHeld ?_ ?_
    rotate_left
    · rintro w' ⟨s0, s1, s2⟩
      go_simp
      with_reducible rfl
    rotate_left
    · simp only [Act.put, List.setIfInBounds_toArray, List.set_cons_zero, List.set_cons_succ, i64_w, i32_w]
      rfl
    refine take_ (i := 5) (N := some 53) (v := ?_) (a' := ?_) #[true, true, true, true, true, true, false, false, false, false, false, false, false, false, false, false, false, false] rfl rfl (by kernel_rfl) (fun _ _ _ h => h) (Or.inl ⟨by rfl, ?_⟩) hHeld ?_ ?_
    rotate_left
    · rintro w' ⟨s0, s1, s2⟩
      go_simp
      with_reducible rfl
    rotate_left
    · simp only [Act.put, List.setIfInBounds_toArray, List.set_cons_zero, List.set_cons_succ, i64_w, i32_w]
      rfl
    refine pure_ (i := 6) (N := some 54) (v := ?_) (a' := ?_) #[true, true, true, true, true, true, true, false, false, false, false, false, false, false, false, false, false, false] rfl rfl (by kernel_rfl) (fun _ _ _ h => h) (Or.inl ⟨by rfl, ?_⟩) ?_ ?_
    rotate_left
    · intro w'
      go_simp
      with_reducible rfl
    rotate_left
    · simp only [Act.put, List.setIfInBounds_toArray, List.set_cons_zero, List.set_cons_succ, i64_w, i32_w]
      rfl
    refine pure_ (i := 7) (N := some 55) (v := ?_) (a' := ?_) #[true, true, true, true, true, true, true, true, false, false, false, false, false, false, false, false, false, false] rfl rfl (by kernel_rfl) (fun _ _ _ h => h) (Or.inl ⟨by rfl, ?_⟩) ?_ ?_
    rotate_left
    · intro w'
      go_simp
      with_reducible rfl
    rotate_left
    · simp only [Act.put, List.setIfInBounds_toArray, List.set_cons_zero, List.set_cons_succ, i64_w, i32_w]
      rfl
    refine pure_ (i := 8) (N := some 56) (v := undef) (a' := ?_) #[true, true, true, true, true, true, true, true, true, false, false, false, false, false, false, false, false, false] rfl rfl (by kernel_rfl) (fun _ _ _ h => h) (Or.inr ⟨by rfl, rfl⟩) ?_ ?_
    rotate_left
    · simp only [Act.put, List.setIfInBounds_toArray, List.set_cons_zero, List.set_cons_succ, i64_w, i32_w]
      rfl
    refine pure_ (i := 9) (N := some 57) (v := undef) (a' := ?_) #[true, true, true, true, true, true, true, true, true, true, false, false, false, false, false, false, false, false] rfl rfl (by kernel_rfl) (fun _ _ _ h => h) (Or.inr ⟨by rfl, rfl⟩) ?_ ?_
    rotate_left
    · simp only [Act.put, List.setIfInBounds_toArray, List.set_cons_zero, List.set_cons_succ, i64_w, i32_w]
      rfl
    refine pure_ (i := 10) (N := some 58) (v := undef) (a' := ?_) #[true, true, true, true, true, true, true, true, true, true, true, false, false, false, false, false, false, false] rfl rfl (by kernel_rfl) (fun _ _ _ h => h) (Or.inr ⟨by rfl, rfl⟩) ?_ ?_
    rotate_left
    · simp only [Act.put, List.setIfInBounds_toArray, List.set_cons_zero, List.set_cons_succ, i64_w, i32_w]
      rfl
    refine pure_ (i := 11) (N := some 59) (v := undef) (a' := ?_) #[true, true, true, true, true, true, true, true, true, true, true, true, false, false, false, false, false, false] rfl rfl (by kernel_rfl) (fun _ _ _ h => h) (Or.inr ⟨by rfl, rfl⟩) ?_ ?_
    rotate_left
    · simp only [Act.put, List.setIfInBounds_toArray, List.set_cons_zero, List.set_cons_succ, i64_w, i32_w]
      rfl
    refine pure_ (i := 12) (N := some 60) (v := undef) (a' := ?_) #[true, true, true, true, true, true, true, true, true, true, true, true, true, false, false, false, false, false] rfl rfl (by kernel_rfl) (fun _ _ _ h => h) (Or.inr ⟨by rfl, rfl⟩) ?_ ?_
    rotate_left
    · simp only [Act.put, List.setIfInBounds_toArray, List.set_cons_zero, List.set_cons_succ, i64_w, i32_w]
      rfl
    refine pure_ (i := 13) (N := some 61) (v := undef) (a' := ?_) #[true, true, true, true, true, true, true, true, true, true, true, true, true, true, false, false, false, false] rfl rfl (by kernel_rfl) (fun _ _ _ h => h) (Or.inr ⟨by rfl, rfl⟩) ?_ ?_
    rotate_left
    · simp only [Act.put, List.setIfInBounds_toArray, List.set_cons_zero, List.set_cons_succ, i64_w, i32_w]
      rfl
    refine pure_ (i := 14) (N := some 62) (v := undef) (a' := ?_) #[true, true, true, true, true, true, true, true, true, true, true, true, true, true, true, false, false, false] rfl rfl (by kernel_rfl) (fun _ _ _ h => h) (Or.inr ⟨by rfl, rfl⟩) ?_ ?_
    rotate_left
    · simp only [Act.put, List.setIfInBounds_toArray, List.set_cons_zero, List.set_cons_succ, i64_w, i32_w]
      rfl
    refine pure_ (i := 15) (N := some 63) (v := undef) (a' := ?_) #[true, true, true, true, true, true, true, true, true, true, true, true, true, true, true, true, false, false] rfl rfl (by kernel_rfl) (fun _ _ _ h => h) (Or.inr ⟨by rfl, rfl⟩) ?_ ?_
    rotate_left
    · simp only [Act.put, List.setIfInBounds_toArray, List.set_cons_zero, List.set_cons_succ, i64_w, i32_w]
      rfl
    refine pure_ (i := 16) (N := some 64) (v := ?_) (a' := ?_) #[true, true, true, true, true, true, true, true, true, true, true, true, true, true, true, true, true, false] rfl rfl (by kernel_rfl) (fun _ _ _ h => h) (Or.inl ⟨by rfl, ?_⟩) ?_ ?_
    rotate_left
    · intro w'
      go_simp
      with_reducible rfl
    rotate_left
    · simp only [Act.put, List.setIfInBounds_toArray, List.set_cons_zero, List.set_cons_succ, i64_w, i32_w]
      rfl
    refine last_ (i := 17) (N := some 65) #[true, true, true, true, true, true, true, true, true, true, true, true, true, true, true, true, true, true] rfl rfl (by kernel_rfl) (by decide) (fun K hK => ?_)
    refine goesP_ Try.func60 (by kernel_rfl) rfl #[.bool false] (by rfl) rfl rfl (by (try simp only [List.map_toArray, List.map_cons, List.map_nil]); first | done | rfl) ?_
    refine (fasks_no rfl).mono ?_
    rintro en w7 ⟨rfl, rfl⟩
    rw [HRN.out]
    exact ⟨_, rfl, rfl, HTW5.out.drew.gat HOG.out HID.out, HTW5.out.drew.mu, rfl⟩
  have HPL := Aside0.mk c1.symm
  have HPI := Aside0.mk (show pat < ps.length by have := HN.out.2.2.1; omega)
  by_cases c2 : ps.getD pat noP = noP
  case pos =>
    have HPG := Aside0.mk c2
    have HRV : Aside0 (R = some ((pid, (ps.length : Int), ps.set pat bb), if haveN (ps.set pat bb) < ps.length then ([], false) else ((ps.set pat bb).flatten, true))) := ⟨by
      rw [← HR.out]; unfold takeV
      rw [if_neg (by omega), if_neg (by omega), if_pos ⟨by omega, c2⟩]⟩
    clear c1 c2
    have y1 := blk_cell HTW4.out.at_ 1
    have y2 := blk_cell HTW4.out.at_ 2
    have x1 := blk_cell HTW4.out.pb_ 1
    have x2 := blk_cell HTW4.out.pb_ 2
    have hlk := HTW4.out.none_ HPI.out HPG.out
    go_wp2_with fail
    go_quiet (fail)
    clear hlk y1 y2 x1 x2
    generalize hW_W5 : W4.drewN _ = W5
    have HTW5 : Aside0 (Tl w own g b w.heap.size pid ps (partO pid (pat : Int) (pn : Int) (.slice A9 bb.length c9)) A9 bb W5) := ⟨by rw [← hW_W5]; exact HTW4.out.drewN _⟩
    clear hW_W5
    have y1 := blk_cell HTW5.out.at_ 1
    have x2 := blk_cell HTW5.out.pb_ 2
    have e1 : ((pn : Int) == (ps.length : Int)) = true := beq_iff_eq.2 (by rw [HPL.out])
    have hask := fun (m : Nat) => Calls.quiet_of_same (n := m) (w := W5) ((fasks_ok (b := true) (w := W5.drewN m) rfl).mono fun _ _ z => ⟨z.1, z.2.symm⟩)
    go_wp2_with fail
    go_quiet ((go_at_call 60; exact hask _))
    clear hask y1 x2 e1
    generalize hW_W6 : W5.drewN _ = W6
    have HTW6 : Aside0 (Tl w own g b w.heap.size pid ps (partO pid (pat : Int) (pn : Int) (.slice A9 bb.length c9)) A9 bb W6) := ⟨by rw [← hW_W6]; exact HTW5.out.drewN _⟩
    clear hW_W6
    go_wp2_with fail
    obtain ⟨W8, hst8, hT8⟩ := HTW6.out.drew.store HNB.out (i := pat) HPI.out HBB.out.1 HBB.out.2.2 HBB.out.2.1
    have HTW8 := Aside0.mk hT8
    clear hT8
    refine start_ (n := 9) (S := fun w' => w'.cell? ⟨g, 2, none⟩ = some (.map (some b)) ∧ w'.cell? ⟨w.heap.size, 1, none⟩ = some (.int .i64 (pat : Int)) ∧ w'.cell? ⟨w.heap.size, 3, none⟩ = some (.slice A9 bb.length c9)) (ds := [8]) #[false, false, false, false, false, false, false, false, false] (by kernel_rfl) rfl rfl ⟨(blk_cell HTW6.out.drew.at_ 2), (blk_cell HTW6.out.drew.pb_ 1), (blk_cell HTW6.out.drew.pb_ 3)⟩ (fun hHeld => ?_)
    refine pure_ (i := 0) (N := some 66) (v := ?_) (a' := ?_) #[true, false, false, false, false, false, false, false, false] rfl rfl (by kernel_rfl) (fun _ _ _ h => h) (Or.inl ⟨by rfl, ?_⟩) ?_ ?_
    rotate_left
    · intro w'
      go_simp
      with_reducible rfl
    rotate_left
    · simp only [Act.put, List.setIfInBounds_toArray, List.set_cons_zero, List.set_cons_succ, i64_w, i32_w]
      rfl
    refine pure_ (i := 1) (N := some 67) (v := ?_) (a' := ?_) #[true, true, false, false, false, false, false, false, false] rfl rfl (by kernel_rfl) (fun _ _ _ h => h) (Or.inl ⟨by rfl, ?_⟩) ?_ ?_
    rotate_left
    · intro w'
      go_simp
      with_reducible rfl
    rotate_left
    · simp only [Act.put, List.setIfInBounds_toArray, List.set_cons_zero, List.set_cons_succ, i64_w, i32_w]
      rfl
    refine pure_ (i := 2) (N := some 68) (v := ?_) (a' := ?_) #[true, true, true, false, false, false, false, false, false] rfl rfl (by kernel_rfl) (fun _ _ _ h => h) (Or.inl ⟨by rfl, ?_⟩) ?_ ?_
    rotate_left
    · intro w'
      go_simp
      with_reducible rfl
    rotate_left
    · simp only [Act.put, List.setIfInBounds_toArray, List.set_cons_zero, List.set_cons_succ, i64_w, i32_w]
      rfl
    refine pure_ (i := 4) (N := some 70) (v := ?_) (a' := ?_) #[true, true, true, false, true, false, false, false, false] rfl rfl (by kernel_rfl) (fun _ _ _ h => h) (Or.inl ⟨by rfl, ?_⟩) ?_ ?_
    rotate_left
    · intro w'
      go_simp
      with_reducible rfl
    rotate_left
    · simp only [Act.put, List.setIfInBounds_toArray, List.set_cons_zero, List.set_cons_succ, i64_w, i32_w]
      rfl
    refine pure_ (i := 6) (N := some 72) (v := ?_) (a' := ?_) #[true, true, true, false, true, false, true, false, false] rfl rfl (by kernel_rfl) (fun _ _ _ h => h) (Or.inl ⟨by rfl, ?_⟩) ?_ ?_
    rotate_left
    · intro w'
      go_simp
      with_reducible rfl
    rotate_left
    · simp only [Act.put, List.setIfInBounds_toArray, List.set_cons_zero, List.set_cons_succ, i64_w, i32_w]
      rfl
    refine take_ (i := 3) (N := some 69) (v := ?_) (a' := ?_) #[true, true, true, true, true, false, true, false, false] rfl rfl (by kernel_rfl) (fun _ _ _ h => h) (Or.inl ⟨by rfl, ?_⟩) hHeld ?_ ?_
    rotate_left
    · rintro w' ⟨s0, s1, s2⟩
      go_simp
      with_reducible rfl
    rotate_left
    · simp only [Act.put, List.setIfInBounds_toArray, List.set_cons_zero, List.set_cons_succ, i64_w, i32_w]
      rfl
    refine take_ (i := 5) (N := some 71) (v := ?_) (a' := ?_) #[true, true, true, true, true, true, true, false, false] rfl rfl (by kernel_rfl) (fun _ _ _ h => h) (Or.inl ⟨by rfl, ?_⟩) hHeld ?_ ?_
    rotate_left
    · rintro w' ⟨s0, s1, s2⟩
      go_simp
      with_reducible rfl
    rotate_left
    · simp only [Act.put, List.setIfInBounds_toArray, List.set_cons_zero, List.set_cons_succ, i64_w, i32_w]
      rfl
    refine take_ (i := 7) (N := some 73) (v := ?_) (a' := ?_) #[true, true, true, true, true, true, true, true, false] rfl rfl (by kernel_rfl) (fun _ _ _ h => h) (Or.inl ⟨by rfl, ?_⟩) hHeld ?_ ?_
    rotate_left
    · rintro w' ⟨s0, s1, s2⟩
      go_simp
      with_reducible rfl
    rotate_left
    · simp only [Act.put, List.setIfInBounds_toArray, List.set_cons_zero, List.set_cons_succ, i64_w, i32_w]
      rfl
    refine last_ (i := 8) (N := none) #[true, true, true, true, true, true, true, true, true] rfl rfl (by kernel_rfl) (by decide) (fun K hK => ?_)
    refine skip_ (by rfl) rfl (exec_updF rfl (by rfl) (by rfl) (by rfl) hst8) ?_
    refine hK.out _ _ ?_
    clear hK K
    refine done_ (by kernel_rfl) ?_
    clear hst8
    obtain ⟨PQ, hPQ⟩ : ∃ PQ, ps.set pat bb = PQ := ⟨_, rfl⟩
    have hPQl : PQ.length = ps.length := by rw [← hPQ, List.length_set]
    rw [hPQ] at HTW8 HRV
    rw [← hPQl] at HRV
    have HPQ := Aside0.mk hPQ
    have HQL := Aside0.mk (show PQ.length ≤ 4096 by rw [hPQl, HPL.out]; exact HN.out.2.2.2)
    clear hPQ hPQl
    have y1 := blk_cell HTW8.out.at_ 1
    have y2 := blk_cell HTW8.out.at_ 2
    have hlen := HTW8.out.len 3
    by_cases c8 : haveN PQ < PQ.length
    · have d8 : decide ((haveN PQ : Int) < (PQ.length : Int)) = true := decide_eq_true (by omega)
      have d9 : decide (haveN PQ < PQ.length) = true := decide_eq_true c8
      rw [if_pos c8] at HRV
      clear c8
      go_wp2_with fail
      go_quiet (fail)
      go_wp2_with fail
      go_ret2
      rw [HRV.out]
      exact ⟨(HTW8.out.drewN _).gat HOG.out (by have := HN.out.2.1; have := HID.out; omega), (HTW8.out.drewN _).mu, _, rfl, Kd.R_nil _ _ _ _ _⟩
    have d8 : decide ((haveN PQ : Int) < (PQ.length : Int)) = false := decide_eq_false (by omega)
    have d9 : decide (haveN PQ < PQ.length) = false := decide_eq_false c8
    rw [if_neg c8] at HRV
    have HALL := Aside0.mk (have_all PQ c8)
    clear c8
    go_wp2_with fail
    go_quiet (fail)
    clear hlen y1 y2 d8 d9
    generalize hW_W9 : W8.drewN _ = W9
    have HTW9 : Aside0 (Tl w own g b w.heap.size pid PQ (partO pid (pat : Int) (pn : Int) (.slice A9 bb.length c9)) A9 bb W9) := ⟨by rw [← hW_W9]; exact HTW8.out.drewN _⟩
    clear hW_W9
    have y1 := blk_cell HTW9.out.at_ 1
    have y2 := blk_cell HTW9.out.at_ 2
    have HR0 := Aside0.mk (Kd.R_nil (Kd.int .u8) 5 W9 W9.heap.size (fun _ => True))
    go_wp2_with fail
    clear y1 y2
    go_loopw [8, 9, 91, 92, 93, 94, 95, 96, 97, 98, 99, 100, 101, 102] (fun v8 v9 v91 v92 v93 v94 v95 v96 v97 v98 v99 v100 v101 v102 wr => ∃ i : Nat, i ≤ PQ.length ∧ v91 = .int .i64 (i : Int) ∧ Kd.R (Kd.int .u8) 5 wr W9.heap.size (fun _ => True) v8 (PQ.take i).flatten ∧ (PQ.take i).flatten.length ≤ 256 * i ∧ Below W9.heap.size W9 wr)
      (fun v8 v9 v91 v92 v93 v94 v95 v96 v97 v98 v99 v100 v101 v102 _ => PQ.length - (intOf v91).toNat)
    case atStart => exact ⟨0, Nat.zero_le _, rfl, HR0.out, by simp, Below.refl _ _⟩
    case round =>
      obtain ⟨i, hi, rfl, hR8, hl8, hB8⟩ := hrel
      obtain ⟨X, hX⟩ : ∃ X, (PQ.take i).flatten = X := ⟨_, rfl⟩
      rw [hX] at hR8 hl8
      obtain ⟨A8, c8, rfl⟩ := Kd.R_slice hR8
      have HX := Aside0.mk (And.intro hX (And.intro hl8 hi))
      have HR8 := Aside0.mk hR8
      have HB8 := Aside0.mk hB8
      have HTr : Aside0 (Tl w own g b w.heap.size pid PQ (partO pid (pat : Int) (pn : Int) (.slice A9 bb.length c9)) A9 bb wr) := ⟨HTW9.out.below HB8.out⟩
      clear hX hl8 hi hR8 hB8
      by_cases hlt : i < PQ.length
      · obtain ⟨Ai, ci, _, hlk, hci, hCi, _, h256⟩ := HTr.out.part hlt (HALL.out i hlt)
        have y2 := blk_cell HTr.out.at_ 2
        have hib : i < 4096 := by have := HQL.out; omega
        obtain ⟨pi, hpi⟩ : ∃ pi, PQ.getD i noP = pi := ⟨_, rfl⟩
        rw [hpi] at hlk hci hCi h256
        have HPI2 := Aside0.mk (And.intro hpi (And.intro h256 hlt))
        have HCi := Aside0.mk hCi
        have HBD : Aside0 ((X.length + pi.length) * 1 ≤ 140737488355328) := ⟨by have := HX.out.2.1; omega⟩
        have HBZ := Aside0.mk HB8.out.size
        clear hpi h256 hCi hci
        go_wp2_with (first | ((with_reducible refine gate_builtin (b := .append) (xs := #[.tmp 94, .tmp 100]) rfl ?_); at_builtin; refine Kd.R_append_rows (Kd.int .u8) (w0 := W9) W9.heap.size rfl (.tmp 94) (.tmp 100) 23 5 (.int .u8 0) 1 rfl Try.underlying23 info5 rfl (by decide) (by decide) (.slice A8 X.length c8) X pi Ai pi.length ci (fun _ => True) (fun _ => False) rfl rfl HR8.out HCi.out (fun _ _ h => h) (fun _ h => h.elim) (fun _ _ => trivial) HB8.out HBZ.out HBD.out ?_; intro v9 w9 hR9 hB9 hg9 hat9; obtain ⟨A10, c10, rfl⟩ := Kd.R_slice hR9; clear hg9 hat9))
        go_roundw
        case rel =>
          refine ⟨i + 1, HPI2.out.2.2, by simp, ?_, ?_, hB9⟩
          · rw [flat_take PQ i HPI2.out.2.2, HPI2.out.1, HX.out.1]
            first
              | exact hR9
              | (rw [List.length_append] at hR9; exact hR9)
          · rw [flat_take PQ i HPI2.out.2.2, HPI2.out.1, HX.out.1, List.length_append]
            have := HX.out.2.1; have := HPI2.out.2.1; omega
        case measure => have := HPI2.out.2.2; simp [intOf] <;> omega
      · have hiN : i = PQ.length := by have := HX.out.2.2; omega
        have hXe : X = PQ.flatten := by rw [← HX.out.1, hiN, List.take_of_length_le (Nat.le_refl _)]
        have HXE := Aside0.mk hXe
        clear hXe
        subst hiN
        have y1 := blk_cell HTr.out.at_ 1
        go_wp2_with fail
        go_ret2
        rw [HRV.out]
        refine ⟨HTr.out.gat HOG.out (by have := HN.out.2.1; have := HID.out; omega), HTr.out.mu, _, rfl, ?_⟩
        rw [← HXE.out]
        exact Kd.R_lower HR8.out HTW9.out.mu.size
  obtain ⟨Aq, cq, hlk, _, hcq, hCq, hbq, h256⟩ := HTW4.out.part HPI.out c2
  obtain ⟨pq, hpq⟩ : ∃ pq, ps.getD pat noP = pq := ⟨_, rfl⟩
  rw [hpq] at hlk hcq hCq hbq h256
  have e1 : ((pn : Int) == (ps.length : Int)) = true := beq_iff_eq.2 (by omega)
  have HCQ := Aside0.mk (And.intro hcq (And.intro hCq hbq))
  have HR2 : Aside0 (R = if pq = bb then some ((pid, (ps.length : Int), ps.set pat bb), ([], false)) else none) := ⟨by
    rw [← HR.out]; unfold takeV
    rw [if_neg (by omega), if_neg (by omega), if_neg (fun h => c2 h.2)]
    by_cases c3 : pq = bb
    · rw [if_pos ⟨by omega, hpq.trans c3⟩, if_pos c3]
    · rw [if_neg (fun h => c3 (hpq.symm.trans h.2)), if_neg c3]⟩
  have HPQ0 := Aside0.mk (And.intro hpq c2)
  have HC1 := Aside0.mk c1
  have heq := equal_bytesF hbq HBB.out.1
  have HEQ := Aside0.mk heq
  clear c1 c2 hpq hcq hCq hbq h256 HR heq
  have y2 := blk_cell HTW4.out.at_ 2
  have x1 := blk_cell HTW4.out.pb_ 1
  go_wp2_with fail
  go_quiet (fail)
  clear hlk y2 x1
  have HCQ5 := Aside0.mk (Kd.C_drewN HCQ.out.2.1 nq)
  generalize hW_W5 : W4.drewN nq = W5 at *
  have HTW5 : Aside0 (Tl w own g b w.heap.size pid ps (partO pid (pat : Int) (pn : Int) (.slice A9 bb.length c9)) A9 bb W5) := ⟨by rw [← hW_W5]; exact HTW4.out.drewN _⟩
  clear hW_W5
  go_wp2_with fail
  by_cases c3 : pq = bb
  case neg =>
    have HRN : Aside0 (R = none) := ⟨by rw [HR2.out, if_neg c3]⟩
    have HEF : Aside0 (bytes_Equal.f pq bb = some false) := ⟨by rw [HEQ.out, decide_eq_false c3]⟩
    clear c3
    refine start_ (n := 18) (S := fun w' => w'.cell? ⟨g, 1, none⟩ = some (.int .i64 (ps.length : Int)) ∧ w'.cell? ⟨w.heap.size, 2, none⟩ = some (.int .i64 (pn : Int)) ∧ w'.cell? ⟨w.heap.size, 3, none⟩ = some (.slice A9 bb.length c9)) (ds := [17]) #[false, false, false, false, false, false, false, false, false, false, false, false, false, false, false, false, false, false] (by kernel_rfl) rfl rfl ⟨(blk_cell HTW5.out.drew.at_ 1), (blk_cell HTW5.out.drew.pb_ 2), (blk_cell HTW5.out.drew.pb_ 3)⟩ (fun hHeld => ?_)
    refine pure_ (i := 0) (N := some 48) (v := ?_) (a' := ?_) #[true, false, false, false, false, false, false, false, false, false, false, false, false, false, false, false, false, false] rfl rfl (by kernel_rfl) (fun _ _ _ h => h) (Or.inl ⟨by rfl, ?_⟩) ?_ ?_
    rotate_left
    · intro w'
      go_simp
      with_reducible rfl
    rotate_left
    · simp only [Act.put, List.setIfInBounds_toArray, List.set_cons_zero, List.set_cons_succ, i64_w, i32_w]
      rfl
    refine pure_ (i := 2) (N := some 50) (v := ?_) (a' := ?_) #[true, false, true, false, false, false, false, false, false, false, false, false, false, false, false, false, false, false] rfl rfl (by kernel_rfl) (fun _ _ _ h => h) (Or.inl ⟨by rfl, ?_⟩) ?_ ?_
    rotate_left
    · intro w'
      go_simp
      with_reducible rfl
    rotate_left
    · simp only [Act.put, List.setIfInBounds_toArray, List.set_cons_zero, List.set_cons_succ, i64_w, i32_w]
      rfl
    refine pure_ (i := 3) (N := some 51) (v := ?_) (a' := ?_) #[true, false, true, true, false, false, false, false, false, false, false, false, false, false, false, false, false, false] rfl rfl (by kernel_rfl) (fun _ _ _ h => h) (Or.inl ⟨by rfl, ?_⟩) ?_ ?_
    rotate_left
    · intro w'
      go_simp
      with_reducible rfl
    rotate_left
    · simp only [Act.put, List.setIfInBounds_toArray, List.set_cons_zero, List.set_cons_succ, i64_w, i32_w]
      rfl
    refine pure_ (i := 4) (N := some 52) (v := ?_) (a' := ?_) #[true, false, true, true, true, false, false, false, false, false, false, false, false, false, false, false, false, false] rfl rfl (by kernel_rfl) (fun _ _ _ h => h) (Or.inl ⟨by rfl, ?_⟩) ?_ ?_
    rotate_left
    · intro w'
      go_simp
      with_reducible rfl
    rotate_left
    · simp only [Act.put, List.setIfInBounds_toArray, List.set_cons_zero, List.set_cons_succ, i64_w, i32_w]
      rfl
    refine take_ (i := 1) (N := some 49) (v := ?_) (a' := ?_) #[true, true, true, true, true, false, false, false, false, false, false, false, false, false, false, false, false, false] rfl rfl (by kernel_rfl) (fun _ _ _ h => h) (Or.inl ⟨by rfl, ?_⟩) hHeld ?_ ?_
    rotate_left
    · rintro w' ⟨s0, s1, s2⟩
      go_simp
      with_reducible rfl
    rotate_left
    · simp only [Act.put, List.setIfInBounds_toArray, List.set_cons_zero, List.set_cons_succ, i64_w, i32_w]
      rfl
    refine take_ (i := 5) (N := some 53) (v := ?_) (a' := ?_) #[true, true, true, true, true, true, false, false, false, false, false, false, false, false, false, false, false, false] rfl rfl (by kernel_rfl) (fun _ _ _ h => h) (Or.inl ⟨by rfl, ?_⟩) hHeld ?_ ?_
    rotate_left
    · rintro w' ⟨s0, s1, s2⟩
      go_simp
      with_reducible rfl
    rotate_left
    · simp only [Act.put, List.setIfInBounds_toArray, List.set_cons_zero, List.set_cons_succ, i64_w, i32_w]
      rfl
    refine pure_ (i := 6) (N := some 54) (v := ?_) (a' := ?_) #[true, true, true, true, true, true, true, false, false, false, false, false, false, false, false, false, false, false] rfl rfl (by kernel_rfl) (fun _ _ _ h => h) (Or.inl ⟨by rfl, ?_⟩) ?_ ?_
    rotate_left
    · intro w'
      go_simp
      with_reducible rfl
    rotate_left
    · simp only [Act.put, List.setIfInBounds_toArray, List.set_cons_zero, List.set_cons_succ, i64_w, i32_w]
      rfl
    refine pure_ (i := 7) (N := some 55) (v := ?_) (a' := ?_) #[true, true, true, true, true, true, true, true, false, false, false, false, false, false, false, false, false, false] rfl rfl (by kernel_rfl) (fun _ _ _ h => h) (Or.inl ⟨by rfl, ?_⟩) ?_ ?_
    rotate_left
    · intro w'
      go_simp
      with_reducible rfl
    rotate_left
    · simp only [Act.put, List.setIfInBounds_toArray, List.set_cons_zero, List.set_cons_succ, i64_w, i32_w]
      rfl
    refine pure_ (i := 8) (N := some 56) (v := ?_) (a' := ?_) #[true, true, true, true, true, true, true, true, true, false, false, false, false, false, false, false, false, false] rfl rfl (by kernel_rfl) (fun _ _ _ h => h) (Or.inl ⟨by rfl, ?_⟩) ?_ ?_
    rotate_left
    · intro w'
      go_simp
      with_reducible rfl
    rotate_left
    · simp only [Act.put, List.setIfInBounds_toArray, List.set_cons_zero, List.set_cons_succ, i64_w, i32_w]
      rfl
    refine pure_ (i := 9) (N := some 57) (v := ?_) (a' := ?_) #[true, true, true, true, true, true, true, true, true, true, false, false, false, false, false, false, false, false] rfl rfl (by kernel_rfl) (fun _ _ _ h => h) (Or.inl ⟨by rfl, ?_⟩) ?_ ?_
    rotate_left
    · intro w'
      go_simp
      with_reducible rfl
    rotate_left
    · simp only [Act.put, List.setIfInBounds_toArray, List.set_cons_zero, List.set_cons_succ, i64_w, i32_w]
      rfl
    refine pure_ (i := 10) (N := some 58) (v := ?_) (a' := ?_) #[true, true, true, true, true, true, true, true, true, true, true, false, false, false, false, false, false, false] rfl rfl (by kernel_rfl) (fun _ _ _ h => h) (Or.inl ⟨by rfl, ?_⟩) ?_ ?_
    rotate_left
    · intro w'
      go_simp
      with_reducible rfl
    rotate_left
    · simp only [Act.put, List.setIfInBounds_toArray, List.set_cons_zero, List.set_cons_succ, i64_w, i32_w]
      rfl
    refine pure_ (i := 11) (N := some 59) (v := ?_) (a' := ?_) #[true, true, true, true, true, true, true, true, true, true, true, true, false, false, false, false, false, false] rfl rfl (by kernel_rfl) (fun _ _ _ h => h) (Or.inl ⟨by rfl, ?_⟩) ?_ ?_
    rotate_left
    · intro w'
      go_simp
      with_reducible rfl
    rotate_left
    · simp only [Act.put, List.setIfInBounds_toArray, List.set_cons_zero, List.set_cons_succ, i64_w, i32_w]
      rfl
    refine pure_ (i := 12) (N := some 60) (v := ?_) (a' := ?_) #[true, true, true, true, true, true, true, true, true, true, true, true, true, false, false, false, false, false] rfl rfl (by kernel_rfl) (fun _ _ _ h => h) (Or.inl ⟨by rfl, ?_⟩) ?_ ?_
    rotate_left
    · intro w'
      go_simp
      with_reducible rfl
    rotate_left
    · simp only [Act.put, List.setIfInBounds_toArray, List.set_cons_zero, List.set_cons_succ, i64_w, i32_w]
      rfl
    refine take_ (i := 13) (N := some 61) (v := ?_) (a' := ?_) #[true, true, true, true, true, true, true, true, true, true, true, true, true, true, false, false, false, false] rfl rfl (by kernel_rfl) (fun _ _ _ h => h) (Or.inl ⟨by rfl, ?_⟩) hHeld ?_ ?_
    rotate_left
    · rintro w' ⟨s0, s1, s2⟩
      go_simp
      with_reducible rfl
    rotate_left
    · simp only [Act.put, List.setIfInBounds_toArray, List.set_cons_zero, List.set_cons_succ, i64_w, i32_w]
      rfl
    refine one_ (i := 14) (N := some 62) #[true, true, true, true, true, true, true, true, true, true, true, true, true, true, true, false, false, false] rfl rfl (by kernel_rfl) (by decide) (fun K hK => ?_)
    refine goes_ Try.func44 (by kernel_rfl) rfl #[.slice Aq pq.length cq, .slice A9 bb.length c9] (by rfl) rfl rfl (by (try simp only [List.map_toArray, List.map_cons, List.map_nil]); first | done | rfl) ?_
    refine (bytes_Equal.calls Aq cq pq A9 c9 bb false _ (Kd.C_drew HCQ5.out) HCQ.out.1 (Kd.F_now HTW5.out.drew.F) HBB.out.2.1 HEF.out).mono ?_
    rintro e w6 ⟨rfl, ⟨nd, rfl⟩⟩
    refine ⟨_, rfl, ?_⟩
    refine hK.out _ _ ⟨(blk_cell (HTW5.out.drew.drewN nd).at_ 1), (blk_cell (HTW5.out.drew.drewN nd).pb_ 2), (blk_cell (HTW5.out.drew.drewN nd).pb_ 3)⟩ (fun hHeld => ?_)
    clear hK K
    refine norm_ (a' := ?_) ?_ ?_
    rotate_left
    · show Act.put _ (some 62) _ = _
      simp only [Act.put, List.setIfInBounds_toArray, List.set_cons_zero, List.set_cons_succ, i64_w, i32_w]
      rfl
    refine pure_ (i := 15) (N := some 63) (v := ?_) (a' := ?_) #[true, true, true, true, true, true, true, true, true, true, true, true, true, true, true, true, false, false] rfl rfl (by kernel_rfl) (fun _ _ _ h => h) (Or.inl ⟨by rfl, ?_⟩) ?_ ?_
    rotate_left
    · intro w'
      go_simp
      with_reducible rfl
    rotate_left
    · simp only [Act.put, List.setIfInBounds_toArray, List.set_cons_zero, List.set_cons_succ, i64_w, i32_w]
      rfl
    refine pure_ (i := 16) (N := some 64) (v := ?_) (a' := ?_) #[true, true, true, true, true, true, true, true, true, true, true, true, true, true, true, true, true, false] rfl rfl (by kernel_rfl) (fun _ _ _ h => h) (Or.inl ⟨by rfl, ?_⟩) ?_ ?_
    rotate_left
    · intro w'
      go_simp
      with_reducible rfl
    rotate_left
    · simp only [Act.put, List.setIfInBounds_toArray, List.set_cons_zero, List.set_cons_succ, i64_w, i32_w]
      rfl
    refine last_ (i := 17) (N := some 65) #[true, true, true, true, true, true, true, true, true, true, true, true, true, true, true, true, true, true] rfl rfl (by kernel_rfl) (by decide) (fun K hK => ?_)
    refine goesP_ Try.func60 (by kernel_rfl) rfl #[.bool false] (by rfl) rfl rfl (by (try simp only [List.map_toArray, List.map_cons, List.map_nil]); first | done | rfl) ?_
    refine (fasks_no rfl).mono ?_
    rintro en w7 ⟨rfl, rfl⟩
    rw [HRN.out]
    exact ⟨_, rfl, rfl, (HTW5.out.drew.drewN nd).gat HOG.out HID.out, (HTW5.out.drew.drewN nd).mu, rfl⟩
  have HRV : Aside0 (R = some ((pid, (ps.length : Int), ps.set pat bb), ([], false))) := ⟨by rw [HR2.out, if_pos c3]⟩
  have HEF : Aside0 (bytes_Equal.f pq bb = some true) := ⟨by rw [HEQ.out, decide_eq_true c3]⟩
  clear c3
  refine start_ (n := 18) (S := fun w' => w'.cell? ⟨g, 1, none⟩ = some (.int .i64 (ps.length : Int)) ∧ w'.cell? ⟨w.heap.size, 2, none⟩ = some (.int .i64 (pn : Int)) ∧ w'.cell? ⟨w.heap.size, 3, none⟩ = some (.slice A9 bb.length c9)) (ds := [17]) #[false, false, false, false, false, false, false, false, false, false, false, false, false, false, false, false, false, false] (by kernel_rfl) rfl rfl ⟨(blk_cell HTW5.out.drew.at_ 1), (blk_cell HTW5.out.drew.pb_ 2), (blk_cell HTW5.out.drew.pb_ 3)⟩ (fun hHeld => ?_)
  refine pure_ (i := 0) (N := some 48) (v := ?_) (a' := ?_) #[true, false, false, false, false, false, false, false, false, false, false, false, false, false, false, false, false, false] rfl rfl (by kernel_rfl) (fun _ _ _ h => h) (Or.inl ⟨by rfl, ?_⟩) ?_ ?_
  rotate_left
  · intro w'
    go_simp
    with_reducible rfl
  rotate_left
  · simp only [Act.put, List.setIfInBounds_toArray, List.set_cons_zero, List.set_cons_succ, i64_w, i32_w]
    rfl
  refine pure_ (i := 2) (N := some 50) (v := ?_) (a' := ?_) #[true, false, true, false, false, false, false, false, false, false, false, false, false, false, false, false, false, false] rfl rfl (by kernel_rfl) (fun _ _ _ h => h) (Or.inl ⟨by rfl, ?_⟩) ?_ ?_
  rotate_left
  · intro w'
    go_simp
    with_reducible rfl
  rotate_left
  · simp only [Act.put, List.setIfInBounds_toArray, List.set_cons_zero, List.set_cons_succ, i64_w, i32_w]
    rfl
  refine pure_ (i := 3) (N := some 51) (v := ?_) (a' := ?_) #[true, false, true, true, false, false, false, false, false, false, false, false, false, false, false, false, false, false] rfl rfl (by kernel_rfl) (fun _ _ _ h => h) (Or.inl ⟨by rfl, ?_⟩) ?_ ?_
  rotate_left
  · intro w'
    go_simp
    with_reducible rfl
  rotate_left
  · simp only [Act.put, List.setIfInBounds_toArray, List.set_cons_zero, List.set_cons_succ, i64_w, i32_w]
    rfl
  refine pure_ (i := 4) (N := some 52) (v := ?_) (a' := ?_) #[true, false, true, true, true, false, false, false, false, false, false, false, false, false, false, false, false, false] rfl rfl (by kernel_rfl) (fun _ _ _ h => h) (Or.inl ⟨by rfl, ?_⟩) ?_ ?_
  rotate_left
  · intro w'
    go_simp
    with_reducible rfl
  rotate_left
  · simp only [Act.put, List.setIfInBounds_toArray, List.set_cons_zero, List.set_cons_succ, i64_w, i32_w]
    rfl
  refine take_ (i := 1) (N := some 49) (v := ?_) (a' := ?_) #[true, true, true, true, true, false, false, false, false, false, false, false, false, false, false, false, false, false] rfl rfl (by kernel_rfl) (fun _ _ _ h => h) (Or.inl ⟨by rfl, ?_⟩) hHeld ?_ ?_
  rotate_left
  · rintro w' ⟨s0, s1, s2⟩
    go_simp
    with_reducible rfl
  rotate_left
  · simp only [Act.put, List.setIfInBounds_toArray, List.set_cons_zero, List.set_cons_succ, i64_w, i32_w]
    rfl
  refine take_ (i := 5) (N := some 53) (v := ?_) (a' := ?_) #[true, true, true, true, true, true, false, false, false, false, false, false, false, false, false, false, false, false] rfl rfl (by kernel_rfl) (fun _ _ _ h => h) (Or.inl ⟨by rfl, ?_⟩) hHeld ?_ ?_
  rotate_left
  · rintro w' ⟨s0, s1, s2⟩
    go_simp
    with_reducible rfl
  rotate_left
  · simp only [Act.put, List.setIfInBounds_toArray, List.set_cons_zero, List.set_cons_succ, i64_w, i32_w]
    rfl
  refine pure_ (i := 6) (N := some 54) (v := ?_) (a' := ?_) #[true, true, true, true, true, true, true, false, false, false, false, false, false, false, false, false, false, false] rfl rfl (by kernel_rfl) (fun _ _ _ h => h) (Or.inl ⟨by rfl, ?_⟩) ?_ ?_
  rotate_left
  · intro w'
    go_simp
    with_reducible rfl
  rotate_left
  · simp only [Act.put, List.setIfInBounds_toArray, List.set_cons_zero, List.set_cons_succ, i64_w, i32_w]
    rfl
  refine pure_ (i := 7) (N := some 55) (v := ?_) (a' := ?_) #[true, true, true, true, true, true, true, true, false, false, false, false, false, false, false, false, false, false] rfl rfl (by kernel_rfl) (fun _ _ _ h => h) (Or.inl ⟨by rfl, ?_⟩) ?_ ?_
  rotate_left
  · intro w'
    go_simp
    with_reducible rfl
  rotate_left
  · simp only [Act.put, List.setIfInBounds_toArray, List.set_cons_zero, List.set_cons_succ, i64_w, i32_w]
    rfl
  refine pure_ (i := 8) (N := some 56) (v := ?_) (a' := ?_) #[true, true, true, true, true, true, true, true, true, false, false, false, false, false, false, false, false, false] rfl rfl (by kernel_rfl) (fun _ _ _ h => h) (Or.inl ⟨by rfl, ?_⟩) ?_ ?_
  rotate_left
  · intro w'
    go_simp
    with_reducible rfl
  rotate_left
  · simp only [Act.put, List.setIfInBounds_toArray, List.set_cons_zero, List.set_cons_succ, i64_w, i32_w]
    rfl
  refine pure_ (i := 9) (N := some 57) (v := ?_) (a' := ?_) #[true, true, true, true, true, true, true, true, true, true, false, false, false, false, false, false, false, false] rfl rfl (by kernel_rfl) (fun _ _ _ h => h) (Or.inl ⟨by rfl, ?_⟩) ?_ ?_
  rotate_left
  · intro w'
    go_simp
    with_reducible rfl
  rotate_left
  · simp only [Act.put, List.setIfInBounds_toArray, List.set_cons_zero, List.set_cons_succ, i64_w, i32_w]
    rfl
  refine pure_ (i := 10) (N := some 58) (v := ?_) (a' := ?_) #[true, true, true, true, true, true, true, true, true, true, true, false, false, false, false, false, false, false] rfl rfl (by kernel_rfl) (fun _ _ _ h => h) (Or.inl ⟨by rfl, ?_⟩) ?_ ?_
  rotate_left
  · intro w'
    go_simp
    with_reducible rfl
  rotate_left
  · simp only [Act.put, List.setIfInBounds_toArray, List.set_cons_zero, List.set_cons_succ, i64_w, i32_w]
    rfl
  refine pure_ (i := 11) (N := some 59) (v := ?_) (a' := ?_) #[true, true, true, true, true, true, true, true, true, true, true, true, false, false, false, false, false, false] rfl rfl (by kernel_rfl) (fun _ _ _ h => h) (Or.inl ⟨by rfl, ?_⟩) ?_ ?_
  rotate_left
  · intro w'
    go_simp
    with_reducible rfl
  rotate_left
  · simp only [Act.put, List.setIfInBounds_toArray, List.set_cons_zero, List.set_cons_succ, i64_w, i32_w]
    rfl
  refine pure_ (i := 12) (N := some 60) (v := ?_) (a' := ?_) #[true, true, true, true, true, true, true, true, true, true, true, true, true, false, false, false, false, false] rfl rfl (by kernel_rfl) (fun _ _ _ h => h) (Or.inl ⟨by rfl, ?_⟩) ?_ ?_
  rotate_left
  · intro w'
    go_simp
    with_reducible rfl
  rotate_left
  · simp only [Act.put, List.setIfInBounds_toArray, List.set_cons_zero, List.set_cons_succ, i64_w, i32_w]
    rfl
  refine take_ (i := 13) (N := some 61) (v := ?_) (a' := ?_) #[true, true, true, true, true, true, true, true, true, true, true, true, true, true, false, false, false, false] rfl rfl (by kernel_rfl) (fun _ _ _ h => h) (Or.inl ⟨by rfl, ?_⟩) hHeld ?_ ?_
  rotate_left
  · rintro w' ⟨s0, s1, s2⟩
    go_simp
    with_reducible rfl
  rotate_left
  · simp only [Act.put, List.setIfInBounds_toArray, List.set_cons_zero, List.set_cons_succ, i64_w, i32_w]
    rfl
  refine one_ (i := 14) (N := some 62) #[true, true, true, true, true, true, true, true, true, true, true, true, true, true, true, false, false, false] rfl rfl (by kernel_rfl) (by decide) (fun K hK => ?_)
  refine goes_ Try.func44 (by kernel_rfl) rfl #[.slice Aq pq.length cq, .slice A9 bb.length c9] (by rfl) rfl rfl (by (try simp only [List.map_toArray, List.map_cons, List.map_nil]); first | done | rfl) ?_
  refine (bytes_Equal.calls Aq cq pq A9 c9 bb true _ (Kd.C_drew HCQ5.out) HCQ.out.1 (Kd.F_now HTW5.out.drew.F) HBB.out.2.1 HEF.out).mono ?_
  rintro e w6 ⟨rfl, ⟨nd, rfl⟩⟩
  refine ⟨_, rfl, ?_⟩
  refine hK.out _ _ ⟨(blk_cell (HTW5.out.drew.drewN nd).at_ 1), (blk_cell (HTW5.out.drew.drewN nd).pb_ 2), (blk_cell (HTW5.out.drew.drewN nd).pb_ 3)⟩ (fun hHeld => ?_)
  clear hK K
  refine norm_ (a' := ?_) ?_ ?_
  rotate_left
  · show Act.put _ (some 62) _ = _
    simp only [Act.put, List.setIfInBounds_toArray, List.set_cons_zero, List.set_cons_succ, i64_w, i32_w]
    rfl
  refine pure_ (i := 15) (N := some 63) (v := ?_) (a' := ?_) #[true, true, true, true, true, true, true, true, true, true, true, true, true, true, true, true, false, false] rfl rfl (by kernel_rfl) (fun _ _ _ h => h) (Or.inl ⟨by rfl, ?_⟩) ?_ ?_
  rotate_left
  · intro w'
    go_simp
    with_reducible rfl
  rotate_left
  · simp only [Act.put, List.setIfInBounds_toArray, List.set_cons_zero, List.set_cons_succ, i64_w, i32_w]
    rfl
  refine pure_ (i := 16) (N := some 64) (v := ?_) (a' := ?_) #[true, true, true, true, true, true, true, true, true, true, true, true, true, true, true, true, true, false] rfl rfl (by kernel_rfl) (fun _ _ _ h => h) (Or.inl ⟨by rfl, ?_⟩) ?_ ?_
  rotate_left
  · intro w'
    go_simp
    with_reducible rfl
  rotate_left
  · simp only [Act.put, List.setIfInBounds_toArray, List.set_cons_zero, List.set_cons_succ, i64_w, i32_w]
    rfl
  refine last_ (i := 17) (N := some 65) #[true, true, true, true, true, true, true, true, true, true, true, true, true, true, true, true, true, true] rfl rfl (by kernel_rfl) (by decide) (fun K hK => ?_)
  refine goes_ Try.func60 (by kernel_rfl) rfl #[.bool true] (by rfl) rfl rfl (by (try simp only [List.map_toArray, List.map_cons, List.map_nil]); first | done | rfl) ?_
  refine (fasks_ok rfl).mono ?_
  rintro en w7 ⟨rfl, rfl⟩
  refine ⟨_, rfl, ?_⟩
  refine hK.out _ _ ?_
  clear hK K
  refine norm_ (a' := ?_) ?_ ?_
  rotate_left
  · show Act.put _ (some 65) _ = _
    simp only [Act.put, List.setIfInBounds_toArray, List.set_cons_zero, List.set_cons_succ, i64_w, i32_w]
    rfl
  refine done_ (by kernel_rfl) ?_
  generalize hW_W6 : W5.drew.drewN nd = W6
  have HTW6 : Aside0 (Tl w own g b w.heap.size pid ps (partO pid (pat : Int) (pn : Int) (.slice A9 bb.length c9)) A9 bb W6) := ⟨by rw [← hW_W6]; exact HTW5.out.drew.drewN _⟩
  clear hW_W6
  go_wp2_with fail
  obtain ⟨W8, hst8, hT8⟩ := HTW6.out.drew.store HNB.out (i := pat) HPI.out HBB.out.1 HBB.out.2.2 HBB.out.2.1
  have HTW8 := Aside0.mk hT8
  clear hT8
  refine start_ (n := 9) (S := fun w' => w'.cell? ⟨g, 2, none⟩ = some (.map (some b)) ∧ w'.cell? ⟨w.heap.size, 1, none⟩ = some (.int .i64 (pat : Int)) ∧ w'.cell? ⟨w.heap.size, 3, none⟩ = some (.slice A9 bb.length c9)) (ds := [8]) #[false, false, false, false, false, false, false, false, false] (by kernel_rfl) rfl rfl ⟨(blk_cell HTW6.out.drew.at_ 2), (blk_cell HTW6.out.drew.pb_ 1), (blk_cell HTW6.out.drew.pb_ 3)⟩ (fun hHeld => ?_)
  refine pure_ (i := 0) (N := some 66) (v := ?_) (a' := ?_) #[true, false, false, false, false, false, false, false, false] rfl rfl (by kernel_rfl) (fun _ _ _ h => h) (Or.inl ⟨by rfl, ?_⟩) ?_ ?_
  rotate_left
  · intro w'
    go_simp
    with_reducible rfl
  rotate_left
  · simp only [Act.put, List.setIfInBounds_toArray, List.set_cons_zero, List.set_cons_succ, i64_w, i32_w]
    rfl
  refine pure_ (i := 1) (N := some 67) (v := ?_) (a' := ?_) #[true, true, false, false, false, false, false, false, false] rfl rfl (by kernel_rfl) (fun _ _ _ h => h) (Or.inl ⟨by rfl, ?_⟩) ?_ ?_
  rotate_left
  · intro w'
    go_simp
    with_reducible rfl
  rotate_left
  · simp only [Act.put, List.setIfInBounds_toArray, List.set_cons_zero, List.set_cons_succ, i64_w, i32_w]
    rfl
  refine pure_ (i := 2) (N := some 68) (v := ?_) (a' := ?_) #[true, true, true, false, false, false, false, false, false] rfl rfl (by kernel_rfl) (fun _ _ _ h => h) (Or.inl ⟨by rfl, ?_⟩) ?_ ?_
  rotate_left
  · intro w'
    go_simp
    with_reducible rfl
  rotate_left
  · simp only [Act.put, List.setIfInBounds_toArray, List.set_cons_zero, List.set_cons_succ, i64_w, i32_w]
    rfl
  refine pure_ (i := 4) (N := some 70) (v := ?_) (a' := ?_) #[true, true, true, false, true, false, false, false, false] rfl rfl (by kernel_rfl) (fun _ _ _ h => h) (Or.inl ⟨by rfl, ?_⟩) ?_ ?_
  rotate_left
  · intro w'
    go_simp
    with_reducible rfl
  rotate_left
  · simp only [Act.put, List.setIfInBounds_toArray, List.set_cons_zero, List.set_cons_succ, i64_w, i32_w]
    rfl
  refine pure_ (i := 6) (N := some 72) (v := ?_) (a' := ?_) #[true, true, true, false, true, false, true, false, false] rfl rfl (by kernel_rfl) (fun _ _ _ h => h) (Or.inl ⟨by rfl, ?_⟩) ?_ ?_
  rotate_left
  · intro w'
    go_simp
    with_reducible rfl
  rotate_left
  · simp only [Act.put, List.setIfInBounds_toArray, List.set_cons_zero, List.set_cons_succ, i64_w, i32_w]
    rfl
  refine take_ (i := 3) (N := some 69) (v := ?_) (a' := ?_) #[true, true, true, true, true, false, true, false, false] rfl rfl (by kernel_rfl) (fun _ _ _ h => h) (Or.inl ⟨by rfl, ?_⟩) hHeld ?_ ?_
  rotate_left
  · rintro w' ⟨s0, s1, s2⟩
    go_simp
    with_reducible rfl
  rotate_left
  · simp only [Act.put, List.setIfInBounds_toArray, List.set_cons_zero, List.set_cons_succ, i64_w, i32_w]
    rfl
  refine take_ (i := 5) (N := some 71) (v := ?_) (a' := ?_) #[true, true, true, true, true, true, true, false, false] rfl rfl (by kernel_rfl) (fun _ _ _ h => h) (Or.inl ⟨by rfl, ?_⟩) hHeld ?_ ?_
  rotate_left
  · rintro w' ⟨s0, s1, s2⟩
    go_simp
    with_reducible rfl
  rotate_left
  · simp only [Act.put, List.setIfInBounds_toArray, List.set_cons_zero, List.set_cons_succ, i64_w, i32_w]
    rfl
  refine take_ (i := 7) (N := some 73) (v := ?_) (a' := ?_) #[true, true, true, true, true, true, true, true, false] rfl rfl (by kernel_rfl) (fun _ _ _ h => h) (Or.inl ⟨by rfl, ?_⟩) hHeld ?_ ?_
  rotate_left
  · rintro w' ⟨s0, s1, s2⟩
    go_simp
    with_reducible rfl
  rotate_left
  · simp only [Act.put, List.setIfInBounds_toArray, List.set_cons_zero, List.set_cons_succ, i64_w, i32_w]
    rfl
  refine last_ (i := 8) (N := none) #[true, true, true, true, true, true, true, true, true] rfl rfl (by kernel_rfl) (by decide) (fun K hK => ?_)
  refine skip_ (by rfl) rfl (exec_updF rfl (by rfl) (by rfl) (by rfl) hst8) ?_
  refine hK.out _ _ ?_
  clear hK K
  refine done_ (by kernel_rfl) ?_
  clear hst8
  go_wp2_with fail
  go_quiet (fail)
  go_wp2_with fail
  go_ret2
  rw [HRV.out]
  refine ⟨?_, (HTW8.out.drewN _).mu, _, rfl, Kd.R_nil _ _ _ _ _⟩
  have := (HTW8.out.drewN nq).gat HOG.out HID.out
  rwa [List.length_set] at this
theorem takes_any {w : World} {own : Nat → Prop} {g : Nat} {id cnt : Int} {ps : List (List Int)} (hG : GatAt w own g id cnt ps) (hnew : ∀ k, w.heap.size ≤ k → own k) (pid : Int) (pat pn : Nat) (hid : 1 ≤ pid ∧ pid ≤ 4611686018427387904) (hpat : pat < pn) (hpn : pn ≤ 4096)
    {A9 : Option Addr} {c9 : Nat} {bb : List Int} (hbb : ∀ x ∈ bb, 0 ≤ x ∧ x < 256) (hc9 : bb.length ≤ c9) (hl9 : bb.length ≤ 256) (hF : Kd.F (Kd.int .u8) w (fun k => own k ∧ k ≠ g ∧ ∀ i c b, w.heap[g]? = some (gatO i c (some b)) → k ≠ b) A9 bb.length bb)  :
    Calls Try.prog 51 #[.pointer (some ⟨g, 0, none⟩), .agg #[.int .u64 pid, .int .i64 (pat : Int), .int .i64 (pn : Int), .slice A9 bb.length c9]] w (TakePost w own g (id, cnt, ps) (takeV id cnt ps pid pat pn bb)) := by
  by_cases h1 : pid < id
  · exact takes_lt hG hnew pid pat pn hid hpat hpn hbb hc9 hl9 hF h1
  by_cases h2 : id < pid
  · exact takes_gt hG hnew pid pat pn hid hpat hpn hbb hc9 hl9 hF h2
  · exact takes_eq hG hnew pid pat pn hid hpat hpn hbb hc9 hl9 hF h1 h2
end Go.Proofs.Ytdklanenmihpdaa.Hand
namespace Go.Proofs.Ytdklanenmihpdaa.Hand
open Go.RowKit Go.Maps Go.Proofs.YtdklanenmihpdaaW.PrintWords Go.Proofs.YtdklanenmihpdaaW.PrintLast Go.Proofs.Ytdklanenmihpdaa.PA
theorem GatAt.mono {w : World} {own own' : Nat → Prop} {g : Nat} {id cnt : Int} {ps : List (List Int)} (h : GatAt w own g id cnt ps) (hm : ∀ k, k < w.heap.size → own k → own' k) : GatAt w own' g id cnt ps := by
  obtain ⟨hg, ⟨h1, h2, h3, h4⟩ | ⟨h1, h2, b, h4, h5⟩⟩ := h
  · exact ⟨hm g (heap_lt h4) hg, .inl ⟨h1, h2, h3, h4⟩⟩
  · have hlt := h5.lt
    refine ⟨hm g (heap_lt h4) hg, .inr ⟨h1, h2, b, h4, h5.big, hm b hlt h5.mine, h5.ne, ?_⟩⟩
    obtain ⟨D, a1, a2, a3⟩ := h5.map
    refine ⟨D, a1, a2, fun i hi => ?_⟩
    rcases a3 i hi with h | ⟨q1, q2, q3, A, c, q4, q5, q6⟩
    · exact .inl h
    · exact .inr ⟨q1, q2, q3, A, c, q4, q5, Kd.F_mono (Kd.F_bound q6) (fun k hk => ⟨hm k hk.2 hk.1.1, hk.1.2⟩)⟩
theorem GatAt.lt {w : World} {own : Nat → Prop} {g : Nat} {id cnt : Int} {ps : List (List Int)} (h : GatAt w own g id cnt ps) : g < w.heap.size ∧ ∀ i c b, w.heap[g]? = some (gatO i c (some b)) → b < w.heap.size := by
  obtain ⟨hg, ⟨h1, h2, h3, h4⟩ | ⟨h1, h2, b, h4, h5⟩⟩ := h
  · refine ⟨heap_lt h4, fun i c b hb => ?_⟩
    rw [h4] at hb
    simp at hb
  · refine ⟨heap_lt h4, fun i c b' hb => ?_⟩
    rw [h4] at hb
    simp at hb
    obtain ⟨_, _, rfl⟩ := hb
    exact h5.lt
set_option maxRecDepth 100000
theorem newGather_any {w : World} {own : Nat → Prop} (ho : own w.heap.size) :
    Calls Try.prog 27 #[] w fun e w' => e = .returned (.pointer (some ⟨w.heap.size, 0, none⟩)) ∧ GatAt w' own w.heap.size 0 0 [] ∧ Below w.heap.size w w' ∧ w'.heap.size = w.heap.size + 1 := by
  have hbd : ∀ W : World, (Instr.build 85 #[]).run Try.prog W = .ok (.agg #[.int .u64 0, .int .i64 0, .map none]) W := fun W => run_build (P := Try.prog) W 85 #[] _ (by kernel_rfl)
  go_enter Try.func27, Try.ntmps27
  go_wp2
  go_ret
  exact ⟨rfl, ⟨ho, .inl ⟨rfl, rfl, rfl, alloc_new _ _⟩⟩, below_alloc (Below.refl _ _) _, by simp⟩
theorem gat_heap {w : World} {own : Nat → Prop} {g : Nat} {id cnt : Int} {ps : List (List Int)} (h : GatAt w own g id cnt ps) : ∃ m, w.heap[g]? = some (gatO id cnt m) := by
  rcases h.2 with ⟨h1, h2, _, h4⟩ | ⟨_, _, b, h4, _⟩
  · subst h1 h2; exact ⟨_, h4⟩
  · exact ⟨_, h4⟩
theorem gid_any {w : World} {own : Nat → Prop} {g : Nat} {id cnt : Int} {ps : List (List Int)} (h : GatAt w own g id cnt ps) :
    Calls Try.prog 30 #[.pointer (some ⟨g, 0, none⟩)] w fun e w' => e = .returned (.int .u64 id) ∧ w' = w := by
  obtain ⟨m, hg⟩ := gat_heap h
  have y0 := blk_cell hg 0
  clear hg h
  go_enter Try.func30, Try.ntmps30
  go_wp2
  go_ret
  exact ⟨rfl, rfl⟩
theorem ghave_any {w : World} {own : Nat → Prop} {g : Nat} {id cnt : Int} {ps : List (List Int)} (h : GatAt w own g id cnt ps) :
    Calls Try.prog 31 #[.pointer (some ⟨g, 0, none⟩)] w fun e w' => e = .returned (.int .i64 (haveN ps)) ∧ w' = w := by
  obtain ⟨_, ⟨h1, h2, rfl, h4⟩ | ⟨h1, h2, b, h4, h5⟩⟩ := h
  · have y2 := blk_cell h4 2
    have hlen : (Builtin.len_ #[83] 3 #[.map none]).run Try.prog w = .ok (.int .i64 0) w := by kernel_rfl
    clear h4
    go_enter Try.func31, Try.ntmps31
    go_wp2
    go_ret
    exact ⟨rfl, rfl⟩
  · have y2 := blk_cell h4 2
    have hlen := map_len h5 3
    clear h4 h5
    go_enter Try.func31, Try.ntmps31
    go_wp2
    go_ret
    exact ⟨rfl, rfl⟩
set_option maxHeartbeats 1000000 in
theorem fcaught_nil {w : World} {p : Addr} : Calls Try.prog 50 #[.nilIface, .pointer (some p)] w fun en w' => en = .returned (.tuple #[]) ∧ w' = w := by
  go_enter Try.func50, Try.ntmps50
  go_wp2
  go_end0
  exact ⟨rfl, rfl⟩
set_option maxHeartbeats 1000000 in
theorem fcaught_stop {w : World} {p : Nat} {x : Int} (h : w.heap[p]? = some (.cells #[.int .i64 x] 27 (0, 0))) :
    Calls Try.prog 50 #[fstopV, .pointer (some ⟨p, 0, none⟩)] w fun en w' => en = .returned (.tuple #[]) ∧ w'.heap[p]? = some (.cells #[.int .i64 2] 27 (0, 0)) ∧ Mu (· = p) w w' := by
  have hta : ∀ (v : Value) (W : World), (Instr.typeAssert (.iface 103 v) 20 103 true).run Try.prog W = .ok (.tuple #[v, .bool true]) W := fun v W => by kernel_rfl
  have h1 := alloc_blk (O := .cells #[] 103) h
  have c1 := blk_cell h1 0
  have f1 := blk_frozen h1 0
  have HH := Aside0.mk h1
  clear h1 h
  unfold fstopV
  go_enter Try.func50, Try.ntmps50
  go_wp2
  go_end0
  exact ⟨rfl, set_0 HH.out, ((Mu.refl (· = p) w).alloc _).setCell (p := ⟨p, 0, none⟩) (fun _ => rfl) _⟩
theorem put1_stop {w : World} {p : Nat} {f : Int} {older : List PanicEntry} (h : w.heap[p]? = some (.cells #[.int .i64 f] 27 (0, 0))) :
    CallsD Try.prog 49 #[.pointer (some ⟨p, 0, none⟩)] (.panicking ({ v := fstopV, recovered := false } :: older)) w fun en u w' =>
      en = .returned (.tuple #[]) ∧ u = .panicking ({ v := fstopV, recovered := true } :: older) ∧ w'.heap[p]? = some (.cells #[.int .i64 2] 27 (0, 0)) ∧ Mu (· = p) w w' := by
  refine callsD_of_wpS Try.func49 rfl fun c₀ cs hu => ?_
  have HS := Aside0.mk h
  clear h
  apply wpS_region
  simp [wpOpsS, go_sem, recoverD, hu, Try.ntmps49]
  refine (fcaught_stop HS.out).mono ?_
  rintro en w1 ⟨rfl, g1, hm⟩
  simp [wpOpsS, go_sem, Exit.thenS]
  exact ⟨rfl, _, rfl, .tuple #[], results_none rfl _ _ _, rfl, rfl, g1, hm⟩
theorem put1_idle {w : World} {p : Addr} :
    CallsD Try.prog 49 #[.pointer (some p)] .returning w fun en u w' => en = .returned (.tuple #[]) ∧ u = .returning ∧ w' = w := by
  refine callsD_of_wpS Try.func49 rfl fun c₀ cs hu => ?_
  apply wpS_region
  simp [wpOpsS, go_sem, recoverD, hu, Try.ntmps49]
  refine fcaught_nil.mono ?_
  rintro en w1 ⟨rfl, rfl⟩
  simp [wpOpsS, go_sem, Exit.thenS]
  exact ⟨rfl, .returning, by rw [← hu], .tuple #[], results_none rfl _ _ _, rfl, rfl, rfl⟩
end Go.Proofs.Ytdklanenmihpdaa.Hand
namespace Go.Proofs.Ytdklanenmihpdaa.Hand
open Go.RowKit Go.Maps Go.Proofs.YtdklanenmihpdaaW.PrintWords Go.Proofs.YtdklanenmihpdaaW.PrintLast Go.Proofs.Ytdklanenmihpdaa.PA
theorem readV_ok {l : List Int} {id at_ n : Int} {b : List Int} (hb : ∀ x ∈ l, 0 ≤ x ∧ x < 256) (h : readV l = some (id, at_, n, b)) :
    (1 ≤ id ∧ id ≤ 4611686018427387904) ∧ 0 ≤ at_ ∧ at_ < n ∧ n ≤ 4096 ∧ (∀ x ∈ b, 0 ≤ x ∧ x < 256) ∧ b.length ≤ 256 := by
  obtain ⟨id', p1, e1, h1⟩ : ∃ id p1 e1, rdNum l 0 0 4611686018427387904 = (id, p1, e1) := ⟨_, _, _, rfl⟩
  obtain ⟨at', p2, e2, h2⟩ : ∃ at_ p2 e2, rdNum l p1 e1 4096 = (at_, p2, e2) := ⟨_, _, _, rfl⟩
  obtain ⟨n', p3, e3, h3⟩ : ∃ n p3 e3, rdNum l p2 e2 4096 = (n, p3, e3) := ⟨_, _, _, rfl⟩
  have g1 := rdNum_range (by omega) h1
  have g2 := rdNum_range (by omega) h2
  have g3 := rdNum_range (by omega) h3
  unfold readV at h
  simp only [h1, h2, h3] at h
  by_cases c : e3 = 0 ∧ 0 < id' ∧ at' < n'
  case neg => rw [if_neg c] at h; cases h
  rw [if_pos c] at h
  by_cases d : (l.drop p3.toNat).length = 256 ∨ ((l.drop p3.toNat).length < 256 ∧ at' = n' - 1)
  case neg => rw [if_neg d] at h; cases h
  rw [if_pos d] at h
  simp only [Option.some.injEq, Prod.mk.injEq] at h
  obtain ⟨k1, k2, k3, k4⟩ := h
  subst k1 k2 k3 k4
  refine ⟨⟨by omega, g1.2⟩, g2.1, c.2.2, g3.2, fun x hx => hb x (List.mem_of_mem_drop hx), ?_⟩
  rcases d with d | d <;> omega
def putOut (id cnt : Int) (ps : List (List Int)) : Option ((Int × Int × List (List Int)) × (List Int × Bool)) → (Int × Int × List (List Int)) × (List Int × Bool × Int)
  | none => ((id, cnt, ps), ([], false, 2))
  | some (st, m, x) => (st, (m, x, 0))
def putV (id cnt : Int) (ps : List (List Int)) (l : List Int) : (Int × Int × List (List Int)) × (List Int × Bool × Int) :=
  match readV l with
  | none => ((id, cnt, ps), ([], false, 2))
  | some (pid, pat, pn, b) => putOut id cnt ps (takeV id cnt ps pid pat.toNat pn.toNat b)
def PutPost (w : World) (own : Nat → Prop) (g : Nat) (r : (Int × Int × List (List Int)) × (List Int × Bool × Int)) (e : Ending) (w' : World) : Prop :=
  GatAt w' own g r.1.1 r.1.2.1 r.1.2.2 ∧ Mu own w w' ∧ ∃ v, e = .returned (.tuple #[v, .bool r.2.2.1, .int .i64 r.2.2.2]) ∧ Kd.R (Kd.int .u8) 5 w' w.heap.size (fun _ => True) v r.2.1
theorem put_results {tmps : Array Value} {w : World} {p : Nat} {v : Value} {b : Bool} {X : Int} (h4 : tmps[4]? = some v) (h5 : tmps[5]? = some (.bool b)) (h6 : tmps[6]? = some (.pointer (some ⟨p, 0, none⟩))) (g2 : w.heap[p]? = some (.cells #[.int .i64 X] 27 (0, 0))) :
    (results Try.f28 tmps).run Try.prog w = .ok (.tuple #[v, .bool b, .int .i64 X]) w := by
  have c2 := blk_cell g2 0
  have e4 : tmps.getD 4 undef = v := by simp [Array.getD_eq_getD_getElem?, h4]
  have e5 : tmps.getD 5 undef = .bool b := by simp [Array.getD_eq_getD_getElem?, h5]
  have e6 : tmps.getD 6 undef = .pointer (some ⟨p, 0, none⟩) := by simp [Array.getD_eq_getD_getElem?, h6]
  have l2 : (loadVar 27 ⟨p, 0, none⟩).run Try.prog w = .ok (.int .i64 X) w := by simp [go_sem, c2]
  have hr : Try.f28.results = #[.tmp 4, .tmp 5, .cell 6 27] := by kernel_rfl
  unfold results
  rw [hr]
  simp [h4, h5, h6, l2, asAddr]
set_option maxRecDepth 100000
theorem leave_put {w0 w : World} {own : Nat → Prop} {g p : Nat} {id cnt : Int} {ps : List (List Int)} {f : Int} {tmps : Array Value} (h4 : tmps[4]? = some (.slice none 0 0)) (h5 : tmps[5]? = some (.bool false)) (h6 : tmps[6]? = some (.pointer (some ⟨p, 0, none⟩)))
    (hG : GatAt w (fun k => own k ∧ k ≠ p) g id cnt ps) (hm : Mu own w0 w) (hp : w0.heap.size ≤ p) (h : w.heap[p]? = some (.cells #[.int .i64 f] 27 (0, 0))) (hs : own p) :
    Leaves Try.prog Try.f28 tmps (PutPost w0 own g ((id, cnt, ps), ([], false, 2))) [{ target := .fn (.func 49) #[.pointer (some ⟨p, 0, none⟩)], args := #[] }] (.panicking fstopR) w := by
  refine leaves_cons (f := 49) (args := #[.pointer (some ⟨p, 0, none⟩)]) (by simp) (by simp [go_sem]) ?_
  refine (put1_stop (older := []) h).mono ?_
  rintro en u w3 ⟨rfl, rfl, g2, hm3⟩
  refine ⟨_, put_results h4 h5 h6 g2, ?_, ?_, _, rfl, Kd.R_nil _ _ _ _ _⟩
  · exact (hG.step (fun k hk hl => hm3.block k hl hk.2)).mono (fun k _ hk => hk.1)
  · exact hm.trans (hm3.mono (fun k _ e => by obtain rfl : k = p := e; exact hs))
set_option maxHeartbeats 4000000 in
theorem put_any {w : World} {own : Nat → Prop} {g : Nat} {id cnt : Int} {ps : List (List Int)} (hG : GatAt w own g id cnt ps) (hnew : ∀ k, w.heap.size ≤ k → own k) {A : Option Addr} {c : Nat} {l : List Int} (hC : Kd.C (Kd.int .u8) w A l.length l) (hc : l.length ≤ c) (hl : l.length < 140737488355328) (hb : ∀ x ∈ l, 0 ≤ x ∧ x < 256) :
    Calls Try.prog 28 #[.pointer (some ⟨g, 0, none⟩), .slice A l.length c] w (PutPost w own g (putV id cnt ps l)) := by
  obtain ⟨R, hR⟩ : ∃ R, putV id cnt ps l = R := ⟨_, rfl⟩
  rw [hR]
  obtain ⟨w1, hw1⟩ : ∃ w1, w.alloc (.cells #[.int .i64 0] 27) = w1 := ⟨_, rfl⟩
  have hb1 : Below w.heap.size w w1 := by rw [← hw1]; exact below_alloc (Below.refl _ _) _
  have hp1 : w1.heap[w.heap.size]? = some (.cells #[.int .i64 0] 27 (0, 0)) := by rw [← hw1]; exact alloc_new _ _
  have hs1 : w1.heap.size = w.heap.size + 1 := by rw [← hw1]; simp
  have HRD := Aside0.mk (read_any (Kd.C_below hC hb1) hc hl)
  obtain ⟨V, hV⟩ : ∃ V, readV l = V := ⟨_, rfl⟩
  rw [hV] at HRD
  have hG1 : GatAt w (fun k => own k ∧ k ≠ w.heap.size) g id cnt ps := hG.mono (fun k hk ho => ⟨ho, by omega⟩)
  have HG := Aside0.mk (And.intro hG1 (And.intro hG.lt (And.intro hb1 (And.intro hp1 hs1))))
  have HB := Aside0.mk (And.intro hnew hb)
  have HV := Aside0.mk hV
  have HR := Aside0.mk hR
  have HW1 := Aside0.mk hw1
  have hmf : ∀ (fn : Fn) (first cap : Array Value) (w : World), (Instr.makeFunc fn first cap).run Try.prog w = .ok (.func fn first cap) w := fun _ _ _ _ => rfl
  clear hR hw1 hb1 hp1 hs1 hV hG1 hG hnew hC hc hl hb
  go_enter_defers Try.func28, Try.ntmps28
  go_wp2_with fail
  rw [HW1.out]
  refine HRD.out.mono ?_
  cases V with
  | none =>
    rintro en w2 ⟨rfl, hb2⟩
    have hRv : R = ((id, cnt, ps), ([], false, 2)) := by rw [← HR.out]; unfold putV; rw [HV.out]
    rw [hRv]
    exact leave_put rfl rfl rfl ((HG.out.1.below HG.out.2.2.1).below hb2) (Mu.of_below (below_step HG.out.2.2.1 hb2) own) (Nat.le_refl _) ((Mu.of_below hb2 (fun _ => False)).heap HG.out.2.2.2.1 (fun h => h)) (HB.out.1 _ (Nat.le_refl _))
  | some q =>
  obtain ⟨pid, pat, pn, bb⟩ := q
  rintro en w2 ⟨v2, rfl, hR2, hb2⟩
  obtain ⟨q1, q2, q3, q4, q5, q6⟩ := readV_ok HB.out.2 HV.out
  obtain ⟨at', rfl⟩ := Int.eq_ofNat_of_zero_le q2
  obtain ⟨n', rfl⟩ := Int.eq_ofNat_of_zero_le (show 0 ≤ pn by omega)
  obtain ⟨A2, c2, rfl, hc2, _⟩ := Kd.R_reads hR2
  have hG2 := (HG.out.1.below HG.out.2.2.1).below hb2
  have hp2 := (Mu.of_below hb2 (fun _ => False)).heap HG.out.2.2.2.1 (fun h => h)
  have hgw : w2.heap[g]? = w.heap[g]? := (hb2.block g (by have := HG.out.2.2.2.2; have := HG.out.2.1.1; omega)).trans (HG.out.2.2.1.block g HG.out.2.1.1)
  have hsz2 := hb2.size
  have hF2 : Kd.F (Kd.int .u8) w2 (fun k => (own k ∧ k ≠ w.heap.size) ∧ k ≠ g ∧ ∀ i c b, w2.heap[g]? = some (gatO i c (some b)) → k ≠ b) A2 bb.length bb := by
    refine Kd.F_mono (Kd.R_F (Kd.R_bound hR2)) (fun k hk => ?_)
    have hk2 := hk.2.1
    have hw := HG.out.2.2.2.2
    refine ⟨⟨HB.out.1 k (by omega), by omega⟩, by have := HG.out.2.1.1; omega, fun i c b hb => ?_⟩
    rw [hgw] at hb
    have := HG.out.2.1.2 i c b hb
    omega
  have HT := Aside0.mk (takes_any hG2 (fun k hk => ⟨HB.out.1 k (by have := HG.out.2.2.2.2; omega), by have := HG.out.2.2.2.2; omega⟩) pid at' n' q1 (by omega) (by omega) q5 hc2 q6 hF2)
  obtain ⟨T, hT⟩ : ∃ T, takeV id cnt ps pid at' n' bb = T := ⟨_, rfl⟩
  rw [hT] at HT
  have hRv : R = putOut id cnt ps T := by
    rw [← HR.out]; unfold putV; rw [HV.out]
    simp only [Int.toNat_natCast, hT]
  have HRv := Aside0.mk hRv
  have HB2 := Aside0.mk (And.intro (below_step HG.out.2.2.1 hb2) (And.intro hp2 (show w.heap.size < w2.heap.size by have := HG.out.2.2.2.2; omega)))
  clear hRv hT hF2 hgw hsz2 hp2 hG2 hR2 hb2 q1 q2 q3 q4 q5 q6 hc2 HRD HR
  go_wp2_with fail
  refine HT.out.mono ?_
  cases T with
  | none =>
    rintro en w3 ⟨hG3, hm3, rfl⟩
    rw [HRv.out]
    exact leave_put rfl rfl rfl hG3 ((Mu.of_below HB2.out.1 own).trans (hm3.mono (fun k _ h => h.1))) (Nat.le_refl _) (hm3.heap HB2.out.2.1 (fun h => h.2 rfl)) (HB.out.1 _ (Nat.le_refl _))
  | some q =>
  obtain ⟨st, m, x⟩ := q
  rintro en w3 ⟨hG3, hm3, v3, rfl, hR3⟩
  obtain ⟨A3, c3, rfl⟩ := Kd.R_slice hR3
  have hp3 := hm3.heap HB2.out.2.1 (fun h => h.2 rfl)
  have y0 := blk_cell hp3 0
  have z0 := blk_frozen hp3 0
  have HX := Aside0.mk (And.intro hG3 (And.intro hm3 (And.intro hR3 hp3)))
  clear hG3 hm3 hR3 hp3
  go_wp2_with fail
  refine leaves_cons (f := 49) (args := #[.pointer (some ⟨w.heap.size, 0, none⟩)]) (by simp) (by simp [go_sem]) ?_
  refine put1_idle.mono ?_
  rintro en u w5 ⟨rfl, rfl, rfl⟩
  refine ⟨_, put_results rfl rfl rfl (set_0 HX.out.2.2.2), ?_⟩
  rw [HRv.out]
  have hms : Mu (· = w.heap.size) w3 (w3.setCell ⟨w.heap.size, 0, none⟩ (.int .i64 0)) := (Mu.refl (· = w.heap.size) w3).setCell (p := ⟨w.heap.size, 0, none⟩) (fun _ => rfl) _
  refine ⟨(HX.out.1.step (fun k hk hl => hms.block k hl hk.2)).mono (fun k _ hk => hk.1), ?_, _, rfl, ?_⟩
  · exact ((Mu.of_below HB2.out.1 own).trans (HX.out.2.1.mono (fun k _ h => h.1))).trans (hms.mono (fun k _ e => by obtain rfl : k = w.heap.size := e; exact HB.out.1 _ (Nat.le_refl _)))
  · have h1 := Kd.R_bound HX.out.2.2.1
    exact Kd.R_lower (Kd.R_mono (Kd.R_move h1 (fun k hk => hms.block k hk.2.2.1 (by have := hk.2.1; have := HB2.out.2.2; omega))) (fun _ _ => trivial)) (by have := HB2.out.2.2; omega)
end Go.Proofs.Ytdklanenmihpdaa.Hand
namespace Go.Proofs.Ytdklanenmihpdaa.Hand
open Go.RowKit Go.Maps Go.Proofs.YtdklanenmihpdaaW.PrintWords Go.Proofs.YtdklanenmihpdaaW.PrintLast Go.Proofs.YtdklanenmihpdaaW.PrintMore Go.Proofs.Ytdklanenmihpdaa.PA
theorem rows_get {w : World} {A : Option Addr} {l : List (List Int)} (h : Kd.C (Kd.slice 5 (Kd.int .u8)) w A l.length l) (i : Nat) (hi : i < l.length) :
    ∃ ad Ai ci, A = some ad ∧ w.cell? (ad.add i) = some (.slice Ai (l.getD i []).length ci) ∧ (l.getD i []).length ≤ ci ∧ Kd.C (Kd.int .u8) w Ai (l.getD i []).length (l.getD i []) := by
  obtain ⟨ad, cc, e1, _, ⟨Ak, ck, rfl, hck, hCk⟩, hcell⟩ := Kd.C_get h [] (i : Int) (by omega) (by omega)
  have hcl := hcell 0 _ rfl
  rw [show (Kd.slice 5 (Kd.int IntKind.u8)).sz = 1 from rfl, Nat.mul_one, Nat.add_zero, Int.toNat_natCast] at hcl
  rw [Int.toNat_natCast] at hck hCk
  exact ⟨ad, Ak, ck, e1, hcl, hck, hCk⟩
theorem C_lit3 {w : World} {x y z : Int} : Kd.C (Kd.int .u8) (w.alloc (.cells #[.int .u8 x, .int .u8 y, .int .u8 z] 5)) (some ⟨w.heap.size, 0, none⟩) [x, y, z].length [x, y, z] := by
  have hn := alloc_new w (.cells #[.int .u8 x, .int .u8 y, .int .u8 z] 5)
  refine ⟨rfl, by simp, fun _ => ⟨_, rfl, fun j p hj => ⟨[.int .u8 p], rfl, rfl, fun i u hu => ?_⟩⟩⟩
  have hi : i = 0 := by
    cases i with
    | zero => rfl
    | succ i => simp at hu
  subst hi
  simp at hu
  subst hu
  have e : ((⟨w.heap.size, 0, none⟩ : Addr).add (j * (Kd.int .u8).sz + 0)) = ⟨w.heap.size, j, none⟩ := by
    show (⟨w.heap.size, 0, none⟩ : Addr).add (j * 1 + 0) = _
    unfold Addr.add
    split
    · next h => have : j = 0 := by omega
                rw [this]
    · simp
  rw [e]
  simp only [World.cell?, hn]
  rcases j with _ | _ | _ | j
  · obtain rfl : x = p := by simpa using hj
    rfl
  · obtain rfl : y = p := by simpa using hj
    rfl
  · obtain rfl : z = p := by simpa using hj
    rfl
  · simp at hj
set_option maxRecDepth 100000
def tiklaw26_first.f : Option Bool := some true
set_option maxHeartbeats 4000000 in
theorem tiklaw26_first.calls (r : Bool) (w : World) (h : tiklaw26_first.f = some r) :
    Calls Try.prog 24 #[] w fun e w' => e = .returned (.bool r) ∧ Below w.heap.size w w' := by
  obtain rfl : true = r := Option.some.inj h
  clear h
  go_enter Try.func24, Try.ntmps24
  go_wp2_with fail
  refine (frag_Cut.calls 1 none 0 [] [[1, 0, 1]] 0 _ (Kd.C_nil _ _) (by simp) (by decide +kernel)).mono ?_
  rintro en w1 ⟨v1, rfl, hv1, hb1⟩
  obtain ⟨A1, c1, rfl, hc1, hF1⟩ := hv1
  have hC1 := Kd.F_now hF1
  have HC1 := Aside0.mk hC1
  have HB1 := Aside0.mk hb1
  have HO : Aside0 (∀ k, w1.heap.size ≤ k → (fun k => w1.heap.size ≤ k) k) := ⟨fun _ h => h⟩
  clear hc1 hF1 hC1 hb1
  go_wp2_with fail
  refine (newGather_any (own := fun k => w1.heap.size ≤ k) (Nat.le_refl _)).mono ?_
  rintro en w2 ⟨rfl, hG2, hb2, hs2⟩
  have hC2 := Kd.C_below HC1.out hb2
  obtain ⟨ad, A0, c0, rfl, hcl, hck, hCk⟩ := rows_get hC2 0 (by simp)
  have e0 : ad.add 0 = ad := by unfold Addr.add; simp
  have hcl2 := hcl
  rw [e0] at hcl2
  have HG2 := Aside0.mk (And.intro hG2 (And.intro hb2 hs2))
  have HCk := Aside0.mk (And.intro hck hCk)
  have HC2 := Aside0.mk hC2
  clear hG2 hb2 hs2 hck hCk hC2
  go_wp2_with fail
  refine (tikref_Bytes.calls A0 c0 [1, 0, 1] (some ⟨w2.heap.size, 0, none⟩) 3 [1, 0, 1] true _ (Kd.C_alloc HCk.out.2 _) HCk.out.1 C_lit3 (by decide) (by decide +kernel)).mono ?_
  rintro en w3 ⟨rfl, hd3⟩
  have hb3 : Below w2.heap.size w2 w3 := below_step (below_alloc (Below.refl _ _) _) hd3.below
  have HG3 := Aside0.mk (And.intro (HG2.out.1.below hb3) (below_step HG2.out.2.1 hb3))
  have hcl3 : w3.cell? ad = some (.slice A0 3 c0) := by
    have hh := hcl2
    obtain ⟨hlt, _⟩ : ad.block < w2.heap.size ∧ True := ⟨by
      rcases Nat.lt_or_ge ad.block w2.heap.size with h | h
      · exact h
      · simp [World.cell?, Array.getElem?_eq_none h] at hh, trivial⟩
    exact (hb3.cell hlt).trans hh
  have HCk3 := Aside0.mk (Kd.C_below HCk.out.2 hb3)
  clear hd3 hb3 hcl hcl2 HG2 e0
  go_wp2_with fail
  refine (put_any HG3.out.1 (fun k hk => Nat.le_trans HG3.out.2.size hk) HCk3.out HCk.out.1 (by simp) (by simp)).mono ?_
  rintro en w4 ⟨hG4, hm4, v4, rfl, hR4⟩
  have ep : putV 0 0 [] [1, 0, 1] = ((1, 1, [[]]), ([], true, 0)) := by decide +kernel
  rw [show ([[1, 0, 1]] : List (List Int)).getD 0 [] = [1, 0, 1] from rfl, ep] at hG4 hR4 ⊢
  obtain ⟨A4, c4, rfl⟩ := Kd.R_slice hR4
  have hb4 : Below w1.heap.size w1 w4 := Mu.below_of HG3.out.2 hm4 (fun k hk h => by omega)
  have hC4 := Kd.C_below HC1.out hb4
  obtain ⟨ad4, A04, c04, ea4, hcl4, hck4, hCk4⟩ := rows_get hC4 0 (by simp)
  obtain rfl := Option.some.inj ea4
  have e0 : ad.add 0 = ad := by unfold Addr.add; simp
  rw [e0] at hcl4
  have HG4 := Aside0.mk (And.intro hG4 hb4)
  have HCk4 := Aside0.mk (And.intro hck4 hCk4)
  clear hG4 hm4 hR4 ep hb4 hC4 ea4 hck4 hCk4 HG3 HCk3 HCk hcl3
  go_wp2_with fail
  refine (put_any HG4.out.1 (fun k hk => Nat.le_trans HG4.out.2.size hk) HCk4.out.2 HCk4.out.1 (by simp) (by simp)).mono ?_
  rintro en w5 ⟨hG5, hm5, v5, rfl, hR5⟩
  have ep : putV 1 1 [[]] [1, 0, 1] = ((1, 1, [[]]), ([], false, 0)) := by decide +kernel
  rw [show ([[1, 0, 1]] : List (List Int)).getD 0 [] = [1, 0, 1] from rfl, ep] at hG5 hR5 ⊢
  obtain ⟨A5, c5, rfl⟩ := Kd.R_slice hR5
  have hb5 : Below w1.heap.size w1 w5 := Mu.below_of HG4.out.2 hm5 (fun k hk h => by omega)
  have HG5 := Aside0.mk (And.intro hG5 hb5)
  clear hG5 hm5 hR5 ep hb5 HG4 HCk4 hcl4 e0
  go_wp2_with fail
  refine (frag_Cut.calls 0 none 0 [] [] 17 _ (Kd.C_nil _ _) (by simp) (by decide +kernel)).mono ?_
  rintro en w6 ⟨v6, rfl, hv6, hb6⟩
  obtain ⟨A6, c6, rfl, hc6, hF6⟩ := hv6
  have HG6 := Aside0.mk (And.intro (HG5.out.1.below hb6) (below_step HG5.out.2 hb6))
  clear hc6 hF6 hb6 HG5
  go_wp2_with fail
  refine (gid_any HG6.out.1).mono ?_
  rintro en w7 ⟨rfl, rfl⟩
  go_wp2_with fail
  refine (ghave_any HG6.out.1).mono ?_
  rintro en w8 ⟨rfl, rfl⟩
  go_wp2_with fail
  go_ret
  exact ⟨rfl, HB1.out.trans (HG6.out.2.mono HB1.out.size)⟩
end Go.Proofs.Ytdklanenmihpdaa.Hand
namespace Go.Proofs.Ytdklanenmihpdaa.PZ
open Go.RowKit Go.Proofs.YtdklanenmihpdaaW.PrintWords Go.Proofs.YtdklanenmihpdaaW.PrintLast Go.Proofs.YtdklanenmihpdaaW.PrintMore
attribute [local go_sem] max2_int min2_int max_two min_two max_three min_three max_four min_four
open Go.Proofs.Ytdklanenmihpdaa.Hand
open Go.Proofs.Ytdklanenmihpdaa.PA
set_option linter.unusedVariables false
set_option linter.unusedSimpArgs false
def errW : Option Int → Value
  | none => .nilIface
  | some c => .iface 0 (.int .i64 c)
theorem errW_none : errW none = .nilIface := rfl
theorem errW_some (c : Int) : errW (some c) = .iface 0 (.int .i64 c) := rfl
theorem info5 : (Try.prog.info? 5).map (fun i => (i.zero, i.size, i.bytes)) = some (some (.int .u8 0), 1, 1) := by kernel_rfl
def rd_L1 (xs : List (List Int)) (i : Int) : (List Int) := xs.getD i.toNat ([] : List Int)
theorem at_L1 {w : World} {A : Option Addr} {n : Nat} {xs : List (List Int)} (h : Kd.C (Kd.slice 5 (Kd.int .u8)) w A n xs) (i : Int) (h0 : 0 ≤ i) (h1 : i < n) : ∃ ad A0 c0, A = some ad ∧ w.cell? (ad.add i.toNat) = some (.slice A0 (rd_L1 xs i).length c0) ∧ (rd_L1 xs i).length ≤ c0 ∧ (Kd.int .u8).C w A0 (rd_L1 xs i).length (rd_L1 xs i) := by
  obtain ⟨ad, c, e, _, hK, hc0⟩ := Kd.C_get h ([] : List Int) i h0 h1
  have hc : ∀ j u, c[j]? = some u → w.cell? (ad.add (i.toNat * 1 + j)) = some u := hc0
  obtain ⟨A0, c0, rfl, l0, g0⟩ := hK
  exact ⟨ad, A0, c0, e, by have hq := hc 0 _ rfl; rwa [Nat.mul_one, Nat.add_zero] at hq, l0, g0⟩
end Go.Proofs.Ytdklanenmihpdaa.PZ
namespace Go.Proofs.Ytdklanenmihpdaa.PZ
open Go.RowKit Go.Proofs.YtdklanenmihpdaaW.PrintWords Go.Proofs.YtdklanenmihpdaaW.PrintLast Go.Proofs.YtdklanenmihpdaaW.PrintMore
attribute [local go_sem] max2_int min2_int max_two min_two max_three min_three max_four min_four
open Go.Proofs.Ytdklanenmihpdaa.Hand
open Go.Proofs.Ytdklanenmihpdaa.PA
set_option linter.unusedVariables false
set_option linter.unusedSimpArgs false
mutual
def tiklaw26_FragSizes.j0 : Nat → Int → List Int → Int → List (List Int) → Int → Bool → Option (Bool)
  | 0, _, _, _, _, _, _ => none
  | k + 1, x0, x1, x2, x7, x8, x31 => if x31 = true then ((tiklaw26_first.f).bind fun t107 => (if t107 = true then (if x8 = 17 then (some ((x7.length : Int) == 0)) else (some false)) else (some false))) else (if x8 = 0 then (tiklaw26_FragSizes.j1 k x0 x1 x2 x7 ((x7.length : Int) != (mx (wrap64 (Int.tdiv (wrap64 ((wrap64 ((x1.length : Int) + 256)) - 1)) 256)) 1))) else (tiklaw26_FragSizes.j1 k x0 x1 x2 x7 true))
def tiklaw26_FragSizes.j1 : Nat → Int → List Int → Int → List (List Int) → Bool → Option (Bool)
  | 0, _, _, _, _, _ => none
  | k + 1, x0, x1, x2, x7, x55 => if x55 = true then (some false) else (tiklaw26_FragSizes.l0 k x0 x1 x2 x7 0 0)
def tiklaw26_FragSizes.l0 : Nat → Int → List Int → Int → List (List Int) → Int → Int → Option (Bool)
  | 0, _, _, _, _, _, _ => none
  | k + 1, x0, x1, x2, x7, x10, x11 => if x11 < (x7.length : Int) then (if 0 ≤ x11 then (if ((rd_L1 x7 x11).length : Int) > 270 then (some false) else (if x11 < (wrap64 ((x7.length : Int) - 1)) then (if ((rd_L1 x7 x11).length : Int) < 259 then (some false) else (tiklaw26_FragSizes.l0 k x0 x1 x2 x7 (wrap64 (x10 + ((rd_L1 x7 x11).length : Int))) (wrap64 (x11 + 1)))) else (tiklaw26_FragSizes.l0 k x0 x1 x2 x7 (wrap64 (x10 + ((rd_L1 x7 x11).length : Int))) (wrap64 (x11 + 1))))) else (none)) else (if x2 < 1 then (tiklaw26_FragSizes.j3 k x0 x1 x2 x7 x10 true) else (tiklaw26_FragSizes.j3 k x0 x1 x2 x7 x10 (decide (x2 > 9))))
def tiklaw26_FragSizes.j3 : Nat → Int → List Int → Int → List (List Int) → Int → Bool → Option (Bool)
  | 0, _, _, _, _, _, _ => none
  | k + 1, x0, x1, x2, x7, x10, x95 => if x95 = true then ((tiklaw26_first.f).bind fun t111 => (if t111 = true then (some (decide (x10 ≥ (wrap64 ((x1.length : Int) + (wrap64 (3 * (x7.length : Int)))))))) else (some false))) else (if 0 ≤ (wrap64 (1048576 + x2)) then (if (wrap64 (1048576 + x2) : Int).toNat ≤ 281474976710656 then ((frag_Cut.f x0 (List.replicate (wrap64 (1048576 + x2) : Int).toNat 0)).bind fun bt115 => ((tiklaw26_first.f).bind fun t119 => (if t119 = true then (if x10 ≥ (wrap64 ((x1.length : Int) + (wrap64 (3 * (x7.length : Int))))) then (some (bt115.2 == 4)) else (some false)) else (some false)))) else (none)) else (none))
end
def tiklaw26_FragSizes.f (k : Nat) (a0 : Int) (l1 : List Int) (a2 : Int) : Option (Bool) := (tiklaw26_first.f).bind fun t101 => (if t101 = true then (if (l1.length : Int) > 5000 then ((tiklaw26_first.f).bind fun t102 => (some t102)) else ((frag_Cut.f a0 l1).bind fun bt103 => (if a0 < 1 then (tiklaw26_FragSizes.j0 k a0 l1 a2 bt103.1 bt103.2 true) else (tiklaw26_FragSizes.j0 k a0 l1 a2 bt103.1 bt103.2 (decide (a0 > 4611686018427387904)))))) else (some false))
set_option maxHeartbeats 8000000 in
set_option maxRecDepth 100000 in
theorem tiklaw26_FragSizes.calls (k : Nat) (a0 : Int) (A1 : Option Addr) (c1 : Nat) (l1 : List Int) (a2 : Int) (r : Bool) (w : World) (hr1 : Kd.C (Kd.int .u8) w A1 l1.length l1) (hc1 : l1.length ≤ c1) (hr_ : Aside0 (r = true)) (h : tiklaw26_FragSizes.f k a0 l1 a2 = some r) :
    Calls Try.prog 8 #[.int .u64 a0, .slice A1 l1.length c1, .int .i64 a2] w fun e w' => e = .returned (.bool r) ∧ Below w.heap.size w w' := by
  have HR1 := Aside0.mk hr1
  have HC1 := Aside0.mk hc1
  clear hr1 hc1
  have HB := Aside0.mk (Below.refl w.heap.size w)
  have H : ((tiklaw26_first.f).bind fun t101 => (if t101 = true then (if (l1.length : Int) > 5000 then ((tiklaw26_first.f).bind fun t102 => (some t102)) else ((frag_Cut.f a0 l1).bind fun bt103 => (if a0 < 1 then (tiklaw26_FragSizes.j0 k a0 l1 a2 bt103.1 bt103.2 true) else (tiklaw26_FragSizes.j0 k a0 l1 a2 bt103.1 bt103.2 (decide (a0 > 4611686018427387904)))))) else (some false))) = some r := h
  clear h
  replace H := Option.bind_eq_some_iff.mp H
  obtain ⟨t101, A40, H⟩ := H
  replace H : (if t101 = true then (if (l1.length : Int) > 5000 then ((tiklaw26_first.f).bind fun t102 => (some t102)) else ((frag_Cut.f a0 l1).bind fun bt103 => (if a0 < 1 then (tiklaw26_FragSizes.j0 k a0 l1 a2 bt103.1 bt103.2 true) else (tiklaw26_FragSizes.j0 k a0 l1 a2 bt103.1 bt103.2 (decide (a0 > 4611686018427387904)))))) else (some false)) = some r := H
  have A4 := Aside0.mk A40
  clear A40
  by_cases c5 : t101 = true
  · subst c5
    have H1 : (if (l1.length : Int) > 5000 then ((tiklaw26_first.f).bind fun t102 => (some t102)) else ((frag_Cut.f a0 l1).bind fun bt103 => (if a0 < 1 then (tiklaw26_FragSizes.j0 k a0 l1 a2 bt103.1 bt103.2 true) else (tiklaw26_FragSizes.j0 k a0 l1 a2 bt103.1 bt103.2 (decide (a0 > 4611686018427387904)))))) = some r := by rw [if_pos rfl] at H; exact H
    clear H
    have H := H1
    clear H1
    by_cases c6 : (l1.length : Int) > 5000
    · rw [if_pos c6] at H
      have c6b0 : decide (5000 < (l1.length : Int)) = true := decide_eq_true c6
      have c6b1 : decide (5000 < l1.length) = true := decide_eq_true (by omega)
      clear c6
      replace H := Option.bind_eq_some_iff.mp H
      obtain ⟨t102, A70, H⟩ := H
      replace H : (some t102) = some r := H
      have A7 := Aside0.mk A70
      clear A70
      obtain rfl := Option.some.inj H
      go_enter Try.func8, Try.ntmps8
      go_wp2_with (first | ((with_reducible refine gate_callee (f := 24) rfl ?_); refine goesL_ (some 14) rfl rfl Try.func24 (by kernel_rfl) rfl #[] rfl (by (try simp only [List.map_toArray, List.map_cons, List.map_nil]); first | done | rfl | (simp only [List.length_drop, List.length_take]; rfl)) ?_; (with_reducible refine (tiklaw26_first.calls  true _ A4.out).mono ?_); rintro e w8 ⟨rfl, hb⟩; refine ⟨_, rfl, ?_⟩; have n0_ := Aside0.mk (below_step (by repeat (first | (with_reducible first | exact HB.out | apply below_alloc | apply pw_below_drewN | apply below_drew1) | exact HB.out)) hb); clear HB; have HB := n0_; clear n0_; (try clear hb); (try clear hb2); (try clear hk); (try clear hi)) | ((with_reducible refine gate_callee (f := 24) rfl ?_); refine goesL_ (some 19) rfl rfl Try.func24 (by kernel_rfl) rfl #[] rfl (by (try simp only [List.map_toArray, List.map_cons, List.map_nil]); first | done | rfl | (simp only [List.length_drop, List.length_take]; rfl)) ?_; (with_reducible refine (tiklaw26_first.calls  t102 _ A7.out).mono ?_); rintro e w9 ⟨rfl, hb⟩; refine ⟨_, rfl, ?_⟩; have n0_ := Aside0.mk (below_step (by repeat (first | (with_reducible first | exact HB.out | apply below_alloc | apply pw_below_drewN | apply below_drew1) | exact HB.out)) hb); clear HB; have HB := n0_; clear n0_; (try clear hb); (try clear hb2); (try clear hk); (try clear hi)))
      go_ret
      exact ⟨by first | rfl | (simp [errW_none, errW_some] <;> rfl) | (simp [*, errW_none, errW_some] <;> rfl), by repeat (first | (with_reducible first | exact HB.out | apply below_alloc | apply pw_below_drewN | apply below_drew1) | exact HB.out)⟩
    · rw [if_neg c6] at H
      have c6b0 : decide (5000 < (l1.length : Int)) = false := decide_eq_false c6
      have c6b1 : decide (5000 < l1.length) = false := decide_eq_false (by omega)
      clear c6
      replace H := Option.bind_eq_some_iff.mp H
      obtain ⟨⟨t103, t104⟩, A100, H⟩ := H
      replace H : (if a0 < 1 then (tiklaw26_FragSizes.j0 k a0 l1 a2 t103 t104 true) else (tiklaw26_FragSizes.j0 k a0 l1 a2 t103 t104 (decide (a0 > 4611686018427387904)))) = some r := H
      have A10 := Aside0.mk A100
      clear A100
      have HC11 := Aside0.mk H
      clear H
      go_enter Try.func8, Try.ntmps8
      go_upto_region 6 with (first | ((with_reducible refine gate_callee (f := 24) rfl ?_); refine goesL_ (some 14) rfl rfl Try.func24 (by kernel_rfl) rfl #[] rfl (by (try simp only [List.map_toArray, List.map_cons, List.map_nil]); first | done | rfl | (simp only [List.length_drop, List.length_take]; rfl)) ?_; (with_reducible refine (tiklaw26_first.calls  true _ A4.out).mono ?_); rintro e w12 ⟨rfl, hb⟩; refine ⟨_, rfl, ?_⟩; have n0_ := Aside0.mk (below_step (by repeat (first | (with_reducible first | exact HB.out | apply below_alloc | apply pw_below_drewN | apply below_drew1) | exact HB.out)) hb); clear HB; have HB := n0_; clear n0_; (try clear hb); (try clear hb2); (try clear hk); (try clear hi)) | ((with_reducible refine gate_callee (f := 25) rfl ?_); refine goesL_ (some 23) rfl rfl Try.func25 (by kernel_rfl) rfl #[.int .u64 a0, .slice A1 l1.length c1] rfl (by (try simp only [List.map_toArray, List.map_cons, List.map_nil]); first | done | rfl | (simp only [List.length_drop, List.length_take]; rfl)) ?_; (with_reducible refine (frag_Cut.calls a0 _ _ l1 t103 t104 _ ?side1 ?side2 A10.out).mono ?_); (case side1 => repeat (first | exact (Kd.C_below HR1.out HB.out) | (with_reducible refine Kd.C_alloc ?_ _) | (with_reducible refine Kd.C_drewN ?_ _) | (with_reducible refine Kd.C_drew ?_))); (case side2 => exact HC1.out); rintro e w13 ⟨v105, rfl, ho0, hb⟩; refine ⟨_, rfl, ?_⟩; have n0_ := Aside0.mk (Kd.V_lower (Kd.V_mono (ok' := fun k_ => True) ho0 (fun k_ hk_ => trivial)) (below_size (by repeat (first | (with_reducible first | exact HB.out | apply below_alloc | apply pw_below_drewN | apply below_drew1) | exact HB.out)))); have n1_ := Aside0.mk (below_step (by repeat (first | (with_reducible first | exact HB.out | apply below_alloc | apply pw_below_drewN | apply below_drew1) | exact HB.out)) hb); clear HB; have HO106 := n0_; have HB := n1_; clear n0_ n1_; (try clear hb); (try clear hb2); (try clear hk); (try clear hi); (try clear ho0)))
      (try simp only [Act.put, List.setIfInBounds_toArray, List.set_cons_zero, List.set_cons_succ])
      go_cut [31] (fun v31 wc => ∃ (kq : Nat) (x31_10 : Bool), v31 = .bool x31_10 ∧ Aside0 (tiklaw26_FragSizes.j0 kq a0 l1 a2 t103 t104 x31_10 = some r) ∧ Aside0 (kq ≤ k) ∧ Aside0 (Kd.V (Kd.slice 5 (Kd.int .u8)) 23 wc w.heap.size (fun _ => True) v105 t103) ∧ Aside0 (Below w.heap.size w wc))
      case first =>
        have H := HC11.out
        clear HC11
        by_cases c14 : a0 < 1
        · rw [if_pos c14] at H
          have c14b0 : decide (a0 < 1) = true := decide_eq_true c14
          clear c14
          (first | rw [c14b0] | (simp only [i64_w, i32_w]; rw [c14b0]) | skip)
          have H' := Aside0.mk H
          clear H
          go_wp2
          go_meet
          case rel => exact ⟨_, (true), (by first | rfl | (simp; done) | (simp [*]; done)), H', ⟨by first | omega | exact Nat.le_refl _⟩, ⟨by (with_reducible repeat (first | apply Kd.V_alloc | apply Kd.V_drewN | apply Kd.V_drew)); exact HO106.out⟩, ⟨by repeat (first | (with_reducible first | exact HB.out | apply below_alloc | apply pw_below_drewN | apply below_drew1) | exact HB.out)⟩⟩
        · rw [if_neg c14] at H
          have c14b0 : decide (a0 < 1) = false := decide_eq_false c14
          clear c14
          (first | rw [c14b0] | (simp only [i64_w, i32_w]; rw [c14b0]) | skip)
          have H' := Aside0.mk H
          clear H
          go_wp2
          go_meet
          case rel => exact ⟨_, (decide (a0 > 4611686018427387904)), (by first | rfl | (simp; done) | (simp [*]; done)), H', ⟨by first | omega | exact Nat.le_refl _⟩, ⟨by (with_reducible repeat (first | apply Kd.V_alloc | apply Kd.V_drewN | apply Kd.V_drew)); exact HO106.out⟩, ⟨by repeat (first | (with_reducible first | exact HB.out | apply below_alloc | apply pw_below_drewN | apply below_drew1) | exact HB.out)⟩⟩
      case rest =>
        clear HC11
        try clear c1
        try clear c2
        try clear p2
        try clear c5
        try clear c6
        try clear c6b0
        try clear c6b1
        try clear c8
        try clear c14
        try clear c14b0
        obtain ⟨kq, x31_10, rfl, HA, HJ10, HO_7, HB⟩ := hcut
        cases kq with
        | zero => exact absurd HA.out (by simp [tiklaw26_FragSizes.j0])
        | succ kj10 =>
          have H := HA.out
          clear HA
          simp only [tiklaw26_FragSizes.j0] at H
          by_cases c15 : x31_10 = true
          · subst c15
            have H1 : ((tiklaw26_first.f).bind fun t107 => (if t107 = true then (if t104 = 17 then (some ((t103.length : Int) == 0)) else (some false)) else (some false))) = some r := by rw [if_pos rfl] at H; exact H
            clear H
            have H := H1
            clear H1
            replace H := Option.bind_eq_some_iff.mp H
            obtain ⟨t107, A160, H⟩ := H
            replace H : (if t107 = true then (if t104 = 17 then (some ((t103.length : Int) == 0)) else (some false)) else (some false)) = some r := H
            have A16 := Aside0.mk A160
            clear A160
            by_cases c17 : t107 = true
            · subst c17
              have H1 : (if t104 = 17 then (some ((t103.length : Int) == 0)) else (some false)) = some r := by rw [if_pos rfl] at H; exact H
              clear H
              have H := H1
              clear H1
              by_cases c18 : t104 = 17
              · rw [if_pos c18] at H
                have c18b0 : (t104 == 17) = true := beq_iff_eq.mpr c18
                have c18b1 : (t104 != 17) = false := bne_eq_false_iff_eq.mpr c18
                clear c18
                obtain rfl := Option.some.inj H
                go_wp2_with (first | ((with_reducible refine gate_callee (f := 24) rfl ?_); refine goesL_ (some 32) rfl rfl Try.func24 (by kernel_rfl) rfl #[] rfl (by (try simp only [List.map_toArray, List.map_cons, List.map_nil]); first | done | rfl | (simp only [List.length_drop, List.length_take]; rfl)) ?_; (with_reducible refine (tiklaw26_first.calls  true _ A16.out).mono ?_); rintro e w19 ⟨rfl, hb⟩; refine ⟨_, rfl, ?_⟩; have n0_ := Aside0.mk (Kd.V_below (by (with_reducible repeat (first | apply Kd.V_alloc | apply Kd.V_drewN | apply Kd.V_drew)); exact HO_7.out) hb); have n1_ := Aside0.mk (below_step (by repeat (first | (with_reducible first | exact HB.out | apply below_alloc | apply pw_below_drewN | apply below_drew1) | exact HB.out)) hb); clear HO_7; clear HB; have HO_7 := n0_; have HB := n1_; clear n0_ n1_; (try clear hb); (try clear hb2); (try clear hk); (try clear hi); obtain ⟨Ao20, co20, eo20⟩ := Kd.V_slice HO_7.out; subst eo20))
                go_ret
                exact ⟨by first | rfl | (simp [errW_none, errW_some] <;> rfl) | (simp [*, errW_none, errW_some] <;> rfl), by repeat (first | (with_reducible first | exact HB.out | apply below_alloc | apply pw_below_drewN | apply below_drew1) | exact HB.out)⟩
              · rw [if_neg c18] at H
                have c18b0 : (t104 == 17) = false := beq_eq_false_iff_ne.mpr c18
                have c18b1 : (t104 != 17) = true := bne_iff_ne.mpr c18
                exact absurd ((Option.some.inj H).trans hr_.out) (by simp)
            · replace c17 := Bool.eq_false_iff.mpr c17
              subst c17
              have H1 : (some false) = some r := by rw [if_neg (show ¬ (false = true) by decide)] at H; exact H
              clear H
              have H := H1
              clear H1
              exact absurd ((Option.some.inj H).trans hr_.out) (by simp)
          · replace c15 := Bool.eq_false_iff.mpr c15
            subst c15
            have H1 : (if t104 = 0 then (tiklaw26_FragSizes.j1 kj10 a0 l1 a2 t103 ((t103.length : Int) != (mx (wrap64 (Int.tdiv (wrap64 ((wrap64 ((l1.length : Int) + 256)) - 1)) 256)) 1))) else (tiklaw26_FragSizes.j1 kj10 a0 l1 a2 t103 true)) = some r := by rw [if_neg (show ¬ (false = true) by decide)] at H; exact H
            clear H
            have H := H1
            clear H1
            have HC21 := Aside0.mk H
            clear H
            go_upto_region 9 with (fail)
            go_cut [55] (fun v55 wc => ∃ (kq : Nat) (x55_20 : Bool), v55 = .bool x55_20 ∧ Aside0 (tiklaw26_FragSizes.j1 kq a0 l1 a2 t103 x55_20 = some r) ∧ Aside0 (kq ≤ kj10) ∧ Aside0 (Kd.V (Kd.slice 5 (Kd.int .u8)) 23 wc w.heap.size (fun _ => True) v105 t103) ∧ Aside0 (Below w.heap.size w wc))
            case first =>
              have H := HC21.out
              clear HC21
              by_cases c22 : t104 = 0
              · rw [if_pos c22] at H
                have c22b0 : (t104 == 0) = true := beq_iff_eq.mpr c22
                have c22b1 : (t104 != 0) = false := bne_eq_false_iff_eq.mpr c22
                clear c22
                (first | rw [c22b0] | (simp only [i64_w, i32_w]; rw [c22b0]) | skip)
                obtain ⟨ji23, hji23⟩ : ∃ j_ : Int, (mx (wrap64 (Int.tdiv (wrap64 ((wrap64 ((l1.length : Int) + 256)) - 1)) 256)) 1) = j_ := ⟨_, rfl⟩
                replace H : (tiklaw26_FragSizes.j1 kj10 a0 l1 a2 t103 ((t103.length : Int) != (ji23))) = some r := by first | (rw [hji23] at H; exact H) | (simp only [hji23] at H ⊢; exact H)
                have hji23_ : (if (wrap64 (Int.tdiv (wrap64 ((wrap64 ((l1.length : Int) + 256)) - 1)) 256)) < 1 then 1 else (wrap64 (Int.tdiv (wrap64 ((wrap64 ((l1.length : Int) + 256)) - 1)) 256))) = ji23 := hji23
                have H' := Aside0.mk H
                clear H
                obtain ⟨Ao24, co24, eo24⟩ := Kd.V_slice HO_7.out
                subst eo24
                go_wp2
                go_meet
                case rel => exact ⟨_, (((t103.length : Int) != (ji23))), (by first | rfl | (simp; done) | (simp only [← hji23] <;> (first | rfl | simp)) | (simp [*]; done)), H', ⟨by have := HJ10.out; first | omega | exact Nat.le_refl _⟩, ⟨by (with_reducible repeat (first | apply Kd.V_alloc | apply Kd.V_drewN | apply Kd.V_drew)); exact HO_7.out⟩, ⟨by repeat (first | (with_reducible first | exact HB.out | apply below_alloc | apply pw_below_drewN | apply below_drew1) | exact HB.out)⟩⟩
              · rw [if_neg c22] at H
                have c22b0 : (t104 == 0) = false := beq_eq_false_iff_ne.mpr c22
                have c22b1 : (t104 != 0) = true := bne_iff_ne.mpr c22
                (first | rw [c22b0] | (simp only [i64_w, i32_w]; rw [c22b0]) | skip)
                have H' := Aside0.mk H
                clear H
                go_wp2
                go_meet
                case rel => exact ⟨_, (true), (by first | rfl | (simp; done) | (simp [*]; done)), H', ⟨by have := HJ10.out; first | omega | exact Nat.le_refl _⟩, ⟨by (with_reducible repeat (first | apply Kd.V_alloc | apply Kd.V_drewN | apply Kd.V_drew)); exact HO_7.out⟩, ⟨by repeat (first | (with_reducible first | exact HB.out | apply below_alloc | apply pw_below_drewN | apply below_drew1) | exact HB.out)⟩⟩
            case rest =>
              clear HC21
              try clear c1
              try clear c2
              try clear p2
              try clear c5
              try clear c6
              try clear c6b0
              try clear c6b1
              try clear p6
              try clear c8
              try clear c14
              try clear c14b0
              try clear c15
              try clear c17
              try clear c18
              try clear c18b0
              try clear c18b1
              try clear c22
              try clear c22b0
              try clear c22b1
              try clear c24
              try clear p2
              obtain ⟨kq, x55_20, rfl, HA, HJ20, HO_7, HB⟩ := hcut
              cases kq with
              | zero => exact absurd HA.out (by simp [tiklaw26_FragSizes.j1])
              | succ kj20 =>
                have H := HA.out
                clear HA
                simp only [tiklaw26_FragSizes.j1] at H
                by_cases c25 : x55_20 = true
                · subst c25
                  have H1 : (some false) = some r := by rw [if_pos rfl] at H; exact H
                  clear H
                  have H := H1
                  clear H1
                  exact absurd ((Option.some.inj H).trans hr_.out) (by simp)
                · replace c25 := Bool.eq_false_iff.mpr c25
                  subst c25
                  have H1 : (tiklaw26_FragSizes.l0 kj20 a0 l1 a2 t103 0 0) = some r := by rw [if_neg (show ¬ (false = true) by decide)] at H; exact H
                  clear H
                  have H := H1
                  clear H1
                  have H' := Aside0.mk H
                  clear H
                  go_wp2
                  go_loopg [10, 11] kj20 (fun kq v10 v11 w' => ∃ (x10_3 : Int) (x11_3 : Int), v10 = .int .i64 x10_3 ∧ v11 = .int .i64 x11_3 ∧ Aside0 (tiklaw26_FragSizes.l0 kq a0 l1 a2 t103 x10_3 x11_3 = some r) ∧ Aside0 (kq ≤ kj20) ∧ Aside0 (Kd.V (Kd.slice 5 (Kd.int .u8)) 23 w' w.heap.size (fun _ => True) v105 t103) ∧ Aside0 (Below w.heap.size w w'))
                  case atStart => exact ⟨(0), (0), (by first | rfl | (simp; done) | (simp [*]; done)), (by first | rfl | (simp; done) | (simp [*]; done)), H', ⟨Nat.le_refl _⟩, ⟨by (with_reducible repeat (first | apply Kd.V_alloc | apply Kd.V_drewN | apply Kd.V_drew)); exact HO_7.out⟩, ⟨by repeat (first | (with_reducible first | exact HB.out | apply below_alloc | apply pw_below_drewN | apply below_drew1) | exact HB.out)⟩⟩
                  case round =>
                    clear H'
                    try clear c1
                    try clear c2
                    try clear p2
                    try clear c5
                    try clear c6
                    try clear c6b0
                    try clear c6b1
                    try clear p6
                    try clear c8
                    try clear c14
                    try clear c14b0
                    try clear c15
                    try clear c17
                    try clear c18
                    try clear c18b0
                    try clear c18b1
                    try clear c22
                    try clear c22b0
                    try clear c22b1
                    try clear c24
                    try clear c25
                    try clear p2
                    try clear p6
                    obtain ⟨x10_3, x11_3, rfl, rfl, HA, HK3, HO_7, HB⟩ := hrel
                    cases gk with
                    | zero => exact absurd HA.out (by simp [tiklaw26_FragSizes.l0])
                    | succ k3 =>
                      have H := HA.out
                      clear HA
                      simp only [tiklaw26_FragSizes.l0] at H
                      by_cases c26 : x11_3 < (t103.length : Int)
                      · rw [if_pos c26] at H
                        have c26b0 : decide (x11_3 < (t103.length : Int)) = true := decide_eq_true c26
                        clear c26
                        by_cases c27 : 0 ≤ x11_3
                        · rw [if_pos c27] at H
                          have c27b0 : decide (0 ≤ x11_3) = true := decide_eq_true c27
                          clear c27
                          by_cases c28 : ((rd_L1 t103 x11_3).length : Int) > 270
                          · rw [if_pos c28] at H
                            have c28b0 : decide (270 < ((rd_L1 t103 x11_3).length : Int)) = true := decide_eq_true c28
                            have c28b1 : decide (270 < (rd_L1 t103 x11_3).length) = true := decide_eq_true (by omega)
                            clear c28
                            exact absurd ((Option.some.inj H).trans hr_.out) (by simp)
                          · rw [if_neg c28] at H
                            have c28b0 : decide (270 < ((rd_L1 t103 x11_3).length : Int)) = false := decide_eq_false c28
                            have c28b1 : decide (270 < (rd_L1 t103 x11_3).length) = false := decide_eq_false (by omega)
                            clear c28
                            by_cases c29 : x11_3 < (wrap64 ((t103.length : Int) - 1))
                            · rw [if_pos c29] at H
                              have c29b0 : decide (x11_3 < (wrap64 ((t103.length : Int) - 1))) = true := decide_eq_true c29
                              clear c29
                              by_cases c30 : ((rd_L1 t103 x11_3).length : Int) < 259
                              · rw [if_pos c30] at H
                                have c30b0 : decide (((rd_L1 t103 x11_3).length : Int) < 259) = true := decide_eq_true c30
                                have c30b1 : decide ((rd_L1 t103 x11_3).length < 259) = true := decide_eq_true (by omega)
                                clear c30
                                exact absurd ((Option.some.inj H).trans hr_.out) (by simp)
                              · rw [if_neg c30] at H
                                have c30b0 : decide (((rd_L1 t103 x11_3).length : Int) < 259) = false := decide_eq_false c30
                                have c30b1 : decide ((rd_L1 t103 x11_3).length < 259) = false := decide_eq_false (by omega)
                                clear c30
                                have H' := Aside0.mk H
                                clear H
                                obtain ⟨Ao31, co31, eo31⟩ := Kd.V_slice HO_7.out
                                subst eo31
                                have p108 : 0 ≤ (x11_3 : Int) := of_decide_eq_true (by first | (with_reducible assumption) | assumption)
                                have q108 : x11_3 < (t103.length : Int) := of_decide_eq_true (by first | (with_reducible assumption) | assumption)
                                obtain ⟨ad108, A108_0, c108_0, e108, hx108_0, hl108_0, hi108_0⟩ := at_L1 (Kd.V_reads' HO_7.out).2.2 x11_3 p108 q108
                                cases e108
                                obtain ⟨ce108, hce108, hMe108, hcc108⟩ := Kd.V_get HO_7.out [] x11_3 p108 (by first | exact q108 | exact of_decide_eq_true (by first | (with_reducible assumption) | assumption) | (have e_ := (Kd.V_reads' HO_7.out).1; omega))
                                obtain ⟨ua108_0, uc108_0, rfl, ul108_0, ge108_0⟩ := Kd.FK_slice_open hMe108
                                have hv108_0 := hcc108 0 _ rfl
                                rw [Nat.add_zero, show ((Kd.slice 5 (Kd.int .u8))).sz = 1 from rfl, Nat.mul_one] at hv108_0
                                replace hv108_0 := Option.some.inj (hv108_0.symm.trans hx108_0)
                                injection hv108_0 with hva_ hvn_ hvc_
                                rw [hva_] at ge108_0
                                rw [hvc_] at ul108_0
                                have HL108_0 := Aside0.mk (show Kd.V (Kd.int .u8) 5 _ w.heap.size _ _ (rd_L1 t103 x11_3) from Kd.V_mk ul108_0 ge108_0)
                                clear hva_ hvn_ hvc_ ge108_0 ul108_0
                                clear hcc108 hce108
                                have HR108_0 := Aside0.mk hi108_0
                                have HC108_0 := Aside0.mk hl108_0
                                clear hi108_0 hl108_0
                                replace p108 := eq_true p108
                                replace q108 := eq_true q108
                                have p109 : 0 ≤ (x11_3 : Int) := of_decide_eq_true (by first | (with_reducible assumption) | assumption)
                                have q109 : x11_3 < (t103.length : Int) := of_decide_eq_true (by first | (with_reducible assumption) | assumption)
                                obtain ⟨ad109, A109_0, c109_0, e109, hx109_0, hl109_0, hi109_0⟩ := at_L1 (Kd.V_reads' HO_7.out).2.2 x11_3 p109 q109
                                obtain rfl : ad108 = ad109 := (by injection e109)
                                obtain ⟨ce109, hce109, hMe109, hcc109⟩ := Kd.V_get HO_7.out [] x11_3 p109 (by first | exact q109 | exact of_decide_eq_true (by first | (with_reducible assumption) | assumption) | (have e_ := (Kd.V_reads' HO_7.out).1; omega))
                                obtain ⟨ua109_0, uc109_0, rfl, ul109_0, ge109_0⟩ := Kd.FK_slice_open hMe109
                                have hv109_0 := hcc109 0 _ rfl
                                rw [Nat.add_zero, show ((Kd.slice 5 (Kd.int .u8))).sz = 1 from rfl, Nat.mul_one] at hv109_0
                                replace hv109_0 := Option.some.inj (hv109_0.symm.trans hx109_0)
                                injection hv109_0 with hva_ hvn_ hvc_
                                rw [hva_] at ge109_0
                                rw [hvc_] at ul109_0
                                have HL109_0 := Aside0.mk (show Kd.V (Kd.int .u8) 5 _ w.heap.size _ _ (rd_L1 t103 x11_3) from Kd.V_mk ul109_0 ge109_0)
                                clear hva_ hvn_ hvc_ ge109_0 ul109_0
                                clear hcc109 hce109
                                have HR109_0 := Aside0.mk hi109_0
                                have HC109_0 := Aside0.mk hl109_0
                                clear hi109_0 hl109_0
                                replace p109 := eq_true p109
                                replace q109 := eq_true q109
                                have ea_ := Option.some.inj (hx108_0.symm.trans hx109_0)
                                injection ea_ with ea_ en_ ec_
                                subst ea_
                                subst ec_
                                clear en_
                                have p110 : 0 ≤ (x11_3 : Int) := of_decide_eq_true (by first | (with_reducible assumption) | assumption)
                                have q110 : x11_3 < (t103.length : Int) := of_decide_eq_true (by first | (with_reducible assumption) | assumption)
                                obtain ⟨ad110, A110_0, c110_0, e110, hx110_0, hl110_0, hi110_0⟩ := at_L1 (Kd.V_reads' HO_7.out).2.2 x11_3 p110 q110
                                obtain rfl : ad108 = ad110 := (by injection e110)
                                obtain ⟨ce110, hce110, hMe110, hcc110⟩ := Kd.V_get HO_7.out [] x11_3 p110 (by first | exact q110 | exact of_decide_eq_true (by first | (with_reducible assumption) | assumption) | (have e_ := (Kd.V_reads' HO_7.out).1; omega))
                                obtain ⟨ua110_0, uc110_0, rfl, ul110_0, ge110_0⟩ := Kd.FK_slice_open hMe110
                                have hv110_0 := hcc110 0 _ rfl
                                rw [Nat.add_zero, show ((Kd.slice 5 (Kd.int .u8))).sz = 1 from rfl, Nat.mul_one] at hv110_0
                                replace hv110_0 := Option.some.inj (hv110_0.symm.trans hx110_0)
                                injection hv110_0 with hva_ hvn_ hvc_
                                rw [hva_] at ge110_0
                                rw [hvc_] at ul110_0
                                have HL110_0 := Aside0.mk (show Kd.V (Kd.int .u8) 5 _ w.heap.size _ _ (rd_L1 t103 x11_3) from Kd.V_mk ul110_0 ge110_0)
                                clear hva_ hvn_ hvc_ ge110_0 ul110_0
                                clear hcc110 hce110
                                have HR110_0 := Aside0.mk hi110_0
                                have HC110_0 := Aside0.mk hl110_0
                                clear hi110_0 hl110_0
                                replace p110 := eq_true p110
                                replace q110 := eq_true q110
                                have ea_ := Option.some.inj (hx108_0.symm.trans hx110_0)
                                injection ea_ with ea_ en_ ec_
                                subst ea_
                                subst ec_
                                clear en_
                                go_wp2
                                go_roundg k3
                                case measure => have := HJ10.out; have := HJ20.out; have := HK3.out; omega
                                case rel => exact ⟨(wrap64 (x10_3 + ((rd_L1 t103 x11_3).length : Int))), (wrap64 (x11_3 + 1)), (by first | rfl | (simp; done) | (simp [*]; done)), (by first | rfl | (simp; done) | (simp [*]; done)), H', ⟨by have := HJ10.out; have := HJ20.out; have := HK3.out; omega⟩, ⟨by (with_reducible repeat (first | apply Kd.V_alloc | apply Kd.V_drewN | apply Kd.V_drew)); exact HO_7.out⟩, ⟨by repeat (first | (with_reducible first | exact HB.out | apply below_alloc | apply pw_below_drewN | apply below_drew1) | exact HB.out)⟩⟩
                            · rw [if_neg c29] at H
                              have c29b0 : decide (x11_3 < (wrap64 ((t103.length : Int) - 1))) = false := decide_eq_false c29
                              clear c29
                              have H' := Aside0.mk H
                              clear H
                              obtain ⟨Ao32, co32, eo32⟩ := Kd.V_slice HO_7.out
                              subst eo32
                              have p108 : 0 ≤ (x11_3 : Int) := of_decide_eq_true (by first | (with_reducible assumption) | assumption)
                              have q108 : x11_3 < (t103.length : Int) := of_decide_eq_true (by first | (with_reducible assumption) | assumption)
                              obtain ⟨ad108, A108_0, c108_0, e108, hx108_0, hl108_0, hi108_0⟩ := at_L1 (Kd.V_reads' HO_7.out).2.2 x11_3 p108 q108
                              cases e108
                              obtain ⟨ce108, hce108, hMe108, hcc108⟩ := Kd.V_get HO_7.out [] x11_3 p108 (by first | exact q108 | exact of_decide_eq_true (by first | (with_reducible assumption) | assumption) | (have e_ := (Kd.V_reads' HO_7.out).1; omega))
                              obtain ⟨ua108_0, uc108_0, rfl, ul108_0, ge108_0⟩ := Kd.FK_slice_open hMe108
                              have hv108_0 := hcc108 0 _ rfl
                              rw [Nat.add_zero, show ((Kd.slice 5 (Kd.int .u8))).sz = 1 from rfl, Nat.mul_one] at hv108_0
                              replace hv108_0 := Option.some.inj (hv108_0.symm.trans hx108_0)
                              injection hv108_0 with hva_ hvn_ hvc_
                              rw [hva_] at ge108_0
                              rw [hvc_] at ul108_0
                              have HL108_0 := Aside0.mk (show Kd.V (Kd.int .u8) 5 _ w.heap.size _ _ (rd_L1 t103 x11_3) from Kd.V_mk ul108_0 ge108_0)
                              clear hva_ hvn_ hvc_ ge108_0 ul108_0
                              clear hcc108 hce108
                              have HR108_0 := Aside0.mk hi108_0
                              have HC108_0 := Aside0.mk hl108_0
                              clear hi108_0 hl108_0
                              replace p108 := eq_true p108
                              replace q108 := eq_true q108
                              have p109 : 0 ≤ (x11_3 : Int) := of_decide_eq_true (by first | (with_reducible assumption) | assumption)
                              have q109 : x11_3 < (t103.length : Int) := of_decide_eq_true (by first | (with_reducible assumption) | assumption)
                              obtain ⟨ad109, A109_0, c109_0, e109, hx109_0, hl109_0, hi109_0⟩ := at_L1 (Kd.V_reads' HO_7.out).2.2 x11_3 p109 q109
                              obtain rfl : ad108 = ad109 := (by injection e109)
                              obtain ⟨ce109, hce109, hMe109, hcc109⟩ := Kd.V_get HO_7.out [] x11_3 p109 (by first | exact q109 | exact of_decide_eq_true (by first | (with_reducible assumption) | assumption) | (have e_ := (Kd.V_reads' HO_7.out).1; omega))
                              obtain ⟨ua109_0, uc109_0, rfl, ul109_0, ge109_0⟩ := Kd.FK_slice_open hMe109
                              have hv109_0 := hcc109 0 _ rfl
                              rw [Nat.add_zero, show ((Kd.slice 5 (Kd.int .u8))).sz = 1 from rfl, Nat.mul_one] at hv109_0
                              replace hv109_0 := Option.some.inj (hv109_0.symm.trans hx109_0)
                              injection hv109_0 with hva_ hvn_ hvc_
                              rw [hva_] at ge109_0
                              rw [hvc_] at ul109_0
                              have HL109_0 := Aside0.mk (show Kd.V (Kd.int .u8) 5 _ w.heap.size _ _ (rd_L1 t103 x11_3) from Kd.V_mk ul109_0 ge109_0)
                              clear hva_ hvn_ hvc_ ge109_0 ul109_0
                              clear hcc109 hce109
                              have HR109_0 := Aside0.mk hi109_0
                              have HC109_0 := Aside0.mk hl109_0
                              clear hi109_0 hl109_0
                              replace p109 := eq_true p109
                              replace q109 := eq_true q109
                              have ea_ := Option.some.inj (hx108_0.symm.trans hx109_0)
                              injection ea_ with ea_ en_ ec_
                              subst ea_
                              subst ec_
                              clear en_
                              go_wp2
                              go_roundg k3
                              case measure => have := HJ10.out; have := HJ20.out; have := HK3.out; omega
                              case rel => exact ⟨(wrap64 (x10_3 + ((rd_L1 t103 x11_3).length : Int))), (wrap64 (x11_3 + 1)), (by first | rfl | (simp; done) | (simp [*]; done)), (by first | rfl | (simp; done) | (simp [*]; done)), H', ⟨by have := HJ10.out; have := HJ20.out; have := HK3.out; omega⟩, ⟨by (with_reducible repeat (first | apply Kd.V_alloc | apply Kd.V_drewN | apply Kd.V_drew)); exact HO_7.out⟩, ⟨by repeat (first | (with_reducible first | exact HB.out | apply below_alloc | apply pw_below_drewN | apply below_drew1) | exact HB.out)⟩⟩
                        · rw [if_neg c27] at H
                          exact absurd H (by simp)
                      · rw [if_neg c26] at H
                        have c26b0 : decide (x11_3 < (t103.length : Int)) = false := decide_eq_false c26
                        clear c26
                        have HC33 := Aside0.mk H
                        clear H
                        obtain ⟨Ao34, co34, eo34⟩ := Kd.V_slice HO_7.out
                        subst eo34
                        go_upto_region 18 with (fail)
                        go_cut [95] (fun v95 wc => ∃ (kq : Nat) (x95_32 : Bool), v95 = .bool x95_32 ∧ Aside0 (tiklaw26_FragSizes.j3 kq a0 l1 a2 t103 x10_3 x95_32 = some r) ∧ Aside0 (kq ≤ k3) ∧ Aside0 (Kd.V (Kd.slice 5 (Kd.int .u8)) 23 wc w.heap.size (fun _ => True) (.slice Ao34 t103.length co34) t103) ∧ Aside0 (Below w.heap.size w wc))
                        case first =>
                          have H := HC33.out
                          clear HC33
                          by_cases c35 : a2 < 1
                          · rw [if_pos c35] at H
                            have c35b0 : decide (a2 < 1) = true := decide_eq_true c35
                            clear c35
                            (first | rw [c35b0] | (simp only [i64_w, i32_w]; rw [c35b0]) | skip)
                            have H' := Aside0.mk H
                            clear H
                            go_wp2
                            go_meet
                            case rel => exact ⟨_, (true), (by first | rfl | (simp; done) | (simp [*]; done)), H', ⟨by have := HJ10.out; have := HJ20.out; have := HK3.out; first | omega | exact Nat.le_refl _⟩, ⟨by (with_reducible repeat (first | apply Kd.V_alloc | apply Kd.V_drewN | apply Kd.V_drew)); exact HO_7.out⟩, ⟨by repeat (first | (with_reducible first | exact HB.out | apply below_alloc | apply pw_below_drewN | apply below_drew1) | exact HB.out)⟩⟩
                          · rw [if_neg c35] at H
                            have c35b0 : decide (a2 < 1) = false := decide_eq_false c35
                            clear c35
                            (first | rw [c35b0] | (simp only [i64_w, i32_w]; rw [c35b0]) | skip)
                            have H' := Aside0.mk H
                            clear H
                            go_wp2
                            go_meet
                            case rel => exact ⟨_, (decide (a2 > 9)), (by first | rfl | (simp; done) | (simp [*]; done)), H', ⟨by have := HJ10.out; have := HJ20.out; have := HK3.out; first | omega | exact Nat.le_refl _⟩, ⟨by (with_reducible repeat (first | apply Kd.V_alloc | apply Kd.V_drewN | apply Kd.V_drew)); exact HO_7.out⟩, ⟨by repeat (first | (with_reducible first | exact HB.out | apply below_alloc | apply pw_below_drewN | apply below_drew1) | exact HB.out)⟩⟩
                        case rest =>
                          clear HC33
                          try clear c1
                          try clear p1
                          try clear q1
                          try clear hx1
                          try clear c2
                          try clear p2
                          try clear c3
                          try clear c5
                          try clear c6
                          try clear c6b0
                          try clear c6b1
                          try clear p6
                          try clear c8
                          try clear c10
                          try clear p10
                          try clear q10
                          try clear hx10
                          try clear c11
                          try clear p11
                          try clear q11
                          try clear hx11
                          try clear c14
                          try clear c14b0
                          try clear c15
                          try clear c17
                          try clear c18
                          try clear c18b0
                          try clear c18b1
                          try clear c22
                          try clear c22b0
                          try clear c22b1
                          try clear c24
                          try clear c25
                          try clear c26
                          try clear c26b0
                          try clear c27
                          try clear c27b0
                          try clear c28
                          try clear c28b0
                          try clear c28b1
                          try clear c29
                          try clear c29b0
                          try clear c30
                          try clear c30b0
                          try clear c30b1
                          try clear c35
                          try clear c35b0
                          try clear hx108_0
                          try clear hx109_0
                          try clear hx110_0
                          try clear p108
                          try clear p109
                          try clear p110
                          try clear p2
                          try clear p6
                          try clear q108
                          try clear q109
                          try clear q110
                          obtain ⟨kq, x95_32, rfl, HA, HJ32, HO_7, HB⟩ := hcut
                          cases kq with
                          | zero => exact absurd HA.out (by simp [tiklaw26_FragSizes.j3])
                          | succ kj32 =>
                            have H := HA.out
                            clear HA
                            simp only [tiklaw26_FragSizes.j3] at H
                            by_cases c36 : x95_32 = true
                            · subst c36
                              have H1 : ((tiklaw26_first.f).bind fun t111 => (if t111 = true then (some (decide (x10_3 ≥ (wrap64 ((l1.length : Int) + (wrap64 (3 * (t103.length : Int)))))))) else (some false))) = some r := by rw [if_pos rfl] at H; exact H
                              clear H
                              have H := H1
                              clear H1
                              replace H := Option.bind_eq_some_iff.mp H
                              obtain ⟨t111, A370, H⟩ := H
                              replace H : (if t111 = true then (some (decide (x10_3 ≥ (wrap64 ((l1.length : Int) + (wrap64 (3 * (t103.length : Int)))))))) else (some false)) = some r := H
                              have A37 := Aside0.mk A370
                              clear A370
                              by_cases c38 : t111 = true
                              · subst c38
                                have H1 : (some (decide (x10_3 ≥ (wrap64 ((l1.length : Int) + (wrap64 (3 * (t103.length : Int)))))))) = some r := by rw [if_pos rfl] at H; exact H
                                clear H
                                have H := H1
                                clear H1
                                obtain rfl := Option.some.inj H
                                go_wp2_with (first | ((with_reducible refine gate_callee (f := 24) rfl ?_); refine goesL_ (some 96) rfl rfl Try.func24 (by kernel_rfl) rfl #[] rfl (by (try simp only [List.map_toArray, List.map_cons, List.map_nil]); first | done | rfl | (simp only [List.length_drop, List.length_take]; rfl)) ?_; (with_reducible refine (tiklaw26_first.calls  true _ A37.out).mono ?_); rintro e w39 ⟨rfl, hb⟩; refine ⟨_, rfl, ?_⟩; have n0_ := Aside0.mk (Kd.V_below (by (with_reducible repeat (first | apply Kd.V_alloc | apply Kd.V_drewN | apply Kd.V_drew)); exact HO_7.out) hb); have n1_ := Aside0.mk (below_step (by repeat (first | (with_reducible first | exact HB.out | apply below_alloc | apply pw_below_drewN | apply below_drew1) | exact HB.out)) hb); clear HO_7; clear HB; have HO_7 := n0_; have HB := n1_; clear n0_ n1_; (try clear hb); (try clear hb2); (try clear hk); (try clear hi)))
                                go_ret
                                exact ⟨by first | rfl | (simp [errW_none, errW_some] <;> rfl) | (simp [*, errW_none, errW_some] <;> rfl), by repeat (first | (with_reducible first | exact HB.out | apply below_alloc | apply pw_below_drewN | apply below_drew1) | exact HB.out)⟩
                              · replace c38 := Bool.eq_false_iff.mpr c38
                                subst c38
                                have H1 : (some false) = some r := by rw [if_neg (show ¬ (false = true) by decide)] at H; exact H
                                clear H
                                have H := H1
                                clear H1
                                exact absurd ((Option.some.inj H).trans hr_.out) (by simp)
                            · replace c36 := Bool.eq_false_iff.mpr c36
                              subst c36
                              have H1 : (if 0 ≤ (wrap64 (1048576 + a2)) then (if (wrap64 (1048576 + a2) : Int).toNat ≤ 281474976710656 then ((frag_Cut.f a0 (List.replicate (wrap64 (1048576 + a2) : Int).toNat 0)).bind fun bt115 => ((tiklaw26_first.f).bind fun t119 => (if t119 = true then (if x10_3 ≥ (wrap64 ((l1.length : Int) + (wrap64 (3 * (t103.length : Int))))) then (some (bt115.2 == 4)) else (some false)) else (some false)))) else (none)) else (none)) = some r := by rw [if_neg (show ¬ (false = true) by decide)] at H; exact H
                              clear H
                              have H := H1
                              clear H1
                              obtain ⟨ji40, hji40⟩ : ∃ j_ : Int, (wrap64 (1048576 + a2)) = j_ := ⟨_, rfl⟩
                              replace H : (if 0 ≤ (ji40) then (if (ji40 : Int).toNat ≤ 281474976710656 then ((frag_Cut.f a0 (List.replicate (ji40 : Int).toNat 0)).bind fun bt115 => ((tiklaw26_first.f).bind fun t119 => (if t119 = true then (if x10_3 ≥ (wrap64 ((l1.length : Int) + (wrap64 (3 * (t103.length : Int))))) then (some (bt115.2 == 4)) else (some false)) else (some false)))) else (none)) else (none)) = some r := by first | (rw [hji40] at H; exact H) | (simp only [hji40] at H ⊢; exact H)
                              have hji40w : (IntKind.i64.wrap (1048576 + a2)) = ji40 := (i64_w _).trans hji40
                              by_cases c41 : 0 ≤ (ji40)
                              · rw [if_pos c41] at H
                                have c41b0 := eq_true c41
                                have c41b1 : decide (0 ≤ (ji40)) = true := decide_eq_true c41
                                clear c41
                                by_cases c42 : (ji40 : Int).toNat ≤ 281474976710656
                                · rw [if_pos c42] at H
                                  have c42b0 := eq_true c42
                                  have c42b1 : decide ((ji40 : Int).toNat ≤ 281474976710656) = true := decide_eq_true c42
                                  clear c42
                                  obtain ⟨y112, hy112⟩ : ∃ y_ : List Int, y_ = (List.replicate (ji40 : Int).toNat 0) := ⟨_, rfl⟩
                                  replace H : ((frag_Cut.f a0 y112).bind fun bt115 => ((tiklaw26_first.f).bind fun t119 => (if t119 = true then (if x10_3 ≥ (wrap64 ((l1.length : Int) + (wrap64 (3 * (t103.length : Int))))) then (some (bt115.2 == 4)) else (some false)) else (some false)))) = some r := by first | (rw [hy112]; with_reducible exact H) | (have H2_ := (Option.bind_some _ _).symm.trans H; rw [hy112]; with_reducible exact H2_) | (have H2_ := (Option.bind_some _ _).symm.trans H; with_reducible exact H2_) | with_reducible exact H | (rw [hy112]; exact H) | exact H
                                  have Ny112 := Aside0.mk hy112
                                  clear hy112
                                  replace H := Option.bind_eq_some_iff.mp H
                                  obtain ⟨⟨t115, t116⟩, A430, H⟩ := H
                                  replace H : ((tiklaw26_first.f).bind fun t119 => (if t119 = true then (if x10_3 ≥ (wrap64 ((l1.length : Int) + (wrap64 (3 * (t103.length : Int))))) then (some (t116 == 4)) else (some false)) else (some false))) = some r := H
                                  have A43 := Aside0.mk A430
                                  clear A430
                                  replace H := Option.bind_eq_some_iff.mp H
                                  obtain ⟨t119, A440, H⟩ := H
                                  replace H : (if t119 = true then (if x10_3 ≥ (wrap64 ((l1.length : Int) + (wrap64 (3 * (t103.length : Int))))) then (some (t116 == 4)) else (some false)) else (some false)) = some r := H
                                  have A44 := Aside0.mk A440
                                  clear A440
                                  by_cases c45 : t119 = true
                                  · subst c45
                                    have H1 : (if x10_3 ≥ (wrap64 ((l1.length : Int) + (wrap64 (3 * (t103.length : Int))))) then (some (t116 == 4)) else (some false)) = some r := by rw [if_pos rfl] at H; exact H
                                    clear H
                                    have H := H1
                                    clear H1
                                    by_cases c46 : x10_3 ≥ (wrap64 ((l1.length : Int) + (wrap64 (3 * (t103.length : Int)))))
                                    · rw [if_pos c46] at H
                                      have c46b0 : decide ((wrap64 ((l1.length : Int) + (wrap64 (3 * (t103.length : Int))))) ≤ x10_3) = true := decide_eq_true c46
                                      clear c46
                                      obtain rfl := Option.some.inj H
                                      go_wp2_with (first | ((with_reducible refine gate_dst (N := 111) rfl ?_); (try (refine gate_guard (by rfl) ?_; dsimp only)); refine Kd.R_make (Kd.int .u8) _ 5 rfl (N := 111) rfl 23 _ _ rfl ji40 rfl rfl Try.underlying23 (.int .u8 0) 1 info5 rfl (by decide) (by omega) 0 (ok := fun _ => True) (okp := fun _ => True) rfl (fun _ hk => hk) trivial (of_decide_eq_true (by first | (with_reducible assumption) | assumption)) (Nat.le_trans (Nat.mul_le_mul_right _ (of_decide_eq_true (by first | (with_reducible assumption) | assumption) : ji40.toNat ≤ 281474976710656)) (by omega)) (Below.refl _ _) (Nat.le_refl _) ?_; intro v113 w47 ho48 hb hg_ hnew_; clear hg_ hnew_; (first | rw [← Ny112.out] at ho48 | (simp only [Int.reduceToNat] at ho48; rw [← Ny112.out] at ho48)); have n0_ := Aside0.mk (Kd.V_elder' (by (with_reducible repeat (first | apply Kd.V_alloc | apply Kd.V_drewN | apply Kd.V_drew)); exact HO_7.out) (Kd.R_base ho48) hb); have n1_ := Aside0.mk (Kd.R_lower ho48 (below_size (by repeat (first | (with_reducible first | exact HB.out | apply below_alloc | apply pw_below_drewN | apply below_drew1) | exact HB.out)))); have n2_ := Aside0.mk (below_step (by repeat (first | (with_reducible first | exact HB.out | apply below_alloc | apply pw_below_drewN | apply below_drew1) | exact HB.out)) hb); clear HO_7; clear HB; have HO_7 := n0_; have HO114 := n1_; have HB := n2_; clear n0_ n1_ n2_; clear hb ho48; obtain ⟨Ao49, co49, eo49⟩ := Kd.R_slice HO114.out; subst eo49) | ((with_reducible refine gate_callee (f := 25) rfl ?_); refine goesL_ (some 112) rfl rfl Try.func25 (by kernel_rfl) rfl #[.int .u64 a0, .slice Ao49 y112.length co49] rfl (by (try simp only [List.map_toArray, List.map_cons, List.map_nil]); first | done | rfl | (simp only [List.length_drop, List.length_take]; rfl)) ?_; (with_reducible refine (frag_Cut.calls a0 _ _ y112 t115 t116 _ ?side1 ?side2 A43.out).mono ?_); (case side1 => repeat (first | exact (Kd.R_reads' HO114.out).2.2 | (with_reducible refine Kd.C_alloc ?_ _) | (with_reducible refine Kd.C_drewN ?_ _) | (with_reducible refine Kd.C_drew ?_))); (case side2 => exact (Kd.R_reads' HO114.out).2.1); rintro e w50 ⟨v117, rfl, ho0, hb⟩; refine ⟨_, rfl, ?_⟩; have n0_ := Aside0.mk (Kd.V_below (by (with_reducible repeat (first | apply Kd.V_alloc | apply Kd.V_drewN | apply Kd.V_drew)); exact HO_7.out) hb); have n1_ := Aside0.mk (Kd.R_below (by (with_reducible repeat (first | apply Kd.R_alloc | apply Kd.R_drewN | apply Kd.R_drew)); exact HO114.out) hb); have n2_ := Aside0.mk (Kd.V_lower (Kd.V_mono (ok' := fun k_ => some k_ ≠ (.slice Ao49 y112.length co49 : Value).ownBlock) ho0 (fun k_ hk_ => (Kd.fresh' (Kd.R_lt (by (with_reducible repeat (first | apply Kd.R_alloc | apply Kd.R_drewN | apply Kd.R_drew)); exact HO114.out)) k_ hk_.2.1))) (below_size (by repeat (first | (with_reducible first | exact HB.out | apply below_alloc | apply pw_below_drewN | apply below_drew1) | exact HB.out)))); have n3_ := Aside0.mk (below_step (by repeat (first | (with_reducible first | exact HB.out | apply below_alloc | apply pw_below_drewN | apply below_drew1) | exact HB.out)) hb); clear HO_7; clear HO114; clear HB; have HO_7 := n0_; have HO114 := n1_; have HO118 := n2_; have HB := n3_; clear n0_ n1_ n2_ n3_; (try clear hb); (try clear hb2); (try clear hk); (try clear hi); (try clear ho0)) | ((with_reducible refine gate_callee (f := 24) rfl ?_); refine goesL_ (some 115) rfl rfl Try.func24 (by kernel_rfl) rfl #[] rfl (by (try simp only [List.map_toArray, List.map_cons, List.map_nil]); first | done | rfl | (simp only [List.length_drop, List.length_take]; rfl)) ?_; (with_reducible refine (tiklaw26_first.calls  true _ A44.out).mono ?_); rintro e w51 ⟨rfl, hb⟩; refine ⟨_, rfl, ?_⟩; have n0_ := Aside0.mk (Kd.V_below (by (with_reducible repeat (first | apply Kd.V_alloc | apply Kd.V_drewN | apply Kd.V_drew)); exact HO_7.out) hb); have n1_ := Aside0.mk (Kd.R_below (by (with_reducible repeat (first | apply Kd.R_alloc | apply Kd.R_drewN | apply Kd.R_drew)); exact HO114.out) hb); have n2_ := Aside0.mk (Kd.V_below (by (with_reducible repeat (first | apply Kd.V_alloc | apply Kd.V_drewN | apply Kd.V_drew)); exact HO118.out) hb); have n3_ := Aside0.mk (below_step (by repeat (first | (with_reducible first | exact HB.out | apply below_alloc | apply pw_below_drewN | apply below_drew1) | exact HB.out)) hb); clear HO_7; clear HO114; clear HO118; clear HB; have HO_7 := n0_; have HO114 := n1_; have HO118 := n2_; have HB := n3_; clear n0_ n1_ n2_ n3_; (try clear hb); (try clear hb2); (try clear hk); (try clear hi)))
                                      go_ret
                                      exact ⟨by first | rfl | (simp [errW_none, errW_some] <;> rfl) | (simp only [← hji40]; first | rfl | (simp [errW_none, errW_some] <;> rfl)) | (simp [*, errW_none, errW_some] <;> rfl), by repeat (first | (with_reducible first | exact HB.out | apply below_alloc | apply pw_below_drewN | apply below_drew1) | exact HB.out)⟩
                                    · rw [if_neg c46] at H
                                      have c46b0 : decide ((wrap64 ((l1.length : Int) + (wrap64 (3 * (t103.length : Int))))) ≤ x10_3) = false := decide_eq_false c46
                                      clear c46
                                      exact absurd ((Option.some.inj H).trans hr_.out) (by simp)
                                  · replace c45 := Bool.eq_false_iff.mpr c45
                                    subst c45
                                    have H1 : (some false) = some r := by rw [if_neg (show ¬ (false = true) by decide)] at H; exact H
                                    clear H
                                    have H := H1
                                    clear H1
                                    exact absurd ((Option.some.inj H).trans hr_.out) (by simp)
                                · rw [if_neg c42] at H
                                  exact absurd H (by simp)
                              · rw [if_neg c41] at H
                                exact absurd H (by simp)
  · replace c5 := Bool.eq_false_iff.mpr c5
    subst c5
    have H1 : (some false) = some r := by rw [if_neg (show ¬ (false = true) by decide)] at H; exact H
    clear H
    have H := H1
    clear H1
    exact absurd ((Option.some.inj H).trans hr_.out) (by simp)
end Go.Proofs.Ytdklanenmihpdaa.PZ
namespace Go.Proofs.Ytdklanenmihpdaa.Hand
open Go.RowKit Go.Proofs.YtdklanenmihpdaaW.PrintWords Go.Proofs.YtdklanenmihpdaaW.PrintLast Go.Proofs.YtdklanenmihpdaaW.PrintMore Go.Proofs.Ytdklanenmihpdaa.PA Go.Proofs.Ytdklanenmihpdaa.Chunks Go.Proofs.Ytdklanenmihpdaa.PZ
theorem first_f : tiklaw26_first.f = some true := rfl
theorem cut_f {a : Int} {l : List Int} (h1 : 1 ≤ a) (h2 : a ≤ 4611686018427387904) (hl : l.length ≤ 1048576) (hb : ∀ x ∈ l, 0 ≤ x ∧ x < 256) : frag_Cut.f a l = some (cutL a l, 0) := by
  unfold frag_Cut.f
  rw [if_neg (by omega), if_neg (by omega), if_neg (by omega), if_pos (List.all_eq_true.2 (fun x hx => byteB_iff.2 (hb x hx)))]
theorem fz_j3 (K : Nat) (a a2 : Int) (l : List Int) (L : List (List Int)) (x : Int) (h1 : 1 ≤ a) (h2 : a ≤ 4611686018427387904) (hl : l.length ≤ 5000) (hL : L.length ≤ 20) (hx : (l.length : Int) + 3 * (L.length : Int) ≤ x) :
    ∀ b : Bool, (b = false → 1 ≤ a2 ∧ a2 ≤ 9) → tiklaw26_FragSizes.j3 (K + 1) a l a2 L x b = some true := by
  have e1 : wrap64 (3 * (L.length : Int)) = 3 * (L.length : Int) := IntWalk.wrap64_in _ (by omega)
  have e2 : wrap64 ((l.length : Int) + 3 * (L.length : Int)) = (l.length : Int) + 3 * (L.length : Int) := IntWalk.wrap64_in _ (by omega)
  intro b hb
  rw [tiklaw26_FragSizes.j3, e1, e2]
  cases b with
  | true =>
    refine (if_pos rfl).trans ?_
    rw [first_f, Option.bind_some]
    refine (if_pos rfl).trans ?_
    rw [decide_eq_true (by omega)]
  | false =>
    have := hb rfl
    have e3 : wrap64 (1048576 + a2) = 1048576 + a2 := IntWalk.wrap64_in _ (by omega)
    refine (if_neg (by simp)).trans ?_
    rw [e3]
    refine (if_pos (by omega)).trans ((if_pos (by omega)).trans ?_)
    have e4 : frag_Cut.f a (List.replicate (1048576 + a2).toNat 0) = some ([], 4) := by
      unfold frag_Cut.f
      rw [if_neg (by omega), if_neg (by omega), if_pos (by rw [List.length_replicate]; omega)]
    rw [e4, Option.bind_some, first_f, Option.bind_some]
    refine (if_pos rfl).trans ((if_pos (by omega)).trans ?_)
    rfl
theorem fz_l0 (a a2 : Int) (l : List Int) (h1 : 1 ≤ a) (h2 : a ≤ 4611686018427387904) (hl : l.length ≤ 5000) : ∀ (d i : Nat), i + d = nparts l →
    tiklaw26_FragSizes.l0 (1 + d + 1) a l a2 (cutL a l) ((i * ((varL 9 a).length + 2) + min (256 * i) l.length : Nat) : Int) (i : Int) = some true := by
  have hv := varL_b a (by omega) (by omega)
  have hp := var_pos a (by omega) (by omega)
  have hm := nparts_small hl
  have hL := cutL_len a l
  intro d
  induction d with
  | zero =>
    intro i hi
    obtain rfl : i = nparts l := by omega
    rw [tiklaw26_FragSizes.l0]
    refine (if_neg (by omega)).trans ?_
    have hmin : min (256 * nparts l) l.length = l.length := by unfold nparts nch; omega
    have hacc : (l.length : Int) + 3 * ((cutL a l).length : Int) ≤ ((nparts l * ((varL 9 a).length + 2) + min (256 * nparts l) l.length : Nat) : Int) := by
      rw [hmin, hL]
      have h3 : nparts l * 3 ≤ nparts l * ((varL 9 a).length + 2) := Nat.mul_le_mul_left _ (by omega)
      omega
    have hj := fz_j3 0 a a2 l (cutL a l) _ h1 h2 hl (by omega) hacc
    by_cases c : a2 < 1
    · exact (if_pos c).trans (hj true (by simp))
    · refine (if_neg c).trans (hj _ (fun h => ?_))
      have := of_decide_eq_false h
      omega
  | succ d ih =>
    intro i hi
    have hlt : i < nparts l := by omega
    have hpl := part_len a l i hl hlt
    have hrd : rd_L1 (cutL a l) (i : Int) = (cutL a l).getD i [] := by unfold rd_L1; rw [Int.toNat_natCast]
    have hch : chLen l.length i ≤ 256 := by unfold chLen; omega
    have hacc0 : i * ((varL 9 a).length + 2) ≤ 20 * 12 := Nat.mul_le_mul (by omega) (by omega)
    have hstep : (i + 1) * ((varL 9 a).length + 2) + min (256 * (i + 1)) l.length = i * ((varL 9 a).length + 2) + min (256 * i) l.length + ((varL 9 a).length + 2 + chLen l.length i) := by
      rw [Nat.succ_mul]
      unfold chLen
      omega
    have ih' := ih (i + 1) (by omega)
    have q1 : (i : Int) < ((cutL a l).length : Int) := by omega
    have q2 : 0 ≤ (i : Int) := by omega
    have q3 : ¬ ((((cutL a l).getD i []).length : Int) > 270) := by omega
    have q4 : (i : Int) < ((cutL a l).length : Int) - 1 → ¬ ((((cutL a l).getD i []).length : Int) < 259) := by
      intro c
      have h5 : chLen l.length i = 256 := by
        unfold chLen
        have : i + 1 < nparts l := by omega
        unfold nparts nch at this
        omega
      omega
    have b2 : -9223372036854775808 ≤ (i : Int) + 1 ∧ (i : Int) + 1 ≤ 9223372036854775807 := by omega
    have b3 : -9223372036854775808 ≤ ((cutL a l).length : Int) - 1 ∧ ((cutL a l).length : Int) - 1 ≤ 9223372036854775807 := by omega
    have s1 : (((i * ((varL 9 a).length + 2) + min (256 * i) l.length : Nat) : Int)) + ((((varL 9 a).length + 2 + chLen l.length i : Nat)) : Int) = (((i * ((varL 9 a).length + 2) + min (256 * i) l.length + ((varL 9 a).length + 2 + chLen l.length i) : Nat)) : Int) := by omega
    have b1 : -9223372036854775808 ≤ (((i * ((varL 9 a).length + 2) + min (256 * i) l.length + ((varL 9 a).length + 2 + chLen l.length i) : Nat)) : Int) ∧ (((i * ((varL 9 a).length + 2) + min (256 * i) l.length + ((varL 9 a).length + 2 + chLen l.length i) : Nat)) : Int) ≤ 9223372036854775807 := by omega
    have s2 : (i : Int) + 1 = ((i + 1 : Nat) : Int) := by omega
    have e1 : wrap64 ((((i * ((varL 9 a).length + 2) + min (256 * i) l.length : Nat) : Int)) + (((cutL a l).getD i []).length : Int)) = (((i + 1) * ((varL 9 a).length + 2) + min (256 * (i + 1)) l.length : Nat) : Int) := by
      rw [hstep, hpl, s1]
      exact IntWalk.wrap64_in _ b1
    have e2 : wrap64 ((i : Int) + 1) = ((i + 1 : Nat) : Int) := (IntWalk.wrap64_in _ b2).trans s2
    have e3 : wrap64 (((cutL a l).length : Int) - 1) = ((cutL a l).length : Int) - 1 := IntWalk.wrap64_in _ b3
    rw [show 1 + (d + 1) + 1 = (1 + d + 1) + 1 from rfl, tiklaw26_FragSizes.l0, hrd, e1, e2, e3]
    refine (if_pos q1).trans ((if_pos q2).trans ((if_neg q3).trans ?_))
    by_cases c : (i : Int) < ((cutL a l).length : Int) - 1
    · exact (if_pos c).trans ((if_neg (q4 c)).trans ih')
    · exact (if_neg c).trans ih'
theorem sizes_any (a a2 : Int) (l : List Int) (hb : ∀ x ∈ l, 0 ≤ x ∧ x < 256) (ha : 0 ≤ a ∧ a < 18446744073709551616) : tiklaw26_FragSizes.f (1 + nparts l + 1 + 1 + 1) a l a2 = some true := by
  unfold tiklaw26_FragSizes.f
  rw [first_f, Option.bind_some]
  refine (if_pos rfl).trans ?_
  by_cases c1 : (l.length : Int) > 5000
  · exact (if_pos c1).trans rfl
  refine (if_neg c1).trans ?_
  by_cases c2 : a < 1
  · have e : frag_Cut.f a l = some ([], 17) := by unfold frag_Cut.f; rw [if_pos c2]
    rw [e, Option.bind_some]
    refine (if_pos c2).trans ?_
    rw [tiklaw26_FragSizes.j0]
    rfl
  by_cases c3 : a > 4611686018427387904
  · have e : frag_Cut.f a l = some ([], 17) := by unfold frag_Cut.f; rw [if_neg c2, if_pos c3]
    rw [e, Option.bind_some]
    refine (if_neg c2).trans ?_
    rw [decide_eq_true c3, tiklaw26_FragSizes.j0]
    rfl
  have hl : l.length ≤ 5000 := by omega
  have hm := nparts_small hl
  rw [cut_f (by omega) (by omega) (by omega) hb, Option.bind_some]
  refine (if_neg c2).trans ?_
  rw [decide_eq_false c3, tiklaw26_FragSizes.j0]
  refine (if_neg (by simp)).trans ((if_pos rfl).trans ?_)
  have e1 : wrap64 ((l.length : Int) + 256) = (l.length : Int) + 256 := IntWalk.wrap64_in _ (by omega)
  have e2 : wrap64 ((l.length : Int) + 256 - 1) = (l.length : Int) + 255 := by rw [IntWalk.wrap64_in _ (by omega)]; omega
  have e3 : Int.tdiv ((l.length : Int) + 255) 256 = ((nch l.length : Nat) : Int) := by
    rw [Int.tdiv_eq_ediv_of_nonneg (by omega)]
    unfold nch
    omega
  have e4 : wrap64 ((nch l.length : Nat) : Int) = ((nch l.length : Nat) : Int) := IntWalk.wrap64_in _ (by unfold nch; omega)
  have e5 : mx ((nch l.length : Nat) : Int) 1 = ((nparts l : Nat) : Int) := by unfold mx nparts; split <;> omega
  rw [e1, e2, e3, e4, e5, cutL_len]
  have e6 : ((nparts l : Int) != (nparts l : Int)) = false := by simp
  dsimp only
  rw [e6, tiklaw26_FragSizes.j1]
  refine (if_neg (by simp)).trans ?_
  have := fz_l0 a a2 l (by omega) (by omega) hl (nparts l) 0 (by omega)
  simpa using this
end Go.Proofs.Ytdklanenmihpdaa.Hand
namespace Go.Proofs.Ytdklanenmihpdaa.RowFragSizes
open Go.ChangeShapes Go.WideShapes Go.ChangeAt Go.RowKit
open Go.ChangeMaps (open_string shut_string)
open Go.Proofs.YtdklanenmihpdaaW.PrintWords Go.Proofs.Ytdklanenmihpdaa.Opens
open Go.Proofs.Ytdklanenmihpdaa.Hand
set_option linter.unusedVariables false
set_option linter.unusedSimpArgs false
theorem ownK : ownKnob Try.prog.godebug = none := by kernel_rfl
theorem laidOut : laidOutB Try.prog = true := by kernel_rfl
set_option maxRecDepth 100000 in
theorem lifted (os : Os) (started : os.Started) (H : Type) (enc : TypeId × Value → H) :
    ReturnsInHanded {} Try.checked os 8 .any (Rows.fragSizesSpec.pre6 enc Try.prog Try.f8 Rows.fragSizesRow.domain false) (Rows.fragSizesSpec.post enc Try.prog Try.f8 false true false false) := by
  refine returnsInHanded_of_change_sized (C := Try.checked) ownK started (by kernel_rfl) Try.func8
    (ChangeSpec.witness6 (enc := enc) (C := Try.checked) false ⟨#[], #[.int .u64 0, .slice none 0 0, .int .i64 0], []⟩ 8 (by kernel_rfl) (by kernel_rfl) (by kernel_rfl) (by kernel_rfl)) ?_
  intro W base args ds gs before hval0 hW hcnd hsz0 _
  have hsz : (DataW.weightsEach Try.prog (Try.f8.params.toList ++ Rows.fragSizesSpec.plain.varTypes Try.prog) (ds ++ gs)).all (· ≤ reachBytes) = true := hsz0
  have hval : ∀ (j : Nat) t v, Try.f8.params[j]? = some t → args[j]? = some v → Value.okWide Try.prog W .any base t v := hval0
  have hW' := hW
  obtain ⟨p, q, hA0, hV, rfl, hfz, hnd⟩ := hW
  have hA : DataW.TrodAll enc Try.prog W 0 (fun _ => true) true Try.f8.params.toList args.toList ds p := hA0
  rw [Try.params8] at hA hval hsz
  obtain ⟨v0, vs0, d0, ds0, p0, q0, hargs, rfl, rfl, h0, r0⟩ := trodAll_cons hA
  obtain ⟨v1, vs1, d1, ds1, p1, q1, rfl, rfl, rfl, h1, r1⟩ := trodAll_cons r0
  obtain ⟨v2, vs2, d2, ds2, p2, q2, rfl, rfl, rfl, h2, r2⟩ := trodAll_cons r1
  obtain ⟨rfl, rfl, rfl⟩ := trodAll_nil r2
  obtain rfl : args = #[v0, v1, v2] := by cases args; simp_all
  obtain ⟨rfl, rfl⟩ := trodVars_none hV
  obtain ⟨a0, rfl, rfl, rfl, w0⟩ := open_int Try.underlying22 (hval 0 22 v0 rfl rfl) h0
  have k1 := h1
  have lt1 : ∀ x ∈ p1, x.block < W.heap.size := by obtain ⟨m, hm⟩ := k1; exact DataW.trod_lt m _ _ _ hm
  obtain ⟨l1, ⟨A1, c1, e1, hc1, hC1⟩, q1⟩ := open_arg (o_slice Try.underlying23 (by kernel_rfl) (o_int Try.underlying5)) h1
  obtain ⟨_, _, _, z1⟩ := okWide_slice Try.underlying23 (hval 1 23 v1 rfl rfl)
  obtain rfl : v1 = .slice A1 l1.length c1 := by subst z1; simpa [Value.cells] using e1
  have y1 := sized_any hsz (j := 1) (t := 23) rfl rfl Try.underlying23 h1
  obtain ⟨a2, rfl, rfl, rfl, w2⟩ := open_int Try.underlying3 (hval 2 3 v2 rfl rfl) h2
  clear hA0 hval0
  refine (PZ.tiklaw26_FragSizes.calls (1 + nparts l1 + 1 + 1 + 1) a0 A1 c1 l1 a2 true W hC1 hc1 ⟨rfl⟩ (sizes_any a0 a2 l1 (fun x hx => by have := bounds_u8 (q1.2 x hx); omega) (by have := bounds_u64 w0; omega))).mono fun e W' ⟨he, bel⟩ => ?_
  subst he
  exact ⟨_, rfl, _, _, _, [], _, [], hW', trodAll_mk1 (shut_bool Try.underlying4 _), (trodAll_cons_mk (shut_int Try.underlying22 w0) (trodAll_cons_mk (Below.trod laidOut (by kernel_rfl) (of_decide_eq_true (by kernel_rfl)) k1 bel lt1) (trodAll_cons_mk (shut_int Try.underlying3 w2) trodAll_mk0))), rfl, bel.frame _, fun h => by cases h⟩
theorem over : Rows.fragSizesRow.holds Try.pinned (OpenSpec.ofChange Rows.fragSizesSpec) :=
  OpenClaim.holds_of_wide 8 Try.f8 rfl rfl rfl rfl rfl rfl rfl ⟨rfl, rfl, rfl, rfl, rfl⟩ rfl rfl rfl rfl rfl (by kernel_rfl) Try.func8 (by kernel_rfl)
    (of_decide_eq_true (by kernel_rfl)) (by unfold Func.isWrapper; first | (rw [if_pos (by decide +kernel)]; kernel_rfl) | (rw [if_neg (by decide +kernel)]; exact ⟨rfl, rfl⟩))
    (fun os started H enc _ => lifted os started H enc)
#print axioms over
end Go.Proofs.Ytdklanenmihpdaa.RowFragSizes
namespace Go.Proofs.Ytdklanenmihpdaa
theorem fragSizes_holds : Rows.FragSizesSaid := RowFragSizes.over
end Go.Proofs.Ytdklanenmihpdaa
