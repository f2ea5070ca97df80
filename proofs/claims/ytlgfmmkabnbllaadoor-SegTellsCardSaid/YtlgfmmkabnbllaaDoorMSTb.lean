/- Texts of this claim, put together. -/
import Derived.Test.YtlgfmmkabnbllaaDoorMSTa
import Derived.OpenShut
import Derived.Shelf.Strconv.Itoa3
import Derived.Lib.AppendIntMem
import Derived.Test.YtlgfmmkabnbllaaDoorRows
import Derived.WalkKit
import Derived.ProofKit
import Derived.LaidMore
import Derived.Stop.Joined
import Derived.Stop.LaidErr
import Derived.Lib.LaidTab
import Derived.Lib.SlBytesConst
import Derived.Lib.SlFresh
import Derived.Test.YtlgfmmkabnbllaaDoorProg
import Derived.Below
import Derived.Deep.Draws
import Derived.Deep.AppendLies
import Derived.Maps.AppendAt
import Derived.OwnWalk
import Derived.Laws.BytesArg
import Derived.Laws.MakeOwn
import Derived.Laws.OwnMore
import Derived.Deep.OwnRows
import Derived.Tactics
import Derived.Lib.ConvBytes
import Derived.Laws.Slices
import Derived.KernelRfl
import Derived.RowKit3
import Derived.Deep.LoopGhost
import Derived.Deep.QuietTactic
import Derived.BigQuiet
import Derived.WideLaws
import Derived.Deep.DeepCutAuto
import Derived.Deep.CutBlock
import Derived.Deep.RegionHeld3
import Derived.Laws.Rows
import Derived.Lib.AppendStr
import Derived.ArgAppend
import Derived.Laws.IdiomCopy
import Derived.OrdersHeld
import Derived.Laws.BitsLemmas
import Derived.RowKit
import Derived.Test.YtlgfmmkabnbllaaDoorMSTWWords
import Derived.Test.YtlgfmmkabnbllaaDoorMSTWLast
import Derived.Test.YtlgfmmkabnbllaaDoorMSTWTab
import Derived.Test.YtlgfmmkabnbllaaDoorMSTWApart
import Derived.Test.YtlgfmmkabnbllaaDoorMSTWFoot
import Derived.Test.YtlgfmmkabnbllaaDoorMSTWShare
import Derived.Test.YtlgfmmkabnbllaaDoorMSTWN
import Derived.Laws.StructEq
import Derived.Test.YtlgfmmkabnbllaaDoorMSTWRepsOne
import Derived.Test.YtlgfmmkabnbllaaDoorMSTWGuard
import Derived.Test.YtlgfmmkabnbllaaDoorMSTWNEv
import Derived.Test.YtlgfmmkabnbllaaDoorMSTWMore
set_option linter.unusedVariables false
set_option linter.unusedSimpArgs false
namespace Go.Proofs.YtlgfmmkabnbllaaDoor.Hand
open Go.RowKit Go.Proofs.YtlgfmmkabnbllaaDoorW.PrintWords Go.Proofs.YtlgfmmkabnbllaaDoorW.PrintLast Go.Proofs.YtlgfmmkabnbllaaDoor.PA
def fourL (c : Int) : List Int := [(c / 16777216) % 256, (c / 65536) % 256, (c / 256) % 256, c % 256]
def mayL (k s t n : Int) : Prop := (k = 1 ∨ k = 2) ∧ 1 ≤ s ∧ s ≤ 4611686018427387904 ∧ t ≤ 4611686018427387904 ∧ n ≤ 1048576
instance (k s t n : Int) : Decidable (mayL k s t n) := by unfold mayL; infer_instance
def segL (l : List Int) (i j : Int) : List Int := (l.take j.toNat).drop i.toNat
def decV (l : List Int) (a : Int) : Except Int (Int × Int × Int × List Int × Int) :=
  if 6 ≤ (l.length : Int) - a then
  if rd l a = 167 ∧ rd l (a + 1) = 92 then
  if a + 6 < (l.length : Int) then
  if (getV l (a + 7)).2.2 = 0 then
  if (getV l (getV l (a + 7)).2.1).2.2 = 0 then
  if (getV l (getV l (getV l (a + 7)).2.1).2.1).2.2 = 0 then
  if (getV l (getV l (getV l (a + 7)).2.1).2.1).1 ≤ 1048576 then
  if (getV l (getV l (getV l (a + 7)).2.1).2.1).1 ≤ (l.length : Int) - (getV l (getV l (getV l (a + 7)).2.1).2.1).2.1 then
  if segL l (a + 2) (a + 6) = fourL (crcV (segL l (a + 6) ((getV l (getV l (getV l (a + 7)).2.1).2.1).2.1 + (getV l (getV l (getV l (a + 7)).2.1).2.1).1))) then
  if mayL (rd l (a + 6)) (getV l (a + 7)).1 (getV l (getV l (a + 7)).2.1).1 (getV l (getV l (getV l (a + 7)).2.1).2.1).1 then
  .ok (rd l (a + 6), (getV l (a + 7)).1, (getV l (getV l (a + 7)).2.1).1, segL l (getV l (getV l (getV l (a + 7)).2.1).2.1).2.1 ((getV l (getV l (getV l (a + 7)).2.1).2.1).2.1 + (getV l (getV l (getV l (a + 7)).2.1).2.1).1), (getV l (getV l (getV l (a + 7)).2.1).2.1).2.1 + (getV l (getV l (getV l (a + 7)).2.1).2.1).1)
  else .error 2 else .error 9 else .error 3 else .error 2 else .error (getV l (getV l (getV l (a + 7)).2.1).2.1).2.2 else .error (getV l (getV l (a + 7)).2.1).2.2 else .error (getV l (a + 7)).2.2 else .error 3 else .error 2 else .error 3
def decOut : Except Int (Int × Int × Int × List Int × Int) → Int × Int × Int × List Int × Int × Int
  | .ok (k, s, t, b, e) => (k, s, t, b, e, 0)
  | .error x => (0, 0, 0, [], 0, x)
def rec_Decode.f (l0 : List Int) (a1 : Int) : Option (Int × Int × Int × List Int × Int × Int) :=
  if l0.all byteB = true ∧ l0.length < 140737488355328 then some (if a1 < 0 ∨ (l0.length : Int) < a1 then (0, 0, 0, [], 0, 1) else decOut (decV l0 a1)) else none
theorem dec_results {tmps : Array Value} {w : World} {p : Nat} {k s t e X : Int} {v : Value} (h4 : tmps[4]? = some (.pointer (some ⟨p, 0, none⟩))) (h5 : tmps[5]? = some (.pointer (some ⟨p + 1, 0, none⟩))) (h6 : tmps[6]? = some (.pointer (some ⟨p + 1 + 1, 0, none⟩)))
    (g0 : w.heap[p]? = some (recO k s t v)) (g1 : w.heap[p + 1]? = some (.cells #[.int .i64 e] 3 (0, 0))) (g2 : w.heap[p + 1 + 1]? = some (.cells #[.int .i64 X] 32 (0, 0))) :
    (results Tryd.f70 tmps).run Tryd.prog w = .ok (.tuple #[.agg #[.int .i64 k, .int .u64 s, .int .u64 t, v], .int .i64 e, .int .i64 X]) w := by
  have e4 : tmps.getD 4 undef = .pointer (some ⟨p, 0, none⟩) := by simp [Array.getD_eq_getD_getElem?, h4]
  have e5 : tmps.getD 5 undef = .pointer (some ⟨p + 1, 0, none⟩) := by simp [Array.getD_eq_getD_getElem?, h5]
  have e6 : tmps.getD 6 undef = .pointer (some ⟨p + 1 + 1, 0, none⟩) := by simp [Array.getD_eq_getD_getElem?, h6]
  have c1 := blk_cell g1 0
  have c2 := blk_cell g2 0
  have l0 : (loadVar 88 ⟨p, 0, none⟩).run Tryd.prog w = .ok (.agg #[.int .i64 k, .int .u64 s, .int .u64 t, v]) w := run_loadVar_row (P := Tryd.prog) w p 88 88 _ (0, 0) _ g0 Tryd.underlying88 rfl (by kernel_rfl)
  have l1 : (loadVar 3 ⟨p + 1, 0, none⟩).run Tryd.prog w = .ok (.int .i64 e) w := by simp [go_sem, c1]
  have l2 : (loadVar 32 ⟨p + 1 + 1, 0, none⟩).run Tryd.prog w = .ok (.int .i64 X) w := by simp [go_sem, c2]
  have hr : Tryd.f70.results = #[.cell 4 88, .cell 5 3, .cell 6 32] := by kernel_rfl
  unfold results
  rw [hr]
  simp [h4, h5, h6, l0, l1, l2, asAddr]
theorem three_new (w : World) (o0 o1 o2 : Obj) : ∃ W, ((w.alloc o0).alloc o1).alloc o2 = W ∧ W.heap[w.heap.size]? = some o0 ∧ W.heap[w.heap.size + 1]? = some o1 ∧ W.heap[w.heap.size + 1 + 1]? = some o2 ∧ W.heap.size = w.heap.size + 3 ∧ Below w.heap.size w W := by
  have s1 : (w.alloc o0).heap.size = w.heap.size + 1 := by simp
  have s2 : ((w.alloc o0).alloc o1).heap.size = w.heap.size + 1 + 1 := by simp
  refine ⟨_, rfl, alloc_old (alloc_old (alloc_new _ _)), ?_, ?_, by simp, below_alloc (below_alloc (below_alloc (Below.refl _ _) _) _) _⟩
  · have := alloc_new (w.alloc o0) o1
    rw [s1] at this
    exact alloc_old this
  · have := alloc_new ((w.alloc o0).alloc o1) o2
    rw [s2] at this
    exact this
def DecPost (w : World) (r : Int × Int × Int × List Int × Int × Int) (e : Ending) (w' : World) : Prop :=
  ∃ v3_ : Value, e = .returned (.tuple #[.agg #[.int .i64 r.1, .int .u64 r.2.1, .int .u64 r.2.2.1, v3_], .int .i64 r.2.2.2.2.1, .int .i64 r.2.2.2.2.2]) ∧ Kd.R (Kd.int .u8) 5 w' w.heap.size (fun _ => True) v3_ r.2.2.2.1 ∧ Below w.heap.size w w'
theorem set4_0 {w : World} {g t : Nat} {a b c d x : Value} (h : w.heap[g]? = some (.cells #[a, b, c, d] t (0, 0))) : (w.setCell ⟨g, 0, none⟩ x).heap[g]? = some (.cells #[x, b, c, d] t (0, 0)) := by
  simp [World.setCell, Array.getElem?_modify, h]
theorem set4_1 {w : World} {g t : Nat} {a b c d x : Value} (h : w.heap[g]? = some (.cells #[a, b, c, d] t (0, 0))) : (w.setCell ⟨g, 1, none⟩ x).heap[g]? = some (.cells #[a, x, c, d] t (0, 0)) := by
  simp [World.setCell, Array.getElem?_modify, h]
theorem set4_2 {w : World} {g t : Nat} {a b c d x : Value} (h : w.heap[g]? = some (.cells #[a, b, c, d] t (0, 0))) : (w.setCell ⟨g, 2, none⟩ x).heap[g]? = some (.cells #[a, b, x, d] t (0, 0)) := by
  simp [World.setCell, Array.getElem?_modify, h]
theorem set4_3 {w : World} {g t : Nat} {a b c d x : Value} (h : w.heap[g]? = some (.cells #[a, b, c, d] t (0, 0))) : (w.setCell ⟨g, 3, none⟩ x).heap[g]? = some (.cells #[a, b, c, x] t (0, 0)) := by
  simp [World.setCell, Array.getElem?_modify, h]
theorem cutSeg (A : Option Addr) (c : Nat) (l : List Int) (lo hi : Int) (h0 : 0 ≤ lo) (h1 : lo ≤ hi) (h2 : hi ≤ l.length) (hc : l.length ≤ c) :
    ∃ A', (∀ W : World, (Instr.slice 64 (.slice A l.length c) (some (.int .i64 lo)) (some (.int .i64 hi)) none).run Tryd.prog W = .ok (.slice A' (segL l lo hi).length (c - lo.toNat)) W) ∧
      (∀ W : World, Kd.C (Kd.int .u8) W A l.length l → Kd.C (Kd.int .u8) W A' (segL l lo hi).length (segL l lo hi)) ∧ (segL l lo hi).length ≤ c - lo.toNat := by
  have hlen : (segL l lo hi).length = hi.toNat - lo.toNat := by
    unfold segL
    rw [List.length_drop, List.length_take, Nat.min_eq_left (by omega)]
  obtain ⟨i0, hi0, _, hz1, _⟩ := info_parts info5
  refine ⟨if c = lo.toNat then A else A.map (·.add (lo.toNat * 1)), fun W => ?_, fun W hC => ?_, by omega⟩
  · rw [cut_mid (P := Tryd.prog) 64 5 .i64 .i64 Tryd.underlying64 hi0 1 hz1 A l.length c lo hi h0 h1 h2 hc W, hlen]
  · exact Kd.C_mid (lo := lo.toNat) (hi := hi.toNat) hC (by omega) (by omega) hc
theorem numL_ok (l : List Int) : ∀ (k i : Nat) (n p : Int) (m q : Int), 0 ≤ n → n ≤ 18446744073709551615 → p ≤ l.length → numL l k i n p = .ok (m, q) → 0 ≤ m ∧ m ≤ 18446744073709551615 ∧ p ≤ q ∧ q ≤ l.length
  | 0, i, n, p, m, q, _, _, _, h => by simp only [numL] at h; cases h
  | k + 1, i, n, p, m, q, h0, h1, hp, h => by
    have hv : 0 ≤ vstep n (rd l p) i ∧ vstep n (rd l p) i ≤ 18446744073709551615 := by
      unfold vstep
      exact bounds_u64 (wf_bits .or .u64 _ _)
    generalize hvv : vstep n (rd l p) i = v at *
    simp only [numL, hvv] at h
    split at h
    · cases h
    · rename_i hne
      split at h
      · cases h
      · split at h
        · injection h with h
          injection h with h1 h2
          subst h1 h2
          exact ⟨hv.1, hv.2, by omega, by omega⟩
        · have := numL_ok l k (i + 1) v (p + 1) m q hv.1 hv.2 (by omega) h
          exact ⟨this.1, this.2.1, by omega, this.2.2.2⟩
theorem getV_ok {l : List Int} {a n q : Int} (h : getV l a = (n, q, 0)) : 0 ≤ a ∧ 0 ≤ n ∧ n ≤ 18446744073709551615 ∧ a ≤ q ∧ q ≤ l.length := by
  unfold getV at h
  split at h
  · injection h with _ h; injection h with _ h; cases h
  · split at h
    · injection h with _ h; injection h with _ h; cases h
    · rename_i h0 h1
      cases hn : numL l 10 0 0 a with
      | error x =>
        rw [hn] at h
        injection h with _ h
        injection h with _ h
        subst h
        have := numL_nz l _ _ _ _ _ hn
        cases this
      | ok np =>
        obtain ⟨n', q'⟩ := np
        rw [hn] at h
        injection h with e1 h
        injection h with e2 _
        subst e1 e2
        have := numL_ok l 10 0 0 a n' q' (by omega) (by omega) (by omega) hn
        exact ⟨by omega, this⟩
theorem leave_stop {w0 w : World} {tmps : Array Value} {k s t e X f : Int} {v : Value} (hX : (X != 0) = true) (h4 : tmps[4]? = some (.pointer (some ⟨w0.heap.size, 0, none⟩))) (h5 : tmps[5]? = some (.pointer (some ⟨w0.heap.size + 1, 0, none⟩))) (h6 : tmps[6]? = some (.pointer (some ⟨w0.heap.size + 1 + 1, 0, none⟩)))
    (hb : Below w0.heap.size w0 w) (h0 : w.heap[w0.heap.size]? = some (recO k s t v)) (h1 : w.heap[w0.heap.size + 1]? = some (.cells #[.int .i64 e] 3 (0, 0))) (h2 : w.heap[w0.heap.size + 1 + 1]? = some (.cells #[.int .i64 f] 32 (0, 0))) :
    Leaves Tryd.prog Tryd.f70 tmps (DecPost w0 (decOut (.error X))) [{ target := .fn (.func 96) #[.pointer (some ⟨w0.heap.size, 0, none⟩), .pointer (some ⟨w0.heap.size + 1, 0, none⟩), .pointer (some ⟨w0.heap.size + 1 + 1, 0, none⟩)], args := #[] }] (.panicking (stopR X)) w := by
  refine leaves_cons (f := 96) (args := #[.pointer (some ⟨w0.heap.size, 0, none⟩), .pointer (some ⟨w0.heap.size + 1, 0, none⟩), .pointer (some ⟨w0.heap.size + 1 + 1, 0, none⟩)]) (by simp) (by simp [go_sem]) ?_
  refine (dec_stop (older := []) hX h0 h1 h2).mono ?_
  rintro en u w3 ⟨rfl, rfl, g0, g1, g2, hm⟩
  exact ⟨_, dec_results h4 h5 h6 g0 g1 g2, _, rfl, Kd.R_nil _ _ _ _ _, Mu.below_of hb hm (by intro i hi; omega)⟩
theorem leaves_congr {P : Program} {fn : Func} {t t' : Array Value} {R : Ending → World → Prop} (h : results fn t = results fn t') : ∀ (ds : List Deferred) (u : FrameMode) (w : World), Leaves P fn t R ds u w → Leaves P fn t' R ds u w
  | [], .returning, w, hl => by
    obtain ⟨v, h1, h2⟩ := hl
    exact ⟨v, by rw [← h]; exact h1, h2⟩
  | [], .panicking _, _, hl => hl
  | [], .run, _, hl => hl
  | d :: ds, u, w, hl => by
    obtain ⟨h1, fv, cap, f, args, h2, h3, h4⟩ := hl
    refine ⟨h1, fv, cap, f, args, h2, h3, h4.mono ?_⟩
    intro e u' w' hh
    cases e with
    | returned _ => exact leaves_congr h ds _ _ hh
    | panicked _ => exact leaves_congr h ds _ _ hh
    | outgrown => exact hh
theorem dec_put {a : Act} {N : Tmp} {v : Value} (h4 : N ≠ 4) (h5 : N ≠ 5) (h6 : N ≠ 6) : results Tryd.f70 (a.put (some N) v).tmps = results Tryd.f70 a.tmps := by
  have hr : Tryd.f70.results = #[.cell 4 88, .cell 5 3, .cell 6 32] := by kernel_rfl
  have e : ∀ i, N ≠ i → (a.tmps.setIfInBounds N v)[i]? = a.tmps[i]? := fun i hi => Array.getElem?_setIfInBounds_ne hi
  unfold results
  rw [hr]
  simp [Act.put, e 4 h4, e 5 h5, e 6 h6]
theorem dec_hQ {w0 : World} {R : Int × Int × Int × List Int × Int × Int} {K : Act → World → Prop} (N : Tmp) (v : Value) (h4 : N ≠ 4) (h5 : N ≠ 5) (h6 : N ≠ 6) (c : List PanicEntry) (a : Act) (w : World)
    (h : Exit.then K (bodyPostD Tryd.prog Tryd.f70 (DecPost w0 R)) (.panic c) (a.put (some N) v) w) : Exit.then K (bodyPostD Tryd.prog Tryd.f70 (DecPost w0 R)) (.panic c) a w :=
  leaves_congr (dec_put h4 h5 h6) _ _ _ h
section
variable {P : Program} {ops : Array Oper} {Q : Exit → Act → World → Prop}
theorem goesP_ {oi : Oper} {N : Option Tmp} {a : Act} {w : World} {K : Act → World → Prop} {f : FuncId} {fn : Func} {xs_ : Array Operand} {ts : Array TypeId} (hf : P.funcs[f]? = some fn) (hname : (fn.name == "runtime.NumGoroutine") = false) (hb : fn.body.isSome = true) (args : Array Value)
    (hw : Region.wanted oi (yielded ops a.tmps) = true) (hN : oi.dst = N) (hop : oi.op = .call { callee := .value (.func f), args := xs_, argTypes := ts }) (hargs : xs_.map a.eval = args)
    (h : Calls P f args w fun e w' => ∃ c, e = .panicked c ∧ Q (.panic c) a w') : if Region.wanted oi (yielded ops a.tmps) = true then Oper.wp P oi a w K Q else K (a.put N undef) w := by
  have he := enters_ hf hname hb args w
  have hrun : (execOp a.eval oi).run P w = .ok (.enter f args) w := by
    unfold execOp
    simp [hop, resolve, Deferred.ofValue, invoke, Act.eval, hargs, he]
  rw [if_pos hw]
  unfold Oper.wp
  rw [hrun, Oper.upon_enter]
  refine h.mono fun e w'' hh => ?_
  obtain ⟨c, rfl, hk⟩ := hh
  exact hk
theorem exec_load {w : World} {ev : Operand → Value} {o : Oper} {t : TypeId} {x : Operand} {u v : Value} (ho : o.op = .load t x) (hx : ev x = u) (hr : (Instr.loadAt t u).run P w = .ok v w) : (execOp ev o).run P w = .ok (.value v) w := by
  unfold execOp
  simp only [ho, hx, Sem.run_bind, hr, Result.andThen_ok, Sem.run_pure]
theorem exec_store {w w' : World} {ev : Operand → Value} {o : Oper} {t : TypeId} {x y : Operand} {u v : Value} (ho : o.op = .store t x y) (hx : ev x = u) (hy : ev y = v) (hr : (Instr.storeAt t u v).run P w = .ok () w') : (execOp ev o).run P w = .ok .skip w' := by
  unfold execOp
  simp only [ho, hx, hy, Sem.run_bind, hr, Result.andThen_ok, Sem.run_pure]
end
theorem st_end {W : World} {g t : Nat} {x : Int} {y : Value} (h : W.heap[g]? = some (.cells #[y] t (0, 0))) : (Instr.storeAt 3 (.pointer (some ⟨g, 0, none⟩)) (.int .i64 x)).run Tryd.prog W = .ok () (W.setCell ⟨g, 0, none⟩ (.int .i64 x)) := by
  have c := blk_cell h 0
  have f := blk_frozen h 0
  simp [go_sem, c, f]
theorem st_err {W : World} {g t : Nat} {x : Int} {y : Value} (h : W.heap[g]? = some (.cells #[y] t (0, 0))) : (Instr.storeAt 32 (.pointer (some ⟨g, 0, none⟩)) (.int .i64 x)).run Tryd.prog W = .ok () (W.setCell ⟨g, 0, none⟩ (.int .i64 x)) := by
  have c := blk_cell h 0
  have f := blk_frozen h 0
  simp [go_sem, c, f]
theorem seg_bytes {l : List Int} (h : Bytes255 l) (i j : Int) : Bytes255 (segL l i j) := fun x hx => h x (List.mem_of_mem_take (List.mem_of_mem_drop hx))
theorem four_bytes (c : Int) : Bytes255 (fourL c) := by
  intro x hx
  simp only [fourL, List.mem_cons, List.not_mem_nil, or_false] at hx
  rcases hx with rfl | rfl | rfl | rfl <;> omega
theorem equal_bytes {a b : List Int} (ha : Bytes255 a) (hb : Bytes255 b) : ((strOfNums a).toList == (strOfNums b).toList) = decide (a = b) := by
  rw [Lib.strOfNums_toList, Lib.strOfNums_toList]
  by_cases h : a = b
  · rw [h]; simp
  · rw [decide_eq_false h, beq_eq_false_iff_ne]
    exact fun e => h (bytesOf_inj ha hb e)
theorem may_f (k s t : Int) (l : List Int) : rec_May.f k s t l = some (decide (mayL k s t l.length)) := by
  unfold rec_May.f mayL
  by_cases h1 : k = 1 <;> by_cases h2 : k = 2 <;> by_cases h3 : 1 ≤ s <;> by_cases h4 : s ≤ 4611686018427387904 <;> by_cases h5 : t ≤ 4611686018427387904 <;> simp [h1, h2, h3, h4, h5]
set_option maxRecDepth 100000 in
set_option maxHeartbeats 4000000 in
theorem dec_main {A0 : Option Addr} {c0 : Nat} {l0 : List Int} {a1 : Int} {R : Except Int (Int × Int × Int × List Int × Int)} {w : World} (hr0 : Kd.C (Kd.int .u8) w A0 l0.length l0) (hc0 : l0.length ≤ c0) (hb : Bytes255 l0) (hl : l0.length < 140737488355328) (h1 : 0 ≤ a1) (h2 : a1 ≤ l0.length) (hR : decV l0 a1 = R) :
    Calls Tryd.prog 70 #[.slice A0 l0.length c0, .int .i64 a1] w (DecPost w (decOut R)) := by
  have e1 : decide (a1 < 0) = false := decide_eq_false (by omega)
  have e2 : decide ((l0.length : Int) < a1) = false := decide_eq_false (by omega)
  obtain ⟨W, hW, b0, b1, b2, hWs, hWb⟩ := three_new w (recO 0 0 0 (.slice none 0 0)) (.cells #[.int .i64 0] 3 (0, 0)) (.cells #[.int .i64 0] 32 (0, 0))
  have HW := Aside0.mk hW
  have B0 := Aside0.mk b0
  have B1 := Aside0.mk b1
  have B2 := Aside0.mk b2
  have HWs := Aside0.mk hWs
  have HWb := Aside0.mk hWb
  have HCC := Aside0.mk (And.intro hr0 (And.intro hc0 hb))
  have hmf : ∀ (fn : Fn) (first cap : Array Value) (w : World), (Instr.makeFunc fn first cap).run Tryd.prog w = .ok (.func fn first cap) w := fun _ _ _ _ => rfl
  clear hW b0 b1 b2 hWs hWb hr0 hc0 hb
  go_enter_defers Tryd.func70, Tryd.ntmps70
  go_wp2_with fail
  rw [HW.out]
  by_cases q1 : 6 ≤ (l0.length : Int) - a1
  case neg =>
    have d1 : decide (6 ≤ (l0.length : Int) - a1) = false := decide_eq_false q1
    have hr : R = .error 3 := hR.symm.trans (if_neg q1)
    subst hr
    clear q1 hR
    refine (asks_no d1).mono ?_
    rintro en w2 ⟨rfl, rfl⟩
    exact leave_stop rfl rfl rfl rfl HWb.out B0.out B1.out B2.out
  have d1 : decide (6 ≤ (l0.length : Int) - a1) = true := decide_eq_true q1
  have HR1 := Aside0.mk ((if_pos q1).symm.trans hR)
  have Q1 := Aside0.mk q1
  clear hR
  refine (asks_ok d1).mono ?_
  rintro en w2 ⟨rfl, rfl⟩
  clear d1 q1
  have hCW := Kd.C_below HCC.out.1 HWb.out
  obtain ⟨ad, ea, hx⟩ := Kd.at_int hCW a1 h1 (by have := Q1.out; omega)
  subst ea
  obtain ⟨ad2, ea2, hx2⟩ := Kd.at_int hCW (a1 + 1) (by omega) (by have := Q1.out; omega)
  obtain rfl := Option.some.inj ea2
  have hw1 : IntKind.i64.wrap (a1 + 1) = a1 + 1 := IntWalk.i64_in _ (by omega)
  have hw6 : IntKind.i64.wrap (a1 + 6) = a1 + 6 := IntWalk.i64_in _ (by omega)
  have hlt1 : a1 < (l0.length : Int) := by have := Q1.out; omega
  have hlt2 : a1 + 1 < (l0.length : Int) := by have := Q1.out; omega
  have hge2 : 0 ≤ a1 + 1 := by omega
  have HCW := Aside0.mk hCW
  clear hCW ea2
  have stop2 : ¬ (rd l0 a1 = 167 ∧ rd l0 (a1 + 1) = 92) → R = .error 2 := fun hn => HR1.out.symm.trans (if_neg hn)
  by_cases k1 : rd l0 a1 = 167
  case neg =>
    have d2 : (rd l0 a1 == 167) = false := beq_eq_false_iff_ne.2 k1
    have hr := stop2 (fun h => k1 h.1)
    subst hr
    clear k1 HR1 stop2
    go_wp2_with fail
    refine (asks_no rfl).mono ?_
    rintro en w2 ⟨rfl, rfl⟩
    exact leave_stop rfl rfl rfl rfl HWb.out B0.out B1.out B2.out
  have d2 : (rd l0 a1 == 167) = true := beq_iff_eq.2 k1
  by_cases k2 : rd l0 (a1 + 1) = 92
  case neg =>
    have d3 : (rd l0 (a1 + 1) == 92) = false := beq_eq_false_iff_ne.2 k2
    have hr := stop2 (fun h => k2 h.2)
    subst hr
    clear k1 k2 HR1 stop2
    go_wp2_with fail
    refine (asks_no rfl).mono ?_
    rintro en w2 ⟨rfl, rfl⟩
    exact leave_stop rfl rfl rfl rfl HWb.out B0.out B1.out B2.out
  have d3 : (rd l0 (a1 + 1) == 92) = true := beq_iff_eq.2 k2
  have HR2 := Aside0.mk ((if_pos (And.intro k1 k2)).symm.trans HR1.out)
  clear k1 k2 HR1 stop2
  go_wp2_with fail
  refine (asks_ok rfl).mono ?_
  rintro en w2 ⟨rfl, rfl⟩
  clear d2 d3 hx hx2
  by_cases q3 : a1 + 6 < (l0.length : Int)
  case neg =>
    have d3 : decide (a1 + 6 < (l0.length : Int)) = false := decide_eq_false q3
    have hr : R = .error 3 := HR2.out.symm.trans (if_neg q3)
    subst hr
    clear q3 HR2
    go_wp2_with fail
    refine (asks_no rfl).mono ?_
    rintro en w2 ⟨rfl, rfl⟩
    exact leave_stop rfl rfl rfl rfl HWb.out B0.out B1.out B2.out
  have d3 : decide (a1 + 6 < (l0.length : Int)) = true := decide_eq_true q3
  have HR3 := Aside0.mk ((if_pos q3).symm.trans HR2.out)
  clear HR2
  go_wp2_with fail
  refine (asks_ok rfl).mono ?_
  rintro en w2 ⟨rfl, rfl⟩
  obtain ⟨ad2, ea2, hx⟩ := Kd.at_int HCW.out (a1 + 6) (by omega) q3
  obtain rfl := Option.some.inj ea2
  have hge6 : 0 ≤ a1 + 6 := by omega
  have hw7 : IntKind.i64.wrap (a1 + 6 + 1) = a1 + 7 := by rw [IntWalk.i64_in _ (by omega)]; omega
  have hrd := rd_255 HCC.out.2.2 (a1 + 6)
  have hwb : IntKind.i64.wrap (rd l0 (a1 + 6)) = rd l0 (a1 + 6) := IntWalk.i64_in _ (by omega)
  have u0 := blk_cell B0.out 0
  have u0f := blk_frozen B0.out 0
  have u1 := blk_cell B1.out 0
  have u1f := blk_frozen B1.out 0
  obtain ⟨W1, hW1⟩ : ∃ W1, (W.setCell ⟨w.heap.size, 0, none⟩ (.int .i64 (rd l0 (a1 + 6)))).setCell ⟨w.heap.size + 1, 0, none⟩ (.int .i64 (a1 + 7)) = W1 := ⟨_, rfl⟩
  have m1 : Mu (fun k => w.heap.size ≤ k) W W1 := by rw [← hW1]; exact ((Mu.refl _ W).setCell (p := ⟨w.heap.size, 0, none⟩) (fun _ => Nat.le_refl _) _).setCell (p := ⟨w.heap.size + 1, 0, none⟩) (fun _ => Nat.le_succ _) _
  have G0 : W1.heap[w.heap.size]? = some (recO (rd l0 (a1 + 6)) 0 0 (.slice none 0 0)) := by rw [← hW1, Below.heap_setCell _ _ _ _ (by show w.heap.size ≠ w.heap.size + 1; omega)]; exact set4_0 B0.out
  have G1 : W1.heap[w.heap.size + 1]? = some (.cells #[.int .i64 (a1 + 7)] 3 (0, 0)) := by rw [← hW1]; exact set_0 ((Below.heap_setCell _ _ _ _ (by show w.heap.size + 1 ≠ w.heap.size; omega)).trans B1.out)
  have G2 : W1.heap[w.heap.size + 1 + 1]? = some (.cells #[.int .i64 0] 32 (0, 0)) := by rw [← hW1, Below.heap_setCell _ _ _ _ (by show w.heap.size + 1 + 1 ≠ w.heap.size + 1; omega), Below.heap_setCell _ _ _ _ (by show w.heap.size + 1 + 1 ≠ w.heap.size; omega)]; exact B2.out
  have HG := Aside0.mk (And.intro G0 (And.intro G1 (And.intro G2 (Mu.below_of HWb.out m1 (by intro i hi; omega)))))
  have HW1 := Aside0.mk hW1
  have Q3 := Aside0.mk q3
  clear m1 G0 G1 G2 hW1 hrd ea2
  go_wp2_with fail
  rw [HW1.out]
  clear u0 u0f u1 u1f hx hwb HW1 B0 B1 B2 HWb
  obtain ⟨K1, hK1⟩ : ∃ k, rd l0 (a1 + 6) = k := ⟨_, rfl⟩
  rw [hK1] at HG HR3
  rcases hg1 : getV l0 (a1 + 7) with ⟨n1, p1, x1⟩
  rw [hg1] at HR3
  by_cases z1 : x1 = 0
  case neg =>
    have hr : R = .error x1 := HR3.out.symm.trans (if_neg z1)
    subst hr
    clear HR3
    refine (num_no (Kd.C_below HCC.out.1 HG.out.2.2.2) HCC.out.2.1 HG.out.2.1 hg1 z1).mono ?_
    rintro en w2 ⟨rfl, hb⟩
    have hm := Mu.of_below hb (fun _ => False)
    exact leave_stop (bne_iff_ne.2 z1) rfl rfl rfl (below_step HG.out.2.2.2 hb) (hm.heap HG.out.1 (fun h => h)) (hm.heap HG.out.2.1 (fun h => h)) (hm.heap HG.out.2.2.1 (fun h => h))
  subst z1
  have HR4 := Aside0.mk ((if_pos rfl).symm.trans HR3.out)
  refine (num_ok (Kd.C_below HCC.out.1 HG.out.2.2.2) HCC.out.2.1 HG.out.2.1 hg1).mono ?_
  rintro en W2 ⟨rfl, g1_, hm⟩
  have HGb := Aside0.mk (And.intro (hm.heap HG.out.1 (by omega)) (And.intro g1_ (And.intro (hm.heap HG.out.2.2.1 (by omega)) (Mu.below_of HG.out.2.2.2 hm (by intro i hi; omega)))))
  have GV1 := Aside0.mk (getV_ok hg1)
  clear hm g1_ HR3 HG hg1
  go_wp2_with fail
  rcases hg2 : getV l0 p1 with ⟨n2, p2, x2⟩
  rw [hg2] at HR4
  by_cases z2 : x2 = 0
  case neg =>
    have hr : R = .error x2 := HR4.out.symm.trans (if_neg z2)
    subst hr
    clear HR4
    refine (num_no (Kd.C_below HCC.out.1 HGb.out.2.2.2) HCC.out.2.1 HGb.out.2.1 hg2 z2).mono ?_
    rintro en w2 ⟨rfl, hb⟩
    have hm := Mu.of_below hb (fun _ => False)
    exact leave_stop (bne_iff_ne.2 z2) rfl rfl rfl (below_step HGb.out.2.2.2 hb) (hm.heap HGb.out.1 (fun h => h)) (hm.heap HGb.out.2.1 (fun h => h)) (hm.heap HGb.out.2.2.1 (fun h => h))
  subst z2
  have HR5 := Aside0.mk ((if_pos rfl).symm.trans HR4.out)
  refine (num_ok (Kd.C_below HCC.out.1 HGb.out.2.2.2) HCC.out.2.1 HGb.out.2.1 hg2).mono ?_
  rintro en W3 ⟨rfl, g1_, hm⟩
  have HGbb := Aside0.mk (And.intro (hm.heap HGb.out.1 (by omega)) (And.intro g1_ (And.intro (hm.heap HGb.out.2.2.1 (by omega)) (Mu.below_of HGb.out.2.2.2 hm (by intro i hi; omega)))))
  have GV2 := Aside0.mk (getV_ok hg2)
  clear hm g1_ HR4 HGb hg2
  have u1 := blk_cell HGbb.out.1 1
  have u1f := blk_frozen HGbb.out.1 1
  have u2 := blk_cell HGbb.out.1 2
  have u2f := blk_frozen HGbb.out.1 2
  obtain ⟨W4, hW4⟩ : ∃ W4, (W3.setCell ⟨w.heap.size, 1, none⟩ (.int .u64 n1)).setCell ⟨w.heap.size, 2, none⟩ (.int .u64 n2) = W4 := ⟨_, rfl⟩
  have m4 : Mu (· = w.heap.size) W3 W4 := by rw [← hW4]; exact ((Mu.refl (· = w.heap.size) W3).setCell (p := ⟨w.heap.size, 1, none⟩) (fun _ => rfl) _).setCell (p := ⟨w.heap.size, 2, none⟩) (fun _ => rfl) _
  have g0 : W4.heap[w.heap.size]? = some (recO K1 n1 n2 (.slice none 0 0)) := by rw [← hW4]; exact set4_2 (set4_1 HGbb.out.1)
  have HH := Aside0.mk (And.intro g0 (And.intro (m4.heap HGbb.out.2.1 (by omega)) (And.intro (m4.heap HGbb.out.2.2.1 (by omega)) (Mu.below_of HGbb.out.2.2.2 m4 (by intro i hi; omega)))))
  have HW4 := Aside0.mk hW4
  clear m4 g0 hW4 HGbb
  go_wp2_with fail
  rw [HW4.out]
  clear u1 u1f u2 u2f HW4
  rcases hg3 : getV l0 p2 with ⟨n3, p3, x3⟩
  rw [hg3] at HR5
  by_cases z3 : x3 = 0
  case neg =>
    have hr : R = .error x3 := HR5.out.symm.trans (if_neg z3)
    subst hr
    clear HR5
    refine (num_no (Kd.C_below HCC.out.1 HH.out.2.2.2) HCC.out.2.1 HH.out.2.1 hg3 z3).mono ?_
    rintro en w2 ⟨rfl, hb⟩
    have hm := Mu.of_below hb (fun _ => False)
    exact leave_stop (bne_iff_ne.2 z3) rfl rfl rfl (below_step HH.out.2.2.2 hb) (hm.heap HH.out.1 (fun h => h)) (hm.heap HH.out.2.1 (fun h => h)) (hm.heap HH.out.2.2.1 (fun h => h))
  subst z3
  have HR6 := Aside0.mk ((if_pos rfl).symm.trans HR5.out)
  refine (num_ok (Kd.C_below HCC.out.1 HH.out.2.2.2) HCC.out.2.1 HH.out.2.1 hg3).mono ?_
  rintro en W5 ⟨rfl, g1_, hm⟩
  have HHb := Aside0.mk (And.intro (hm.heap HH.out.1 (by omega)) (And.intro g1_ (And.intro (hm.heap HH.out.2.2.1 (by omega)) (Mu.below_of HH.out.2.2.2 hm (by intro i hi; omega)))))
  have GV3 := Aside0.mk (getV_ok hg3)
  clear hm g1_ HR5 HH hg3
  have G3 := GV3.out
  go_wp2_with fail
  by_cases q7 : n3 ≤ 1048576
  case neg =>
    have hr : R = .error 2 := HR6.out.symm.trans (if_neg q7)
    subst hr
    clear HR6
    refine (asks_no (decide_eq_false q7)).mono ?_
    rintro en w2 ⟨rfl, rfl⟩
    exact leave_stop rfl rfl rfl rfl HHb.out.2.2.2 HHb.out.1 HHb.out.2.1 HHb.out.2.2.1
  have HR7 := Aside0.mk ((if_pos q7).symm.trans HR6.out)
  clear HR6
  refine (asks_ok (decide_eq_true q7)).mono ?_
  rintro en w2 ⟨rfl, rfl⟩
  have v1 := blk_cell HHb.out.2.1 0
  have hwa : IntKind.i64.wrap ((l0.length : Int) - p3) = (l0.length : Int) - p3 := IntWalk.i64_in _ (by omega)
  have hwc : IntKind.u64.wrap ((l0.length : Int) - p3) = (l0.length : Int) - p3 := IntWalk.u64_in _ (by omega)
  have hwn : IntKind.i64.wrap n3 = n3 := IntWalk.i64_in _ (by omega)
  have hwe : IntKind.i64.wrap (p3 + n3) = p3 + n3 := IntWalk.i64_in _ (by omega)
  clear G3
  go_wp2_with fail
  by_cases q8 : n3 ≤ (l0.length : Int) - p3
  case neg =>
    have hr : R = .error 3 := HR7.out.symm.trans (if_neg q8)
    subst hr
    clear HR7
    refine (asks_no (decide_eq_false q8)).mono ?_
    rintro en w2 ⟨rfl, rfl⟩
    exact leave_stop rfl rfl rfl rfl HHb.out.2.2.2 HHb.out.1 HHb.out.2.1 HHb.out.2.2.1
  have HR8 := Aside0.mk ((if_pos q8).symm.trans HR7.out)
  clear HR7
  refine (asks_ok (decide_eq_true q8)).mono ?_
  rintro en w2 ⟨rfl, rfl⟩
  have GV12 := And.intro GV1.out (And.intro GV2.out GV3.out)
  obtain ⟨A3, hcut3, hC3, hl3⟩ := cutSeg (some ad) c0 l0 p3 (p3 + n3) (by omega) (by omega) (by omega) HCC.out.2.1
  have HC3 := Aside0.mk (clone_any (hC3 W5 (Kd.C_below HCC.out.1 HHb.out.2.2.2)) hl3 (by unfold segL; rw [List.length_drop, List.length_take]; omega))
  have Q7 := Aside0.mk q7
  have Q8 := Aside0.mk q8
  clear GV12 hC3 q7 q8
  go_wp2_with fail
  refine HC3.out.mono ?_
  rintro en W6 ⟨v, rfl, hr6, hb6⟩
  obtain ⟨A6, c6, rfl⟩ := Kd.R_slice hr6
  have hm6 := Mu.of_below hb6 (fun _ => False)
  have HI := Aside0.mk (And.intro (hm6.heap HHb.out.1 (fun h => h)) (And.intro (hm6.heap HHb.out.2.1 (fun h => h)) (And.intro (hm6.heap HHb.out.2.2.1 (fun h => h)) (below_step HHb.out.2.2.2 hb6))))
  have HB6 := Aside0.mk (And.intro (Kd.R_bound hr6) (heap_lt HHb.out.2.2.1))
  have HS5 := Aside0.mk HHb.out.2.2.2.size
  clear hcut3 HC3 hr6 hb6 hm6 v1 HHb hl3
  have u3 := blk_cell HI.out.1 3
  have u3f := blk_frozen HI.out.1 3
  have u1 := blk_cell HI.out.2.1 0
  have u1f := blk_frozen HI.out.2.1 0
  obtain ⟨W7, hW7⟩ : ∃ W7, (W6.setCell ⟨w.heap.size, 3, none⟩ (.slice A6 (segL l0 p3 (p3 + n3)).length c6)).setCell ⟨w.heap.size + 1, 0, none⟩ (.int .i64 (p3 + n3)) = W7 := ⟨_, rfl⟩
  have m7 : Mu (fun k => w.heap.size ≤ k ∧ k ≤ w.heap.size + 1) W6 W7 := by rw [← hW7]; exact ((Mu.refl _ W6).setCell (p := ⟨w.heap.size, 3, none⟩) (fun _ => ⟨Nat.le_refl _, Nat.le_succ _⟩) _).setCell (p := ⟨w.heap.size + 1, 0, none⟩) (fun _ => ⟨Nat.le_succ _, Nat.le_refl _⟩) _
  have g0 : W7.heap[w.heap.size]? = some (recO K1 n1 n2 (.slice A6 (segL l0 p3 (p3 + n3)).length c6)) := by rw [← hW7, Below.heap_setCell _ _ _ _ (by show w.heap.size ≠ w.heap.size + 1; omega)]; exact set4_3 HI.out.1
  have g1 : W7.heap[w.heap.size + 1]? = some (.cells #[.int .i64 (p3 + n3)] 3 (0, 0)) := by rw [← hW7]; exact set_0 ((Below.heap_setCell _ _ _ _ (by show w.heap.size + 1 ≠ w.heap.size; omega)).trans HI.out.2.1)
  have g2 := m7.heap HI.out.2.2.1 (by omega)
  have HJ := Aside0.mk (And.intro g0 (And.intro g1 (And.intro g2 (Mu.below_of HI.out.2.2.2 m7 (by intro i hi; omega)))))
  have HB7 := Aside0.mk (Kd.R_mono (Kd.R_move HB6.out.1 (fun k hk => m7.block k hk.2.2.1 (by have := hk.2.1; have := HB6.out.2; omega))) (fun _ _ => trivial) : Kd.R (Kd.int .u8) 5 W7 W5.heap.size (fun _ => True) _ _)
  have H5 := Aside0.mk (And.intro HB6.out.2 HS5.out)
  have HW7 := Aside0.mk hW7
  have hwe : IntKind.i64.wrap (p3 + n3) = p3 + n3 := by have := GV3.out; have := Q7.out; have := Q8.out; exact IntWalk.i64_in _ (by omega)
  have hwn : IntKind.i64.wrap n3 = n3 := by have := GV3.out; have := Q7.out; exact IntWalk.i64_in _ (by omega)
  clear hW7 m7 g0 g1 g2
  go_upto_region 15 with fail
  rw [HW7.out]
  clear u3 u3f u1 u1f HW7 hwn hwe HI HB6 HS5
  have GVV := And.intro GV1.out (And.intro GV2.out GV3.out)
  have hwa2 : IntKind.i64.wrap (a1 + 2) = a1 + 2 := IntWalk.i64_in _ (by omega)
  obtain ⟨AS, hcutS, hCS, hlS⟩ := cutSeg (some ad) c0 l0 (a1 + 2) (a1 + 6) (by omega) (by omega) (by omega) HCC.out.2.1
  obtain ⟨AC, hcutC, hCC, hlC⟩ := cutSeg (some ad) c0 l0 (a1 + 6) (p3 + n3) (by omega) (by have := Q7.out; have := Q8.out; omega) (by have := Q8.out; omega) HCC.out.2.1
  have HCS := Aside0.mk hCS
  have HCCr := Aside0.mk hCC
  have hlc : (segL l0 (a1 + 6) (p3 + n3)).length ≤ l0.length := by unfold segL; rw [List.length_drop, List.length_take]; omega
  have hcrc := wireCrc_any (10 * (segL l0 (a1 + 6) (p3 + n3)).length + 1) _ (by omega) (seg_bytes HCC.out.2.2 (a1 + 6) (p3 + n3)) (Nat.le_refl _)
  have HCrc := Aside0.mk hcrc
  have HlS := Aside0.mk hlS
  have HlC := Aside0.mk hlC
  have HEq := Aside0.mk (equal_bytes (seg_bytes HCC.out.2.2 (a1 + 2) (a1 + 6)) (four_bytes (crcV (segL l0 (a1 + 6) (p3 + n3)))))
  clear GVV hCS hCC hlc hcrc hlS hlC
  refine start_ (n := 13) (S := fun W => W.cell? ⟨w.heap.size + 1, 0, none⟩ = some (.int .i64 (p3 + n3))) (ds := [12]) #[false, false, false, false, false, false, false, false, false, false, false, false, false] (by kernel_rfl) rfl rfl (blk_cell HJ.out.2.1 0) (fun hS => ?_)
  refine pure_ (i := 0) (N := some 86) (v := ?_) (a' := ?_) #[true, false, false, false, false, false, false, false, false, false, false, false, false] rfl rfl (by kernel_rfl) (dec_hQ 86 _ (by decide) (by decide) (by decide)) (Or.inl ⟨by rfl, ?_⟩) ?_ ?_
  rotate_left
  · intro w'
    go_simp
    with_reducible rfl
  rotate_left
  · simp only [Act.put, List.setIfInBounds_toArray, List.set_cons_zero, List.set_cons_succ, i64_w, i32_w]
    rfl
  refine pure_ (i := 1) (N := some 87) (v := ?_) (a' := ?_) #[true, true, false, false, false, false, false, false, false, false, false, false, false] rfl rfl (by kernel_rfl) (dec_hQ 87 _ (by decide) (by decide) (by decide)) (Or.inl ⟨by rfl, ?_⟩) ?_ ?_
  rotate_left
  · intro w'
    go_simp
    with_reducible rfl
  rotate_left
  · simp only [Act.put, List.setIfInBounds_toArray, List.set_cons_zero, List.set_cons_succ, i64_w, i32_w]
    rfl
  refine pure_ (i := 2) (N := some 88) (v := ?_) (a' := ?_) #[true, true, true, false, false, false, false, false, false, false, false, false, false] rfl rfl (by kernel_rfl) (dec_hQ 88 _ (by decide) (by decide) (by decide)) (Or.inl ⟨by rfl, ?_⟩) ?_ ?_
  rotate_left
  · intro w'
    go_simp
    with_reducible rfl
  rotate_left
  · simp only [Act.put, List.setIfInBounds_toArray, List.set_cons_zero, List.set_cons_succ, i64_w, i32_w]
    rfl
  refine pure_ (i := 3) (N := some 89) (v := ?_) (a' := ?_) #[true, true, true, true, false, false, false, false, false, false, false, false, false] rfl rfl (by kernel_rfl) (dec_hQ 89 _ (by decide) (by decide) (by decide)) (Or.inl ⟨by rfl, ?_⟩) ?_ ?_
  rotate_left
  · intro w'
    go_simp
    with_reducible rfl
  rotate_left
  · simp only [Act.put, List.setIfInBounds_toArray, List.set_cons_zero, List.set_cons_succ, i64_w, i32_w]
    rfl
  refine pure_ (i := 4) (N := some 90) (v := ?_) (a' := ?_) #[true, true, true, true, true, false, false, false, false, false, false, false, false] rfl rfl (by kernel_rfl) (dec_hQ 90 _ (by decide) (by decide) (by decide)) (Or.inl ⟨by rfl, ?_⟩) ?_ ?_
  rotate_left
  · intro w'
    go_simp
    with_reducible rfl
  rotate_left
  · simp only [Act.put, List.setIfInBounds_toArray, List.set_cons_zero, List.set_cons_succ, i64_w, i32_w]
    rfl
  refine pure_ (i := 5) (N := some 91) (v := ?_) (a' := ?_) #[true, true, true, true, true, true, false, false, false, false, false, false, false] rfl rfl (by kernel_rfl) (dec_hQ 91 _ (by decide) (by decide) (by decide)) (Or.inl ⟨by rfl, ?_⟩) ?_ ?_
  rotate_left
  · intro w'
    go_simp
    with_reducible rfl
  rotate_left
  · simp only [Act.put, List.setIfInBounds_toArray, List.set_cons_zero, List.set_cons_succ, i64_w, i32_w]
    rfl
  refine pure_ (i := 6) (N := some 92) (v := ?_) (a' := ?_) #[true, true, true, true, true, true, true, false, false, false, false, false, false] rfl rfl (by kernel_rfl) (dec_hQ 92 _ (by decide) (by decide) (by decide)) (Or.inl ⟨by rfl, ?_⟩) ?_ ?_
  rotate_left
  · intro w'
    go_simp
    with_reducible rfl
  rotate_left
  · simp only [Act.put, List.setIfInBounds_toArray, List.set_cons_zero, List.set_cons_succ, i64_w, i32_w]
    rfl
  refine take_ (i := 7) (N := some 93) (v := ?_) (a' := ?_) #[true, true, true, true, true, true, true, true, false, false, false, false, false] rfl rfl (by kernel_rfl) (dec_hQ 93 _ (by decide) (by decide) (by decide)) (Or.inl ⟨by rfl, ?_⟩) hS ?_ ?_
  rotate_left
  · intro w' hs
    go_simp
    with_reducible rfl
  rotate_left
  · simp only [Act.put, List.setIfInBounds_toArray, List.set_cons_zero, List.set_cons_succ, i64_w, i32_w]
    rfl
  refine pure_ (i := 8) (N := some 94) (v := ?_) (a' := ?_) #[true, true, true, true, true, true, true, true, true, false, false, false, false] rfl rfl (by kernel_rfl) (dec_hQ 94 _ (by decide) (by decide) (by decide)) (Or.inl ⟨by rfl, ?_⟩) ?_ ?_
  rotate_left
  · intro w'
    go_simp
    with_reducible rfl
  rotate_left
  · simp only [Act.put, List.setIfInBounds_toArray, List.set_cons_zero, List.set_cons_succ, i64_w, i32_w]
    rfl
  have hC7 := Kd.C_below HCC.out.1 HJ.out.2.2.2
  have HC7 := Aside0.mk hC7
  clear hC7
  refine one_ (i := 9) (N := some 95) #[true, true, true, true, true, true, true, true, true, true, false, false, false] rfl rfl (by kernel_rfl) (by decide) (fun K hK => ?_)
  refine goes_ Tryd.func65 (by kernel_rfl) rfl #[.slice AC (segL l0 (a1 + 6) (p3 + n3)).length (c0 - (a1 + 6).toNat)] (by rfl) rfl rfl (by (try simp only [List.map_toArray, List.map_cons, List.map_nil]); first | done | rfl) ?_
  refine (wire_Crc.calls _ _ _ _ _ _ (Kd.C_drew (HCCr.out _ HC7.out)) HlC.out HCrc.out).mono ?_
  rintro e w8 ⟨rfl, ⟨nd, rfl⟩⟩
  refine ⟨_, rfl, ?_⟩
  refine hK.out _ _ hS (fun hS => ?_)
  refine norm_ (a' := ?_) ?_ ?_
  rotate_left
  · show Act.put _ (some 95) _ = _
    simp only [Act.put, List.setIfInBounds_toArray, List.set_cons_zero, List.set_cons_succ, i64_w, i32_w]
    rfl
  refine one_ (i := 10) (N := some 96) #[true, true, true, true, true, true, true, true, true, true, true, false, false] rfl rfl (by kernel_rfl) (by decide) (fun K hK => ?_)
  refine goes_ Tryd.func64 (by kernel_rfl) rfl #[.int .u32 (crcV (segL l0 (a1 + 6) (p3 + n3)))] (by rfl) rfl rfl (by (try simp only [List.map_toArray, List.map_cons, List.map_nil]); first | done | rfl) ?_
  refine (wire_Four.calls _ (fourL (crcV (segL l0 (a1 + 6) (p3 + n3)))) _ rfl).mono ?_
  rintro e w9 ⟨v9, rfl, ho9, hb9⟩
  obtain ⟨A9, c9, rfl⟩ := Kd.R_slice ho9
  have hm9 := Mu.of_below hb9 (fun _ => False)
  have g0 := hm9.heap (show (W7.drew.drewN nd).heap[w.heap.size]? = _ from HJ.out.1) (fun h => h)
  have g1 := hm9.heap (show (W7.drew.drewN nd).heap[w.heap.size + 1]? = _ from HJ.out.2.1) (fun h => h)
  have g2 := hm9.heap (show (W7.drew.drewN nd).heap[w.heap.size + 1 + 1]? = _ from HJ.out.2.2.1) (fun h => h)
  have HL := Aside0.mk (And.intro g0 (And.intro g1 (And.intro g2 (below_step (pw_below_drewN (below_drew1 HJ.out.2.2.2) nd) hb9))))
  have HC9 := Aside0.mk (Kd.C_below (Kd.C_drewN (Kd.C_drew HC7.out) nd) hb9)
  have HR9 := Aside0.mk (Kd.R_reads' ho9)
  have HB9 := Aside0.mk (Kd.R_below (Kd.R_drewN (Kd.R_drew HB7.out) nd) hb9)
  clear hm9 g0 g1 g2 ho9 HC7 HB7 HJ
  refine ⟨_, rfl, ?_⟩
  refine hK.out _ _ (blk_cell HL.out.2.1 0) (fun hS => ?_)
  clear hb9
  refine norm_ (a' := ?_) ?_ ?_
  rotate_left
  · show Act.put _ (some 96) _ = _
    simp only [Act.put, List.setIfInBounds_toArray, List.set_cons_zero, List.set_cons_succ, i64_w, i32_w]
    rfl
  refine one_ (i := 11) (N := some 97) #[true, true, true, true, true, true, true, true, true, true, true, true, false] rfl rfl (by kernel_rfl) (by decide) (fun K hK => ?_)
  refine goes_ Tryd.func78 (by kernel_rfl) rfl #[.slice AS (segL l0 (a1 + 2) (a1 + 6)).length (c0 - (a1 + 2).toNat), .slice A9 (fourL (crcV (segL l0 (a1 + 6) (p3 + n3)))).length c9] (by rfl) rfl rfl (by (try simp only [List.map_toArray, List.map_cons, List.map_nil]); first | done | rfl) ?_
  refine (bytes_Equal.calls _ _ _ _ _ _ _ _ (HCS.out _ HC9.out) HlS.out HR9.out.2.2 HR9.out.2.1 (congrArg some HEq.out)).mono ?_
  rintro e w10 ⟨rfl, ⟨nd2, rfl⟩⟩
  refine ⟨_, rfl, ?_⟩
  refine hK.out _ _ hS (fun hS => ?_)
  refine norm_ (a' := ?_) ?_ ?_
  rotate_left
  · show Act.put _ (some 97) _ = _
    simp only [Act.put, List.setIfInBounds_toArray, List.set_cons_zero, List.set_cons_succ, i64_w, i32_w]
    rfl
  by_cases q9 : (segL l0 (a1 + 2) (a1 + 6)) = fourL (crcV (segL l0 (a1 + 6) (p3 + n3)))
  case neg =>
    have hr : R = .error 9 := HR8.out.symm.trans (if_neg q9)
    subst hr
    clear HR8
    refine last_ (i := 12) (N := some 98) #[true, true, true, true, true, true, true, true, true, true, true, true, true] rfl rfl (by kernel_rfl) (by decide) (fun K hK => ?_)
    refine goesP_ Tryd.func98 (by kernel_rfl) rfl #[.bool (decide ((segL l0 (a1 + 2) (a1 + 6)) = fourL (crcV (segL l0 (a1 + 6) (p3 + n3))))), .int .i64 9] (by rfl) rfl rfl (by (try simp only [List.map_toArray, List.map_cons, List.map_nil]); first | done | rfl) ?_
    refine (asks_no (decide_eq_false q9)).mono ?_
    rintro en w11 ⟨rfl, rfl⟩
    exact ⟨_, rfl, leave_stop rfl rfl rfl rfl (pw_below_drewN HL.out.2.2.2 nd2) HL.out.1 HL.out.2.1 HL.out.2.2.1⟩
  have HR9' := Aside0.mk ((if_pos q9).symm.trans HR8.out)
  clear HR8
  refine last_ (i := 12) (N := some 98) #[true, true, true, true, true, true, true, true, true, true, true, true, true] rfl rfl (by kernel_rfl) (by decide) (fun K hK => ?_)
  refine goes_ Tryd.func98 (by kernel_rfl) rfl #[.bool (decide ((segL l0 (a1 + 2) (a1 + 6)) = fourL (crcV (segL l0 (a1 + 6) (p3 + n3))))), .int .i64 9] (by rfl) rfl rfl (by (try simp only [List.map_toArray, List.map_cons, List.map_nil]); first | done | rfl) ?_
  refine (asks_ok (decide_eq_true q9)).mono ?_
  rintro en w11 ⟨rfl, rfl⟩
  refine ⟨_, rfl, ?_⟩
  refine hK.out _ _ ?_
  refine norm_ (a' := ?_) ?_ ?_
  rotate_left
  · show Act.put _ (some 98) _ = _
    simp only [Act.put, List.setIfInBounds_toArray, List.set_cons_zero, List.set_cons_succ, i64_w, i32_w]
    rfl
  refine done_ (by kernel_rfl) ?_
  clear q9 hS hcutS hcutC HCS HCCr HlS HlC HEq HCrc HC9 HR9
  have hsl : (((segL l0 p3 (p3 + n3)).length : Nat) : Int) = n3 := by have := GV1.out; have := GV2.out; have := GV3.out; have := Q8.out; unfold segL; rw [List.length_drop, List.length_take]; omega
  have HM := Aside0.mk (show ((w9.drewN nd2).heap[w.heap.size]? = _ ∧ (w9.drewN nd2).heap[w.heap.size + 1]? = _ ∧ (w9.drewN nd2).heap[w.heap.size + 1 + 1]? = _ ∧ Below w.heap.size w (w9.drewN nd2) ∧ Kd.R _ _ (w9.drewN nd2) _ _ _ _) from ⟨HL.out.1, HL.out.2.1, HL.out.2.2.1, pw_below_drewN HL.out.2.2.2 nd2, Kd.R_drewN HB9.out nd2⟩)
  clear HL HB9
  generalize w9.drewN nd2 = W9 at *
  have HMay := Aside0.mk (rec_May.calls K1 n1 n2 A6 c6 (segL l0 p3 (p3 + n3)) _ W9 (Kd.R_reads' HM.out.2.2.2.2).2.2 (Kd.R_reads' HM.out.2.2.2.2).2.1 (may_f K1 n1 n2 (segL l0 p3 (p3 + n3))))
  rw [hsl] at HMay
  go_wp2_with ((with_reducible refine gate_ (.load 88 (.tmp 4)) rfl ?_); refine wpList_loadR rfl _ _ rfl (by rfl) (rec_load HM.out.1) ?_)
  refine HMay.out.mono ?_
  rintro e w12 ⟨rfl, hb12⟩
  have hm12 := Mu.of_below hb12 (fun _ => False)
  have HN := Aside0.mk (And.intro (hm12.heap HM.out.1 (fun h => h)) (And.intro (hm12.heap HM.out.2.1 (fun h => h)) (And.intro (hm12.heap HM.out.2.2.1 (fun h => h)) (And.intro (below_step HM.out.2.2.2.1 hb12) (Kd.R_below HM.out.2.2.2.2 hb12)))))
  clear hm12 hb12 HMay HM
  go_wp2_with fail
  by_cases q10 : mayL K1 n1 n2 n3
  case neg =>
    have hr : R = .error 2 := HR9'.out.symm.trans (if_neg q10)
    subst hr
    clear HR9'
    refine (asks_no (decide_eq_false q10)).mono ?_
    rintro en w13 ⟨rfl, rfl⟩
    exact leave_stop rfl rfl rfl rfl HN.out.2.2.2.1 HN.out.1 HN.out.2.1 HN.out.2.2.1
  have hr : R = .ok (K1, n1, n2, (segL l0 p3 (p3 + n3)), p3 + n3) := HR9'.out.symm.trans (if_pos q10)
  subst hr
  clear HR9'
  refine (asks_ok (decide_eq_true q10)).mono ?_
  rintro en w13 ⟨rfl, rfl⟩
  clear q10
  go_upto_region 17 with fail
  obtain ⟨W13, hst, G0, m13⟩ := rec_store K1 n1 n2 A6 (segL l0 p3 (p3 + n3)).length c6 (show w12.drew.heap[w.heap.size]? = _ from HN.out.1)
  have G1 := m13.heap (show w12.drew.heap[w.heap.size + 1]? = _ from HN.out.2.1) (by omega)
  have G2 := m13.heap (show w12.drew.heap[w.heap.size + 1 + 1]? = _ from HN.out.2.2.1) (by omega)
  refine start_ (n := 5) (S := fun W => W.cell? ⟨w.heap.size + 1, 0, none⟩ = some (.int .i64 (p3 + n3))) (ds := [3, 4]) #[false, false, false, false, false] (by kernel_rfl) rfl rfl (blk_cell HN.out.2.1 0) (fun hS => ?_)
  refine take_ (i := 1) (N := some 103) (v := ?_) (a' := ?_) #[false, true, false, false, false] rfl rfl (by kernel_rfl) (dec_hQ 103 _ (by decide) (by decide) (by decide)) (Or.inl ⟨by rfl, ?_⟩) hS ?_ ?_
  rotate_left
  · intro w' hs
    go_simp
    with_reducible rfl
  rotate_left
  · simp only [Act.put, List.setIfInBounds_toArray, List.set_cons_zero, List.set_cons_succ, i64_w, i32_w]
    rfl
  refine one_ (i := 0) (N := some 102) #[true, true, false, false, false] rfl rfl (by kernel_rfl) (by decide) (fun K hK => ?_)
  refine value_ (by rfl) rfl (exec_load rfl (by rfl) (rec_load (show w12.drew.heap[w.heap.size]? = _ from HN.out.1))) ?_
  refine hK.out _ _ hS (fun hS => ?_)
  refine norm_ (a' := ?_) ?_ ?_
  rotate_left
  · show Act.put _ (some 102) _ = _
    simp only [Act.put, List.setIfInBounds_toArray, List.set_cons_zero, List.set_cons_succ, i64_w, i32_w]
    rfl
  refine one_ (i := 2) (N := none) #[true, true, true, false, false] rfl rfl (by kernel_rfl) (by decide) (fun K hK => ?_)
  refine skip_ (by rfl) rfl (exec_store rfl (by rfl) (by rfl) hst) ?_
  refine hK.out _ _ (blk_cell G1 0) (fun hS => ?_)
  refine last_ (i := 3) (N := none) #[true, true, true, true, false] rfl rfl (by kernel_rfl) (by decide) (fun K hK => ?_)
  refine skip_ (by rfl) rfl (exec_store rfl (by rfl) (by rfl) (st_end G1)) ?_
  refine hK.out _ _ ?_
  have g2 := (Below.heap_setCell W13 ⟨w.heap.size + 1, 0, none⟩ (.int .i64 (p3 + n3)) (w.heap.size + 1 + 1) (by show w.heap.size + 1 + 1 ≠ w.heap.size + 1; omega)).trans G2
  refine last_ (i := 4) (N := none) #[true, true, true, true, true] rfl rfl (by kernel_rfl) (by decide) (fun K hK => ?_)
  refine skip_ (by rfl) rfl (exec_store rfl (by rfl) (by rfl) (st_err g2)) ?_
  refine hK.out _ _ ?_
  refine done_ (by kernel_rfl) ?_
  have j0 := (Below.heap_setCell (W13.setCell ⟨w.heap.size + 1, 0, none⟩ (.int .i64 (p3 + n3))) ⟨w.heap.size + 1 + 1, 0, none⟩ (.int .i64 0) w.heap.size (by show w.heap.size ≠ w.heap.size + 1 + 1; omega)).trans ((Below.heap_setCell W13 ⟨w.heap.size + 1, 0, none⟩ (.int .i64 (p3 + n3)) w.heap.size (by show w.heap.size ≠ w.heap.size + 1; omega)).trans G0)
  have j1 := (Below.heap_setCell (W13.setCell ⟨w.heap.size + 1, 0, none⟩ (.int .i64 (p3 + n3))) ⟨w.heap.size + 1 + 1, 0, none⟩ (.int .i64 0) (w.heap.size + 1) (by show w.heap.size + 1 ≠ w.heap.size + 1 + 1; omega)).trans (set_0 (x := .int .i64 (p3 + n3)) G1)
  have j2 := set_0 (x := .int .i64 0) g2
  have mF : Mu (fun k => w.heap.size ≤ k ∧ k ≤ w.heap.size + 1 + 1) w12.drew ((W13.setCell ⟨w.heap.size + 1, 0, none⟩ (.int .i64 (p3 + n3))).setCell ⟨w.heap.size + 1 + 1, 0, none⟩ (.int .i64 0)) :=
    ((m13.mono (fun k _ h => by have h : k = w.heap.size := h; omega)).setCell (p := ⟨w.heap.size + 1, 0, none⟩) (fun _ => by show w.heap.size ≤ w.heap.size + 1 ∧ w.heap.size + 1 ≤ w.heap.size + 1 + 1; omega) _).setCell (p := ⟨w.heap.size + 1 + 1, 0, none⟩) (fun _ => by show w.heap.size ≤ w.heap.size + 1 + 1 ∧ w.heap.size + 1 + 1 ≤ w.heap.size + 1 + 1; omega) _
  have HZ := Aside0.mk (And.intro j0 (And.intro j1 (And.intro j2 mF)))
  clear j0 j1 j2 mF g2 G0 G1 G2 m13 hS hst
  generalize ((W13.setCell ⟨w.heap.size + 1, 0, none⟩ (.int .i64 (p3 + n3))).setCell ⟨w.heap.size + 1 + 1, 0, none⟩ (.int .i64 0)) = W14 at *
  go_wp2
  refine leaves_cons (f := 96) (args := #[.pointer (some ⟨w.heap.size, 0, none⟩), .pointer (some ⟨w.heap.size + 1, 0, none⟩), .pointer (some ⟨w.heap.size + 1 + 1, 0, none⟩)]) (by simp) (by simp [go_sem]) ?_
  refine dec_idle.mono ?_
  rintro en u w15 ⟨rfl, rfl, rfl⟩
  refine ⟨_, dec_results rfl rfl rfl HZ.out.1 HZ.out.2.1 HZ.out.2.2.1, _, rfl, ?_, ?_⟩
  · have h1_ := Kd.R_bound (Kd.R_drew HN.out.2.2.2.2)
    exact Kd.R_lower (Kd.R_mono (Kd.R_move h1_ (fun k hk => HZ.out.2.2.2.block k hk.2.2.1 (by have := hk.2.1; have := H5.out.1; omega))) (fun _ _ => trivial)) H5.out.2
  · exact Mu.below_of (below_drew1 HN.out.2.2.2.1) HZ.out.2.2.2 (by intro i hi; omega)
end Go.Proofs.YtlgfmmkabnbllaaDoor.Hand
namespace Go.Proofs.YtlgfmmkabnbllaaDoor.Hand
open Go.RowKit Go.Proofs.YtlgfmmkabnbllaaDoorW.PrintWords Go.Proofs.YtlgfmmkabnbllaaDoorW.PrintLast Go.Proofs.YtlgfmmkabnbllaaDoor.PA
set_option maxRecDepth 100000 in
set_option maxHeartbeats 4000000 in
theorem dec_early {A0 : Option Addr} {c0 : Nat} {l0 : List Int} {a1 : Int} {w : World} (h : a1 < 0 ∨ (l0.length : Int) < a1) :
    Calls Tryd.prog 70 #[.slice A0 l0.length c0, .int .i64 a1] w (DecPost w (0, 0, 0, [], 0, 1)) := by
  obtain ⟨W, hW, b0, b1, b2, hWs, hWb⟩ := three_new w (recO 0 0 0 (.slice none 0 0)) (.cells #[.int .i64 0] 3 (0, 0)) (.cells #[.int .i64 0] 32 (0, 0))
  obtain ⟨W1, hst, g0, m0⟩ := rec_store 0 0 0 none 0 0 b0
  have g1 := m0.heap b1 (by omega)
  have g2 := m0.heap b2 (by omega)
  have k2 := (Below.heap_setCell W1 ⟨w.heap.size + 1, 0, none⟩ (.int .i64 0) (w.heap.size + 1 + 1) (by show w.heap.size + 1 + 1 ≠ w.heap.size + 1; omega)).trans g2
  have j0 := (Below.heap_setCell (W1.setCell ⟨w.heap.size + 1, 0, none⟩ (.int .i64 0)) ⟨w.heap.size + 1 + 1, 0, none⟩ (.int .i64 1) w.heap.size (by show w.heap.size ≠ w.heap.size + 1 + 1; omega)).trans ((Below.heap_setCell W1 ⟨w.heap.size + 1, 0, none⟩ (.int .i64 0) w.heap.size (by show w.heap.size ≠ w.heap.size + 1; omega)).trans g0)
  have j1 := (Below.heap_setCell (W1.setCell ⟨w.heap.size + 1, 0, none⟩ (.int .i64 0)) ⟨w.heap.size + 1 + 1, 0, none⟩ (.int .i64 1) (w.heap.size + 1) (by show w.heap.size + 1 ≠ w.heap.size + 1 + 1; omega)).trans (set_0 (x := .int .i64 0) g1)
  have j2 := set_0 (x := .int .i64 1) k2
  have mF : Mu (fun k => w.heap.size ≤ k) W ((W1.setCell ⟨w.heap.size + 1, 0, none⟩ (.int .i64 0)).setCell ⟨w.heap.size + 1 + 1, 0, none⟩ (.int .i64 1)) :=
    ((m0.mono (fun k _ h => by have h : k = w.heap.size := h; omega)).setCell (p := ⟨w.heap.size + 1, 0, none⟩) (fun _ => by show w.heap.size ≤ w.heap.size + 1; omega) _).setCell (p := ⟨w.heap.size + 1 + 1, 0, none⟩) (fun _ => by show w.heap.size ≤ w.heap.size + 1 + 1; omega) _
  have HE := Aside0.mk (And.intro j0 (And.intro j1 (And.intro j2 (Mu.below_of hWb mF (by intro i hi; omega)))))
  have HW := Aside0.mk hW
  have d1 := blk_cell g1 0
  have y1 := blk_frozen g1 0
  have d2 := blk_cell g2 0
  have y2 := blk_frozen g2 0
  have hbd := rec_build
  have hmf : ∀ (fn : Fn) (first cap : Array Value) (w : World), (Instr.makeFunc fn first cap).run Tryd.prog w = .ok (.func fn first cap) w := fun _ _ _ _ => rfl
  clear hW b0 b1 b2 hWs hWb g0 g1 g2 m0 k2 j0 j1 j2 mF
  by_cases h1 : a1 < 0
  · have e1 : decide (a1 < 0) = true := decide_eq_true h1
    go_enter_defers Tryd.func70, Tryd.ntmps70
    go_wp2_with (first | ((with_reducible refine gate_ (.store 88 (.tmp 4) (.tmp 17)) rfl ?_); rw [HW.out]; refine wpList_storeR rfl _ _ _ rfl (by rfl) (by rfl) hst ?_))
    refine ⟨_, dec_results rfl rfl rfl HE.out.1 HE.out.2.1 HE.out.2.2.1, _, rfl, Kd.R_nil _ _ _ _ _, HE.out.2.2.2⟩
  · have e1 : decide (a1 < 0) = false := decide_eq_false h1
    have e2 : decide ((l0.length : Int) < a1) = true := decide_eq_true (h.resolve_left h1)
    go_enter_defers Tryd.func70, Tryd.ntmps70
    go_wp2_with (first | ((with_reducible refine gate_ (.store 88 (.tmp 4) (.tmp 17)) rfl ?_); rw [HW.out]; refine wpList_storeR rfl _ _ _ rfl (by rfl) (by rfl) hst ?_))
    refine ⟨_, dec_results rfl rfl rfl HE.out.1 HE.out.2.1 HE.out.2.2.1, _, rfl, Kd.R_nil _ _ _ _ _, HE.out.2.2.2⟩
theorem rec_Decode.calls (A0 : Option Addr) (c0 : Nat) (l0 : List Int) (a1 : Int) (r1 r2 r3 : Int) (r4 : List Int) (r5 r6 : Int) (w : World) (hr0 : Kd.C (Kd.int .u8) w A0 l0.length l0) (hc0 : l0.length ≤ c0) (h : rec_Decode.f l0 a1 = some (r1, r2, r3, r4, r5, r6)) :
    Calls Tryd.prog 70 #[.slice A0 l0.length c0, .int .i64 a1] w fun e w' => ∃ v3_ : Value, e = .returned (.tuple #[.agg #[.int .i64 r1, .int .u64 r2, .int .u64 r3, v3_], .int .i64 r5, .int .i64 r6]) ∧ Kd.R (Kd.int .u8) 5 w' w.heap.size (fun _ => True) v3_ r4 ∧ Below w.heap.size w w' := by
  unfold rec_Decode.f at h
  split at h
  case isFalse => cases h
  rename_i hq
  have hv := Option.some.inj h
  by_cases he : a1 < 0 ∨ (l0.length : Int) < a1
  · rw [if_pos he] at hv
    have := dec_early (A0 := A0) (c0 := c0) (w := w) he
    rw [hv] at this
    exact this
  · rw [if_neg he] at hv
    have hb : Bytes255 l0 := fun x hx => byteB_iff.1 (List.all_eq_true.1 hq.1 x hx)
    have := dec_main (R := decV l0 a1) hr0 hc0 hb hq.2 (by omega) (by omega) rfl
    rw [hv] at this
    exact this
end Go.Proofs.YtlgfmmkabnbllaaDoor.Hand
namespace Go.Proofs.YtlgfmmkabnbllaaDoor.Hand
open Go.RowKit Go.Proofs.YtlgfmmkabnbllaaDoorW.PrintWords Go.Proofs.YtlgfmmkabnbllaaDoorW.PrintLast Go.Proofs.YtlgfmmkabnbllaaDoorW.PrintMore Go.Proofs.YtlgfmmkabnbllaaDoor.PA
theorem rd_at (P : List Int) (c : Int) (S : List Int) : rd (P ++ c :: S) (P.length : Int) = c := by
  unfold rd
  simp
theorem pow_le (i : Nat) (hi : i ≤ 9) : (1 : Int) ≤ 2 ^ (7 * i) := by
  have : i = 0 ∨ i = 1 ∨ i = 2 ∨ i = 3 ∨ i = 4 ∨ i = 5 ∨ i = 6 ∨ i = 7 ∨ i = 8 ∨ i = 9 := by omega
  rcases this with rfl | rfl | rfl | rfl | rfl | rfl | rfl | rfl | rfl | rfl <;> simp
theorem read_back : ∀ (d i : Nat) (a n : Int) (P S : List Int), i + d = 9 → 0 ≤ a → a < 128 * 128 ^ d → 0 ≤ n → n < 2 ^ (7 * i) → n + a * 2 ^ (7 * i) < 18446744073709551616 → (0 < i → 1 ≤ a) →
    numL (P ++ (varL d a ++ S)) (d + 1) i n (P.length : Int) = .ok (n + a * 2 ^ (7 * i), (P.length : Int) + ((varL d a).length : Int)) := by
  intro d
  induction d with
  | zero =>
    intro i a n P S hi h0 h1 hn0 hn hb hp
    obtain rfl : i = 9 := by omega
    have ha : a < 2 := by simp only [Nat.reduceMul, Int.reducePow] at hb hn; omega
    have e : a % 256 = a := by omega
    have hr := rd_at P (a % 256) S
    rw [e] at hr
    show numL (P ++ a % 256 :: S) 1 9 n _ = _
    rw [e, numL_succ _ 0 9 n _ a hr, if_neg (by simp; omega), if_neg (by omega), if_pos (by omega), vstep_eq n a 9 hn0 hn h0 (by omega) (by omega) (by omega)]
    rw [show a % 128 = a by omega]; rfl
  | succ d ih =>
    intro i a n P S hi h0 h1 hn0 hn hb hp
    have h2 : 1 ≤ (2 : Int) ^ (7 * i) := pow_le i (by omega)
    have e2 : (2 : Int) ^ (7 * (i + 1)) = 2 ^ (7 * i) * 128 := by rw [show 7 * (i + 1) = 7 * i + 7 by omega, Int.pow_add]; rfl
    by_cases q : a ≥ 128
    · have e1 : varL (d + 1) a = (a % 128 + 128) :: varL d (a / 128) := if_pos q
      have hr := rd_at P (a % 128 + 128) (varL d (a / 128) ++ S)
      have hv := vstep_eq n (a % 128 + 128) i hn0 hn (by omega) (by omega) (by omega) (by omega)
      rw [show (a % 128 + 128) % 128 = a % 128 by omega] at hv
      have hih := ih (i + 1) (a / 128) (n + a % 128 * 2 ^ (7 * i)) (P ++ [a % 128 + 128]) S (by omega) (by omega) (by rw [Int.pow_succ] at h1; omega)
      rw [e2] at hih
      have d1 : n + a % 128 * 2 ^ (7 * i) + a / 128 * (2 ^ (7 * i) * 128) = n + a * 2 ^ (7 * i) := by
        have : a * 2 ^ (7 * i) = (a % 128 + 128 * (a / 128)) * 2 ^ (7 * i) := by rw [Int.emod_add_mul_ediv]
        rw [this, Int.add_mul]
        have : a / 128 * (2 ^ (7 * i) * 128) = 128 * (a / 128) * 2 ^ (7 * i) := by ac_rfl
        rw [this]; omega
      have d2 : 0 ≤ a % 128 * 2 ^ (7 * i) := Int.mul_nonneg (by omega) (by omega)
      have d3 : a % 128 * 2 ^ (7 * i) ≤ 127 * 2 ^ (7 * i) := Int.mul_le_mul_of_nonneg_right (by omega) (by omega)
      rw [d1] at hih
      have hih := hih (by omega) (by omega) hb (by omega)
      have t1 : ¬ ((P.length : Int) = ((P ++ (varL (d + 1) a ++ S)).length : Int)) := by rw [e1]; simp; omega
      rw [e1] at t1 ⊢
      show numL (P ++ (a % 128 + 128) :: (varL d (a / 128) ++ S)) (d + 1 + 1) i n _ = _
      rw [numL_succ _ (d + 1) i n _ _ hr]
      refine (if_neg t1).trans ((if_neg (by omega)).trans ((if_neg (by omega)).trans ?_))
      rw [hv]
      have e3 : P ++ (a % 128 + 128) :: (varL d (a / 128) ++ S) = (P ++ [a % 128 + 128]) ++ (varL d (a / 128) ++ S) := by simp
      have e4 : (P.length : Int) + 1 = ((P ++ [a % 128 + 128]).length : Int) := by simp
      rw [e3, e4, hih, ← e4]
      simp only [List.length_cons]
      congr 2
      omega
    · have e1 : varL (d + 1) a = [a % 256] := if_neg q
      have e : a % 256 = a := by omega
      have hr := rd_at P a S
      rw [e1, e]
      show numL (P ++ a :: S) (d + 1 + 1) i n _ = _
      rw [numL_succ _ (d + 1) i n _ a hr]
      have t1 : ¬ ((P.length : Int) = ((P ++ a :: S).length : Int)) := by simp; omega
      refine (if_neg t1).trans ((if_neg (by omega)).trans ((if_pos (by omega)).trans ?_))
      rw [vstep_eq n a i hn0 hn h0 (by omega) (by omega) (by omega), show a % 128 = a by omega]; rfl
theorem getV_in (l : List Int) (P : Nat) (h : P ≤ l.length) : getV l (P : Int) = numOut (numL l 10 0 0 (P : Int)) := by
  unfold getV
  rw [if_neg (by omega), if_neg (by omega)]
theorem copy_any (l : List Int) (h : l.length < 140737488355328) : tikref_CopyBytes.f l = some l := by
  unfold tikref_CopyBytes.f
  rw [Option.bind_some, if_pos (by simpa using h)]; rfl
end Go.Proofs.YtlgfmmkabnbllaaDoor.Hand
namespace Go.Proofs.YtlgfmmkabnbllaaDoor.Hand
open Go.RowKit Go.Proofs.YtlgfmmkabnbllaaDoorW.PrintWords Go.Proofs.YtlgfmmkabnbllaaDoorW.PrintLast Go.Proofs.YtlgfmmkabnbllaaDoorW.PrintMore Go.Proofs.YtlgfmmkabnbllaaDoor.PA
theorem seg_len {l : List Int} {i j : Int} (h0 : 0 ≤ i) (h1 : i ≤ j) (h2 : j ≤ l.length) : ((segL l i j).length : Int) = j - i := by
  unfold segL
  rw [List.length_drop, List.length_take]
  omega
theorem seg_app {l : List Int} {i j k : Int} (h0 : 0 ≤ i) (h1 : i ≤ j) (h2 : j ≤ k) (h3 : k ≤ l.length) : segL l i k = segL l i j ++ segL l j k := by
  unfold segL
  have e : (l.take k.toNat) = l.take j.toNat ++ (l.take k.toNat).drop j.toNat := by
    have := (List.take_append_drop j.toNat (l.take k.toNat)).symm
    rwa [List.take_take, Nat.min_eq_left (by omega)] at this
  conv => lhs; rw [e]
  rw [List.drop_append, show i.toNat - (l.take j.toNat).length = 0 by rw [List.length_take]; omega, List.drop_zero]
theorem seg_one {l : List Int} {i : Int} (h0 : 0 ≤ i) (h1 : i < l.length) : segL l i (i + 1) = [rd l i] := by
  unfold segL rd
  have e : (i + 1).toNat = i.toNat + 1 := by omega
  have h : i.toNat < l.length := by omega
  rw [e, List.take_add_one, List.drop_append, List.length_take, List.getElem?_eq_getElem h, List.drop_of_length_le (by rw [List.length_take]; omega)]
  rw [Nat.min_eq_left (by omega), Nat.sub_self, List.drop_zero, List.nil_append, List.getD_eq_getElem?_getD, List.getElem?_eq_getElem h]
  rfl
theorem seg_cons {l : List Int} {i j : Int} (h0 : 0 ≤ i) (h1 : i < j) (h2 : j ≤ l.length) : segL l i j = rd l i :: segL l (i + 1) j := by
  rw [seg_app h0 (show i ≤ i + 1 by omega) (show i + 1 ≤ j by omega) h2, seg_one h0 (by omega)]; rfl
theorem seg_mid (P M S : List Int) : segL (P ++ (M ++ S)) (P.length : Int) ((P.length : Int) + (M.length : Int)) = M := by
  unfold segL
  rw [show ((P.length : Int) + (M.length : Int)).toNat = P.length + M.length by omega, Int.toNat_natCast, ← List.append_assoc, List.take_append_of_le_length (by simp), List.take_of_length_le (by simp), List.drop_append, List.drop_of_length_le (Nat.le_refl _), Nat.sub_self, List.drop_zero, List.nil_append]
theorem get_back (P : List Int) (a : Int) (S : List Int) (h0 : 0 ≤ a) (h1 : a < 18446744073709551616) : getV (P ++ (varL 9 a ++ S)) (P.length : Int) = (a, (P.length : Int) + ((varL 9 a).length : Int), 0) := by
  have rb := read_back 9 0 a 0 P S rfl h0 (by simp only [Int.reducePow, Int.reduceMul]; omega) (by omega) (by simp) (by simpa using h1) (by omega)
  simp only [Nat.mul_zero, Int.pow_zero, Int.mul_one, Int.zero_add] at rb
  rw [getV_in _ P.length (by simp), rb]; rfl
theorem varL_small (d : Nat) (a : Int) (h0 : 0 ≤ a) (h1 : a < 128) : varL d a = [a] := by
  cases d with
  | zero => show [a % 256] = [a]; rw [Int.emod_eq_of_lt h0 (by omega)]
  | succ d => rw [varL, if_neg (by omega), Int.emod_eq_of_lt h0 (by omega)]
theorem numL_canon {l : List Int} (hb : Bytes255 l) : ∀ (d i : Nat) (n p m q : Int), i + d = 10 → 0 ≤ n → n < 2 ^ (7 * i) → 0 ≤ p → p ≤ l.length → numL l d i n p = .ok (m, q) →
    ∃ a, 0 ≤ a ∧ (0 < i → 1 ≤ a) ∧ m = n + a * 2 ^ (7 * i) ∧ segL l p q = varL (9 - i) a ∧ p < q ∧ q ≤ l.length := by
  intro d
  induction d with
  | zero => intro i n p m q _ _ _ _ _ h; simp only [numL] at h; cases h
  | succ d ih =>
    intro i n p m q hi h0 hn hp0 hp h
    have hc := rd_255 hb p
    rw [numL_succ l d i n p _ rfl] at h
    split at h
    · cases h
    · rename_i hpl
      split at h
      · cases h
      · rename_i hno
        have hv := vstep_eq n (rd l p) i h0 hn hc.1 hc.2 (by omega) (fun h9 => by
          rcases Int.lt_or_le 1 (rd l p) with h1 | h1
          · exact absurd (.inl ⟨h9, h1⟩) hno
          · exact h1)
        rw [hv] at h
        split at h
        · rename_i hlt
          injection h with h
          injection h with e1 e2
          subst e1 e2
          refine ⟨rd l p, hc.1, fun h => ?_, by rw [Int.emod_eq_of_lt hc.1 hlt], ?_, by omega, by omega⟩
          · rcases Int.lt_or_le 0 (rd l p) with h1 | h1
            · omega
            · exact absurd (.inr ⟨by omega, h⟩) hno
          · rw [seg_one hp0 (by omega), varL_small _ _ hc.1 hlt]
        · rename_i hge
          have hi9 : i ≠ 9 := fun h9 => hno (.inl ⟨h9, by omega⟩)
          have hb2 := vbound n (rd l p % 128) i hn (by omega) (by omega) (by omega) (fun h9 => absurd h9 hi9)
          have e2 : (2 : Int) ^ (7 * (i + 1)) = 2 ^ (7 * i) * 128 := by rw [show 7 * (i + 1) = 7 * i + 7 by omega, Int.pow_add]; rfl
          have h2 : 1 ≤ (2 : Int) ^ (7 * i) := pow_le i (by omega)
          have d3 : rd l p % 128 * 2 ^ (7 * i) ≤ 127 * 2 ^ (7 * i) := Int.mul_le_mul_of_nonneg_right (by omega) (by omega)
          obtain ⟨a, a0, a1, em, es, hpq, hq⟩ := ih (i + 1) _ (p + 1) m q (by omega) (by omega) (by rw [e2]; omega) (by omega) (by omega) h
          have a1 := a1 (by omega)
          refine ⟨rd l p % 128 + 128 * a, by omega, fun _ => by omega, ?_, ?_, by omega, hq⟩
          · rw [em, e2, Int.add_mul, show a * (2 ^ (7 * i) * 128) = 128 * a * 2 ^ (7 * i) by ac_rfl]; omega
          · rw [seg_cons hp0 (by omega) hq, es, show 9 - i = (9 - (i + 1)) + 1 by omega, varL, if_pos (by omega)]
            have q1 : (rd l p % 128 + 128 * a) % 128 + 128 = rd l p := by omega
            have q2 : (rd l p % 128 + 128 * a) / 128 = a := by omega
            rw [q1, q2]
theorem get_canon {l : List Int} (hb : Bytes255 l) {p n q : Int} (h : getV l p = (n, q, 0)) : 0 ≤ p ∧ segL l p q = varL 9 n ∧ 0 ≤ n ∧ n ≤ 18446744073709551615 ∧ p < q ∧ q ≤ l.length := by
  have hk := getV_ok h
  unfold getV at h
  split at h
  · injection h with _ h; injection h with _ h; cases h
  · split at h
    · injection h with _ h; injection h with _ h; cases h
    · cases hn : numL l 10 0 0 p with
      | error x =>
        rw [hn] at h
        injection h with _ h
        injection h with _ h
        subst h
        have := numL_nz l _ _ _ _ _ hn
        cases this
      | ok np =>
        obtain ⟨n', q'⟩ := np
        rw [hn] at h
        injection h with e1 h
        injection h with e2 _
        subst e1 e2
        obtain ⟨a, a0, _, em, es, hpq, hq⟩ := numL_canon hb 10 0 0 p n' q' rfl (by omega) (by simp) (by omega) (by omega) hn
        have : n' = a := by simpa using em
        subst this
        exact ⟨by omega, es, hk.2.1, hk.2.2.1, hpq, hq⟩
end Go.Proofs.YtlgfmmkabnbllaaDoor.Hand
namespace Go.Proofs.YtlgfmmkabnbllaaDoor.Hand
open Go.RowKit Go.Proofs.YtlgfmmkabnbllaaDoorW.PrintWords Go.Proofs.YtlgfmmkabnbllaaDoorW.PrintLast Go.Proofs.YtlgfmmkabnbllaaDoorW.PrintMore Go.Proofs.YtlgfmmkabnbllaaDoor.PA
def bodyL (k s t : Int) (b : List Int) : List Int := k :: (varL 9 s ++ (varL 9 t ++ (varL 9 (b.length : Int) ++ b)))
def headL (k s t : Int) (b : List Int) : List Int := 167 :: 92 :: (fourL (crcV (bodyL k s t b)) ++ [k])
def restL (s t : Int) (b : List Int) : List Int := varL 9 s ++ (varL 9 t ++ (varL 9 (b.length : Int) ++ b))
def encL (k s t : Int) (b : List Int) : List Int := 167 :: 92 :: (fourL (crcV (bodyL k s t b)) ++ bodyL k s t b)
theorem enc_split (k s t : Int) (b : List Int) : encL k s t b = headL k s t b ++ restL s t b := by
  simp [encL, headL, restL, bodyL]
theorem head_len (k s t : Int) (b : List Int) : (headL k s t b).length = 7 := by simp [headL, fourL]
theorem enc_len (k s t : Int) (b : List Int) : (encL k s t b).length = 7 + (restL s t b).length := by rw [enc_split, List.length_append, head_len]
theorem rd_app (P M : List Int) (i : Nat) : rd (P ++ M) ((P.length : Int) + (i : Int)) = rd M (i : Int) := by
  unfold rd
  rw [show ((P.length : Int) + (i : Int)).toNat = P.length + i by omega, Int.toNat_natCast, List.getD_eq_getElem?_getD, List.getD_eq_getElem?_getD, List.getElem?_append_right (by omega), Nat.add_sub_cancel_left]
structure MayR (k s t : Int) (b : List Int) : Prop where
  may : mayL k s t b.length
  s0 : 0 ≤ s
  t0 : 0 ≤ t
theorem MayR.s1 {k s t : Int} {b : List Int} (h : MayR k s t b) : s < 18446744073709551616 := by have := h.may.2.2.1; omega
theorem MayR.t1 {k s t : Int} {b : List Int} (h : MayR k s t b) : t < 18446744073709551616 := by have := h.may.2.2.2.1; omega
theorem MayR.b1 {k s t : Int} {b : List Int} (h : MayR k s t b) : (b.length : Int) ≤ 1048576 := h.may.2.2.2.2
theorem dec_enc (P S : List Int) {k s t : Int} {b : List Int} (h : MayR k s t b) : decV (P ++ (encL k s t b ++ S)) (P.length : Int) = .ok (k, s, t, b, (P.length : Int) + ((encL k s t b).length : Int)) := by
  have hb1 := h.b1
  have g1 := get_back (P ++ headL k s t b) s (varL 9 t ++ (varL 9 (b.length : Int) ++ (b ++ S))) h.s0 h.s1
  have g2 := get_back (P ++ headL k s t b ++ varL 9 s) t (varL 9 (b.length : Int) ++ (b ++ S)) h.t0 h.t1
  have g3 := get_back (P ++ headL k s t b ++ varL 9 s ++ varL 9 t) (b.length : Int) (b ++ S) (by omega) (by omega)
  have e1 : P ++ headL k s t b ++ (varL 9 s ++ (varL 9 t ++ (varL 9 (b.length : Int) ++ (b ++ S)))) = P ++ (encL k s t b ++ S) := by rw [enc_split]; simp [restL]
  have e2 : P ++ headL k s t b ++ varL 9 s ++ (varL 9 t ++ (varL 9 (b.length : Int) ++ (b ++ S))) = P ++ (encL k s t b ++ S) := by rw [enc_split]; simp [restL]
  have e3 : P ++ headL k s t b ++ varL 9 s ++ varL 9 t ++ (varL 9 (b.length : Int) ++ (b ++ S)) = P ++ (encL k s t b ++ S) := by rw [enc_split]; simp [restL]
  have e4 : (P ++ headL k s t b ++ varL 9 s ++ varL 9 t ++ varL 9 (b.length : Int)) ++ (b ++ S) = P ++ (encL k s t b ++ S) := by rw [enc_split]; simp [restL]
  have e5 : (P ++ (167 :: 92 :: [])) ++ (fourL (crcV (bodyL k s t b)) ++ (bodyL k s t b ++ S)) = P ++ (encL k s t b ++ S) := by simp [encL]
  have e6 : (P ++ (167 :: 92 :: fourL (crcV (bodyL k s t b)))) ++ (bodyL k s t b ++ S) = P ++ (encL k s t b ++ S) := by simp [encL]
  have m1 := seg_mid (P ++ (167 :: 92 :: [])) (fourL (crcV (bodyL k s t b))) (bodyL k s t b ++ S)
  have m2 := seg_mid (P ++ (167 :: 92 :: fourL (crcV (bodyL k s t b)))) (bodyL k s t b) S
  have m3 := seg_mid (P ++ headL k s t b ++ varL 9 s ++ varL 9 t ++ varL 9 (b.length : Int)) b S
  rw [e1] at g1
  rw [e2] at g2
  rw [e3] at g3
  rw [e4] at m3
  rw [e5] at m1
  rw [e6] at m2
  have r0 := rd_app P (encL k s t b ++ S) 0
  have r1 := rd_app P (encL k s t b ++ S) 1
  have r6 := rd_app P (encL k s t b ++ S) 6
  have el := enc_len k s t b
  have rl : (restL s t b).length = (varL 9 s).length + ((varL 9 t).length + ((varL 9 (b.length : Int)).length + b.length)) := by simp [restL]
  have bl : (bodyL k s t b).length = (restL s t b).length + 1 := rfl
  have fl : (fourL (crcV (bodyL k s t b))).length = 4 := rfl
  have hl := head_len k s t b
  have v0 : rd (encL k s t b ++ S) ((0 : Nat) : Int) = 167 := rfl
  have v1 : rd (encL k s t b ++ S) ((1 : Nat) : Int) = 92 := rfl
  have v6 : rd (encL k s t b ++ S) ((6 : Nat) : Int) = k := rfl
  have tl : (P ++ (encL k s t b ++ S)).length = P.length + (7 + (restL s t b).length) + S.length := by simp [el]; omega
  rw [v0] at r0
  rw [v1] at r1
  rw [v6] at r6
  generalize P ++ (encL k s t b ++ S) = L at *
  simp only [List.length_append, List.length_cons, List.length_nil, hl, fl] at g1 g2 g3 m1 m2 m3
  have a1 : ((P.length + 7 : Nat) : Int) = (P.length : Int) + 7 := by omega
  generalize (varL 9 s).length = ns at *
  generalize (varL 9 t).length = nt at *
  generalize (varL 9 (b.length : Int)).length = nb at *
  have p1 : ((P.length + 7 : Nat) : Int) + (ns : Int) = ((P.length + 7 + ns : Nat) : Int) := by omega
  have p2 : ((P.length + 7 + ns : Nat) : Int) + (nt : Int) = ((P.length + 7 + ns + nt : Nat) : Int) := by omega
  have p3 : ((P.length + 7 + ns + nt : Nat) : Int) + (nb : Int) = ((P.length + 7 + ns + nt + nb : Nat) : Int) := by omega
  rw [p1] at g1
  rw [p2] at g2
  rw [p3] at g3
  have b2 : (P.length : Int) + 2 = ((P.length + (0 + 1 + 1) : Nat) : Int) := by omega
  have b6 : (P.length : Int) + 6 = ((P.length + (4 + 1 + 1) : Nat) : Int) := by omega
  have b6' : (P.length : Int) + 6 = ((P.length + (0 + 1 + 1) : Nat) : Int) + ((4 : Nat) : Int) := by omega
  have b9 : ((P.length + 7 + ns + nt + nb : Nat) : Int) + (b.length : Int) = ((P.length + (4 + 1 + 1) : Nat) : Int) + ((bodyL k s t b).length : Int) := by omega
  unfold decV
  rw [← a1, g1]
  dsimp only
  rw [g2]
  dsimp only
  rw [g3]
  dsimp only
  have c1 : 6 ≤ (L.length : Int) - (P.length : Int) := by omega
  have c2 : rd L (P.length : Int) = 167 ∧ rd L ((P.length : Int) + 1) = 92 := ⟨by simpa using r0, by simpa using r1⟩
  have c3 : (P.length : Int) + 6 < (L.length : Int) := by omega
  have c4 : (b.length : Int) ≤ (L.length : Int) - ((P.length + 7 + ns + nt + nb : Nat) : Int) := by omega
  have c5 : segL L ((P.length : Int) + 2) ((P.length : Int) + 6) = fourL (crcV (segL L ((P.length : Int) + 6) (((P.length + 7 + ns + nt + nb : Nat) : Int) + (b.length : Int)))) := by
    rw [b2, b6', m1, ← b6', b9, b6, m2]
  have c6 : rd L ((P.length : Int) + 6) = k := r6
  rw [if_pos c1, if_pos c2, if_pos c3, if_pos rfl, if_pos rfl, if_pos rfl, if_pos hb1, if_pos c4, if_pos c5, c6, if_pos h.may, m3]
  exact congrArg (fun z => Except.ok (k, s, t, b, z)) (by omega)
theorem dec_inv {l : List Int} (hb : Bytes255 l) {a k s t e : Int} {b : List Int} (h0 : 0 ≤ a) (h : decV l a = .ok (k, s, t, b, e)) :
    segL l a e = encL k s t b ∧ MayR k s t b ∧ e = a + ((encL k s t b).length : Int) ∧ e ≤ l.length ∧ Bytes255 b := by
  unfold decV at h
  split at h
  case isFalse => cases h
  rename_i c1
  split at h
  case isFalse => cases h
  rename_i c2
  split at h
  case isFalse => cases h
  rename_i c3
  rcases hg1 : getV l (a + 7) with ⟨n1, p1, x1⟩
  rw [hg1] at h
  dsimp only at h
  split at h
  case isFalse => cases h
  rename_i z1
  subst z1
  rcases hg2 : getV l p1 with ⟨n2, p2, x2⟩
  rw [hg2] at h
  dsimp only at h
  split at h
  case isFalse => cases h
  rename_i z2
  subst z2
  rcases hg3 : getV l p2 with ⟨n3, p3, x3⟩
  rw [hg3] at h
  dsimp only at h
  split at h
  case isFalse => cases h
  rename_i z3
  subst z3
  split at h
  case isFalse => cases h
  rename_i c4
  split at h
  case isFalse => cases h
  rename_i c5
  split at h
  case isFalse => cases h
  rename_i c6
  split at h
  case isFalse => cases h
  rename_i c7
  injection h with h
  injection h with ek h
  injection h with es h
  injection h with et h
  injection h with eb ee
  subst es et ee
  obtain ⟨_, s1, n10, n11, q1, r1⟩ := get_canon hb hg1
  obtain ⟨_, s2, n20, n21, q2, r2⟩ := get_canon hb hg2
  obtain ⟨_, s3, n30, n31, q3, r3⟩ := get_canon hb hg3
  have hbl : (b.length : Int) = n3 := by rw [← eb, seg_len (by omega) (by omega) (by omega)]; omega
  have f1 : segL l (a + 6) (p3 + n3) = bodyL k n1 n2 b := by
    rw [seg_cons (by omega) (by omega) (by omega), show a + 6 + 1 = a + 7 by omega, seg_app (i := a + 7) (j := p1) (by omega) (by omega) (by omega) (by omega), seg_app (i := p1) (j := p2) (by omega) (by omega) (by omega) (by omega), seg_app (i := p2) (j := p3) (by omega) (by omega) (by omega) (by omega), s1, s2, s3, eb, ek]
    unfold bodyL
    rw [hbl]
  have f2 : segL l a (p3 + n3) = encL k n1 n2 b := by
    rw [seg_cons (by omega) (by omega) (by omega), seg_cons (i := a + 1) (by omega) (by omega) (by omega), show a + 1 + 1 = a + 2 by omega, seg_app (i := a + 2) (j := a + 6) (by omega) (by omega) (by omega) (by omega), c6, c2.1, c2.2, f1]
    rfl
  refine ⟨f2, ⟨?_, n10, n20⟩, ?_, by omega, ?_⟩
  · rw [hbl, ← ek]; exact c7
  · rw [← f2, seg_len (by omega) (by omega) (by omega)]; omega
  · rw [← eb]; exact seg_bytes hb _ _
end Go.Proofs.YtlgfmmkabnbllaaDoor.Hand
namespace Go.Proofs.YtlgfmmkabnbllaaDoor.Hand
open Go.RowKit Go.Proofs.YtlgfmmkabnbllaaDoorW.PrintWords Go.Proofs.YtlgfmmkabnbllaaDoorW.PrintLast Go.Proofs.YtlgfmmkabnbllaaDoorW.PrintMore Go.Proofs.YtlgfmmkabnbllaaDoor.PA
theorem crcV_bound (l : List Int) : 0 ≤ crcV l ∧ crcV l < 4294967296 := by
  unfold crcV nB
  have := (crcL l 0xffffffff#32 ^^^ 0xffffffff#32).isLt
  omega
theorem big_step (n c : Int) (h0 : 0 ≤ n) (h1 : n < 72057594037927936) (hc : 0 ≤ c ∧ c < 256) : Go.bits .or .u64 (IntKind.u64.wrap (n * 256)) (IntKind.u64.wrap c) = n * 256 + c := by
  rw [IntWalk.u64_in _ (by omega), IntWalk.u64_in _ (by omega), u64_or _ _ (by omega) (by omega) (by omega) (by omega)]
  have e1 : (n * 256).toNat = n.toNat * 2 ^ 8 := by omega
  have e2 := or_high c.toNat n.toNat 8 (by omega)
  rw [e1, Nat.or_comm, e2]
  omega
theorem big_any (k : Nat) (hk : 5 ≤ k) (x0 x1 x2 x3 : Int) (h0 : 0 ≤ x0 ∧ x0 < 256) (h1 : 0 ≤ x1 ∧ x1 < 256) (h2 : 0 ≤ x2 ∧ x2 < 256) (h3 : 0 ≤ x3 ∧ x3 < 256) : tikref2_Big.f k [x0, x1, x2, x3] = some (((x0 * 256 + x1) * 256 + x2) * 256 + x3) := by
  obtain ⟨k, rfl⟩ : ∃ m, k = m + 1 + 1 + 1 + 1 + 1 := ⟨k - 5, by omega⟩
  have w : ∀ i : Int, 0 ≤ i → i < 100 → wrap64 (i + 1) = i + 1 := fun i _ _ => IntWalk.wrap64_in _ (by omega)
  have r0 : rd [x0, x1, x2, x3] 0 = x0 := rfl
  have r1 : rd [x0, x1, x2, x3] (0 + 1) = x1 := rfl
  have r2 : rd [x0, x1, x2, x3] (0 + 1 + 1) = x2 := rfl
  have r3 : rd [x0, x1, x2, x3] (0 + 1 + 1 + 1) = x3 := rfl
  have b0 := big_step 0 x0 (by omega) (by omega) h0
  have b1 := big_step (0 * 256 + x0) x1 (by omega) (by omega) h1
  have b2 := big_step ((0 * 256 + x0) * 256 + x1) x2 (by omega) (by omega) h2
  have b3 := big_step (((0 * 256 + x0) * 256 + x1) * 256 + x2) x3 (by omega) (by omega) h3
  unfold tikref2_Big.f
  rw [tikref2_Big.l0]
  refine (if_pos (by simp)).trans ((if_pos (by omega)).trans ?_)
  rw [r0, b0, w 0 (by omega) (by omega), tikref2_Big.l0]
  refine (if_pos (by simp)).trans ((if_pos (by omega)).trans ?_)
  rw [r1, b1, w (0 + 1) (by omega) (by omega), tikref2_Big.l0]
  refine (if_pos (by simp)).trans ((if_pos (by omega)).trans ?_)
  rw [r2, b2, w (0 + 1 + 1) (by omega) (by omega), tikref2_Big.l0]
  refine (if_pos (by simp)).trans ((if_pos (by omega)).trans ?_)
  rw [r3, b3, w (0 + 1 + 1 + 1) (by omega) (by omega), tikref2_Big.l0]
  refine (if_neg (by simp)).trans ?_
  congr 1
  omega
theorem big_sum (x0 x1 x2 x3 c : Int) (h0 : 0 ≤ x0 ∧ x0 < 256) (h1 : 0 ≤ x1 ∧ x1 < 256) (h2 : 0 ≤ x2 ∧ x2 < 256) (h3 : 0 ≤ x3 ∧ x3 < 256) (hc : 0 ≤ c ∧ c < 4294967296) : c = (((x0 * 256 + x1) * 256 + x2) * 256 + x3) % 4294967296 ↔ [x0, x1, x2, x3] = fourL c := by
  unfold fourL
  constructor
  · intro h
    have e : c = ((x0 * 256 + x1) * 256 + x2) * 256 + x3 := by omega
    have e0 : x0 = c / 16777216 % 256 := by omega
    have e1 : x1 = c / 65536 % 256 := by omega
    have e2 : x2 = c / 256 % 256 := by omega
    have e3 : x3 = c % 256 := by omega
    rw [← e0, ← e1, ← e2, ← e3]
  · intro h
    injection h with e0 h
    injection h with e1 h
    injection h with e2 h
    injection h with e3 _
    omega
theorem seg4 {l : List Int} {a : Int} (h0 : 0 ≤ a) (h1 : a + 4 ≤ l.length) : segL l a (a + 4) = [rd l a, rd l (a + 1), rd l (a + 1 + 1), rd l (a + 1 + 1 + 1)] := by
  rw [seg_cons h0 (by omega) h1, seg_cons (by omega) (by omega) h1, seg_cons (by omega) (by omega) h1, seg_cons (by omega) (by omega) h1]
  congr 4
  unfold segL
  rw [List.drop_of_length_le (by rw [List.length_take]; omega)]
end Go.Proofs.YtlgfmmkabnbllaaDoor.Hand
namespace Go.Proofs.YtlgfmmkabnbllaaDoor.Hand
open Go.RowKit Go.Proofs.YtlgfmmkabnbllaaDoorW.PrintWords Go.Proofs.YtlgfmmkabnbllaaDoorW.PrintLast Go.Proofs.YtlgfmmkabnbllaaDoor.PA
abbrev refO (k s t : Int) (v : Value) : Obj := .cells #[.int .i64 k, .int .u64 s, .int .u64 t, v] 123 (0, 0)
abbrev arrO (a b c : Int) : Obj := .cells #[.int .u64 a, .int .u64 b, .int .u64 c] 151 (0, 0)
theorem ref_store {W : World} {g : Nat} {k s t : Int} (k' s' t' : Int) {v : Value} (A : Option Addr) (n c : Nat) (h : W.heap[g]? = some (refO k s t v)) :
    ∃ W', (Instr.storeAt 123 (.pointer (some ⟨g, 0, none⟩)) (.agg #[.int .i64 k', .int .u64 s', .int .u64 t', .slice A n c])).run Tryd.prog W = .ok () W' ∧ W'.heap[g]? = some (refO k' s' t' (.slice A n c)) ∧ Mu (· = g) W W' := by
  refine ⟨W.setRow g #[.int .i64 k', .int .u64 s', .int .u64 t', .slice A n c], ?_, setRow_heap W g _ _ _ _ h, ⟨rfl, rfl, rfl, by simp, fun j _ hj => setRow_other W g j _ hj⟩⟩
  simp only [Instr.storeAt, Instr.sureAddr, Sem.run_bind, Sem.run_pure, Result.andThen_ok, run_storeVar_row (P := Tryd.prog) W g 123 123 _ #[.int .i64 k', .int .u64 s', .int .u64 t', .slice A n c] h (by kernel_rfl) rfl (by simp [Value.oneCell'])]
theorem ref_load {W : World} {g : Nat} {k s t : Int} {v : Value} (h : W.heap[g]? = some (refO k s t v)) :
    (Instr.loadAt 123 (.pointer (some ⟨g, 0, none⟩))).run Tryd.prog W = .ok (.agg #[.int .i64 k, .int .u64 s, .int .u64 t, v]) W := by
  simp only [Instr.loadAt, Instr.sureAddr, Sem.run_bind, Sem.run_pure, Result.andThen_ok, run_loadVar_row (P := Tryd.prog) W g 123 123 _ (0, 0) _ h Tryd.underlying123 rfl (by kernel_rfl)]
theorem ref_build (W : World) : (Instr.build 123 #[]).run Tryd.prog W = .ok (.agg #[.int .i64 0, .int .u64 0, .int .u64 0, .slice none 0 0]) W :=
  run_build (P := Tryd.prog) W 123 #[] _ (by kernel_rfl)
theorem ref_results {tmps : Array Value} {w : World} {p : Nat} {k s t e X : Int} {v : Value} (h4 : tmps[4]? = some (.pointer (some ⟨p, 0, none⟩))) (h5 : tmps[5]? = some (.int .i64 e)) (h6 : tmps[6]? = some (.int .i64 X))
    (g0 : w.heap[p]? = some (refO k s t v)) :
    (results Tryd.f73 tmps).run Tryd.prog w = .ok (.tuple #[.agg #[.int .i64 k, .int .u64 s, .int .u64 t, v], .int .i64 e, .int .i64 X]) w := by
  have l0 : (loadVar 123 ⟨p, 0, none⟩).run Tryd.prog w = .ok (.agg #[.int .i64 k, .int .u64 s, .int .u64 t, v]) w := run_loadVar_row (P := Tryd.prog) w p 123 123 _ (0, 0) _ g0 Tryd.underlying123 rfl (by kernel_rfl)
  have hr : Tryd.f73.results = #[.cell 4 123, .tmp 5, .tmp 6] := by kernel_rfl
  unfold results
  rw [hr]
  simp [h4, h5, h6, l0, asAddr]
theorem ref_fail {w0 w : World} {tmps : Array Value} {X : Int} (h4 : tmps[4]? = some (.pointer (some ⟨w0.heap.size, 0, none⟩))) (h5 : tmps[5]? = some (.int .i64 0)) (h6 : tmps[6]? = some (.int .i64 X))
    (g0 : w.heap[w0.heap.size]? = some (refO 0 0 0 (.slice none 0 0))) (hb : Below w0.heap.size w0 w) : bodyPost Tryd.prog Tryd.f73 (DecPost w0 (decOut (.error X))) .ret { tmps := tmps, defers := [] } w :=
  ⟨rfl, _, ref_results h4 h5 h6 g0, _, rfl, Kd.R_nil _ _ _ _ _, hb⟩
theorem rmay_f (k s t : Int) (l : List Int) : tikref13_MayRecord.f k s t l = some (decide (mayL k s t l.length)) := by
  unfold tikref13_MayRecord.f mayL
  by_cases h1 : k = 1 <;> by_cases h2 : k = 2 <;> by_cases h3 : 1 ≤ s <;> by_cases h4 : s ≤ 4611686018427387904 <;> by_cases h5 : t ≤ 4611686018427387904 <;> simp [h1, h2, h3, h4, h5]
theorem cell_below_ {w w' : World} (hb : Below w.heap.size w w') {p : Addr} {v : Value} (h : w.cell? p = some v) : w'.cell? p = some v := (World.cell?_of_block (w := w) (hb.block _ (World.block_lt_of_cell? _ _ h))).trans h
def Stage (l : List Int) (a : Int) : Nat → Int → Int → Int → Int → Prop
  | 0, p, _, _, _ => p = a + 7
  | 1, p, x, _, _ => getV l (a + 7) = (x, p, 0)
  | 2, p, x, y, _ => ∃ p1, getV l (a + 7) = (x, p1, 0) ∧ getV l p1 = (y, p, 0)
  | 3, p, x, y, z => ∃ p1 p2, getV l (a + 7) = (x, p1, 0) ∧ getV l p1 = (y, p2, 0) ∧ getV l p2 = (z, p, 0)
  | _, _, _, _, _ => False
def tail3 (l : List Int) (a n1 n2 n3 p3 : Int) : Except Int (Int × Int × Int × List Int × Int) :=
  if n3 ≤ 1048576 then
  if n3 ≤ (l.length : Int) - p3 then
  if segL l (a + 2) (a + 6) = fourL (crcV (segL l (a + 6) (p3 + n3))) then
  if mayL (rd l (a + 6)) n1 n2 n3 then
  .ok (rd l (a + 6), n1, n2, segL l p3 (p3 + n3), p3 + n3)
  else .error 2 else .error 9 else .error 3 else .error 2
theorem decV_tail {l : List Int} {a n1 p1 n2 p2 n3 p3 : Int} (c1 : 6 ≤ (l.length : Int) - a) (c2 : rd l a = 167 ∧ rd l (a + 1) = 92) (c3 : a + 6 < (l.length : Int)) (h1 : getV l (a + 7) = (n1, p1, 0)) (h2 : getV l p1 = (n2, p2, 0)) (h3 : getV l p2 = (n3, p3, 0)) :
    decV l a = tail3 l a n1 n2 n3 p3 := by
  unfold decV
  rw [if_pos c1, if_pos c2, if_pos c3, h1]
  dsimp only
  rw [h2]
  dsimp only
  rw [h3]
  dsimp only
  rw [if_pos rfl, if_pos rfl, if_pos rfl]
  rfl
theorem stage_fail {l : List Int} {a p x y z n q e : Int} {i : Nat} {R : Except Int (Int × Int × Int × List Int × Int)} (c1 : 6 ≤ (l.length : Int) - a) (c2 : rd l a = 167 ∧ rd l (a + 1) = 92) (c3 : a + 6 < (l.length : Int)) (hR : decV l a = R)
    (hi : i < 3) (hs : Stage l a i p x y z) (hg : getV l p = (n, q, e)) (he : e ≠ 0) : R = .error e := by
  have : i = 0 ∨ i = 1 ∨ i = 2 := by omega
  rw [← hR]
  unfold decV
  rw [if_pos c1, if_pos c2, if_pos c3]
  rcases this with rfl | rfl | rfl
  · obtain rfl : p = a + 7 := hs
    rw [hg]; exact if_neg he
  · have hs : getV l (a + 7) = (x, p, 0) := hs
    rw [hs]
    refine (if_pos rfl).trans ?_
    dsimp only
    rw [hg]; exact if_neg he
  · obtain ⟨p1, h1, h2⟩ := hs
    rw [h1]
    refine (if_pos rfl).trans ?_
    dsimp only
    rw [h2]
    refine (if_pos rfl).trans ?_
    dsimp only
    rw [hg]; exact if_neg he
theorem stage_next {l : List Int} {a p x y z n q : Int} {i : Nat} (hi : i < 3) (hs : Stage l a i p x y z) (hg : getV l p = (n, q, 0)) : Stage l a (i + 1) q (if i = 0 then n else x) (if i = 1 then n else y) (if i = 2 then n else z) := by
  have : i = 0 ∨ i = 1 ∨ i = 2 := by omega
  rcases this with rfl | rfl | rfl
  · obtain rfl : p = a + 7 := hs
    exact hg
  · exact ⟨p, hs, hg⟩
  · obtain ⟨p1, h1, h2⟩ := hs
    exact ⟨p1, p, h1, h2, hg⟩
theorem arr_cell {w : World} {g i : Nat} {x y z : Int} (hi : i < 3) (h : w.heap[g]? = some (arrO x y z)) : w.cell? ⟨g, i, none⟩ = some (.int .u64 (if i = 0 then x else if i = 1 then y else z)) := by
  have : i = 0 ∨ i = 1 ∨ i = 2 := by omega
  rcases this with rfl | rfl | rfl
  · exact blk_cell h 0
  · exact blk_cell h 1
  · exact blk_cell h 2
theorem arr_set {w : World} {g i : Nat} {x y z n : Int} (hi : i < 3) (h : w.heap[g]? = some (arrO x y z)) : (w.setCell ⟨g, i, none⟩ (.int .u64 n)).heap[g]? = some (arrO (if i = 0 then n else x) (if i = 1 then n else y) (if i = 2 then n else z)) := by
  have : i = 0 ∨ i = 1 ∨ i = 2 := by omega
  rcases this with rfl | rfl | rfl <;> simp [World.setCell, Array.getElem?_modify, h]
set_option maxRecDepth 100000 in
set_option maxHeartbeats 4000000 in
theorem ref_main {A0 : Option Addr} {c0 : Nat} {l0 : List Int} {a1 : Int} {R : Except Int (Int × Int × Int × List Int × Int)} {w : World} (hr0 : Kd.C (Kd.int .u8) w A0 l0.length l0) (hc0 : l0.length ≤ c0) (hb : Bytes255 l0) (hl : l0.length < 140737488355328) (h1 : 0 ≤ a1) (h2 : a1 ≤ l0.length) (hR : decV l0 a1 = R) :
    Calls Tryd.prog 73 #[.slice A0 l0.length c0, .int .i64 a1] w (DecPost w (decOut R)) := by
  have e1 : decide (a1 < 0) = false := decide_eq_false (by omega)
  have e2 : decide ((l0.length : Int) < a1) = false := decide_eq_false (by omega)
  obtain ⟨W, hW, b0, hWb⟩ : ∃ W, w.alloc (refO 0 0 0 (.slice none 0 0)) = W ∧ W.heap[w.heap.size]? = some (refO 0 0 0 (.slice none 0 0)) ∧ Below w.heap.size w W := ⟨_, rfl, alloc_new _ _, below_alloc (Below.refl _ _) _⟩
  have HW := Aside0.mk hW
  have B0 := Aside0.mk b0
  have HWb := Aside0.mk hWb
  have HCC := Aside0.mk (And.intro hr0 (And.intro hc0 hb))
  obtain ⟨W1, hst, g0, m0⟩ := ref_store 0 0 0 none 0 0 b0
  have HE := Aside0.mk (And.intro hst (And.intro g0 (Mu.below_of hWb m0 (by intro i hi; omega))))
  have hbd := ref_build
  have HR := Aside0.mk hR
  clear hW b0 hWb hr0 hc0 hb hst g0 m0 hR
  go_enter Tryd.func73, Tryd.ntmps73
  have hwA : IntKind.i64.wrap ((l0.length : Int) - a1) = (l0.length : Int) - a1 := IntWalk.i64_in _ (by omega)
  by_cases q1 : 6 ≤ (l0.length : Int) - a1
  case neg =>
    have d1 : decide ((l0.length : Int) - a1 < 6) = true := decide_eq_true (by omega)
    have hr : R = .error 3 := HR.out.symm.trans (if_neg q1)
    subst hr
    clear q1 HR
    go_wp2_with (first | ((with_reducible refine gate_ (.store 123 (.tmp 4) (.tmp 31)) rfl ?_); (try rw [HW.out]); refine wpList_storeR rfl _ _ _ rfl (by rfl) (by rfl) HE.out.1 ?_))
    exact ref_fail rfl rfl rfl HE.out.2.1 HE.out.2.2
  have d1 : decide ((l0.length : Int) - a1 < 6) = false := decide_eq_false (by omega)
  have Q1 := Aside0.mk q1
  have hCW := Kd.C_below HCC.out.1 HWb.out
  obtain ⟨ad, ea, hx⟩ := Kd.at_int hCW a1 h1 (by omega)
  subst ea
  obtain ⟨ad2, ea2, hx2⟩ := Kd.at_int hCW (a1 + 1) (by omega) (by omega)
  obtain rfl := Option.some.inj ea2
  have hw1 : IntKind.i64.wrap (a1 + 1) = a1 + 1 := IntWalk.i64_in _ (by omega)
  have hlt1 : a1 < (l0.length : Int) := by omega
  have hlt2 : a1 + 1 < (l0.length : Int) := by omega
  have hge2 : 0 ≤ a1 + 1 := by omega
  clear hCW ea2
  have stop2 : ¬ (rd l0 a1 = 167 ∧ rd l0 (a1 + 1) = 92) → R = .error 2 := fun hn => HR.out.symm.trans ((if_pos q1).trans (if_neg hn))
  clear q1
  by_cases k1 : rd l0 a1 = 167
  case neg =>
    have d2 : (rd l0 a1 != 167) = true := bne_iff_ne.2 k1
    have hr := stop2 (fun h => k1 h.1)
    subst hr
    clear k1 HR stop2
    go_wp2_with (first | ((with_reducible refine gate_ (.store 123 (.tmp 4) (.tmp 46)) rfl ?_); (try rw [HW.out]); refine wpList_storeR rfl _ _ _ rfl (by rfl) (by rfl) HE.out.1 ?_) | (rw [HW.out]))
    exact ref_fail rfl rfl rfl HE.out.2.1 HE.out.2.2
  have d2 : (rd l0 a1 != 167) = false := bne_eq_false_iff_eq.2 k1
  by_cases k2 : rd l0 (a1 + 1) = 92
  case neg =>
    have d3 : (rd l0 (a1 + 1) != 92) = true := bne_iff_ne.2 k2
    have hr := stop2 (fun h => k2 h.2)
    subst hr
    clear k1 k2 HR stop2
    go_wp2_with (first | ((with_reducible refine gate_ (.store 123 (.tmp 4) (.tmp 46)) rfl ?_); (try rw [HW.out]); refine wpList_storeR rfl _ _ _ rfl (by rfl) (by rfl) HE.out.1 ?_) | (rw [HW.out]))
    exact ref_fail rfl rfl rfl HE.out.2.1 HE.out.2.2
  have d3 : (rd l0 (a1 + 1) != 92) = false := bne_eq_false_iff_eq.2 k2
  have KK := Aside0.mk (And.intro k1 k2)
  clear k1 k2 stop2
  by_cases q3 : a1 + 6 < (l0.length : Int)
  case neg =>
    have d4 : decide ((l0.length : Int) - a1 < 7) = true := decide_eq_true (by omega)
    have hr : R = .error 3 := HR.out.symm.trans ((if_pos Q1.out).trans ((if_pos KK.out).trans (if_neg q3)))
    subst hr
    clear q3 HR
    go_wp2_with (first | ((with_reducible refine gate_ (.store 123 (.tmp 4) (.tmp 53)) rfl ?_); (try rw [HW.out]); refine wpList_storeR rfl _ _ _ rfl (by rfl) (by rfl) HE.out.1 ?_) | (rw [HW.out]))
    exact ref_fail rfl rfl rfl HE.out.2.1 HE.out.2.2
  have d4 : decide ((l0.length : Int) - a1 < 7) = false := decide_eq_false (by omega)
  have Q3 := Aside0.mk q3
  have hw7 : IntKind.i64.wrap (a1 + 7) = a1 + 7 := IntWalk.i64_in _ (by omega)
  clear q3
  go_upto_region 10 with (first | (rw [HW.out]))
  obtain ⟨W2, hW2, b2, hWb2⟩ : ∃ W2, W.alloc (arrO 0 0 0) = W2 ∧ W2.heap[W.heap.size]? = some (arrO 0 0 0) ∧ Below W.heap.size W W2 := ⟨_, rfl, alloc_new _ _, below_alloc (Below.refl _ _) _⟩
  obtain ⟨pa, hpa⟩ : ∃ pa, W.heap.size = pa := ⟨_, rfl⟩
  have hlt : w.heap.size < pa := by have := heap_lt B0.out; omega
  have HLt := Aside0.mk hlt
  have HW2 := Aside0.mk hW2
  have HF2 := Aside0.mk (show W2.heap[pa]? = some (arrO 0 0 0) ∧ W2.heap[w.heap.size]? = some (refO 0 0 0 (.slice none 0 0)) ∧ Below w.heap.size w W2 from ⟨by rw [← hpa]; exact b2, (Mu.of_below hWb2 (fun _ => False)).heap B0.out (fun h => h), below_step HWb.out hWb2⟩)
  have HPA := Aside0.mk hpa
  clear hW2 b2 hWb2 hpa hlt HW hx hx2 d2 d3 d1 d4 hwA hlt1 hlt2 hge2 hw1 hw7 e1 e2
  go_wp2
  rw [HW2.out, HPA.out]
  clear HW2 HPA HE HWb B0
  go_loopw [7, 9] (fun v7 v9 wr => ∃ (i : Nat) (p x y z : Int), i ≤ 3 ∧ v9 = .int .i64 i ∧ v7 = .int .i64 p ∧ Aside0 (Stage l0 a1 i p x y z) ∧ Aside0 (wr.heap[pa]? = some (arrO x y z) ∧ wr.heap[w.heap.size]? = some (refO 0 0 0 (.slice none 0 0)) ∧ Below w.heap.size w wr)) (fun _ v9 _ => 3 - (intOf v9).toNat)
  case atStart => exact ⟨0, a1 + 7, 0, 0, 0, by omega, rfl, rfl, ⟨rfl⟩, HF2⟩
  case round =>
    obtain ⟨i, p, x, y, z, hi, rfl, rfl, HS, HF⟩ := hrel
    clear HF2
    by_cases hlt : i < 3
    case pos =>
      rcases hg : getV l0 p with ⟨n, q, e⟩
      have HG := Aside0.mk (tikref2_Get.calls 30 (some ad) c0 l0 p n q e wr (Kd.C_below HCC.out.1 HF.out.2.2) HCC.out.2.1 ((refGet_any l0 (by omega) HCC.out.2.2 p 30 (Nat.le_refl _)).trans (congrArg some hg)))
      have Hg := Aside0.mk hg
      clear hg
      have hwi : IntKind.i64.wrap ((i : Int) + 1) = (i : Int) + 1 := IntWalk.i64_in _ (by omega)
      have hdi : decide ((i : Int) < 3) = true := decide_eq_true (by omega)
      have hi0 : (0 : Int) ≤ (i : Int) := by omega
      have hi3 : (i : Int) < 3 := by omega
      have ac := arr_cell hlt (show (wr).heap[pa]? = _ from HF.out.1)
      have af : ∀ n, (wr.drewN n).frozen? ⟨pa, i, none⟩ = false := fun n => blk_frozen HF.out.1 i
      have ad_ : ∀ n, (wr.drewN n).cell? ⟨pa, i, none⟩ = some (.int .u64 (if i = 0 then x else if i = 1 then y else z)) := fun n => ac
      have Hlt := Aside0.mk hlt
      clear hlt ac
      by_cases he : e = 0
      case neg =>
        have hr := stage_fail Q1.out KK.out Q3.out HR.out Hlt.out HS.out Hg.out he
        have de : (e != 0) = true := bne_iff_ne.2 he
        subst hr
        clear he HR
        go_wp2_with fail
        refine HG.out.mono ?_
        rintro en w1 ⟨rfl, ⟨nd, rfl⟩⟩
        obtain ⟨W3, hst, g0, m0⟩ := ref_store 0 0 0 none 0 0 (show (wr.drewN nd).heap[w.heap.size]? = _ from HF.out.2.1)
        have HE := Aside0.mk (And.intro hst (And.intro g0 (Mu.below_of (pw_below_drewN HF.out.2.2 nd) m0 (by intro i hi; omega))))
        clear hst g0 m0
        go_wp2_with (first | ((with_reducible refine gate_ (.store 123 (.tmp 4) (.tmp 69)) rfl ?_); refine wpList_storeR rfl _ _ _ rfl (by rfl) (by rfl) HE.out.1 ?_))
        exact ref_fail rfl rfl rfl HE.out.2.1 HE.out.2.2
      subst he
      have HN := Aside0.mk (stage_next Hlt.out HS.out Hg.out)
      go_wp2_with fail
      refine HG.out.mono ?_
      rintro en w1 ⟨rfl, ⟨nd, rfl⟩⟩
      have HF4 := Aside0.mk (And.intro (arr_set (n := n) Hlt.out (show (wr.drewN nd).heap[pa]? = _ from HF.out.1)) (And.intro ((Below.heap_setCell (wr.drewN nd) ⟨pa, i, none⟩ (.int .u64 n) w.heap.size (Nat.ne_of_lt HLt.out)).trans (show (wr.drewN nd).heap[w.heap.size]? = _ from HF.out.2.1)) (below_set (j := i) (v := .int .u64 n) (pw_below_drewN HF.out.2.2 nd) (Nat.le_of_lt HLt.out))))
      clear HG HF HS Hg
      go_wp2_with fail
      exact ⟨⟨i + 1, q, _, _, _, by have := Hlt.out; omega, by simp, rfl, HN, HF4⟩, by have := Hlt.out; simp [intOf]; omega⟩
    case neg =>
      obtain rfl : i = 3 := by omega
      obtain ⟨p1, p2, s1, s2, s3⟩ := HS.out
      have hT := (decV_tail Q1.out KK.out Q3.out s1 s2 s3).symm.trans HR.out
      have g1 := getV_ok s1
      have g2 := getV_ok s2
      have g3 := getV_ok s3
      have HGV := Aside0.mk (show 0 ≤ z ∧ a1 + 7 ≤ p ∧ p ≤ (l0.length : Int) from ⟨g3.2.1, by omega, g3.2.2.2.2⟩)
      have HT := Aside0.mk hT
      have u2 := blk_cell HF.out.1 2
      have u0 := blk_cell HF.out.1 0
      have u1 := blk_cell HF.out.1 1
      have hwl : IntKind.i64.wrap ((l0.length : Int) - p) = (l0.length : Int) - p := IntWalk.i64_in _ (by omega)
      have hwu : IntKind.u64.wrap ((l0.length : Int) - p) = (l0.length : Int) - p := IntWalk.u64_in _ (by omega)
      clear s1 s2 s3 hT g1 g2 g3 HS HR hlt hi
      by_cases q7 : z ≤ 1048576
      case neg =>
        have d7 : decide (1048576 < z) = true := decide_eq_true (by omega)
        have hr : R = .error 2 := HT.out.symm.trans (if_neg q7)
        subst hr
        obtain ⟨W3, hst, g0, m0⟩ := ref_store 0 0 0 none 0 0 HF.out.2.1
        have HE := Aside0.mk (And.intro hst (And.intro g0 (Mu.below_of HF.out.2.2 m0 (by intro i hi; omega))))
        clear hst g0 m0 q7 HT
        go_wp2_with (first | ((with_reducible refine gate_ (.store 123 (.tmp 4) (.tmp 79)) rfl ?_); refine wpList_storeR rfl _ _ _ rfl (by rfl) (by rfl) HE.out.1 ?_))
        exact ref_fail rfl rfl rfl HE.out.2.1 HE.out.2.2
      have d7 : decide (1048576 < z) = false := decide_eq_false (by omega)
      have HT7 := Aside0.mk ((if_pos q7).symm.trans HT.out)
      have Q7 := Aside0.mk q7
      clear HT q7
      by_cases q8 : z ≤ (l0.length : Int) - p
      case neg =>
        have d8 : decide ((l0.length : Int) - p < z) = true := decide_eq_true (by omega)
        have hr : R = .error 3 := HT7.out.symm.trans (if_neg q8)
        subst hr
        obtain ⟨W3, hst, g0, m0⟩ := ref_store 0 0 0 none 0 0 HF.out.2.1
        have HE := Aside0.mk (And.intro hst (And.intro g0 (Mu.below_of HF.out.2.2 m0 (by intro i hi; omega))))
        clear hst g0 m0 q8 HT7
        go_wp2_with (first | ((with_reducible refine gate_ (.store 123 (.tmp 4) (.tmp 89)) rfl ?_); refine wpList_storeR rfl _ _ _ rfl (by rfl) (by rfl) HE.out.1 ?_))
        exact ref_fail rfl rfl rfl HE.out.2.1 HE.out.2.2
      have d8 : decide ((l0.length : Int) - p < z) = false := decide_eq_false (by omega)
      have HT8 := Aside0.mk ((if_pos q8).symm.trans HT7.out)
      have Q8 := Aside0.mk q8
      clear HT7 q8
      have GG := And.intro HGV.out (And.intro Q7.out Q8.out)
      have hwz : IntKind.i64.wrap z = z := IntWalk.i64_in _ (by omega)
      have hwe : IntKind.i64.wrap (p + z) = p + z := IntWalk.i64_in _ (by omega)
      have hw2 : IntKind.i64.wrap (a1 + 2) = a1 + 2 := IntWalk.i64_in _ (by omega)
      have hw6 : IntKind.i64.wrap (a1 + 6) = a1 + 6 := IntWalk.i64_in _ (by omega)
      obtain ⟨AS, hcutS, hCS, hlS⟩ := cutSeg (some ad) c0 l0 (a1 + 2) (a1 + 6) (by omega) (by omega) (by omega) HCC.out.2.1
      obtain ⟨AC, hcutC, hCC, hlC⟩ := cutSeg (some ad) c0 l0 (a1 + 6) (p + z) (by omega) (by omega) (by omega) HCC.out.2.1
      obtain ⟨AB, hcutB, hCB, hlB⟩ := cutSeg (some ad) c0 l0 p (p + z) (by omega) (by omega) (by omega) HCC.out.2.1
      have HCB := Aside0.mk hCB
      have HlB := Aside0.mk hlB
      have hlc : (segL l0 (a1 + 6) (p + z)).length ≤ l0.length := by unfold segL; rw [List.length_drop, List.length_take]; omega
      have fcrc := refCrc_any (10 * (segL l0 (a1 + 6) (p + z)).length + 1) _ (by omega) (seg_bytes HCC.out.2.2 (a1 + 6) (p + z)) (Nat.le_refl _)
      have e4 : segL l0 (a1 + 2) (a1 + 6) = [rd l0 (a1 + 2), rd l0 (a1 + 2 + 1), rd l0 (a1 + 2 + 1 + 1), rd l0 (a1 + 2 + 1 + 1 + 1)] := by
        have := seg4 (l := l0) (a := a1 + 2) (by omega) (by omega)
        rwa [show a1 + 2 + 4 = a1 + 6 by omega] at this
      have r0 := rd_255 HCC.out.2.2 (a1 + 2)
      have r1 := rd_255 HCC.out.2.2 (a1 + 2 + 1)
      have r2 := rd_255 HCC.out.2.2 (a1 + 2 + 1 + 1)
      have r3 := rd_255 HCC.out.2.2 (a1 + 2 + 1 + 1 + 1)
      have fbig : tikref2_Big.f 5 (segL l0 (a1 + 2) (a1 + 6)) = some (((rd l0 (a1 + 2) * 256 + rd l0 (a1 + 2 + 1)) * 256 + rd l0 (a1 + 2 + 1 + 1)) * 256 + rd l0 (a1 + 2 + 1 + 1 + 1)) := by
        rw [e4]; exact big_any 5 (Nat.le_refl _) _ _ _ _ r0 r1 r2 r3
      have hsum := big_sum _ _ _ _ (crcV (segL l0 (a1 + 6) (p + z))) r0 r1 r2 r3 (crcV_bound _)
      rw [← e4] at hsum
      generalize (((rd l0 (a1 + 2) * 256 + rd l0 (a1 + 2 + 1)) * 256 + rd l0 (a1 + 2 + 1 + 1)) * 256 + rd l0 (a1 + 2 + 1 + 1 + 1)) = big at fbig hsum
      have HSum := Aside0.mk hsum
      have hqc := fun (m : Nat) => Calls.quiet_of (n := m) (w := wr) ((tikref2_Crc.calls _ AC _ _ _ (wr.drewN m) (hCC _ (Kd.C_drewN (Kd.C_below HCC.out.1 HF.out.2.2) m)) hlC fcrc).mono fun _ _ z => by obtain ⟨z1, m1, z2⟩ := z; exact ⟨z1, m1, z2 ▸ rfl⟩)
      have hqb := fun (m : Nat) => Calls.quiet_of (n := m) (w := wr) ((tikref2_Big.calls _ AS _ _ _ (wr.drewN m) (hCS _ (Kd.C_drewN (Kd.C_below HCC.out.1 HF.out.2.2) m)) hlS fbig).mono fun _ _ z => by obtain ⟨z1, m1, z2⟩ := z; exact ⟨z1, m1, z2 ▸ rfl⟩)
      have HSL := Aside0.mk (show (segL l0 p (p + z)).length < 140737488355328 by unfold segL; rw [List.length_drop, List.length_take]; omega)
      clear GG hCS hCC hCB hlS hlC hlB hlc fcrc e4 r0 r1 r2 r3 fbig hsum
      generalize hcr : crcV (segL l0 (a1 + 6) (p + z)) = crc at *
      by_cases q9 : crc = big % 4294967296
      case neg =>
        have d9 : (crc != big % 4294967296) = true := bne_iff_ne.2 q9
        have hr : R = .error 9 := HT8.out.symm.trans (if_neg (fun h => q9 (HSum.out.2 h)))
        subst hr
        clear q9 HT8 HSum
        go_upto_region 23 with fail
        go_quiet (first | (go_at_call 68; exact hqc _) | (go_at_call 72; exact hqb _))
        obtain ⟨W3, hst, g0, m0⟩ := ref_store 0 0 0 none 0 0 (show (wr.drewN nq).heap[w.heap.size]? = _ from HF.out.2.1)
        have HE := Aside0.mk (And.intro hst (And.intro g0 (Mu.below_of (pw_below_drewN HF.out.2.2 nq) m0 (by intro i hi; omega))))
        clear hst g0 m0
        go_wp2_with (first | ((with_reducible refine gate_ (.store 123 (.tmp 4) (.tmp 110)) rfl ?_); refine wpList_storeR rfl _ _ _ rfl (by rfl) (by rfl) HE.out.1 ?_))
        exact ref_fail rfl rfl rfl HE.out.2.1 HE.out.2.2
      have d9 : (crc != big % 4294967296) = false := bne_eq_false_iff_eq.2 q9
      have HT9 := Aside0.mk ((if_pos (HSum.out.1 q9)).symm.trans HT8.out)
      clear q9 HT8 HSum
      go_upto_region 23 with fail
      go_quiet (first | (go_at_call 68; exact hqc _) | (go_at_call 72; exact hqb _))
      have HF5 := Aside0.mk (show (wr.drewN nq).heap[pa]? = _ ∧ (wr.drewN nq).heap[w.heap.size]? = _ ∧ Below w.heap.size w (wr.drewN nq) from ⟨HF.out.1, HF.out.2.1, pw_below_drewN HF.out.2.2 nq⟩)
      clear HF hqc hqb hcutS hcutC u0 u1 u2 hcr
      generalize wr.drewN nq = W5 at *
      have hC5 := Kd.C_below HCC.out.1 HF5.out.2.2
      obtain ⟨ad6, ea6, hx6⟩ := Kd.at_int hC5 (a1 + 6) (by omega) Q3.out
      obtain rfl := Option.some.inj ea6
      have hge6 : 0 ≤ a1 + 6 := by omega
      have hlt6 : a1 + 6 < (l0.length : Int) := Q3.out
      have hrd := rd_255 HCC.out.2.2 (a1 + 6)
      have hwb : IntKind.i64.wrap (rd l0 (a1 + 6)) = rd l0 (a1 + 6) := IntWalk.i64_in _ (by omega)
      obtain ⟨K1, hK1⟩ : ∃ k, rd l0 (a1 + 6) = k := ⟨_, rfl⟩
      rw [hK1] at hx6 hwb HT9
      have HC5 := Aside0.mk hC5
      have HS5 := Aside0.mk (show W5.cell? (ad.add (a1 + 6).toNat) = some (.int .u8 K1) ∧ W5.cell? ⟨pa, 0, none⟩ = some (.int .u64 x) ∧ W5.cell? ⟨pa, 1, none⟩ = some (.int .u64 y) from ⟨hx6, blk_cell HF5.out.1 0, blk_cell HF5.out.1 1⟩)
      clear hC5 ea6 hx6 hrd
      go_upto_region 25 with fail
      refine start_ (n := 18) (S := fun W => W.cell? (ad.add (a1 + 6).toNat) = some (.int .u8 K1) ∧ W.cell? ⟨pa, 0, none⟩ = some (.int .u64 x) ∧ W.cell? ⟨pa, 1, none⟩ = some (.int .u64 y)) (ds := [17]) #[false, false, false, false, false, false, false, false, false, false, false, false, false, false, false, false, false, false] (by kernel_rfl) rfl rfl HS5.out (fun hS => ?_)
      refine pure_ (i := 0) (N := some 111) (v := ?_) (a' := ?_) #[true, false, false, false, false, false, false, false, false, false, false, false, false, false, false, false, false, false] rfl rfl (by kernel_rfl) (fun _ _ _ h => h) (Or.inl ⟨by rfl, ?_⟩) ?_ ?_
      rotate_left
      · intro w'
        go_simp
        with_reducible rfl
      rotate_left
      · simp only [Act.put, List.setIfInBounds_toArray, List.set_cons_zero, List.set_cons_succ, i64_w, i32_w]
        rfl
      refine pure_ (i := 1) (N := some 112) (v := ?_) (a' := ?_) #[true, true, false, false, false, false, false, false, false, false, false, false, false, false, false, false, false, false] rfl rfl (by kernel_rfl) (fun _ _ _ h => h) (Or.inl ⟨by rfl, ?_⟩) ?_ ?_
      rotate_left
      · intro w'
        go_simp
        with_reducible rfl
      rotate_left
      · simp only [Act.put, List.setIfInBounds_toArray, List.set_cons_zero, List.set_cons_succ, i64_w, i32_w]
        rfl
      refine pure_ (i := 2) (N := some 113) (v := ?_) (a' := ?_) #[true, true, true, false, false, false, false, false, false, false, false, false, false, false, false, false, false, false] rfl rfl (by kernel_rfl) (fun _ _ _ h => h) (Or.inl ⟨by rfl, ?_⟩) ?_ ?_
      rotate_left
      · intro w'
        go_simp
        with_reducible rfl
      rotate_left
      · simp only [Act.put, List.setIfInBounds_toArray, List.set_cons_zero, List.set_cons_succ, i64_w, i32_w]
        rfl
      refine pure_ (i := 3) (N := some 114) (v := ?_) (a' := ?_) #[true, true, true, true, false, false, false, false, false, false, false, false, false, false, false, false, false, false] rfl rfl (by kernel_rfl) (fun _ _ _ h => h) (Or.inl ⟨by rfl, ?_⟩) ?_ ?_
      rotate_left
      · intro w'
        go_simp
        with_reducible rfl
      rotate_left
      · simp only [Act.put, List.setIfInBounds_toArray, List.set_cons_zero, List.set_cons_succ, i64_w, i32_w]
        rfl
      refine take_ (i := 4) (N := some 115) (v := ?_) (a' := ?_) #[true, true, true, true, true, false, false, false, false, false, false, false, false, false, false, false, false, false] rfl rfl (by kernel_rfl) (fun _ _ _ h => h) (Or.inl ⟨by rfl, ?_⟩) hS ?_ ?_
      rotate_left
      · rintro w' ⟨hs1, hs2, hs3⟩
        go_simp
        with_reducible rfl
      rotate_left
      · simp only [Act.put, List.setIfInBounds_toArray, List.set_cons_zero, List.set_cons_succ, i64_w, i32_w]
        rfl
      refine pure_ (i := 5) (N := some 116) (v := ?_) (a' := ?_) #[true, true, true, true, true, true, false, false, false, false, false, false, false, false, false, false, false, false] rfl rfl (by kernel_rfl) (fun _ _ _ h => h) (Or.inl ⟨by rfl, ?_⟩) ?_ ?_
      rotate_left
      · intro w'
        go_simp
        with_reducible rfl
      rotate_left
      · simp only [Act.put, List.setIfInBounds_toArray, List.set_cons_zero, List.set_cons_succ, i64_w, i32_w]
        rfl
      refine pure_ (i := 6) (N := some 117) (v := ?_) (a' := ?_) #[true, true, true, true, true, true, true, false, false, false, false, false, false, false, false, false, false, false] rfl rfl (by kernel_rfl) (fun _ _ _ h => h) (Or.inl ⟨by rfl, ?_⟩) ?_ ?_
      rotate_left
      · intro w'
        go_simp
        with_reducible rfl
      rotate_left
      · simp only [Act.put, List.setIfInBounds_toArray, List.set_cons_zero, List.set_cons_succ, i64_w, i32_w]
        rfl
      refine take_ (i := 7) (N := some 118) (v := ?_) (a' := ?_) #[true, true, true, true, true, true, true, true, false, false, false, false, false, false, false, false, false, false] rfl rfl (by kernel_rfl) (fun _ _ _ h => h) (Or.inl ⟨by rfl, ?_⟩) hS ?_ ?_
      rotate_left
      · rintro w' ⟨hs1, hs2, hs3⟩
        go_simp
        with_reducible rfl
      rotate_left
      · simp only [Act.put, List.setIfInBounds_toArray, List.set_cons_zero, List.set_cons_succ, i64_w, i32_w]
        rfl
      refine pure_ (i := 8) (N := some 119) (v := ?_) (a' := ?_) #[true, true, true, true, true, true, true, true, true, false, false, false, false, false, false, false, false, false] rfl rfl (by kernel_rfl) (fun _ _ _ h => h) (Or.inl ⟨by rfl, ?_⟩) ?_ ?_
      rotate_left
      · intro w'
        go_simp
        with_reducible rfl
      rotate_left
      · simp only [Act.put, List.setIfInBounds_toArray, List.set_cons_zero, List.set_cons_succ, i64_w, i32_w]
        rfl
      refine take_ (i := 9) (N := some 120) (v := ?_) (a' := ?_) #[true, true, true, true, true, true, true, true, true, true, false, false, false, false, false, false, false, false] rfl rfl (by kernel_rfl) (fun _ _ _ h => h) (Or.inl ⟨by rfl, ?_⟩) hS ?_ ?_
      rotate_left
      · rintro w' ⟨hs1, hs2, hs3⟩
        go_simp
        with_reducible rfl
      rotate_left
      · simp only [Act.put, List.setIfInBounds_toArray, List.set_cons_zero, List.set_cons_succ, i64_w, i32_w]
        rfl
      refine pure_ (i := 10) (N := some 121) (v := ?_) (a' := ?_) #[true, true, true, true, true, true, true, true, true, true, true, false, false, false, false, false, false, false] rfl rfl (by kernel_rfl) (fun _ _ _ h => h) (Or.inl ⟨by rfl, ?_⟩) ?_ ?_
      rotate_left
      · intro w'
        go_simp
        with_reducible rfl
      rotate_left
      · simp only [Act.put, List.setIfInBounds_toArray, List.set_cons_zero, List.set_cons_succ, i64_w, i32_w]
        rfl
      refine pure_ (i := 11) (N := some 122) (v := ?_) (a' := ?_) #[true, true, true, true, true, true, true, true, true, true, true, true, false, false, false, false, false, false] rfl rfl (by kernel_rfl) (fun _ _ _ h => h) (Or.inl ⟨by rfl, ?_⟩) ?_ ?_
      rotate_left
      · intro w'
        go_simp
        with_reducible rfl
      rotate_left
      · simp only [Act.put, List.setIfInBounds_toArray, List.set_cons_zero, List.set_cons_succ, i64_w, i32_w]
        rfl
      refine pure_ (i := 12) (N := some 123) (v := ?_) (a' := ?_) #[true, true, true, true, true, true, true, true, true, true, true, true, true, false, false, false, false, false] rfl rfl (by kernel_rfl) (fun _ _ _ h => h) (Or.inl ⟨by rfl, ?_⟩) ?_ ?_
      rotate_left
      · intro w'
        go_simp
        with_reducible rfl
      rotate_left
      · simp only [Act.put, List.setIfInBounds_toArray, List.set_cons_zero, List.set_cons_succ, i64_w, i32_w]
        rfl
      refine pure_ (i := 13) (N := some 124) (v := ?_) (a' := ?_) #[true, true, true, true, true, true, true, true, true, true, true, true, true, true, false, false, false, false] rfl rfl (by kernel_rfl) (fun _ _ _ h => h) (Or.inl ⟨by rfl, ?_⟩) ?_ ?_
      rotate_left
      · intro w'
        go_simp
        with_reducible rfl
      rotate_left
      · simp only [Act.put, List.setIfInBounds_toArray, List.set_cons_zero, List.set_cons_succ, i64_w, i32_w]
        rfl
      refine join_ 1 #[true, true, true, true, true, true, true, true, true, true, true, true, true, true, true, true, true, false] (fun (s : Option Addr × Nat × Nat) => [(125, .slice s.1 (segL l0 p (p + z)).length s.2.1), (126, .agg #[.int .i64 K1, .int .u64 x, .int .u64 y, .slice s.1 (segL l0 p (p + z)).length s.2.1]), (14, .pointer (some ⟨s.2.2, 0, none⟩))]) (fun s w' => Kd.R (Kd.int .u8) 5 w' W5.heap.size (fun _ => True) (.slice s.1 (segL l0 p (p + z)).length s.2.1) (segL l0 p (p + z)) ∧ w'.heap[s.2.2]? = some (refO 0 0 0 (.slice none 0 0)) ∧ w'.heap[w.heap.size]? = some (refO 0 0 0 (.slice none 0 0)) ∧ w.heap.size < s.2.2 ∧ Below w.heap.size w w') ?_ (fun hCont => ?_)
      rotate_left
      · refine two_ (i := 14) (j := 16) (Ni := some 125) (Nj := some 14) #[true, true, true, true, true, true, true, true, true, true, true, true, true, true, true, false, false, false] #[true, true, true, true, true, true, true, true, true, true, true, true, true, true, false, false, true, false] rfl rfl rfl rfl (by kernel_rfl) (by decide) (by decide) (fun K hK => ?_) (fun K hK => ?_)
        · refine goes_ Tryd.func102 (by kernel_rfl) rfl #[.slice AB (segL l0 p (p + z)).length (c0 - p.toNat)] (by rfl) rfl rfl (by (try simp only [List.map_toArray, List.map_cons, List.map_nil]); first | done | rfl) ?_
          refine (tikref_CopyBytes.calls AB _ (segL l0 p (p + z)) (segL l0 p (p + z)) _ (Kd.C_drew (HCB.out _ HC5.out)) HlB.out (copy_any _ HSL.out)).mono ?_
          rintro e w6 ⟨v6, rfl, ho6, hb6⟩
          obtain ⟨A6, c6, rfl⟩ := Kd.R_slice ho6
          refine ⟨_, rfl, ?_⟩
          refine hK.out _ _ ⟨cell_below_ hb6 hS.1, cell_below_ hb6 hS.2.1, cell_below_ hb6 hS.2.2⟩ (fun hS => ?_)
          refine norm_ (a' := ?_) ?_ ?_
          rotate_left
          · show Act.put _ (some 125) _ = _
            simp only [Act.put, List.setIfInBounds_toArray, List.set_cons_zero, List.set_cons_succ, i64_w, i32_w]
            rfl
          have hbl : ∀ w : World, (Instr.build 123 #[(0, .int .i64 K1), (1, .int .u64 x), (2, .int .u64 y), (3, .slice A6 (segL l0 p (p + z)).length c6)]).run Tryd.prog w = .ok (.agg #[.int .i64 K1, .int .u64 x, .int .u64 y, .slice A6 (segL l0 p (p + z)).length c6]) w := fun w => run_build (P := Tryd.prog) w 123 _ _ (by kernel_rfl)
          refine pure_ (i := 15) (N := some 126) (v := ?_) (a' := ?_) #[true, true, true, true, true, true, true, true, true, true, true, true, true, true, true, true, false, false] rfl rfl (by kernel_rfl) (fun _ _ _ h => h) (Or.inl ⟨by rfl, ?_⟩) ?_ ?_
          rotate_left
          · intro w'
            go_simp
            with_reducible rfl
          rotate_left
          · simp only [Act.put, List.setIfInBounds_toArray, List.set_cons_zero, List.set_cons_succ, i64_w, i32_w]
            rfl
          clear hbl
          refine one_ (i := 16) (N := some 14) #[true, true, true, true, true, true, true, true, true, true, true, true, true, true, true, true, true, false] rfl rfl (by kernel_rfl) (by decide) (fun K hK => ?_)
          refine box_step (by rfl) (N := 14) rfl (cs := #[.int .i64 0, .int .u64 0, .int .u64 0, .slice none 0 0]) (t := 123) (by first | (go_simp; done) | (go_simp; rfl)) ?_
          rintro g rfl w7 hg hb7
          refine hK.out _ _ ⟨cell_below_ hb7 hS.1, cell_below_ hb7 hS.2.1, cell_below_ hb7 hS.2.2⟩ (fun hS => ?_)
          refine norm_ (a' := ?_) ?_ ?_
          rotate_left
          · show Act.put _ (some 14) _ = _
            simp only [Act.put, List.setIfInBounds_toArray, List.set_cons_zero, List.set_cons_succ, i64_w, i32_w]
            rfl
          have q6 := (Mu.of_below hb6 (fun _ => False)).heap (show W5.drew.heap[w.heap.size]? = _ from HF5.out.2.1) (fun h => h)
          have q7 := (Mu.of_below hb7 (fun _ => False)).heap q6 (fun h => h)
          exact norm_ (by simp only [putAll, Act.put, List.setIfInBounds_toArray, List.set_cons_zero, List.set_cons_succ]) (hCont (A6, c6, w6.heap.size) _ ⟨Kd.R_below ho6 hb7, hg, q7, Nat.lt_of_lt_of_le (heap_lt HF5.out.2.1) hb6.size, below_step (below_step (below_drew1 HF5.out.2.2) hb6) hb7⟩)
        · refine box_step (by rfl) (N := 14) rfl (cs := #[.int .i64 0, .int .u64 0, .int .u64 0, .slice none 0 0]) (t := 123) (by first | (go_simp; done) | (go_simp; rfl)) ?_
          rintro g rfl w6 hg hb6
          refine hK.out _ _ ⟨cell_below_ hb6 hS.1, cell_below_ hb6 hS.2.1, cell_below_ hb6 hS.2.2⟩ (fun hS => ?_)
          refine norm_ (a' := ?_) ?_ ?_
          rotate_left
          · show Act.put _ (some 14) _ = _
            simp only [Act.put, List.setIfInBounds_toArray, List.set_cons_zero, List.set_cons_succ, i64_w, i32_w]
            rfl
          refine one_ (i := 14) (N := some 125) #[true, true, true, true, true, true, true, true, true, true, true, true, true, true, true, false, true, false] rfl rfl (by kernel_rfl) (by decide) (fun K hK => ?_)
          refine goes_ Tryd.func102 (by kernel_rfl) rfl #[.slice AB (segL l0 p (p + z)).length (c0 - p.toNat)] (by rfl) rfl rfl (by (try simp only [List.map_toArray, List.map_cons, List.map_nil]); first | done | rfl) ?_
          refine (tikref_CopyBytes.calls AB _ (segL l0 p (p + z)) (segL l0 p (p + z)) _ (Kd.C_below (Kd.C_drew (HCB.out _ HC5.out)) hb6) HlB.out (copy_any _ HSL.out)).mono ?_
          rintro e w7 ⟨v6, rfl, ho6, hb7⟩
          obtain ⟨A6, c6, rfl⟩ := Kd.R_slice ho6
          refine ⟨_, rfl, ?_⟩
          refine hK.out _ _ ⟨cell_below_ hb7 hS.1, cell_below_ hb7 hS.2.1, cell_below_ hb7 hS.2.2⟩ (fun hS => ?_)
          refine norm_ (a' := ?_) ?_ ?_
          rotate_left
          · show Act.put _ (some 125) _ = _
            simp only [Act.put, List.setIfInBounds_toArray, List.set_cons_zero, List.set_cons_succ, i64_w, i32_w]
            rfl
          have hbl : ∀ w : World, (Instr.build 123 #[(0, .int .i64 K1), (1, .int .u64 x), (2, .int .u64 y), (3, .slice A6 (segL l0 p (p + z)).length c6)]).run Tryd.prog w = .ok (.agg #[.int .i64 K1, .int .u64 x, .int .u64 y, .slice A6 (segL l0 p (p + z)).length c6]) w := fun w => run_build (P := Tryd.prog) w 123 _ _ (by kernel_rfl)
          refine pure_ (i := 15) (N := some 126) (v := ?_) (a' := ?_) #[true, true, true, true, true, true, true, true, true, true, true, true, true, true, true, true, true, false] rfl rfl (by kernel_rfl) (fun _ _ _ h => h) (Or.inl ⟨by rfl, ?_⟩) ?_ ?_
          rotate_left
          · intro w'
            go_simp
            with_reducible rfl
          rotate_left
          · simp only [Act.put, List.setIfInBounds_toArray, List.set_cons_zero, List.set_cons_succ, i64_w, i32_w]
            rfl
          clear hbl
          have q6 := (Mu.of_below hb6 (fun _ => False)).heap (show W5.drew.heap[w.heap.size]? = _ from HF5.out.2.1) (fun h => h)
          have q7 := (Mu.of_below hb7 (fun _ => False)).heap q6 (fun h => h)
          have q8 := (Mu.of_below hb7 (fun _ => False)).heap hg (fun h => h)
          exact norm_ (by simp only [putAll, Act.put, List.setIfInBounds_toArray, List.set_cons_zero, List.set_cons_succ]) (hCont (A6, c6, W5.drew.heap.size) _ ⟨Kd.R_lower ho6 hb6.size, q8, q7, heap_lt HF5.out.2.1, below_step (below_step (below_drew1 HF5.out.2.2) hb6) hb7⟩)
      rintro ⟨A6, c6, g6⟩ w6 ⟨hR6, hg6, hp6, hlt6', hb6⟩
      dsimp only at hR6 hg6 hlt6'
      simp only [putAll, Act.put, List.setIfInBounds_toArray, List.set_cons_zero, List.set_cons_succ]
      obtain ⟨W7, hst, g0, m0⟩ := ref_store K1 x y A6 (segL l0 p (p + z)).length c6 hg6
      refine last_ (i := 17) (N := none) #[true, true, true, true, true, true, true, true, true, true, true, true, true, true, true, true, true, true] rfl rfl (by kernel_rfl) (by decide) (fun K hK => ?_)
      refine skip_ (by rfl) rfl (exec_store rfl (by rfl) (by rfl) hst) ?_
      refine hK.out _ _ ?_
      refine done_ (by kernel_rfl) ?_
      have HR7 := Aside0.mk (Kd.R_mono (Kd.R_move (Kd.R_bound (Kd.R_types hR6 hg6 (by intro q hq; simp [Kd.int, Kd.scalar] at hq; subst hq; decide))) (fun k hk => m0.block k hk.2.2.1 (fun e => hk.1.2 e))) (fun _ _ => trivial) : Kd.R (Kd.int .u8) 5 W7 W5.heap.size (fun _ => True) _ _)
      have HG7 := Aside0.mk (And.intro g0 (And.intro (m0.heap hp6 (Nat.ne_of_lt hlt6')) (Mu.below_of hb6 m0 (by intro i hi; omega))))
      have HLt6 := Aside0.mk hlt6'
      have HW5 := Aside0.mk HF5.out.2.2.size
      have H5s := Aside0.mk (heap_lt HF5.out.2.1)
      clear hst g0 m0 hR6 hg6 hp6 hb6 hS hlt6'
      have hsl : (((segL l0 p (p + z)).length : Nat) : Int) = z := by have := HGV.out; have := Q8.out; unfold segL; rw [List.length_drop, List.length_take]; omega
      have HMay := Aside0.mk (tikref13_MayRecord.calls K1 x y A6 c6 (segL l0 p (p + z)) _ W7 (Kd.R_reads' HR7.out).2.2 (Kd.R_reads' HR7.out).2.1 (rmay_f K1 x y (segL l0 p (p + z))))
      rw [hsl] at HMay
      clear hsl HF5 HC5 HS5 hcutB HCB HlB
      go_wp2_with (first | ((with_reducible refine gate_ (.load 123 (.tmp 14)) rfl ?_); refine wpList_loadR rfl _ _ rfl (by rfl) (ref_load HG7.out.1) ?_))
      refine HMay.out.mono ?_
      rintro e w8 ⟨rfl, hb8⟩
      have hm8 := Mu.of_below hb8 (fun _ => False)
      have HG8 := Aside0.mk (And.intro (hm8.heap HG7.out.1 (fun h => h)) (And.intro (hm8.heap HG7.out.2.1 (fun h => h)) (below_step HG7.out.2.2 hb8)))
      have HR8 := Aside0.mk (Kd.R_below HR7.out hb8)
      clear hm8 hb8 HMay HG7 HR7
      by_cases q10 : mayL K1 x y z
      case neg =>
        have d10 : decide (mayL K1 x y z) = false := decide_eq_false q10
        have hr : R = .error 2 := HT9.out.symm.trans (if_neg q10)
        subst hr
        obtain ⟨W9, hst, g0, m0⟩ := ref_store 0 0 0 none 0 0 HG8.out.2.1
        have HE := Aside0.mk (And.intro hst (And.intro g0 (Mu.below_of HG8.out.2.2 m0 (by intro i hi; omega))))
        clear hst g0 m0 q10 HT9
        go_wp2_with (first | ((with_reducible refine gate_ (.store 123 (.tmp 4) (.tmp 130)) rfl ?_); refine wpList_storeR rfl _ _ _ rfl (by rfl) (by rfl) HE.out.1 ?_))
        exact ref_fail rfl rfl rfl HE.out.2.1 HE.out.2.2
      have d10 : decide (mayL K1 x y z) = true := decide_eq_true q10
      have hr : R = .ok (K1, x, y, (segL l0 p (p + z)), p + z) := HT9.out.symm.trans (if_pos q10)
      subst hr
      obtain ⟨W9, hst, g0, m0⟩ := ref_store K1 x y A6 (segL l0 p (p + z)).length c6 HG8.out.2.1
      have HE := Aside0.mk (And.intro hst (And.intro g0 m0))
      clear hst g0 m0 q10 HT9
      go_wp2_with (first | ((with_reducible refine gate_ (.load 123 (.tmp 14)) rfl ?_); refine wpList_loadR rfl _ _ rfl (by rfl) (ref_load HG8.out.1) ?_) | ((with_reducible refine gate_ (.store 123 (.tmp 4) (.tmp 131)) rfl ?_); refine wpList_storeR rfl _ _ _ rfl (by rfl) (by rfl) HE.out.1 ?_))
      refine ⟨rfl, _, ref_results rfl rfl rfl HE.out.2.1, _, rfl, ?_, Mu.below_of HG8.out.2.2 HE.out.2.2 (by intro i hi; omega)⟩
      exact Kd.R_lower (Kd.R_mono (Kd.R_move (Kd.R_bound HR8.out) (fun k hk => HE.out.2.2.block k hk.2.2.1 (fun e => by have := hk.2.1; have := H5s.out; omega))) (fun _ _ => trivial)) HW5.out
end Go.Proofs.YtlgfmmkabnbllaaDoor.Hand
namespace Go.Proofs.YtlgfmmkabnbllaaDoor.Hand
open Go.RowKit Go.Proofs.YtlgfmmkabnbllaaDoorW.PrintWords Go.Proofs.YtlgfmmkabnbllaaDoorW.PrintLast Go.Proofs.YtlgfmmkabnbllaaDoor.PA
set_option maxRecDepth 100000 in
set_option maxHeartbeats 4000000 in
theorem ref_early {A0 : Option Addr} {c0 : Nat} {l0 : List Int} {a1 : Int} {w : World} (h : a1 < 0 ∨ (l0.length : Int) < a1) :
    Calls Tryd.prog 73 #[.slice A0 l0.length c0, .int .i64 a1] w (DecPost w (decOut (.error 1))) := by
  obtain ⟨W, hW, b0, hWb⟩ : ∃ W, w.alloc (refO 0 0 0 (.slice none 0 0)) = W ∧ W.heap[w.heap.size]? = some (refO 0 0 0 (.slice none 0 0)) ∧ Below w.heap.size w W := ⟨_, rfl, alloc_new _ _, below_alloc (Below.refl _ _) _⟩
  have HW := Aside0.mk hW
  obtain ⟨W1, hst, g0, m0⟩ := ref_store 0 0 0 none 0 0 b0
  have HE := Aside0.mk (And.intro hst (And.intro g0 (Mu.below_of hWb m0 (by intro i hi; omega))))
  have hbd := ref_build
  clear hW b0 hWb hst g0 m0
  by_cases h1 : a1 < 0
  · have e1 : decide (a1 < 0) = true := decide_eq_true h1
    go_enter Tryd.func73, Tryd.ntmps73
    go_wp2_with (first | ((with_reducible refine gate_ (.store 123 (.tmp 4) (.tmp 24)) rfl ?_); (try rw [HW.out]); refine wpList_storeR rfl _ _ _ rfl (by rfl) (by rfl) HE.out.1 ?_) | (rw [HW.out]))
    exact ref_fail rfl rfl rfl HE.out.2.1 HE.out.2.2
  · have e1 : decide (a1 < 0) = false := decide_eq_false h1
    have e2 : decide ((l0.length : Int) < a1) = true := decide_eq_true (h.resolve_left h1)
    go_enter Tryd.func73, Tryd.ntmps73
    go_wp2_with (first | ((with_reducible refine gate_ (.store 123 (.tmp 4) (.tmp 24)) rfl ?_); (try rw [HW.out]); refine wpList_storeR rfl _ _ _ rfl (by rfl) (by rfl) HE.out.1 ?_) | (rw [HW.out]))
    exact ref_fail rfl rfl rfl HE.out.2.1 HE.out.2.2
def tikref13_DecodeRecord.f (l0 : List Int) (a1 : Int) : Option (Int × Int × Int × List Int × Int × Int) :=
  if l0.all byteB = true ∧ l0.length < 140737488355328 then some (if a1 < 0 ∨ (l0.length : Int) < a1 then (0, 0, 0, [], 0, 1) else decOut (decV l0 a1)) else none
theorem tikref13_DecodeRecord.calls (A0 : Option Addr) (c0 : Nat) (l0 : List Int) (a1 : Int) (r1 r2 r3 : Int) (r4 : List Int) (r5 r6 : Int) (w : World) (hr0 : Kd.C (Kd.int .u8) w A0 l0.length l0) (hc0 : l0.length ≤ c0) (h : tikref13_DecodeRecord.f l0 a1 = some (r1, r2, r3, r4, r5, r6)) :
    Calls Tryd.prog 73 #[.slice A0 l0.length c0, .int .i64 a1] w fun e w' => ∃ v3_ : Value, e = .returned (.tuple #[.agg #[.int .i64 r1, .int .u64 r2, .int .u64 r3, v3_], .int .i64 r5, .int .i64 r6]) ∧ Kd.R (Kd.int .u8) 5 w' w.heap.size (fun _ => True) v3_ r4 ∧ Below w.heap.size w w' := by
  unfold tikref13_DecodeRecord.f at h
  split at h
  case isFalse => cases h
  rename_i hq
  have hv := Option.some.inj h
  by_cases he : a1 < 0 ∨ (l0.length : Int) < a1
  · rw [if_pos he] at hv
    have := ref_early (A0 := A0) (c0 := c0) (w := w) he
    rw [show decOut (.error 1) = (0, 0, 0, [], 0, 1) from rfl, hv] at this
    exact this
  · rw [if_neg he] at hv
    have hb : Bytes255 l0 := fun x hx => byteB_iff.1 (List.all_eq_true.1 hq.1 x hx)
    have := ref_main (R := decV l0 a1) hr0 hc0 hb hq.2 (by omega) (by omega) rfl
    rw [hv] at this
    exact this
end Go.Proofs.YtlgfmmkabnbllaaDoor.Hand
namespace Go.Proofs.YtlgfmmkabnbllaaDoor.Hand
open Go.RowKit Go.Proofs.YtlgfmmkabnbllaaDoorW.PrintWords Go.Proofs.YtlgfmmkabnbllaaDoorW.PrintLast Go.Proofs.YtlgfmmkabnbllaaDoorW.PrintMore
def rhoI : Shelf.Ren where
  f := fun x => match x with
    | 129 => 111 | 171 => 74 | 243 => 104 | 246 => 113 | 283 => 117 | 284 => 118
    | 285 => 119 | 286 => 120 | 317 => 124 | 318 => 125 | 319 => 126 | 320 => 127
    | 337 => 128 | 338 => 54 | x => x
  t := fun x => match x with
    | 0 => 0 | 2 => 2 | 3 => 3 | 4 => 4 | 5 => 5 | 9 => 9 | 20 => 20 | 37 => 64 | 46 => 54 | 51 => 114 | 53 => 28
    | 171 => 168 | 173 => 170 | 212 => 179 | 213 => 180 | 232 => 184 | 233 => 140 | x => x
  g := fun x => match x with
    | 17 => 5 | 18 => 6 | 19 => 1 | x => x
set_option maxRecDepth 100000 in
theorem laysI0 : Lays.n171 Tryd.prog rhoI := by
  constructor
  all_goals first | kernel_rfl | (intro w; kernel_rfl) | (intro w; rfl)
theorem laysI : LaysM.n171 Tryd.prog rhoI := by
  constructor
  all_goals first | exact laysI0 | kernel_rfl | (intro w; kernel_rfl) | (intro w; rfl)
def TabI (w : World) : Prop := Lib.TabIs Tryd.prog w "internal/strconv.uint64pow10" .u64 Lib.pow10Tab
theorem gI : Tryd.prog.globalNamed "internal/strconv.uint64pow10" = some 5 := by kernel_rfl
theorem tabAt {w W : World} (h : TabI w) (hb : Below w.heap.size w W) : TabI W := by
  unfold TabI Lib.TabIs World.var? at *
  rw [gI] at h ⊢
  simp only [Option.bind_some] at h ⊢
  have hlt : 5 < w.heap.size := by
    rcases Nat.lt_or_ge 5 w.heap.size with h' | h'
    · exact h'
    · rw [Array.getElem?_eq_none h'] at h; cases h
  rw [hb.block _ hlt]
  exact h
def strconv_Itoa.f (a : Int) : Option ByteArray := if -9223372036854775808 ≤ a ∧ a ≤ 9223372036854775807 then some ⟨(Lib.itoa a).toArray⟩ else none
theorem strconv_Itoa.calls (a : Int) (r : ByteArray) (w : World) (hT : TabI w) (h : strconv_Itoa.f a = some r) :
    Calls Tryd.prog 74 #[.int .i64 a] w fun e w' => e = .returned (.string r) ∧ Below w.heap.size w w' := by
  unfold strconv_Itoa.f at h
  split at h
  case isFalse => cases h
  rename_i hq
  obtain rfl := Option.some.inj h
  refine (Any.strconv_Itoa laysI a hq.1 hq.2 w hT).mono ?_
  rintro e w' ⟨rfl, k, os, rfl⟩
  exact ⟨rfl, Lib.below_grow _ _ (Nat.le_refl _) k os⟩
end Go.Proofs.YtlgfmmkabnbllaaDoor.Hand
namespace Go.Proofs.YtlgfmmkabnbllaaDoor
open Go.ChangeShapes Go.WideShapes Go.ChangeAt Go.RowKit
open Go.Proofs.YtlgfmmkabnbllaaDoorW.PrintWords Go.Proofs.YtlgfmmkabnbllaaDoor.Hand
set_option exponentiation.threshold 3000
theorem tTabI : (Tryd.prog.globals[5]?).map (·.type) = some 179 := by kernel_rfl
theorem tabI_of {W : World} (h : laidMetH Tryd.prog [("math/bits.deBruijn32tab", Rows.laid_math_bits_deBruijn32tab), ("math/bits.deBruijn64tab", Rows.laid_math_bits_deBruijn64tab), ("internal/strconv.uint64pow10", Rows.laid_internal_strconv_uint64pow10)] W) : TabI W := by
  rw [MakeChecks.laidMetH_plain _ _ _ (by kernel_rfl)] at h
  have h2 := laidMet.tail (laidMet.tail h)
  have e : (Rows.laid_internal_strconv_uint64pow10 : DataW Unit) = Lib.tabData .u64 Lib.pow10Tab := by
    unfold Rows.laid_internal_strconv_uint64pow10 Lib.tabData Lib.pow10Tab
    rfl
  rw [e] at h2
  exact Lib.tabIs_of_head gI tTabI Tryd.underlying179 Tryd.underlying28 (by kernel_rfl) (by kernel_rfl) h2
end Go.Proofs.YtlgfmmkabnbllaaDoor
namespace Go.Proofs.YtlgfmmkabnbllaaDoor.Hand
open Go.RowKit Go.Proofs.YtlgfmmkabnbllaaDoorW.PrintWords Go.Proofs.YtlgfmmkabnbllaaDoorW.PrintLast Go.Proofs.YtlgfmmkabnbllaaDoorW.PrintMore Go.Proofs.YtlgfmmkabnbllaaDoor.PA
def MLit (e : TypeId) (w : World) (base : Nat) (v : Value) (xs : List Int) : Prop :=
  ∃ g, v = .slice (some ⟨g, 0, none⟩) xs.length xs.length ∧ base ≤ g ∧ g < w.heap.size ∧ ∀ (j : Nat) u, (xs.map (Value.int .u8))[j]? = some u → w.cell? ⟨g, j, none⟩ = some u
theorem MLit.below {e : TypeId} {w w1 : World} {base : Nat} {v : Value} {xs : List Int} (h : MLit e w base v xs) (hb : Below w.heap.size w w1) : MLit e w1 base v xs := by
  obtain ⟨g, hv, hg, hl, hc⟩ := h
  exact ⟨g, hv, hg, Nat.lt_of_lt_of_le hl hb.size, fun j u hu => (hb.cell hl).trans (hc j u hu)⟩
theorem MLit.lower {e : TypeId} {w : World} {base base' : Nat} {v : Value} {xs : List Int} (h : MLit e w base v xs) (hb : base' ≤ base) : MLit e w base' v xs := by
  obtain ⟨g, hv, hg, r⟩ := h
  exact ⟨g, hv, Nat.le_trans hb hg, r⟩
theorem add_at (b i j : Nat) : (⟨b, i, none⟩ : Addr).add j = ⟨b, i + j, none⟩ := by rw [Lib.add_plain2]
section
variable {P : Program} {ops rest : List Oper} {Ops : Array Oper} {a : Act} {Q : Exit → Act → World → Prop}
theorem lit_marked {o1 o2 : Oper} {w0 W : World} (base t e : Nat) {N : Tmp} (hg1 : o1.guard = none) (hg2 : o2.guard = none) (hd1 : o1.dst = some N) (ho2 : o2.op = .convert t t (.tmp N))
    (hev : ∀ v, (a.put o1.dst v).eval (.tmp N) = v) (ht : P.underlying t = some (.slice e)) (he : P.underlying e = some (.int .u8)) {xs : List Int} {inner : List Value} (hin : inner = xs.map (Value.int .u8))
    (hrun : (execOp a.eval o1).run P W = .ok (.value (.slice (some ⟨W.heap.size, 0, none⟩) xs.length xs.length)) (W.alloc (.cells inner.toArray e)))
    (HB : Below base w0 W) (hbase : base ≤ W.heap.size)
    (h : ∀ v1 w1, MLit e w1 base v1 xs → Below base w0 w1 → Below W.heap.size W w1 → wpList P Ops Q rest ((a.put o1.dst v1).put o2.dst v1) w1) : wpList P Ops Q (o1 :: o2 :: rest) a W := by
  refine Kd.event_run hg1 hrun (Kd.event_run (w1 := W.alloc (.cells inner.toArray e (inner.toArray.size, inner.toArray.size + 1))) hg2 ?_ (h _ _ ⟨W.heap.size, rfl, hbase, by simp, fun j u hu => ?_⟩ (HB.alloc hbase _) ((Below.refl _ _).alloc (Nat.le_refl _) _)))
  · unfold execOp
    simp only [ho2, hev]
    rw [Sem.run_bind, Lib.run_convert_bytes_const W t e inner.toArray xs.length xs.length ht he]
    rfl
  · rw [← hin] at hu
    rw [World.cell?_alloc_mark W inner.toArray e _ j]
    simpa using hu
theorem reps_ints {w : World} {b : Nat} {ok : Nat → Prop} (l : List Int) : Reps ((Kd.int .u8).M w b ok) 1 l (l.map (Value.int .u8)) := by
  refine ⟨by simp, fun j p hj => ?_⟩
  have : ((l.map (Value.int .u8)).drop (j * 1)).take 1 = [.int .u8 p] := by
    rw [Nat.mul_one]
    have hlt : j < l.length := (List.getElem?_eq_some_iff.1 hj).1
    apply List.ext_getElem?
    intro i
    rcases Nat.eq_zero_or_pos i with rfl | hi
    · simp [hj]
    · rw [List.getElem?_eq_none (by simp; omega), List.getElem?_eq_none (by simp; omega)]
  rw [this]
  exact rfl
theorem append_marked {o : Oper} {w0 W : World} (base : Nat) (hgd : o.guard = none) (s x : Operand) (t e : TypeId)
    (ho : o.op = .call { callee := .builtin .append, args := #[s, x], argTypes := #[t, t] })
    (ht : P.underlying t = some (.slice e)) (hinfo : (P.info? e).map (fun i => (i.zero, i.size, i.bytes)) = some (some (.int .u8 0), 1, 1))
    (v : Value) (xs ys : List Int) (A : Option Addr) (m c : Nat) (ok : Nat → Prop) (hs : a.eval s = v) (hx : a.eval x = .slice A m c)
    (HO : MLit e W base v xs) (HR : (Kd.int .u8).C W A m ys) (hm : 0 < m) (hfresh : ∀ k, W.heap.size ≤ k → ok k)
    (HB : Below base w0 W) (hbase : base ≤ W.heap.size) (hl : (xs.length + m) ≤ 140737488355328)
    (h : ∀ v1 w1, (Kd.int .u8).R e w1 base ok v1 (xs ++ ys) → Below base w0 w1 → Below W.heap.size W w1 → (∀ k, v1.ownBlock = some k → W.heap.size ≤ k) → wpList P Ops Q rest (a.put o.dst v1) w1) :
    wpList P Ops Q (o :: rest) a W := by
  obtain ⟨i, hi, hzz⟩ := Option.map_eq_some_iff.1 hinfo
  simp only [Prod.mk.injEq] at hzz
  obtain ⟨hz, hsz, hby⟩ := hzz
  obtain ⟨g, rfl, hg, hgl, hc⟩ := HO
  have hym : ys.length = m := HR.1
  obtain ⟨ad, rfl, hcs⟩ := HR.2.2 hm
  have hr := run_append_grow (P := P) W t o.type e i (.int .u8 0) ht hi hz ⟨g, 0, none⟩ xs.length xs.length (xs.map (Value.int .u8)) (by rw [List.length_map, hsz, Nat.mul_one])
    (fun j u hj => by rw [add_at, Nat.zero_add]; exact hc j u hj) ad m c (ys.map (Value.int .u8)) (by rw [List.length_map, hym, hsz, Nat.mul_one])
    (fun j u hj => by
      rw [List.getElem?_map] at hj
      obtain ⟨p, hp, rfl⟩ := Option.map_eq_some_iff.1 hj
      obtain ⟨cs, _, hk, hcell⟩ := hcs j p hp
      obtain rfl : cs = [.int .u8 p] := hk
      have h1 := hcell 0 _ rfl
      simpa [Kd.int, Kd.scalar] using h1)
    (by omega) (by omega) (growslice_fits (by omega) (by rw [hby]; omega))
  have hge := grownCap_ge W (xs.length + m) xs.length e
  have hcm : grownCap W (xs.length + m) xs.length e ≤ maxLen := grownCap_le_maxLen W (xs.length + m) xs.length e (by unfold maxLen; omega)
  generalize grownCap W (xs.length + m) xs.length e = cap at hr hge hcm
  refine Lib.wpList_append_run_sl W hgd s x t ho _ _ hs hx hr (h _ _ ⟨fun k hk => ?_, (xs ++ ys).map (Value.int .u8), ⟨by simp [Kd.int, Kd.scalar], .inr ⟨W.heap.size, cap, _, by rw [List.length_append, hym], hbase, heap_alloc_new W.drew _, by rw [List.length_append, hym]; exact hge, hcm, ?_, ?_⟩⟩, reps_ints _⟩ (below_drew1 HB |>.alloc hbase _) ((below_drew1 (Below.refl _ _)).alloc (Nat.le_refl _) _) (fun k hk => ?_))
  · have : W.heap.size = k := by simpa [Value.ownBlock] using hk
    exact hfresh k (by omega)
  · simp [Kd.int, Kd.scalar, Builtin.zeroCells, Value.cells, hym]; omega
  · have e1 : (xs ++ ys).length * (Kd.int .u8).sz = (xs.map (Value.int .u8) ++ ys.map (Value.int .u8)).length := by simp [Kd.int, Kd.scalar]
    rw [e1, Array.toList_append, Array.toList_append, List.take_append_of_le_length (by simp), List.map_append]
    exact List.take_of_length_le (by simp)
  · have : W.heap.size = k := by simpa [Value.ownBlock] using hk
    omega
end
theorem four_len {x : Int} {t : List Int} (h : wire_Four.f x = some t) : t.length = 4 := by
  obtain rfl := Option.some.inj h
  rfl
end Go.Proofs.YtlgfmmkabnbllaaDoor.Hand
namespace Go.Proofs.YtlgfmmkabnbllaaDoor.PS
open Go.RowKit Go.Proofs.YtlgfmmkabnbllaaDoorW.PrintWords Go.Proofs.YtlgfmmkabnbllaaDoorW.PrintLast Go.Proofs.YtlgfmmkabnbllaaDoorW.PrintMore
attribute [local go_sem] max2_int min2_int max_two min_two max_three min_three max_four min_four
open Go.Proofs.YtlgfmmkabnbllaaDoor.Hand
open Go.Proofs.YtlgfmmkabnbllaaDoor.PA
set_option linter.unusedVariables false
set_option linter.unusedSimpArgs false
def errW : Option Int → Value
 | none => .nilIface
 | some c => .iface 0 (.int .i64 c)
theorem errW_none : errW none = .nilIface := rfl
theorem errW_some (c : Int) : errW (some c) = .iface 0 (.int .i64 c) := rfl
theorem info5 : (Tryd.prog.info? 5).map (fun i => (i.zero, i.size, i.bytes)) = some (some (.int .u8 0), 1, 1) := by kernel_rfl
theorem info93 : (Tryd.prog.info? 93).map (fun i => (i.zero, i.size, i.bytes)) = some (some (.agg #[(.int .i64 0), (.int .u64 0), (.int .u64 0), (.slice none 0 0), (.int .i64 0), (.int .i64 0)]), 6, 64) := by kernel_rfl
theorem info127 : (Tryd.prog.info? 127).map (fun i => (i.zero, i.size, i.bytes)) = some (some (.agg #[(.int .i64 0), (.int .u64 0), (.int .u64 0), (.slice none 0 0), (.int .i64 0), (.int .i64 0)]), 6, 64) := by kernel_rfl
structure S88 where
 f0 : Int
 f1 : Int
 f2 : Int
 f3 : (List Int)
def z88 : S88 := ⟨(0 : Int), (0 : Int), (0 : Int), ([] : List Int)⟩
def k88 : Kd S88 := Kd.iso (Kd.pair (Kd.int .i64) (Kd.pair (Kd.int .u64) (Kd.pair (Kd.int .u64) (Kd.slice 5 (Kd.int .u8))))) (fun x : S88 => (x.f0, x.f1, x.f2, x.f3))
theorem k88_open {w : World} {x : S88} {cs : List Value} (h : k88.K w x cs) : ∃ A3 c3, cs = [.int .i64 x.f0, .int .u64 x.f1, .int .u64 x.f2, .slice A3 x.f3.length c3] ∧ x.f3.length ≤ c3 ∧ (Kd.int .u8).C w A3 x.f3.length x.f3 := by
 obtain ⟨_, _, rfl, rfl, ⟨_, _, rfl, rfl, ⟨_, _, rfl, rfl, ⟨A3, c3, rfl, l3, g3⟩⟩⟩⟩ := h
 exact ⟨A3, c3, rfl, l3, g3⟩
theorem k88_mkM (w : World) (base : Nat) (ok : Nat → Prop) (x : S88) {v3 : Value} (g3 : (Kd.int .u8).R 5 w base ok v3 x.f3) : k88.M w base ok x [.int .i64 x.f0, .int .u64 x.f1, .int .u64 x.f2, v3] := ⟨[.int .i64 x.f0], [.int .u64 x.f1, .int .u64 x.f2, v3], rfl, rfl, ⟨[.int .u64 x.f1], [.int .u64 x.f2, v3], rfl, rfl, ⟨[.int .u64 x.f2], [v3], rfl, rfl, ⟨v3, rfl, g3⟩⟩⟩⟩
def rd_T88 (xs : List S88) (i : Int) : S88 := xs.getD i.toNat z88
structure S93 where
 f0 : S88
 f1 : Int
 f2 : Int
def z93 : S93 := ⟨z88, (0 : Int), (0 : Int)⟩
def k93 : Kd S93 := Kd.iso (Kd.pair k88 (Kd.pair (Kd.int .i64) (Kd.int .i64))) (fun x : S93 => (x.f0, x.f1, x.f2))
theorem k93_open {w : World} {x : S93} {cs : List Value} (h : k93.K w x cs) : ∃ A3 c3, cs = [.int .i64 x.f0.f0, .int .u64 x.f0.f1, .int .u64 x.f0.f2, .slice A3 x.f0.f3.length c3, .int .i64 x.f1, .int .i64 x.f2] ∧ x.f0.f3.length ≤ c3 ∧ (Kd.int .u8).C w A3 x.f0.f3.length x.f0.f3 := by
 obtain ⟨_, _, rfl, s0, ⟨_, _, rfl, rfl, rfl⟩⟩ := h; obtain ⟨A3, c3, rfl, l3, g3⟩ := k88_open s0
 exact ⟨A3, c3, rfl, l3, g3⟩
theorem k93_mkM (w : World) (base : Nat) (ok : Nat → Prop) (x : S93) {v3 : Value} (g3 : (Kd.int .u8).R 5 w base ok v3 x.f0.f3) : k93.M w base ok x [.int .i64 x.f0.f0, .int .u64 x.f0.f1, .int .u64 x.f0.f2, v3, .int .i64 x.f1, .int .i64 x.f2] := ⟨[.int .i64 x.f0.f0, .int .u64 x.f0.f1, .int .u64 x.f0.f2, v3], [.int .i64 x.f1, .int .i64 x.f2], rfl, (k88_mkM w base ok x.f0 g3), ⟨[.int .i64 x.f1], [.int .i64 x.f2], rfl, rfl, rfl⟩⟩
theorem k93_openF {W : World} {ok : Nat → Prop} {x : S93} {cs : List Value} (h : Kd.FK k93 W ok x cs) : ∃ A3 c3, cs = [.int .i64 x.f0.f0, .int .u64 x.f0.f1, .int .u64 x.f0.f2, .slice A3 x.f0.f3.length c3, .int .i64 x.f1, .int .i64 x.f2] ∧ x.f0.f3.length ≤ c3 ∧ Kd.F (Kd.int .u8) W ok A3 x.f0.f3.length x.f0.f3 := by
 obtain ⟨A3, c3, rfl, l3, _⟩ := k93_open (Kd.FK_now h)
 exact ⟨A3, c3, rfl, l3, (fun W' hW => by obtain ⟨A3_, c3_, he, l3_, g3_⟩ := k93_open (h W' hW); injection (Option.some.inj (show some (Value.slice A3 x.f0.f3.length c3) = some (Value.slice A3_ x.f0.f3.length c3_) from congrArg (fun l => l[3]?) he)) with ha_ _ _; rw [ha_]; exact g3_)⟩
def rd_T93 (xs : List S93) (i : Int) : S93 := xs.getD i.toNat z93
theorem at_T93 {w : World} {A : Option Addr} {n : Nat} {xs : List S93} (h : Kd.C k93 w A n xs) (i : Int) (h0 : 0 ≤ i) (h1 : i < n) : ∃ ad A3 c3, A = some ad ∧ w.cell? (ad.add (i.toNat * 6)) = some (.int .i64 (rd_T93 xs i).f0.f0) ∧ w.cell? ⟨(ad.add (i.toNat * 6)).block, (ad.add (i.toNat * 6)).off + 1, none⟩ = some (.int .u64 (rd_T93 xs i).f0.f1) ∧ w.cell? ⟨(ad.add (i.toNat * 6)).block, (ad.add (i.toNat * 6)).off + 2, none⟩ = some (.int .u64 (rd_T93 xs i).f0.f2) ∧ w.cell? ⟨(ad.add (i.toNat * 6)).block, (ad.add (i.toNat * 6)).off + 3, none⟩ = some (.slice A3 (rd_T93 xs i).f0.f3.length c3) ∧ w.cell? ⟨(ad.add (i.toNat * 6)).block, (ad.add (i.toNat * 6)).off + 4, none⟩ = some (.int .i64 (rd_T93 xs i).f1) ∧ w.cell? ⟨(ad.add (i.toNat * 6)).block, (ad.add (i.toNat * 6)).off + 5, none⟩ = some (.int .i64 (rd_T93 xs i).f2) ∧ (rd_T93 xs i).f0.f3.length ≤ c3 ∧ (Kd.int .u8).C w A3 (rd_T93 xs i).f0.f3.length (rd_T93 xs i).f0.f3 := by
 obtain ⟨ad, c, e, _, hK, hc0⟩ := Kd.C_get h z93 i h0 h1
 have hc : ∀ j u, c[j]? = some u → w.cell? (ad.add (i.toNat * 6 + j)) = some u := hc0
 obtain ⟨A3, c3, rfl, l3, g3⟩ := k93_open hK
 exact ⟨ad, A3, c3, e, hc 0 _ rfl, by rw [← add_field _ _ 1 (by omega)]; exact hc 1 _ rfl, by rw [← add_field _ _ 2 (by omega)]; exact hc 2 _ rfl, by rw [← add_field _ _ 3 (by omega)]; exact hc 3 _ rfl, by rw [← add_field _ _ 4 (by omega)]; exact hc 4 _ rfl, by rw [← add_field _ _ 5 (by omega)]; exact hc 5 _ rfl, l3, g3⟩
structure S123 where
 f0 : Int
 f1 : Int
 f2 : Int
 f3 : (List Int)
def z123 : S123 := ⟨(0 : Int), (0 : Int), (0 : Int), ([] : List Int)⟩
def k123 : Kd S123 := Kd.iso (Kd.pair (Kd.int .i64) (Kd.pair (Kd.int .u64) (Kd.pair (Kd.int .u64) (Kd.slice 5 (Kd.int .u8))))) (fun x : S123 => (x.f0, x.f1, x.f2, x.f3))
theorem k123_open {w : World} {x : S123} {cs : List Value} (h : k123.K w x cs) : ∃ A3 c3, cs = [.int .i64 x.f0, .int .u64 x.f1, .int .u64 x.f2, .slice A3 x.f3.length c3] ∧ x.f3.length ≤ c3 ∧ (Kd.int .u8).C w A3 x.f3.length x.f3 := by
 obtain ⟨_, _, rfl, rfl, ⟨_, _, rfl, rfl, ⟨_, _, rfl, rfl, ⟨A3, c3, rfl, l3, g3⟩⟩⟩⟩ := h
 exact ⟨A3, c3, rfl, l3, g3⟩
theorem k123_openM {w : World} {base : Nat} {ok : Nat → Prop} {x : S123} {cs : List Value} (h : k123.M w base ok x cs) : ∃ v3, cs = [.int .i64 x.f0, .int .u64 x.f1, .int .u64 x.f2, v3] ∧ (Kd.int .u8).R 5 w base ok v3 x.f3 := by
 obtain ⟨_, _, rfl, rfl, ⟨_, _, rfl, rfl, ⟨_, _, rfl, rfl, ⟨v3, rfl, g3⟩⟩⟩⟩ := h
 exact ⟨v3, rfl, g3⟩
theorem k123_mk (w : World) (x : S123) {A3 : Option Addr} {c3 : Nat} (l3 : x.f3.length ≤ c3) (g3 : (Kd.int .u8).C w A3 x.f3.length x.f3) : k123.K w x [.int .i64 x.f0, .int .u64 x.f1, .int .u64 x.f2, .slice A3 x.f3.length c3] := ⟨[.int .i64 x.f0], [.int .u64 x.f1, .int .u64 x.f2, .slice A3 x.f3.length c3], rfl, rfl, ⟨[.int .u64 x.f1], [.int .u64 x.f2, .slice A3 x.f3.length c3], rfl, rfl, ⟨[.int .u64 x.f2], [.slice A3 x.f3.length c3], rfl, rfl, ⟨A3, c3, rfl, l3, g3⟩⟩⟩⟩
theorem k123_mkM (w : World) (base : Nat) (ok : Nat → Prop) (x : S123) {v3 : Value} (g3 : (Kd.int .u8).R 5 w base ok v3 x.f3) : k123.M w base ok x [.int .i64 x.f0, .int .u64 x.f1, .int .u64 x.f2, v3] := ⟨[.int .i64 x.f0], [.int .u64 x.f1, .int .u64 x.f2, v3], rfl, rfl, ⟨[.int .u64 x.f1], [.int .u64 x.f2, v3], rfl, rfl, ⟨[.int .u64 x.f2], [v3], rfl, rfl, ⟨v3, rfl, g3⟩⟩⟩⟩
structure S127 where
 f0 : S123
 f1 : Int
 f2 : Int
def z127 : S127 := ⟨z123, (0 : Int), (0 : Int)⟩
def k127 : Kd S127 := Kd.iso (Kd.pair k123 (Kd.pair (Kd.int .i64) (Kd.int .i64))) (fun x : S127 => (x.f0, x.f1, x.f2))
theorem k127_open {w : World} {x : S127} {cs : List Value} (h : k127.K w x cs) : ∃ A3 c3, cs = [.int .i64 x.f0.f0, .int .u64 x.f0.f1, .int .u64 x.f0.f2, .slice A3 x.f0.f3.length c3, .int .i64 x.f1, .int .i64 x.f2] ∧ x.f0.f3.length ≤ c3 ∧ (Kd.int .u8).C w A3 x.f0.f3.length x.f0.f3 := by
 obtain ⟨_, _, rfl, s0, ⟨_, _, rfl, rfl, rfl⟩⟩ := h; obtain ⟨A3, c3, rfl, l3, g3⟩ := k123_open s0
 exact ⟨A3, c3, rfl, l3, g3⟩
theorem k127_openM {w : World} {base : Nat} {ok : Nat → Prop} {x : S127} {cs : List Value} (h : k127.M w base ok x cs) : ∃ v3, cs = [.int .i64 x.f0.f0, .int .u64 x.f0.f1, .int .u64 x.f0.f2, v3, .int .i64 x.f1, .int .i64 x.f2] ∧ (Kd.int .u8).R 5 w base ok v3 x.f0.f3 := by
 obtain ⟨_, _, rfl, s0, ⟨_, _, rfl, rfl, rfl⟩⟩ := h; obtain ⟨v3, rfl, g3⟩ := k123_openM s0
 exact ⟨v3, rfl, g3⟩
theorem k127_mk (w : World) (x : S127) {A3 : Option Addr} {c3 : Nat} (l3 : x.f0.f3.length ≤ c3) (g3 : (Kd.int .u8).C w A3 x.f0.f3.length x.f0.f3) : k127.K w x [.int .i64 x.f0.f0, .int .u64 x.f0.f1, .int .u64 x.f0.f2, .slice A3 x.f0.f3.length c3, .int .i64 x.f1, .int .i64 x.f2] := ⟨[.int .i64 x.f0.f0, .int .u64 x.f0.f1, .int .u64 x.f0.f2, .slice A3 x.f0.f3.length c3], [.int .i64 x.f1, .int .i64 x.f2], rfl, (k123_mk w x.f0 l3 g3), ⟨[.int .i64 x.f1], [.int .i64 x.f2], rfl, rfl, rfl⟩⟩
theorem k127_mkM (w : World) (base : Nat) (ok : Nat → Prop) (x : S127) {v3 : Value} (g3 : (Kd.int .u8).R 5 w base ok v3 x.f0.f3) : k127.M w base ok x [.int .i64 x.f0.f0, .int .u64 x.f0.f1, .int .u64 x.f0.f2, v3, .int .i64 x.f1, .int .i64 x.f2] := ⟨[.int .i64 x.f0.f0, .int .u64 x.f0.f1, .int .u64 x.f0.f2, v3], [.int .i64 x.f1, .int .i64 x.f2], rfl, (k123_mkM w base ok x.f0 g3), ⟨[.int .i64 x.f1], [.int .i64 x.f2], rfl, rfl, rfl⟩⟩
theorem k127_mkF (W : World) (ok : Nat → Prop) (x : S127) {A3 : Option Addr} {c3 : Nat} (l3 : x.f0.f3.length ≤ c3) (g3 : Kd.F (Kd.int .u8) W ok A3 x.f0.f3.length x.f0.f3) : Kd.FK k127 W ok x [.int .i64 x.f0.f0, .int .u64 x.f0.f1, .int .u64 x.f0.f2, .slice A3 x.f0.f3.length c3, .int .i64 x.f1, .int .i64 x.f2] := fun W2 hW => k127_mk W2 x l3 (g3 W2 hW)
def rd_T127 (xs : List S127) (i : Int) : S127 := xs.getD i.toNat z127
theorem at_T127 {w : World} {A : Option Addr} {n : Nat} {xs : List S127} (h : Kd.C k127 w A n xs) (i : Int) (h0 : 0 ≤ i) (h1 : i < n) : ∃ ad A3 c3, A = some ad ∧ w.cell? (ad.add (i.toNat * 6)) = some (.int .i64 (rd_T127 xs i).f0.f0) ∧ w.cell? ⟨(ad.add (i.toNat * 6)).block, (ad.add (i.toNat * 6)).off + 1, none⟩ = some (.int .u64 (rd_T127 xs i).f0.f1) ∧ w.cell? ⟨(ad.add (i.toNat * 6)).block, (ad.add (i.toNat * 6)).off + 2, none⟩ = some (.int .u64 (rd_T127 xs i).f0.f2) ∧ w.cell? ⟨(ad.add (i.toNat * 6)).block, (ad.add (i.toNat * 6)).off + 3, none⟩ = some (.slice A3 (rd_T127 xs i).f0.f3.length c3) ∧ w.cell? ⟨(ad.add (i.toNat * 6)).block, (ad.add (i.toNat * 6)).off + 4, none⟩ = some (.int .i64 (rd_T127 xs i).f1) ∧ w.cell? ⟨(ad.add (i.toNat * 6)).block, (ad.add (i.toNat * 6)).off + 5, none⟩ = some (.int .i64 (rd_T127 xs i).f2) ∧ (rd_T127 xs i).f0.f3.length ≤ c3 ∧ (Kd.int .u8).C w A3 (rd_T127 xs i).f0.f3.length (rd_T127 xs i).f0.f3 := by
 obtain ⟨ad, c, e, _, hK, hc0⟩ := Kd.C_get h z127 i h0 h1
 have hc : ∀ j u, c[j]? = some u → w.cell? (ad.add (i.toNat * 6 + j)) = some u := hc0
 obtain ⟨A3, c3, rfl, l3, g3⟩ := k127_open hK
 exact ⟨ad, A3, c3, e, hc 0 _ rfl, by rw [← add_field _ _ 1 (by omega)]; exact hc 1 _ rfl, by rw [← add_field _ _ 2 (by omega)]; exact hc 2 _ rfl, by rw [← add_field _ _ 3 (by omega)]; exact hc 3 _ rfl, by rw [← add_field _ _ 4 (by omega)]; exact hc 4 _ rfl, by rw [← add_field _ _ 5 (by omega)]; exact hc 5 _ rfl, l3, g3⟩
end Go.Proofs.YtlgfmmkabnbllaaDoor.PS
namespace Go.Proofs.YtlgfmmkabnbllaaDoor.PS
open Go.RowKit Go.Proofs.YtlgfmmkabnbllaaDoorW.PrintWords Go.Proofs.YtlgfmmkabnbllaaDoorW.PrintLast Go.Proofs.YtlgfmmkabnbllaaDoorW.PrintMore
attribute [local go_sem] max2_int min2_int max_two min_two max_three min_three max_four min_four
open Go.Proofs.YtlgfmmkabnbllaaDoor.Hand
open Go.Proofs.YtlgfmmkabnbllaaDoor.PA
set_option linter.unusedVariables false
set_option linter.unusedSimpArgs false
def seg_Name.f (a0 : Int) : Option (ByteArray) := if a0 < 1 then (some (⟨#[]⟩ : ByteArray)) else (if a0 > 999999 then (some (⟨#[]⟩ : ByteArray)) else ((strconv_Itoa.f (wrap64 (1000000 + a0))).bind fun t101 => (if 1 ≤ (t101.size : Int) then (if 1 + (t101.extract 1 t101.size).size ≤ 9223372036854775807 then (some ((⟨#[115]⟩ : ByteArray) ++ (t101.extract 1 t101.size))) else (none)) else (none))))
set_option maxHeartbeats 8000000 in
set_option maxRecDepth 100000 in
theorem seg_Name.calls (a0 : Int) (r : ByteArray) (w : World) (hT : TabI w) (h : seg_Name.f a0 = some r) :
  Calls Tryd.prog 36 #[.int .i64 a0] w fun e w' => e = .returned (.string r) ∧ Below w.heap.size w w' := by
 have HT := Aside0.mk hT; clear hT; have HB := Aside0.mk (Below.refl w.heap.size w); have H : (if a0 < 1 then (some (⟨#[]⟩ : ByteArray)) else (if a0 > 999999 then (some (⟨#[]⟩ : ByteArray)) else ((strconv_Itoa.f (wrap64 (1000000 + a0))).bind fun t101 => (if 1 ≤ (t101.size : Int) then (if 1 + (t101.extract 1 t101.size).size ≤ 9223372036854775807 then (some ((⟨#[115]⟩ : ByteArray) ++ (t101.extract 1 t101.size))) else (none)) else (none))))) = some r := h; clear h
 by_cases c2 : a0 < 1
 ·rw [if_pos c2] at H
  have c2b0 : decide (a0 < 1) = true := decide_eq_true c2; clear c2; obtain rfl := Option.some.inj H
  go_enter Tryd.func36, Tryd.ntmps36
  go_wp2
  go_ret
  exact ⟨by first | rfl | (simp [errW_none, errW_some] <;> rfl) | (simp [*, errW_none, errW_some] <;> rfl), by repeat (first | (with_reducible first | exact HB.out | apply yA | apply yN | apply yD) | exact HB.out)⟩
 (rw [if_neg c2] at H); have c2b0 : decide (a0 < 1) = false := decide_eq_false c2; clear c2
 by_cases c3 : a0 > 999999
 ·rw [if_pos c3] at H
  have c3b0 : decide (999999 < a0) = true := decide_eq_true c3; clear c3; obtain rfl := Option.some.inj H
  go_enter Tryd.func36, Tryd.ntmps36
  go_wp2
  go_ret
  exact ⟨by first | rfl | (simp [errW_none, errW_some] <;> rfl) | (simp [*, errW_none, errW_some] <;> rfl), by repeat (first | (with_reducible first | exact HB.out | apply yA | apply yN | apply yD) | exact HB.out)⟩
 (rw [if_neg c3] at H); have c3b0 : decide (999999 < a0) = false := decide_eq_false c3; clear c3; replace H := Option.bind_eq_some_iff.mp H; obtain ⟨t101, A40, H⟩ := H; replace H : (if 1 ≤ (t101.size : Int) then (if 1 + (t101.extract 1 t101.size).size ≤ 9223372036854775807 then (some ((⟨#[115]⟩ : ByteArray) ++ (t101.extract 1 t101.size))) else (none)) else (none)) = some r := H; have A4 := Aside0.mk A40; clear A40
 by_cases c5 : 1 ≤ (t101.size : Int)
 rotate_left
 ·rw [if_neg c5] at H
  exact absurd H (by simp)
 (rw [if_pos c5] at H); have c5b0 := eq_true c5; have c5b1 : decide (1 ≤ (t101.size : Int)) = true := decide_eq_true c5; clear c5
 by_cases c6 : 1 + (t101.extract 1 t101.size).size ≤ 9223372036854775807
 rotate_left
 ·rw [if_neg c6] at H
  exact absurd H (by simp)
 (rw [if_pos c6] at H); have c6b0 := eq_true c6; have c6b1 : decide (1 + (t101.extract 1 t101.size).size ≤ 9223372036854775807) = true := decide_eq_true c6
 try have c6b2 : (9223372036854775807 < 1 + (t101.extract 1 t101.size).size) = False := eq_false (Nat.not_lt.2 c6)
 try have c6b3 : (9223372036854775807 < 1 + (t101.size - 1)) = False := by have z_ := c6; simp only [ByteArray.size_extract, Nat.min_self] at z_; exact eq_false (by omega)
 obtain rfl := Option.some.inj H
 go_enter Tryd.func36, Tryd.ntmps36
 go_wp2_with (first | ((with_reducible refine gate_callee (f := 74) rfl ?_); refine goesL_ (some 11) rfl rfl Tryd.func74 (by kernel_rfl) rfl #[.int .i64 (wrap64 (1000000 + a0))] rfl (by (try simp only [List.map_toArray, List.map_cons, List.map_nil]); first | done | rfl | (simp only [List.length_drop, List.length_take]; rfl)) ?_; (with_reducible refine (strconv_Itoa.calls (wrap64 (1000000 + a0)) t101 _ ?side1 A4.out).mono ?_); (case side1 => first | (with_reducible exact HT.out) | exact tabAt HT.out (hx_ HB)); rintro e w7 ⟨rfl, hb⟩; refine ⟨_, rfl, ?_⟩; have n0_ := Aside0.mk (below_step (hx_ HB) hb); clear HB; have HB := n0_; clear n0_; (try clear hb); (try clear hb2); (try clear hk); (try clear hi)))
 go_ret
 exact ⟨by first | rfl | (simp [errW_none, errW_some] <;> rfl) | (simp [*, errW_none, errW_some] <;> rfl), by repeat (first | (with_reducible first | exact HB.out | apply yA | apply yN | apply yD) | exact HB.out)⟩
def seg_Number.l0 : Nat → ByteArray → Int → Int → Option (Int × Bool)
 | 0, _, _, _ => none
 | k + 1, x0, x4, x5 => if x5 < (x0.size : Int) then (if x5 ≤ 6 then (if 0 ≤ x5 then (seg_Number.l0 k x0 (wrap64 ((wrap64 ((wrap64 (x4 * 10)) + (wrap64 (bt x0 x5)))) - 48)) (wrap64 (x5 + 1))) else (none)) else (if x4 < 1 then (some (0, false)) else ((seg_Name.f x4).bind fun t102 => (if t102.toList = x0.toList then (some (x4, true)) else (some (0, false)))))) else (if x4 < 1 then (some (0, false)) else ((seg_Name.f x4).bind fun t103 => (if t103.toList = x0.toList then (some (x4, true)) else (some (0, false)))))
def seg_Number.f (k : Nat) (a0 : ByteArray) : Option (Int × Bool) := seg_Number.l0 k a0 0 1
set_option maxHeartbeats 8000000 in
set_option maxRecDepth 100000 in
theorem seg_Number.calls (k : Nat) (a0 : ByteArray) (r1 : Int) (r2 : Bool) (w : World) (hT : TabI w) (h : seg_Number.f k a0 = some (r1, r2)) :
  Calls Tryd.prog 30 #[.string a0] w fun e w' => e = .returned (.tuple #[.int .i64 r1, .bool r2]) ∧ Below w.heap.size w w' := by
 have HT := Aside0.mk hT; clear hT; have HB := Aside0.mk (Below.refl w.heap.size w); have H : (seg_Number.l0 k a0 0 1) = some (r1, r2) := h; clear h; have H' := Aside0.mk H; clear H
 go_enter Tryd.func30, Tryd.ntmps30
 go_wp2
 go_loopg [4, 5] k (fun kq v4 v5 w' => ∃ (x4_1 : Int) (x5_1 : Int), v4 = .int .i64 x4_1 ∧ v5 = .int .i64 x5_1 ∧ Aside0 (seg_Number.l0 kq a0 x4_1 x5_1 = some (r1, r2)) ∧ Aside0 (kq ≤ k) ∧ Aside0 (Below w.heap.size w w'))
 case atStart => exact ⟨(0), (1), (by first | rfl | (simp; done) | (simp [*]; done)), (by first | rfl | (simp; done) | (simp [*]; done)), H', ⟨Nat.le_refl _⟩, ⟨by repeat (first | (with_reducible first | exact HB.out | apply yA | apply yN | apply yD) | exact HB.out)⟩⟩
 case round =>
  clear H'; obtain ⟨x4_1, x5_1, rfl, rfl, HA, HK1, HB⟩ := hrel
  cases gk with
  | zero => exact absurd HA.out (by simp [seg_Number.l0])
  | succ k1 =>
   have H := HA.out; clear HA; (simp only [seg_Number.l0] at H)
   by_cases c2 : x5_1 < (a0.size : Int)
   rotate_left
   ·rw [if_neg c2] at H
    have c2b0 : decide (x5_1 < (a0.size : Int)) = false := decide_eq_false c2; clear c2
    by_cases c11 : x4_1 < 1
    ·rw [if_pos c11] at H
     have c11b0 : decide (x4_1 < 1) = true := decide_eq_true c11; clear c11; (simp only [Option.some.injEq, Prod.mk.injEq] at H); obtain ⟨rfl, rfl⟩ := H
     go_wp2
     go_ret2
     exact ⟨by first | rfl | (simp [errW_none, errW_some] <;> rfl) | (simp [*, errW_none, errW_some] <;> rfl), by repeat (first | (with_reducible first | exact HB.out | apply yA | apply yN | apply yD) | exact HB.out)⟩
    (rw [if_neg c11] at H); have c11b0 : decide (x4_1 < 1) = false := decide_eq_false c11; clear c11; replace H := Option.bind_eq_some_iff.mp H; obtain ⟨t103, A120, H⟩ := H; replace H : (if t103.toList = a0.toList then (some (x4_1, true)) else (some (0, false))) = some (r1, r2) := H; have A12 := Aside0.mk A120; clear A120
    by_cases c13 : t103.toList = a0.toList
    ·rw [if_pos c13] at H
     have c13b0 : (t103.toList == a0.toList) = true := beq_iff_eq.mpr c13; have c13b1 : (t103.toList != a0.toList) = false := bne_eq_false_iff_eq.mpr c13; clear c13; (simp only [Option.some.injEq, Prod.mk.injEq] at H); obtain ⟨rfl, rfl⟩ := H
     go_wp2_with (first | (go_at_call 36; (with_reducible refine (seg_Name.calls x4_1 t103 _ ?side1 A12.out).mono ?_); (case side1 => first | (with_reducible exact HT.out) | exact tabAt HT.out (hx_ HB)); rintro e w14 ⟨rfl, hb⟩; have n0_ := Aside0.mk (below_step (hx_ HB) hb); clear HB; have HB := n0_; clear n0_; (try clear hb); (try clear hb2); (try clear hk); (try clear hi)))
     go_ret2
     exact ⟨by first | rfl | (simp [errW_none, errW_some] <;> rfl) | (simp [*, errW_none, errW_some] <;> rfl), by repeat (first | (with_reducible first | exact HB.out | apply yA | apply yN | apply yD) | exact HB.out)⟩
    (rw [if_neg c13] at H); have c13b0 : (t103.toList == a0.toList) = false := beq_eq_false_iff_ne.mpr c13; have c13b1 : (t103.toList != a0.toList) = true := bne_iff_ne.mpr c13; (simp only [Option.some.injEq, Prod.mk.injEq] at H); obtain ⟨rfl, rfl⟩ := H
    go_wp2_with (first | (go_at_call 36; (with_reducible refine (seg_Name.calls x4_1 t103 _ ?side1 A12.out).mono ?_); (case side1 => first | (with_reducible exact HT.out) | exact tabAt HT.out (hx_ HB)); rintro e w15 ⟨rfl, hb⟩; have n0_ := Aside0.mk (below_step (hx_ HB) hb); clear HB; have HB := n0_; clear n0_; (try clear hb); (try clear hb2); (try clear hk); (try clear hi)))
    go_ret2
    exact ⟨by first | rfl | (simp [errW_none, errW_some] <;> rfl) | (simp [*, errW_none, errW_some] <;> rfl), by repeat (first | (with_reducible first | exact HB.out | apply yA | apply yN | apply yD) | exact HB.out)⟩
   (rw [if_pos c2] at H); have c2b0 : decide (x5_1 < (a0.size : Int)) = true := decide_eq_true c2; clear c2
   by_cases c3 : x5_1 ≤ 6
   ·rw [if_pos c3] at H
    have c3b0 : decide (x5_1 ≤ 6) = true := decide_eq_true c3; clear c3
    by_cases c4 : 0 ≤ x5_1
    rotate_left
    ·rw [if_neg c4] at H
     exact absurd H (by simp)
    (rw [if_pos c4] at H); have c4b0 : decide (0 ≤ x5_1) = true := decide_eq_true c4; clear c4; have H' := Aside0.mk H; clear H; have p5 : 0 ≤ (x5_1 : Int) := of_decide_eq_true (by first | (with_reducible assumption) | assumption); have q5 : x5_1 < (a0.size : Int) := of_decide_eq_true (by first | (with_reducible assumption) | assumption); have hx5 := bt_at a0 x5_1; replace p5 := eq_true p5; replace q5 := eq_true q5
    go_wp2
    go_roundg k1
    case measure => have := HK1.out; omega
    case rel => exact ⟨(wrap64 ((wrap64 ((wrap64 (x4_1 * 10)) + (wrap64 (bt a0 x5_1)))) - 48)), (wrap64 (x5_1 + 1)), (by first | rfl | (simp; done) | (simp [*]; done)), (by first | rfl | (simp; done) | (simp [*]; done)), H', ⟨by have := HK1.out; omega⟩, ⟨by repeat (first | (with_reducible first | exact HB.out | apply yA | apply yN | apply yD) | exact HB.out)⟩⟩
   (rw [if_neg c3] at H); have c3b0 : decide (x5_1 ≤ 6) = false := decide_eq_false c3; clear c3
   by_cases c6 : x4_1 < 1
   ·rw [if_pos c6] at H
    have c6b0 : decide (x4_1 < 1) = true := decide_eq_true c6; clear c6; (simp only [Option.some.injEq, Prod.mk.injEq] at H); obtain ⟨rfl, rfl⟩ := H
    go_wp2
    go_ret2
    exact ⟨by first | rfl | (simp [errW_none, errW_some] <;> rfl) | (simp [*, errW_none, errW_some] <;> rfl), by repeat (first | (with_reducible first | exact HB.out | apply yA | apply yN | apply yD) | exact HB.out)⟩
   (rw [if_neg c6] at H); have c6b0 : decide (x4_1 < 1) = false := decide_eq_false c6; clear c6; replace H := Option.bind_eq_some_iff.mp H; obtain ⟨t102, A70, H⟩ := H; replace H : (if t102.toList = a0.toList then (some (x4_1, true)) else (some (0, false))) = some (r1, r2) := H; have A7 := Aside0.mk A70; clear A70
   by_cases c8 : t102.toList = a0.toList
   rotate_left
   ·rw [if_neg c8] at H
    have c8b0 : (t102.toList == a0.toList) = false := beq_eq_false_iff_ne.mpr c8; have c8b1 : (t102.toList != a0.toList) = true := bne_iff_ne.mpr c8; (simp only [Option.some.injEq, Prod.mk.injEq] at H); obtain ⟨rfl, rfl⟩ := H
    go_wp2_with (first | (go_at_call 36; (with_reducible refine (seg_Name.calls x4_1 t102 _ ?side1 A7.out).mono ?_); (case side1 => first | (with_reducible exact HT.out) | exact tabAt HT.out (hx_ HB)); rintro e w10 ⟨rfl, hb⟩; have n0_ := Aside0.mk (below_step (hx_ HB) hb); clear HB; have HB := n0_; clear n0_; (try clear hb); (try clear hb2); (try clear hk); (try clear hi)))
    go_ret2
    exact ⟨by first | rfl | (simp [errW_none, errW_some] <;> rfl) | (simp [*, errW_none, errW_some] <;> rfl), by repeat (first | (with_reducible first | exact HB.out | apply yA | apply yN | apply yD) | exact HB.out)⟩
   (rw [if_pos c8] at H); have c8b0 : (t102.toList == a0.toList) = true := beq_iff_eq.mpr c8; have c8b1 : (t102.toList != a0.toList) = false := bne_eq_false_iff_eq.mpr c8; clear c8; (simp only [Option.some.injEq, Prod.mk.injEq] at H); obtain ⟨rfl, rfl⟩ := H
   go_wp2_with (first | (go_at_call 36; (with_reducible refine (seg_Name.calls x4_1 t102 _ ?side1 A7.out).mono ?_); (case side1 => first | (with_reducible exact HT.out) | exact tabAt HT.out (hx_ HB)); rintro e w9 ⟨rfl, hb⟩; have n0_ := Aside0.mk (below_step (hx_ HB) hb); clear HB; have HB := n0_; clear n0_; (try clear hb); (try clear hb2); (try clear hk); (try clear hi)))
   go_ret2
   exact ⟨by first | rfl | (simp [errW_none, errW_some] <;> rfl) | (simp [*, errW_none, errW_some] <;> rfl), by repeat (first | (with_reducible first | exact HB.out | apply yA | apply yN | apply yD) | exact HB.out)⟩
def seg_Header.j0 : Nat → Bool → Int → Int → Option (List Int × Int)
 | 0, _, _, _ => none
 | k + 1, x22, x105000, x105001 => if x22 = true then (some (([] : List Int), 1)) else ((some (([84, 84, 83, 49] : List Int) : List Int)).bind fun y105 => ((wire_Four.f ((x105000) % 4294967296)).bind fun t108 => (if y105.length + t108.length < 140737488355328 then ((some (y105 ++ t108 : List Int)).bind fun y111 => ((wire_Four.f ((x105001 / 4294967296) % 4294967296)).bind fun t114 => (if y111.length + t114.length < 140737488355328 then ((some (y111 ++ t114 : List Int)).bind fun y117 => ((wire_Four.f ((x105001) % 4294967296)).bind fun t120 => (if y117.length + t120.length < 140737488355328 then ((some (y117 ++ t120 : List Int)).bind fun y123 => ((wire_Crc.f k y123).bind fun t126 => ((wire_Four.f t126).bind fun t127 => (if y123.length + t127.length < 140737488355328 then (some ((y123 ++ t127), 0)) else (none))))) else (none)))) else (none)))) else (none))))
def seg_Header.f (k : Nat) (a0_0 : Int) (a0_1 : Int) : Option (List Int × Int) := if a0_0 < 1 then (seg_Header.j0 k true a0_0 a0_1) else (if a0_0 > 999999 then (seg_Header.j0 k true a0_0 a0_1) else (if a0_1 < 1 then (seg_Header.j0 k true a0_0 a0_1) else (seg_Header.j0 k (decide (a0_1 > 4611686018427387904)) a0_0 a0_1)))
def seg_Header.T4 : Bool × List (List Nat × List Nat) := (true, [([], []), ([], []), ([1], [1]), ([2], [2]), ([3], [3]), ([4], [4]), ([0, 5, 5], [0, 5]), ([], []), ([7], [7]), ([8], [8]), ([9, 6], [9]), ([6, 10, 10], [6, 10]), ([11, 11, 0, 1, 2, 3, 4, 5, 6, 7, 8, 9, 10, 11], [0, 11])])
def seg_Header.B4 : List Nat := [0, 0, 2, 6, 14, 30, 63, 0, 128, 384, 1023, 2047, 4095]
theorem seg_Header.tab4 : rtab .any (opsOf Tryd.f32 4) = seg_Header.T4 := by kernel_rfl
theorem seg_Header.bits4 : waitsOk seg_Header.T4.2 seg_Header.B4 = true := by kernel_rfl
set_option maxHeartbeats 8000000 in
set_option maxRecDepth 100000 in
theorem seg_Header.calls (k : Nat) (a0_0 : Int) (a0_1 : Int) (r1 : List Int) (r2 : Int) (w : World) (h : seg_Header.f k a0_0 a0_1 = some (r1, r2)) :
  Calls Tryd.prog 32 #[.agg #[.int .i64 a0_0, .int .u64 a0_1]] w fun e w' => ∃ v0_ : Value, e = .returned (.tuple #[v0_, .int .i64 r2]) ∧ Kd.R (Kd.int .u8) 5 w' w.heap.size (fun _ => True) v0_ r1 ∧ Below w.heap.size w w' := by
 have hu63 := Tryd.underlying63; have HB := Aside0.mk (Below.refl w.heap.size w); have H : (if a0_0 < 1 then (seg_Header.j0 k true a0_0 a0_1) else (if a0_0 > 999999 then (seg_Header.j0 k true a0_0 a0_1) else (if a0_1 < 1 then (seg_Header.j0 k true a0_0 a0_1) else (seg_Header.j0 k (decide (a0_1 > 4611686018427387904)) a0_0 a0_1)))) = some (r1, r2) := h; clear h; have HC2 := Aside0.mk H; clear H
 go_enter Tryd.func32, Tryd.ntmps32
 go_upto_region 1 with (first | ((with_reducible refine gate_dst (N := 1) rfl ?_); refine box_event ?hg (N := 1) ?hd (cs := #[.int .i64 a0_0, .int .u64 a0_1]) (t := 63) ?hr ?_; (case hd => rfl); (case hg => rfl); (case hr => first | (go_simp; done) | (go_simp; rfl)); intro gb104 hg w3 hbox hb; have n0_ := Aside0.mk (below_step (hx_ HB) hb); have n1_ := Aside0.mk (hbox); have n2_ := Aside0.mk ((by rw [hg]; exact (below_size (hx_ HB)) : w.heap.size ≤ gb104)); have n3_ := Aside0.mk ((by rw [hg]; exact (below_size (hx_ HB)) : w.heap.size ≤ gb104)); clear HB; have HB := n0_; have BK104 := n1_; have GW104 := n2_; have GE104 := n3_; clear n0_ n1_ n2_ n3_; clear hb hbox hg))
 (try simp only [Act.put, List.setIfInBounds_toArray, List.set_cons_zero, List.set_cons_succ])
 go_cut [22] (fun v22 wc => ∃ (kq : Nat) (x22_1 : Bool), v22 = .bool x22_1 ∧ Aside0 (seg_Header.j0 kq x22_1 a0_0 a0_1 = some (r1, r2)) ∧ Aside0 (kq ≤ k) ∧ Aside0 (wc.heap[gb104]? = some (.cells #[.int .i64 a0_0, .int .u64 a0_1] 63 (0, 0))) ∧ Aside0 (Below w.heap.size w wc))
 case first =>
  have H := HC2.out; clear HC2
  by_cases c4 : a0_0 < 1
  ·rw [if_pos c4] at H
   have c4b0 : decide (a0_0 < 1) = true := decide_eq_true c4; clear c4; (first | rw [c4b0] | (simp only [i64_w, i32_w]; rw [c4b0]) | skip); have H' := Aside0.mk H; clear H; have hcz5_0 : w3.cell? ⟨gb104, 0, none⟩ = some (.int .i64 a0_0) := (blk_cell BK104.out 0).trans rfl; have hcz5_1 : w3.cell? ⟨gb104, 1, none⟩ = some (.int .u64 a0_1) := (blk_cell BK104.out 1).trans rfl; have hfz5_0 := blk_frozen BK104.out 0; have hfz5_1 := blk_frozen BK104.out 1
   go_wp2
   go_meet
   case rel => exact ⟨_, (true), (by first | rfl | (simp; done) | (simp [*]; done)), H', ⟨by first | omega | exact Nat.le_refl _⟩, ⟨by (with_reducible repeat first | apply zN | apply zD | apply zA); exact BK104.out⟩, ⟨by repeat (first | (with_reducible first | exact HB.out | apply yA | apply yN | apply yD | refine yS ?_ GE104.out) | exact HB.out)⟩⟩
  (rw [if_neg c4] at H); have c4b0 : decide (a0_0 < 1) = false := decide_eq_false c4; clear c4; (first | rw [c4b0] | (simp only [i64_w, i32_w]; rw [c4b0]) | skip)
  by_cases c6 : a0_0 > 999999
  ·rw [if_pos c6] at H
   have c6b0 : decide (999999 < a0_0) = true := decide_eq_true c6; clear c6; have H' := Aside0.mk H; clear H; have hcz7_0 : w3.cell? ⟨gb104, 0, none⟩ = some (.int .i64 a0_0) := (blk_cell BK104.out 0).trans rfl; have hcz7_1 : w3.cell? ⟨gb104, 1, none⟩ = some (.int .u64 a0_1) := (blk_cell BK104.out 1).trans rfl; have hfz7_0 := blk_frozen BK104.out 0; have hfz7_1 := blk_frozen BK104.out 1
   go_wp2
   go_meet
   case rel => exact ⟨_, (true), (by first | rfl | (simp; done) | (simp [*]; done)), H', ⟨by first | omega | exact Nat.le_refl _⟩, ⟨by (with_reducible repeat first | apply zN | apply zD | apply zA); exact BK104.out⟩, ⟨by repeat (first | (with_reducible first | exact HB.out | apply yA | apply yN | apply yD | refine yS ?_ GE104.out) | exact HB.out)⟩⟩
  (rw [if_neg c6] at H); have c6b0 : decide (999999 < a0_0) = false := decide_eq_false c6; clear c6
  by_cases c8 : a0_1 < 1
  ·rw [if_pos c8] at H
   have c8b0 : decide (a0_1 < 1) = true := decide_eq_true c8; clear c8; have H' := Aside0.mk H; clear H; have hcz9_0 : w3.cell? ⟨gb104, 0, none⟩ = some (.int .i64 a0_0) := (blk_cell BK104.out 0).trans rfl; have hcz9_1 : w3.cell? ⟨gb104, 1, none⟩ = some (.int .u64 a0_1) := (blk_cell BK104.out 1).trans rfl; have hfz9_0 := blk_frozen BK104.out 0; have hfz9_1 := blk_frozen BK104.out 1
   go_wp2
   go_meet
   case rel => exact ⟨_, (true), (by first | rfl | (simp; done) | (simp [*]; done)), H', ⟨by first | omega | exact Nat.le_refl _⟩, ⟨by (with_reducible repeat first | apply zN | apply zD | apply zA); exact BK104.out⟩, ⟨by repeat (first | (with_reducible first | exact HB.out | apply yA | apply yN | apply yD | refine yS ?_ GE104.out) | exact HB.out)⟩⟩
  (rw [if_neg c8] at H); have c8b0 : decide (a0_1 < 1) = false := decide_eq_false c8; clear c8; have H' := Aside0.mk H; clear H; have hcz10_0 : w3.cell? ⟨gb104, 0, none⟩ = some (.int .i64 a0_0) := (blk_cell BK104.out 0).trans rfl; have hcz10_1 : w3.cell? ⟨gb104, 1, none⟩ = some (.int .u64 a0_1) := (blk_cell BK104.out 1).trans rfl; have hfz10_0 := blk_frozen BK104.out 0; have hfz10_1 := blk_frozen BK104.out 1
  go_wp2
  go_meet
  case rel => exact ⟨_, (decide (a0_1 > 4611686018427387904)), (by first | rfl | (simp; done) | (simp [*]; done)), H', ⟨by first | omega | exact Nat.le_refl _⟩, ⟨by (with_reducible repeat first | apply zN | apply zD | apply zA); exact BK104.out⟩, ⟨by repeat (first | (with_reducible first | exact HB.out | apply yA | apply yN | apply yD | refine yS ?_ GE104.out) | exact HB.out)⟩⟩
 case rest =>
  clear HC2; (try clear p2); (try clear c3); (try clear c4); (try clear c4b0); (try clear c6); (try clear c6b0); (try clear c8); (try clear c8b0); (try clear hcz10_0); (try clear hcz10_1); (try clear hcz5_0); (try clear hcz5_1); (try clear hcz7_0); (try clear hcz7_1); (try clear hcz9_0); (try clear hcz9_1); (try clear hfz10_0); (try clear hfz10_1); (try clear hfz5_0); (try clear hfz5_1); (try clear hfz7_0); (try clear hfz7_1); (try clear hfz9_0); (try clear hfz9_1); obtain ⟨kq, x22_1, rfl, HA, HJ1, BK104, HB⟩ := hcut
  cases kq with
  | zero => exact absurd HA.out (by simp [seg_Header.j0])
  | succ kj1 =>
   have H := HA.out; clear HA; (simp only [seg_Header.j0] at H)
   by_cases c11 : x22_1 = true
   ·subst c11
    (have H1 : (some (([] : List Int), 1)) = some (r1, r2) := by rw [if_pos rfl] at H; exact H); clear H; have H := H1; clear H1; (simp only [Option.some.injEq, Prod.mk.injEq] at H); obtain ⟨rfl, rfl⟩ := H
    go_wp2
    go_ret2
    exact ⟨_, by first | rfl | (simp [errW_none, errW_some] <;> rfl) | (simp [*, errW_none, errW_some] <;> rfl), by first | exact Kd.R_nil _ _ _ _ _ | exact Kd.N_nil _ _ _ _ _ | exact Kd.V_nil _ _ _ _ _ | exact Kd.Q_nil _ _ _ _ _ | exact Kd.S_nil _ _ _ _ _, by repeat (first | (with_reducible first | exact HB.out | apply yA | apply yN | apply yD | refine yS ?_ GE104.out) | exact HB.out)⟩
   replace c11 := Bool.eq_false_iff.mpr c11; subst c11; (have H1 : ((some (([84, 84, 83, 49] : List Int) : List Int)).bind fun y105 => ((wire_Four.f ((a0_0) % 4294967296)).bind fun t108 => (if y105.length + t108.length < 140737488355328 then ((some (y105 ++ t108 : List Int)).bind fun y111 => ((wire_Four.f ((a0_1 / 4294967296) % 4294967296)).bind fun t114 => (if y111.length + t114.length < 140737488355328 then ((some (y111 ++ t114 : List Int)).bind fun y117 => ((wire_Four.f ((a0_1) % 4294967296)).bind fun t120 => (if y117.length + t120.length < 140737488355328 then ((some (y117 ++ t120 : List Int)).bind fun y123 => ((wire_Crc.f kj1 y123).bind fun t126 => ((wire_Four.f t126).bind fun t127 => (if y123.length + t127.length < 140737488355328 then (some ((y123 ++ t127), 0)) else (none))))) else (none)))) else (none)))) else (none)))) = some (r1, r2) := by rw [if_neg (show ¬ (false = true) by decide)] at H; exact H); clear H; have H := H1; clear H1; (obtain ⟨y105, hy105⟩ : ∃ y_ : List Int, y_ = (([84, 84, 83, 49] : List Int)) := ⟨_, rfl⟩); (replace H : ((wire_Four.f ((a0_0) % 4294967296)).bind fun t108 => (if y105.length + t108.length < 140737488355328 then ((some (y105 ++ t108 : List Int)).bind fun y111 => ((wire_Four.f ((a0_1 / 4294967296) % 4294967296)).bind fun t114 => (if y111.length + t114.length < 140737488355328 then ((some (y111 ++ t114 : List Int)).bind fun y117 => ((wire_Four.f ((a0_1) % 4294967296)).bind fun t120 => (if y117.length + t120.length < 140737488355328 then ((some (y117 ++ t120 : List Int)).bind fun y123 => ((wire_Crc.f kj1 y123).bind fun t126 => ((wire_Four.f t126).bind fun t127 => (if y123.length + t127.length < 140737488355328 then (some ((y123 ++ t127), 0)) else (none))))) else (none)))) else (none)))) else (none))) = some (r1, r2) := by first | (rw [hy105]; with_reducible exact H) | (have H2_ := (Option.bind_some _ _).symm.trans H; rw [hy105]; with_reducible exact H2_) | (have H2_ := (Option.bind_some _ _).symm.trans H; with_reducible exact H2_) | with_reducible exact H | (rw [hy105]; exact H) | exact H); have Ny105 := Aside0.mk hy105; clear hy105; replace H := Option.bind_eq_some_iff.mp H; obtain ⟨t108, A120, H⟩ := H; replace H : (if y105.length + t108.length < 140737488355328 then ((some (y105 ++ t108 : List Int)).bind fun y111 => ((wire_Four.f ((a0_1 / 4294967296) % 4294967296)).bind fun t114 => (if y111.length + t114.length < 140737488355328 then ((some (y111 ++ t114 : List Int)).bind fun y117 => ((wire_Four.f ((a0_1) % 4294967296)).bind fun t120 => (if y117.length + t120.length < 140737488355328 then ((some (y117 ++ t120 : List Int)).bind fun y123 => ((wire_Crc.f kj1 y123).bind fun t126 => ((wire_Four.f t126).bind fun t127 => (if y123.length + t127.length < 140737488355328 then (some ((y123 ++ t127), 0)) else (none))))) else (none)))) else (none)))) else (none)) = some (r1, r2) := H; have A12 := Aside0.mk A120; clear A120
   by_cases c13 : y105.length + t108.length < 140737488355328
   rotate_left
   ·rw [if_neg c13] at H
    exact absurd H (by simp)
   (rw [if_pos c13] at H); have LMc13 := Aside0.mk c13; clear c13; (obtain ⟨y111, hy111⟩ : ∃ y_ : List Int, y_ = (y105 ++ t108) := ⟨_, rfl⟩); (replace H : ((wire_Four.f ((a0_1 / 4294967296) % 4294967296)).bind fun t114 => (if y111.length + t114.length < 140737488355328 then ((some (y111 ++ t114 : List Int)).bind fun y117 => ((wire_Four.f ((a0_1) % 4294967296)).bind fun t120 => (if y117.length + t120.length < 140737488355328 then ((some (y117 ++ t120 : List Int)).bind fun y123 => ((wire_Crc.f kj1 y123).bind fun t126 => ((wire_Four.f t126).bind fun t127 => (if y123.length + t127.length < 140737488355328 then (some ((y123 ++ t127), 0)) else (none))))) else (none)))) else (none))) = some (r1, r2) := by first | (rw [hy111]; with_reducible exact H) | (have H2_ := (Option.bind_some _ _).symm.trans H; rw [hy111]; with_reducible exact H2_) | (have H2_ := (Option.bind_some _ _).symm.trans H; with_reducible exact H2_) | with_reducible exact H | (rw [hy111]; exact H) | exact H); have Ny111 := Aside0.mk hy111; clear hy111; replace H := Option.bind_eq_some_iff.mp H; obtain ⟨t114, A140, H⟩ := H; replace H : (if y111.length + t114.length < 140737488355328 then ((some (y111 ++ t114 : List Int)).bind fun y117 => ((wire_Four.f ((a0_1) % 4294967296)).bind fun t120 => (if y117.length + t120.length < 140737488355328 then ((some (y117 ++ t120 : List Int)).bind fun y123 => ((wire_Crc.f kj1 y123).bind fun t126 => ((wire_Four.f t126).bind fun t127 => (if y123.length + t127.length < 140737488355328 then (some ((y123 ++ t127), 0)) else (none))))) else (none)))) else (none)) = some (r1, r2) := H; have A14 := Aside0.mk A140; clear A140
   by_cases c15 : y111.length + t114.length < 140737488355328
   rotate_left
   ·rw [if_neg c15] at H
    exact absurd H (by simp)
   (rw [if_pos c15] at H); have LMc15 := Aside0.mk c15; clear c15; (obtain ⟨y117, hy117⟩ : ∃ y_ : List Int, y_ = (y111 ++ t114) := ⟨_, rfl⟩); (replace H : ((wire_Four.f ((a0_1) % 4294967296)).bind fun t120 => (if y117.length + t120.length < 140737488355328 then ((some (y117 ++ t120 : List Int)).bind fun y123 => ((wire_Crc.f kj1 y123).bind fun t126 => ((wire_Four.f t126).bind fun t127 => (if y123.length + t127.length < 140737488355328 then (some ((y123 ++ t127), 0)) else (none))))) else (none))) = some (r1, r2) := by first | (rw [hy117]; with_reducible exact H) | (have H2_ := (Option.bind_some _ _).symm.trans H; rw [hy117]; with_reducible exact H2_) | (have H2_ := (Option.bind_some _ _).symm.trans H; with_reducible exact H2_) | with_reducible exact H | (rw [hy117]; exact H) | exact H); have Ny117 := Aside0.mk hy117; clear hy117; replace H := Option.bind_eq_some_iff.mp H; obtain ⟨t120, A160, H⟩ := H; replace H : (if y117.length + t120.length < 140737488355328 then ((some (y117 ++ t120 : List Int)).bind fun y123 => ((wire_Crc.f kj1 y123).bind fun t126 => ((wire_Four.f t126).bind fun t127 => (if y123.length + t127.length < 140737488355328 then (some ((y123 ++ t127), 0)) else (none))))) else (none)) = some (r1, r2) := H; have A16 := Aside0.mk A160; clear A160
   by_cases c17 : y117.length + t120.length < 140737488355328
   rotate_left
   ·rw [if_neg c17] at H
    exact absurd H (by simp)
   (rw [if_pos c17] at H); have LMc17 := Aside0.mk c17; clear c17; (obtain ⟨y123, hy123⟩ : ∃ y_ : List Int, y_ = (y117 ++ t120) := ⟨_, rfl⟩); (replace H : ((wire_Crc.f kj1 y123).bind fun t126 => ((wire_Four.f t126).bind fun t127 => (if y123.length + t127.length < 140737488355328 then (some ((y123 ++ t127), 0)) else (none)))) = some (r1, r2) := by first | (rw [hy123]; with_reducible exact H) | (have H2_ := (Option.bind_some _ _).symm.trans H; rw [hy123]; with_reducible exact H2_) | (have H2_ := (Option.bind_some _ _).symm.trans H; with_reducible exact H2_) | with_reducible exact H | (rw [hy123]; exact H) | exact H); have Ny123 := Aside0.mk hy123; clear hy123; replace H := Option.bind_eq_some_iff.mp H; obtain ⟨t126, A180, H⟩ := H; replace H : ((wire_Four.f t126).bind fun t127 => (if y123.length + t127.length < 140737488355328 then (some ((y123 ++ t127), 0)) else (none))) = some (r1, r2) := H; have A18 := Aside0.mk A180; clear A180; replace H := Option.bind_eq_some_iff.mp H; obtain ⟨t127, A190, H⟩ := H; replace H : (if y123.length + t127.length < 140737488355328 then (some ((y123 ++ t127), 0)) else (none)) = some (r1, r2) := H; have A19 := Aside0.mk A190; clear A190
   by_cases c20 : y123.length + t127.length < 140737488355328
   rotate_left
   ·rw [if_neg c20] at H
    exact absurd H (by simp)
   (rw [if_pos c20] at H); have LMc20 := Aside0.mk c20; clear c20; (obtain ⟨y130, hy130⟩ : ∃ y_ : List Int, y_ = (y123 ++ t127) := ⟨_, rfl⟩); (replace H : (some (y130, 0)) = some (r1, r2) := by first | (rw [hy130]; with_reducible exact H) | (have H2_ := (Option.bind_some _ _).symm.trans H; rw [hy130]; with_reducible exact H2_) | (have H2_ := (Option.bind_some _ _).symm.trans H; with_reducible exact H2_) | with_reducible exact H | (rw [hy130]; exact H) | exact H); have Ny130 := Aside0.mk hy130; clear hy130; (simp only [Option.some.injEq, Prod.mk.injEq] at H); obtain ⟨rfl, rfl⟩ := H
   try go_wp2_with (first | ((with_reducible refine gate_dst (N := 23) rfl ?_); refine lit_marked _ 64 5 (N := 23) rfl rfl rfl rfl (fun _ => rfl) Tryd.underlying64 Tryd.underlying5 (xs := ([84, 84, 83, 49] : List Int)) (inner := [.int .u8 84, .int .u8 84, .int .u8 83, .int .u8 49]) rfl ?hr (Below.refl _ _) (Nat.le_refl _) ?_; (case hr => first | (go_simp; done) | (go_simp; rfl)); intro v106 w21 ho22 hb hg_; clear hg_; (first | rw [← Ny105.out] at ho22 | (simp only [Int.reduceToNat] at ho22; rw [← Ny105.out] at ho22)); have n0_ := Aside0.mk (MLit.lower ho22 (below_size (by repeat (first | (with_reducible first | exact HB.out | apply yA | apply yN | apply yD | refine yS ?_ GE104.out) | exact HB.out)))); have n1_ := Aside0.mk (blk_below (g := gb104) (o := .cells #[.int .i64 a0_0, .int .u64 a0_1] 63 (0, 0)) (bx_ BK104) hb); have n2_ := Aside0.mk (below_step (by repeat (first | (with_reducible first | exact HB.out | apply yA | apply yN | apply yD | refine yS ?_ GE104.out) | exact HB.out)) hb); clear BK104; clear HB; have HO107 := n0_; have BK104 := n1_; have HB := n2_; clear n0_ n1_ n2_; clear hb ho22; have hcz23_0 : w21.cell? ⟨gb104, 0, none⟩ = some (.int .i64 a0_0) := (blk_cell BK104.out 0).trans rfl; have hcz23_1 : w21.cell? ⟨gb104, 1, none⟩ = some (.int .u64 a0_1) := (blk_cell BK104.out 1).trans rfl; have hfz23_0 := blk_frozen BK104.out 0; have hfz23_1 := blk_frozen BK104.out 1) | ((with_reducible refine gate_callee (f := 64) rfl ?_); refine goesL_ (some 28) rfl rfl Tryd.func64 (by kernel_rfl) rfl #[.int .u32 ((a0_0) % 4294967296)] rfl (by (try simp only [List.map_toArray, List.map_cons, List.map_nil]); first | done | rfl | (simp only [List.length_drop, List.length_take]; rfl)) ?_; (with_reducible refine (wire_Four.calls ((a0_0) % 4294967296) t108 _ A12.out).mono ?_); rintro e w24 ⟨v109, rfl, ho0, hb⟩; refine ⟨_, rfl, ?_⟩; have n0_ := Aside0.mk (HO107.out.below hb); have n1_ := Aside0.mk (Kd.R_lower ho0 (below_size (by repeat (first | (with_reducible first | exact HB.out | apply yA | apply yN | apply yD | refine yS ?_ GE104.out) | exact HB.out)))); have n2_ := Aside0.mk (blk_below (g := gb104) (o := .cells #[.int .i64 a0_0, .int .u64 a0_1] 63 (0, 0)) (bx_ BK104) hb); have n3_ := Aside0.mk (below_step (by repeat (first | (with_reducible first | exact HB.out | apply yA | apply yN | apply yD | refine yS ?_ GE104.out) | exact HB.out)) hb); clear HO107; clear BK104; clear HB; have HO107 := n0_; have HO110 := n1_; have BK104 := n2_; have HB := n3_; clear n0_ n1_ n2_ n3_; (try clear hb); (try clear hb2); (try clear hk); (try clear hi); (try clear ho0); obtain ⟨Ao26, co26, eo26⟩ := Kd.R_slice HO110.out; subst eo26) | ((with_reducible refine gate_builtin (b := .append) (xs := #[.tmp 24, .tmp 28]) rfl ?_); at_builtin; refine append_marked (w0 := w) w.heap.size rfl (.tmp 24) (.tmp 28) 64 5 rfl Tryd.underlying64 info5 v106 y105 t108 _ _ _ (fun k_ => some k_ ≠ (.slice Ao26 t108.length co26 : Value).ownBlock) rfl rfl ?aO ?aR ?aM ?aF ?aB ?aS ?aL ?_; (case aM => (have := four_len (t := t108) (Aside0.out (by assumption))); omega); (case aR => repeat (first | exact (Kd.R_reads' HO110.out).2.2 | (with_reducible refine Kd.C_alloc ?_ _) | (with_reducible refine Kd.C_drewN ?_ _) | (with_reducible refine Kd.C_drew ?_))); (case aB => exact (by repeat (first | (with_reducible first | exact HB.out | apply yA | apply yN | apply yD | refine yS ?_ GE104.out) | exact HB.out))); (case aF => exact (fun k_ hk => Kd.fresh' (Kd.R_lt (rx_ HO110)) k_ hk)); (case aO => exact HO107.out); (case aS => exact (below_size (by repeat (first | (with_reducible first | exact HB.out | apply yA | apply yN | apply yD | refine yS ?_ GE104.out) | exact HB.out)))); (case aL => have := LMc13.out; omega); intro v112 w25 ho hb hg hat; rw [← Ny111.out] at ho; have n0_ := Aside0.mk (blk_below (g := gb104) (o := .cells #[.int .i64 a0_0, .int .u64 a0_1] 63 (0, 0)) (bx_ BK104) hg); have n1_ := Aside0.mk (Kd.R_elder' (ok := (fun _ => True)) (rx_ HO110) hat hg); have n2_ := Aside0.mk (hb); have n3_ := Aside0.mk (ho); clear BK104; clear HO110; clear HB; clear HO107; have BK104 := n0_; have HO110 := n1_; have HB := n2_; have HO113 := n3_; clear n0_ n1_ n2_ n3_; clear ho hb hg hat))
   have n0_ := Aside0.mk (Kd.R_drew HO110.out); have n1_ := Aside0.mk (Kd.R_drew HO113.out); have n2_ := Aside0.mk (blk_drew BK104.out); have n3_ := Aside0.mk (below_drew1 HB.out); clear HO110; clear HO113; clear BK104; clear HB; have HO110 := n0_; have HO113 := n1_; have BK104 := n2_; have HB := n3_; clear n0_ n1_ n2_ n3_; refine start_ (n := 13) (S := fun w' => w'.cell? ⟨gb104, 0, none⟩ = some (.int .i64 a0_0) ∧ w'.cell? ⟨gb104, 1, none⟩ = some (.int .u64 a0_1)) (ds := []) #[false, false, false, false, false, false, false, false, false, false, false, false, false] (by kernel_rfl) rfl rfl ⟨(blk_cell BK104.out 0).trans rfl, (blk_cell BK104.out 1).trans rfl⟩ (fun hHeld => ?_); refine with_tabW seg_Header.tab4 seg_Header.bits4 (fun HT_ HW_ => ?_); (generalize w25.drew = w27 at HO110 HO113 BK104 HB hHeld ⊢); refine pure_ (i := 0) (N := some 30) (v := ?_) (a' := ?_) #[true, false, false, false, false, false, false, false, false, false, false, false, false] rfl rfl (any_of HT_.out (by kernel_rfl)) (fun _ _ _ h => h) (Or.inl ⟨by rfl, ?_⟩) ?_ ?_
   rotate_left
   ·intro w'
    go_simp
    with_reducible rfl
   rotate_left
   ·simp only [Act.put, List.setIfInBounds_toArray, List.set_cons_zero, List.set_cons_succ, i64_w, i32_w]
    rfl
   refine pure_ (i := 1) (N := some 31) (v := ?_) (a' := ?_) #[true, true, false, false, false, false, false, false, false, false, false, false, false] rfl rfl (any_of HT_.out (by kernel_rfl)) (fun _ _ _ h => h) (Or.inl ⟨by rfl, ?_⟩) ?_ ?_
   rotate_left
   ·intro w'
    go_simp
    with_reducible rfl
   rotate_left
   ·simp only [Act.put, List.setIfInBounds_toArray, List.set_cons_zero, List.set_cons_succ, i64_w, i32_w]
    rfl
   refine pure_ (i := 7) (N := some 37) (v := ?_) (a' := ?_) #[true, true, false, false, false, false, false, true, false, false, false, false, false] rfl rfl (any_of HT_.out (by kernel_rfl)) (fun _ _ _ h => h) (Or.inl ⟨by rfl, ?_⟩) ?_ ?_
   rotate_left
   ·intro w'
    go_simp
    with_reducible rfl
   rotate_left
   ·simp only [Act.put, List.setIfInBounds_toArray, List.set_cons_zero, List.set_cons_succ, i64_w, i32_w]
    rfl
   refine take_ (i := 2) (N := some 32) (v := ?_) (a' := ?_) #[true, true, true, false, false, false, false, true, false, false, false, false, false] rfl rfl (take_ofW HT_.out HW_.out (by kernel_rfl)) (fun _ _ _ h => h) (Or.inl ⟨by rfl, ?_⟩) hHeld ?_ ?_
   rotate_left
   ·rintro w' ⟨s0, s1⟩
    go_simp
    with_reducible rfl
   rotate_left
   ·simp only [Act.put, List.setIfInBounds_toArray, List.set_cons_zero, List.set_cons_succ, i64_w, i32_w]
    rfl
   refine pure_ (i := 3) (N := some 33) (v := ?_) (a' := ?_) #[true, true, true, true, false, false, false, true, false, false, false, false, false] rfl rfl (any_of HT_.out (by kernel_rfl)) (fun _ _ _ h => h) (Or.inl ⟨by rfl, ?_⟩) ?_ ?_
   rotate_left
   ·intro w'
    go_simp
    with_reducible rfl
   rotate_left
   ·simp only [Act.put, List.setIfInBounds_toArray, List.set_cons_zero, List.set_cons_succ, i64_w, i32_w]
    rfl
   refine pure_ (i := 4) (N := some 34) (v := ?_) (a' := ?_) #[true, true, true, true, true, false, false, true, false, false, false, false, false] rfl rfl (any_of HT_.out (by kernel_rfl)) (fun _ _ _ h => h) (Or.inl ⟨by rfl, ?_⟩) ?_ ?_
   rotate_left
   ·intro w'
    go_simp
    with_reducible rfl
   rotate_left
   ·simp only [Act.put, List.setIfInBounds_toArray, List.set_cons_zero, List.set_cons_succ, i64_w, i32_w]
    rfl
   refine take_ (i := 8) (N := some 38) (v := ?_) (a' := ?_) #[true, true, true, true, true, false, false, true, true, false, false, false, false] rfl rfl (take_ofW HT_.out HW_.out (by kernel_rfl)) (fun _ _ _ h => h) (Or.inl ⟨by rfl, ?_⟩) hHeld ?_ ?_
   rotate_left
   ·rintro w' ⟨s0, s1⟩
    go_simp
    with_reducible rfl
   rotate_left
   ·simp only [Act.put, List.setIfInBounds_toArray, List.set_cons_zero, List.set_cons_succ, i64_w, i32_w]
    rfl
   refine pure_ (i := 9) (N := some 39) (v := ?_) (a' := ?_) #[true, true, true, true, true, false, false, true, true, true, false, false, false] rfl rfl (any_of HT_.out (by kernel_rfl)) (fun _ _ _ h => h) (Or.inl ⟨by rfl, ?_⟩) ?_ ?_
   rotate_left
   ·intro w'
    go_simp
    with_reducible rfl
   rotate_left
   ·simp only [Act.put, List.setIfInBounds_toArray, List.set_cons_zero, List.set_cons_succ, i64_w, i32_w]
    rfl
   refine one_ (i := 5) (N := some 35) #[true, true, true, true, true, true, false, true, true, true, false, false, false] rfl rfl (one_of HT_.out (by kernel_rfl)) (by decide) (fun K hK => ?_); refine goes_ Tryd.func64 (by kernel_rfl) rfl #[.int .u32 ((a0_1 / 4294967296) % 4294967296)] (by rfl) rfl rfl (by (try simp only [List.map_toArray, List.map_cons, List.map_nil]); first | done | rfl | (simp only [List.length_drop, List.length_take]; rfl)) ?_
   with_reducible refine (wire_Four.calls ((a0_1 / 4294967296) % 4294967296) t114 _ A14.out).mono ?_
   rintro e w28 ⟨v115, rfl, ho0, hb⟩; refine ⟨_, rfl, ?_⟩; have n0_ := Aside0.mk (Kd.R_elder' (rx_ HO110) (Kd.R_base ho0) hb); have n1_ := Aside0.mk (Kd.R_elder' (rx_ HO113) (Kd.R_base ho0) hb); have n2_ := Aside0.mk (Kd.R_lower (Kd.R_new' (Kd.R_new' ho0 (Kd.R_lt (rx_ HO110))) (Kd.R_lt (rx_ HO113))) (below_size (by repeat (first | (with_reducible first | exact HB.out | apply yA | apply yN | apply yD | refine yS ?_ GE104.out) | exact HB.out)))); have n3_ := Aside0.mk (blk_below (g := gb104) (o := .cells #[.int .i64 a0_0, .int .u64 a0_1] 63 (0, 0)) (bx_ BK104) hb); have n4_ := Aside0.mk (below_step (by repeat (first | (with_reducible first | exact HB.out | apply yA | apply yN | apply yD | refine yS ?_ GE104.out) | exact HB.out)) hb); clear HO110; clear HO113; clear BK104; clear HB; have HO110 := n0_; have HO113 := n1_; have HO116 := n2_; have BK104 := n3_; have HB := n4_; clear n0_ n1_ n2_ n3_ n4_; (try clear hb); (try clear hb2); (try clear hk); (try clear hi); (try clear ho0); obtain ⟨Ao30, co30, eo30⟩ := Kd.R_slice HO116.out; (first | subst eo30 | (injection eo30 with f1_ f2_ f3_; have f4_ := f1_.symm; have f5_ := f3_.symm; clear f1_ f2_ f3_; subst f4_; subst f5_)); refine hK.out _ _ ⟨(blk_cell BK104.out 0).trans rfl, (blk_cell BK104.out 1).trans rfl⟩ (fun hHeld => ?_); clear hK K; refine norm_ (a' := ?_) ?_ ?_
   rotate_left
   ·show Act.put _ (some 35) _ = _
    simp only [Act.put, List.setIfInBounds_toArray, List.set_cons_zero, List.set_cons_succ, i64_w, i32_w]
    rfl
   refine one_ (i := 6) (N := some 36) #[true, true, true, true, true, true, true, true, true, true, false, false, false] rfl rfl (one_of HT_.out (by kernel_rfl)) (by decide) (fun K hK => ?_); refine Kd.R_append_rows_step (Kd.int .u8) (w0 := w) w.heap.size (by rfl) (.tmp 30) (.tmp 35) 64 5 (.int .u8 0) 1 rfl Tryd.underlying64 info5 rfl (by decide) (by omega) v112 y111 t114 _ _ _ (fun k_ => some k_ ≠ (.slice Ao26 t108.length co26 : Value).ownBlock ∧ some k_ ≠ (.slice Ao30 t114.length co30 : Value).ownBlock) (fun _ => False) rfl rfl ?aO ?aR (fun _ _ h => h) (fun _ h => h.elim) ?aF ?aB ?aS ?aL ?_; (case aR => repeat (first | exact (Kd.R_reads' HO116.out).2.2 | (with_reducible refine Kd.C_alloc ?_ _) | (with_reducible refine Kd.C_drewN ?_ _) | (with_reducible refine Kd.C_drew ?_))); (case aB => exact (by repeat (first | (with_reducible first | exact HB.out | apply yA | apply yN | apply yD | refine yS ?_ GE104.out) | exact HB.out))); (case aF => exact (fun k_ hk => ⟨Kd.fresh' (Kd.R_lt (rx_ HO110)) k_ hk, Kd.fresh' (Kd.R_lt (rx_ HO116)) k_ hk⟩)); (case aO => exact (rx_ HO113)); (case aS => exact (below_size (by repeat (first | (with_reducible first | exact HB.out | apply yA | apply yN | apply yD | refine yS ?_ GE104.out) | exact HB.out)))); (case aL => have := LMc15.out; omega); intro v118 w29 ho hb hg hat; (rw [← Ny117.out] at ho; have n0_ := Aside0.mk (blk_grown (g := gb104) (o := .cells #[.int .i64 a0_0, .int .u64 a0_1] 63 (0, 0)) (bx_ BK104) hg (Kd.R_ne HO113.out BK104.out (by decide))); have n1_ := Aside0.mk (Kd.R_after (ok := (fun k_ => some k_ ≠ (.slice Ao30 t114.length co30 : Value).ownBlock)) (by (with_reducible repeat first | apply rA_ | apply rN_ | apply rD_); exact Kd.R_mono HO110.out (fun _ hk => ⟨hk.2, hk.1.2⟩)) hg hat); have n2_ := Aside0.mk (Kd.R_after (ok := (fun k_ => some k_ ≠ (.slice Ao26 t108.length co26 : Value).ownBlock)) (by (with_reducible repeat first | apply rA_ | apply rN_ | apply rD_); exact Kd.R_mono HO116.out (fun _ hk => ⟨hk.1.2, hk.2⟩)) hg hat); have n3_ := Aside0.mk (hb); have n4_ := Aside0.mk (ho); clear BK104; clear HO110; clear HO116; clear HB; clear HO113; have BK104 := n0_; have HO110 := n1_; have HO116 := n2_; have HB := n3_; have HO119 := n4_; clear n0_ n1_ n2_ n3_ n4_; clear ho hb hg hat); refine hK.out _ _ ⟨(blk_cell BK104.out 0).trans rfl, (blk_cell BK104.out 1).trans rfl⟩ (fun hHeld => ?_); clear hK K; refine norm_ (a' := ?_) ?_ ?_
   rotate_left
   ·show Act.put _ (some 36) _ = _
    simp only [Act.put, List.setIfInBounds_toArray, List.set_cons_zero, List.set_cons_succ, i64_w, i32_w]
    rfl
   refine one_ (i := 10) (N := some 40) #[true, true, true, true, true, true, true, true, true, true, true, false, false] rfl rfl (one_of HT_.out (by kernel_rfl)) (by decide) (fun K hK => ?_); refine goes_ Tryd.func64 (by kernel_rfl) rfl #[.int .u32 ((a0_1) % 4294967296)] (by rfl) rfl rfl (by (try simp only [List.map_toArray, List.map_cons, List.map_nil]); first | done | rfl | (simp only [List.length_drop, List.length_take]; rfl)) ?_
   with_reducible refine (wire_Four.calls ((a0_1) % 4294967296) t120 _ A16.out).mono ?_
   rintro e w31 ⟨v121, rfl, ho0, hb⟩; refine ⟨_, rfl, ?_⟩; have n0_ := Aside0.mk (Kd.R_elder' (rx_ HO110) (Kd.R_base ho0) hb); have n1_ := Aside0.mk (Kd.R_elder' (rx_ HO116) (Kd.R_base ho0) hb); have n2_ := Aside0.mk (Kd.R_elder' (rx_ HO119) (Kd.R_base ho0) hb); have n3_ := Aside0.mk (Kd.R_lower (Kd.R_new' (Kd.R_new' (Kd.R_new' ho0 (Kd.R_lt (rx_ HO110))) (Kd.R_lt (rx_ HO116))) (Kd.R_lt (rx_ HO119))) (below_size (by repeat (first | (with_reducible first | exact HB.out | apply yA | apply yN | apply yD | refine yS ?_ GE104.out) | exact HB.out)))); have n4_ := Aside0.mk (blk_below (g := gb104) (o := .cells #[.int .i64 a0_0, .int .u64 a0_1] 63 (0, 0)) (bx_ BK104) hb); have n5_ := Aside0.mk (below_step (by repeat (first | (with_reducible first | exact HB.out | apply yA | apply yN | apply yD | refine yS ?_ GE104.out) | exact HB.out)) hb); clear HO110; clear HO116; clear HO119; clear BK104; clear HB; have HO110 := n0_; have HO116 := n1_; have HO119 := n2_; have HO122 := n3_; have BK104 := n4_; have HB := n5_; clear n0_ n1_ n2_ n3_ n4_ n5_; (try clear hb); (try clear hb2); (try clear hk); (try clear hi); (try clear ho0); obtain ⟨Ao33, co33, eo33⟩ := Kd.R_slice HO122.out; (first | subst eo33 | (injection eo33 with f1_ f2_ f3_; have f4_ := f1_.symm; have f5_ := f3_.symm; clear f1_ f2_ f3_; subst f4_; subst f5_)); refine hK.out _ _ ⟨(blk_cell BK104.out 0).trans rfl, (blk_cell BK104.out 1).trans rfl⟩ (fun hHeld => ?_); clear hK K; refine norm_ (a' := ?_) ?_ ?_
   rotate_left
   ·show Act.put _ (some 40) _ = _
    simp only [Act.put, List.setIfInBounds_toArray, List.set_cons_zero, List.set_cons_succ, i64_w, i32_w]
    rfl
   refine one_ (i := 11) (N := some 41) #[true, true, true, true, true, true, true, true, true, true, true, true, false] rfl rfl (one_of HT_.out (by kernel_rfl)) (by decide) (fun K hK => ?_); refine Kd.R_append_rows_step (Kd.int .u8) (w0 := w) w.heap.size (by rfl) (.tmp 36) (.tmp 40) 64 5 (.int .u8 0) 1 rfl Tryd.underlying64 info5 rfl (by decide) (by omega) v118 y117 t120 _ _ _ (fun k_ => some k_ ≠ (.slice Ao26 t108.length co26 : Value).ownBlock ∧ some k_ ≠ (.slice Ao30 t114.length co30 : Value).ownBlock ∧ some k_ ≠ (.slice Ao33 t120.length co33 : Value).ownBlock) (fun _ => False) rfl rfl ?aO ?aR (fun _ _ h => h) (fun _ h => h.elim) ?aF ?aB ?aS ?aL ?_; (case aR => repeat (first | exact (Kd.R_reads' HO122.out).2.2 | (with_reducible refine Kd.C_alloc ?_ _) | (with_reducible refine Kd.C_drewN ?_ _) | (with_reducible refine Kd.C_drew ?_))); (case aB => exact (by repeat (first | (with_reducible first | exact HB.out | apply yA | apply yN | apply yD | refine yS ?_ GE104.out) | exact HB.out))); (case aF => exact (fun k_ hk => ⟨Kd.fresh' (Kd.R_lt (rx_ HO110)) k_ hk, Kd.fresh' (Kd.R_lt (rx_ HO116)) k_ hk, Kd.fresh' (Kd.R_lt (rx_ HO122)) k_ hk⟩)); (case aO => exact (by (with_reducible repeat first | apply rA_ | apply rN_ | apply rD_); exact Kd.R_mono HO119.out (fun _ hk => ⟨hk.1.1, ⟨hk.1.2, hk.2⟩⟩))); (case aS => exact (below_size (by repeat (first | (with_reducible first | exact HB.out | apply yA | apply yN | apply yD | refine yS ?_ GE104.out) | exact HB.out)))); (case aL => have := LMc17.out; omega); intro v124 w32 ho hb hg hat; (rw [← Ny123.out] at ho; have n0_ := Aside0.mk (blk_grown (g := gb104) (o := .cells #[.int .i64 a0_0, .int .u64 a0_1] 63 (0, 0)) (bx_ BK104) hg (Kd.R_ne HO119.out BK104.out (by decide))); have n1_ := Aside0.mk (Kd.R_after (ok := (fun k_ => some k_ ≠ (.slice Ao30 t114.length co30 : Value).ownBlock ∧ some k_ ≠ (.slice Ao33 t120.length co33 : Value).ownBlock)) (by (with_reducible repeat first | apply rA_ | apply rN_ | apply rD_); exact Kd.R_mono HO110.out (fun _ hk => ⟨⟨hk.1.1, hk.2⟩, hk.1.2⟩)) hg hat); have n2_ := Aside0.mk (Kd.R_after (ok := (fun k_ => some k_ ≠ (.slice Ao26 t108.length co26 : Value).ownBlock ∧ some k_ ≠ (.slice Ao33 t120.length co33 : Value).ownBlock)) (by (with_reducible repeat first | apply rA_ | apply rN_ | apply rD_); exact Kd.R_mono HO116.out (fun _ hk => ⟨⟨hk.1.1, hk.2⟩, hk.1.2⟩)) hg hat); have n3_ := Aside0.mk (Kd.R_after (ok := (fun k_ => some k_ ≠ (.slice Ao26 t108.length co26 : Value).ownBlock ∧ some k_ ≠ (.slice Ao30 t114.length co30 : Value).ownBlock)) (by (with_reducible repeat first | apply rA_ | apply rN_ | apply rD_); exact Kd.R_mono HO122.out (fun _ hk => ⟨⟨hk.1.1.2, hk.1.2⟩, hk.2⟩)) hg hat); have n4_ := Aside0.mk (hb); have n5_ := Aside0.mk (ho); clear BK104; clear HO110; clear HO116; clear HO122; clear HB; clear HO119; have BK104 := n0_; have HO110 := n1_; have HO116 := n2_; have HO122 := n3_; have HB := n4_; have HO125 := n5_; clear n0_ n1_ n2_ n3_ n4_ n5_; clear ho hb hg hat); refine hK.out _ _ ⟨(blk_cell BK104.out 0).trans rfl, (blk_cell BK104.out 1).trans rfl⟩ (fun hHeld => ?_); clear hK K; refine norm_ (a' := ?_) ?_ ?_
   rotate_left
   ·show Act.put _ (some 41) _ = _
    simp only [Act.put, List.setIfInBounds_toArray, List.set_cons_zero, List.set_cons_succ, i64_w, i32_w]
    rfl
   refine pure_ (i := 12) (N := some 4) (v := ?_) (a' := ?_) #[true, true, true, true, true, true, true, true, true, true, true, true, true] rfl rfl (any_of HT_.out (by kernel_rfl)) (fun _ _ _ h => h) (Or.inl ⟨by rfl, ?_⟩) ?_ ?_
   rotate_left
   ·intro w'
    go_simp
    with_reducible rfl
   rotate_left
   ·simp only [Act.put, List.setIfInBounds_toArray, List.set_cons_zero, List.set_cons_succ, i64_w, i32_w]
    rfl
   refine done_ (done_of HT_.out (by kernel_rfl)) ?_; obtain ⟨Ao34, co34, eo34⟩ := Kd.R_slice HO125.out; subst eo34
   try go_wp2_with (first | ((with_reducible refine gate_callee (f := 65) rfl ?_); refine goesL_ (some 44) rfl rfl Tryd.func65 (by kernel_rfl) rfl #[.slice Ao34 y123.length co34] rfl (by (try simp only [List.map_toArray, List.map_cons, List.map_nil]); first | done | rfl | (simp only [List.length_drop, List.length_take]; rfl)) ?_; (with_reducible refine (wire_Crc.calls kj1 _ _ y123 t126 _ ?side1 ?side2 A18.out).mono ?_); (case side1 => repeat (first | exact (Kd.R_reads' HO125.out).2.2 | (with_reducible refine Kd.C_alloc ?_ _) | (with_reducible refine Kd.C_drewN ?_ _) | (with_reducible refine Kd.C_drew ?_))); (case side2 => exact (Kd.R_reads' HO125.out).2.1); rintro e w' ⟨rfl, ⟨nd, rfl⟩⟩; refine ⟨_, rfl, ?_⟩) | ((with_reducible refine gate_callee (f := 64) rfl ?_); refine goesL_ (some 45) rfl rfl Tryd.func64 (by kernel_rfl) rfl #[.int .u32 t126] rfl (by (try simp only [List.map_toArray, List.map_cons, List.map_nil]); first | done | rfl | (simp only [List.length_drop, List.length_take]; rfl)) ?_; (with_reducible refine (wire_Four.calls t126 t127 _ A19.out).mono ?_); rintro e w35 ⟨v128, rfl, ho0, hb⟩; refine ⟨_, rfl, ?_⟩; have n0_ := Aside0.mk (Kd.R_elder' (rx_ HO110) (Kd.R_base ho0) hb); have n1_ := Aside0.mk (Kd.R_elder' (rx_ HO116) (Kd.R_base ho0) hb); have n2_ := Aside0.mk (Kd.R_elder' (rx_ HO122) (Kd.R_base ho0) hb); have n3_ := Aside0.mk (Kd.R_elder' (rx_ HO125) (Kd.R_base ho0) hb); have n4_ := Aside0.mk (Kd.R_lower (Kd.R_new' (Kd.R_new' (Kd.R_new' (Kd.R_new' ho0 (Kd.R_lt (rx_ HO110))) (Kd.R_lt (rx_ HO116))) (Kd.R_lt (rx_ HO122))) (Kd.R_lt (rx_ HO125))) (below_size (by repeat (first | (with_reducible first | exact HB.out | apply yA | apply yN | apply yD | refine yS ?_ GE104.out) | exact HB.out)))); have n5_ := Aside0.mk (blk_below (g := gb104) (o := .cells #[.int .i64 a0_0, .int .u64 a0_1] 63 (0, 0)) (bx_ BK104) hb); have n6_ := Aside0.mk (below_step (by repeat (first | (with_reducible first | exact HB.out | apply yA | apply yN | apply yD | refine yS ?_ GE104.out) | exact HB.out)) hb); clear HO110; clear HO116; clear HO122; clear HO125; clear BK104; clear HB; have HO110 := n0_; have HO116 := n1_; have HO122 := n2_; have HO125 := n3_; have HO129 := n4_; have BK104 := n5_; have HB := n6_; clear n0_ n1_ n2_ n3_ n4_ n5_ n6_; (try clear hb); (try clear hb2); (try clear hk); (try clear hi); (try clear ho0); obtain ⟨Ao37, co37, eo37⟩ := Kd.R_slice HO129.out; subst eo37) | ((with_reducible refine gate_builtin (b := .append) (xs := #[.tmp 42, .tmp 45]) rfl ?_); at_builtin; refine Kd.R_append_rows (Kd.int .u8) (w0 := w) w.heap.size rfl (.tmp 42) (.tmp 45) 64 5 (.int .u8 0) 1 rfl Tryd.underlying64 info5 rfl (by decide) (by omega) (.slice Ao34 y123.length co34) y123 t127 _ _ _ (fun k_ => some k_ ≠ (.slice Ao26 t108.length co26 : Value).ownBlock ∧ some k_ ≠ (.slice Ao30 t114.length co30 : Value).ownBlock ∧ some k_ ≠ (.slice Ao33 t120.length co33 : Value).ownBlock ∧ some k_ ≠ (.slice Ao37 t127.length co37 : Value).ownBlock) (fun _ => False) rfl rfl ?aO ?aR (fun _ _ h => h) (fun _ h => h.elim) ?aF ?aB ?aS ?aL ?_; (case aR => repeat (first | exact (Kd.R_reads' HO129.out).2.2 | (with_reducible refine Kd.C_alloc ?_ _) | (with_reducible refine Kd.C_drewN ?_ _) | (with_reducible refine Kd.C_drew ?_))); (case aB => exact (by repeat (first | (with_reducible first | exact HB.out | apply yA | apply yN | apply yD | refine yS ?_ GE104.out) | exact HB.out))); (case aF => exact (fun k_ hk => ⟨Kd.fresh' (Kd.R_lt (rx_ HO110)) k_ hk, Kd.fresh' (Kd.R_lt (rx_ HO116)) k_ hk, Kd.fresh' (Kd.R_lt (rx_ HO122)) k_ hk, Kd.fresh' (Kd.R_lt (rx_ HO129)) k_ hk⟩)); (case aO => exact (by (with_reducible repeat first | apply rA_ | apply rN_ | apply rD_); exact Kd.R_mono HO125.out (fun _ hk => ⟨hk.1.1, ⟨hk.1.2.1, ⟨hk.1.2.2, hk.2⟩⟩⟩))); (case aS => exact (below_size (by repeat (first | (with_reducible first | exact HB.out | apply yA | apply yN | apply yD | refine yS ?_ GE104.out) | exact HB.out)))); (case aL => have := LMc20.out; omega); intro v131 w36 ho hb hg hat; rw [← Ny130.out] at ho; have n0_ := Aside0.mk (blk_grown (g := gb104) (o := .cells #[.int .i64 a0_0, .int .u64 a0_1] 63 (0, 0)) (bx_ BK104) hg (Kd.R_ne HO125.out BK104.out (by decide))); have n1_ := Aside0.mk (Kd.R_after (ok := (fun k_ => some k_ ≠ (.slice Ao30 t114.length co30 : Value).ownBlock ∧ some k_ ≠ (.slice Ao33 t120.length co33 : Value).ownBlock ∧ some k_ ≠ (.slice Ao37 t127.length co37 : Value).ownBlock)) (by (with_reducible repeat first | apply rA_ | apply rN_ | apply rD_); exact Kd.R_mono HO110.out (fun _ hk => ⟨⟨hk.1.1.1, ⟨hk.1.1.2, hk.2⟩⟩, hk.1.2⟩)) hg hat); have n2_ := Aside0.mk (Kd.R_after (ok := (fun k_ => some k_ ≠ (.slice Ao26 t108.length co26 : Value).ownBlock ∧ some k_ ≠ (.slice Ao33 t120.length co33 : Value).ownBlock ∧ some k_ ≠ (.slice Ao37 t127.length co37 : Value).ownBlock)) (by (with_reducible repeat first | apply rA_ | apply rN_ | apply rD_); exact Kd.R_mono HO116.out (fun _ hk => ⟨⟨hk.1.1.1, ⟨hk.1.1.2, hk.2⟩⟩, hk.1.2⟩)) hg hat); have n3_ := Aside0.mk (Kd.R_after (ok := (fun k_ => some k_ ≠ (.slice Ao26 t108.length co26 : Value).ownBlock ∧ some k_ ≠ (.slice Ao30 t114.length co30 : Value).ownBlock ∧ some k_ ≠ (.slice Ao37 t127.length co37 : Value).ownBlock)) (by (with_reducible repeat first | apply rA_ | apply rN_ | apply rD_); exact Kd.R_mono HO122.out (fun _ hk => ⟨⟨hk.1.1.1, ⟨hk.1.1.2, hk.2⟩⟩, hk.1.2⟩)) hg hat); have n4_ := Aside0.mk (Kd.R_after (ok := (fun k_ => some k_ ≠ (.slice Ao26 t108.length co26 : Value).ownBlock ∧ some k_ ≠ (.slice Ao30 t114.length co30 : Value).ownBlock ∧ some k_ ≠ (.slice Ao33 t120.length co33 : Value).ownBlock)) (by (with_reducible repeat first | apply rA_ | apply rN_ | apply rD_); exact Kd.R_mono HO129.out (fun _ hk => ⟨⟨hk.1.1.1.2, ⟨hk.1.1.2, hk.1.2⟩⟩, hk.2⟩)) hg hat); have n5_ := Aside0.mk (hb); have n6_ := Aside0.mk (ho); clear BK104; clear HO110; clear HO116; clear HO122; clear HO129; clear HB; clear HO125; have BK104 := n0_; have HO110 := n1_; have HO116 := n2_; have HO122 := n3_; have HO129 := n4_; have HB := n5_; have HO132 := n6_; clear n0_ n1_ n2_ n3_ n4_ n5_ n6_; clear ho hb hg hat))
   go_ret2
   exact ⟨_, by first | rfl | (simp [errW_none, errW_some] <;> rfl) | (simp [*, errW_none, errW_some] <;> rfl), by (with_reducible repeat first | apply rA_ | apply rN_ | apply rD_); exact Kd.R_mono HO132.out (fun _ hk => trivial), by repeat (first | (with_reducible first | exact HB.out | apply yA | apply yN | apply yD | refine yS ?_ GE104.out) | exact HB.out)⟩
def seg_number.l0 : Nat → Int → List Int → Int → Int → Option (Int)
 | 0, _, _, _, _ => none
 | k + 1, x3, x6, x7, x8 => if x8 < x7 then (if 0 ≤ x8 then (if x8 < (x6.length : Int) then (seg_number.l0 k (Go.bits .or .u64 (IntKind.u64.wrap (x3 * 256)) (IntKind.u64.wrap (rd x6 x8))) x6 x7 (wrap64 (x8 + 1))) else (none)) else (none)) else (some x3)
def seg_number.f (k : Nat) (l0 : List Int) : Option (Int) := seg_number.l0 k 0 l0 (l0.length : Int) 0
set_option maxHeartbeats 8000000 in
set_option maxRecDepth 100000 in
theorem seg_number.calls (k : Nat) (A0 : Option Addr) (c0 : Nat) (l0 : List Int) (r : Int) (w : World) (hr0 : Kd.C (Kd.int .u8) w A0 l0.length l0) (hc0 : l0.length ≤ c0) (h : seg_number.f k l0 = some r) :
  Calls Tryd.prog 95 #[.slice A0 l0.length c0] w fun e w' => e = .returned (.int .u64 r) ∧ Drawn0 w w' := by
 have HR0 := Aside0.mk hr0; have HC0 := Aside0.mk hc0; clear hr0 hc0; have H : (seg_number.l0 k 0 l0 (l0.length : Int) 0) = some r := h; clear h; have H' := Aside0.mk H; clear H
 go_enter Tryd.func95, Tryd.ntmps95
 go_wp2
 go_loopg [3, 8] k (fun kq v3 v8 w' => ∃ (x3_1 : Int) (x8_1 : Int), v3 = .int .u64 x3_1 ∧ v8 = .int .i64 x8_1 ∧ Aside0 (seg_number.l0 kq x3_1 l0 (l0.length : Int) x8_1 = some r) ∧ Aside0 (kq ≤ k) ∧ Drawn0 w w')
 case atStart => exact ⟨(0), (0), (by first | rfl | (simp; done) | (simp [*]; done)), (by first | rfl | (simp; done) | (simp [*]; done)), H', ⟨Nat.le_refl _⟩, by repeat (first | exact Drawn0.refl _ | apply Drawn0.step)⟩
 case round =>
  clear H'; obtain ⟨x3_1, x8_1, rfl, rfl, HA, HK1, ⟨m1, rfl⟩⟩ := hrel
  cases gk with
  | zero => exact absurd HA.out (by simp [seg_number.l0])
  | succ k1 =>
   have H := HA.out; clear HA; (simp only [seg_number.l0] at H)
   by_cases c2 : x8_1 < (l0.length : Int)
   rotate_left
   ·rw [if_neg c2] at H
    have c2b0 : decide (x8_1 < (l0.length : Int)) = false := decide_eq_false c2; clear c2; obtain rfl := Option.some.inj H
    go_wp2
    go_ret
    exact ⟨by first | rfl | (simp; done) | (simp [*]; done), by repeat (first | exact Drawn0.refl _ | apply Drawn0.step)⟩
   (rw [if_pos c2] at H); have c2b0 : decide (x8_1 < (l0.length : Int)) = true := decide_eq_true c2; clear c2
   by_cases c3 : 0 ≤ x8_1
   rotate_left
   ·rw [if_neg c3] at H
    exact absurd H (by simp)
   (rw [if_pos c3] at H); have c3b0 : decide (0 ≤ x8_1) = true := decide_eq_true c3; clear c3
   by_cases c4 : x8_1 < (l0.length : Int)
   rotate_left
   ·rw [if_neg c4] at H
    exact absurd H (by simp)
   (rw [if_pos c4] at H); have c4b0 : decide (x8_1 < (l0.length : Int)) = true := decide_eq_true c4; clear c4; have H' := Aside0.mk H; clear H; have p133 : 0 ≤ (x8_1 : Int) := of_decide_eq_true (by first | (with_reducible assumption) | assumption); have q133 : x8_1 < (l0.length : Int) := of_decide_eq_true (by first | (with_reducible assumption) | assumption); obtain ⟨ad133, e133, hx133_0⟩ := Kd.at_int HR0.out x8_1 p133 q133
   cases e133
   replace p133 := eq_true p133; replace q133 := eq_true q133
   go_wp2
   go_roundg k1
   case measure => have := HK1.out; omega
   case rel => exact ⟨(Go.bits .or .u64 (IntKind.u64.wrap (x3_1 * 256)) (IntKind.u64.wrap (rd l0 x8_1))), (wrap64 (x8_1 + 1)), (by first | rfl | (simp; done) | (simp [*]; done)), (by first | rfl | (simp; done) | (simp [*]; done)), H', ⟨by have := HK1.out; omega⟩, by repeat (first | exact Drawn0.refl _ | apply Drawn0.step)⟩
end Go.Proofs.YtlgfmmkabnbllaaDoor.PS
