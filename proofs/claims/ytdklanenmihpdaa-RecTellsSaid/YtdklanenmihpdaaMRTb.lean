/- Texts of this claim, put together. -/
import Derived.Test.YtdklanenmihpdaaMRTa
import Derived.Shelf.Bytes.SlJoin
import Derived.Laws.Rows
import Derived.Laws.Tables
import Derived.Deep.RegionHeld3
import Derived.OpenShut
import Derived.Test.YtdklanenmihpdaaProg
import Derived.Below
import Derived.Deep.Draws
import Derived.Deep.AppendLies
import Derived.Maps.AppendAt
import Derived.OwnWalk
import Derived.Laws.BytesArg
import Derived.Laws.MakeOwn
import Derived.Laws.OwnMore
import Derived.Deep.OwnRows
import Derived.Tactics
import Derived.Lib.ConvBytes
import Derived.Laws.Slices
import Derived.WalkKit
import Derived.KernelRfl
import Derived.RowKit3
import Derived.Deep.LoopGhost
import Derived.Deep.QuietTactic
import Derived.BigQuiet
import Derived.WideLaws
import Derived.Deep.DeepCutAuto
import Derived.Deep.CutBlock
import Derived.Lib.AppendStr
import Derived.ArgAppend
import Derived.Laws.IdiomCopy
import Derived.OrdersHeld
import Derived.Laws.BitsLemmas
import Derived.RowKit
import Derived.Test.YtdklanenmihpdaaMRTWWords
import Derived.Test.YtdklanenmihpdaaMRTWLast
import Derived.Test.YtdklanenmihpdaaMRTWTab
import Derived.Test.YtdklanenmihpdaaMRTWApart
import Derived.Test.YtdklanenmihpdaaMRTWFoot
import Derived.Test.YtdklanenmihpdaaMRTWShare
import Derived.Test.YtdklanenmihpdaaMRTWN
import Derived.Laws.StructEq
import Derived.Test.YtdklanenmihpdaaMRTWRepsOne
import Derived.Test.YtdklanenmihpdaaMRTWInv
import Derived.Test.YtdklanenmihpdaaMRTWGuard
import Derived.Test.YtdklanenmihpdaaMRTWNEv
import Derived.Test.YtdklanenmihpdaaMRTWMore
set_option linter.unusedVariables false
set_option linter.unusedSimpArgs false
namespace Go.Proofs.Ytdklanenmihpdaa.Hand
open Go.RowKit Go.Proofs.YtdklanenmihpdaaW.PrintWords Go.Proofs.YtdklanenmihpdaaW.PrintLast Go.Proofs.YtdklanenmihpdaaW.PrintMore
def rhoJ : Shelf.Ren where
  f := fun x => match x with | 14 => 33 | 15 => 56 | x => x
  t := fun x => match x with | 0 => 0 | 3 => 3 | 4 => 4 | 5 => 5 | 9 => 9 | 20 => 20 | 22 => 23 | 26 => 48 | x => x
  g := fun x => x
theorem laysJ : SlLaysJ.n14 Try.prog rhoJ := by
  constructor
  all_goals first | kernel_rfl | (intro w; kernel_rfl) | (intro w; rfl)
def byteB (x : Int) : Bool := decide (0 ≤ x) && decide (x < 256)
def bytes_Join.f (l0 : List (List Int)) (l1 : List Int) : Option (List Int) :=
  if 2 ≤ l0.length ∧ l0.length ≤ 140737488355328 ∧ l1 = [] ∧ l0.flatten.all byteB = true ∧ l0.flatten.length ≤ 140737488355328 then some l0.flatten else none
theorem spot_of_N {α : Type} {d : Kd α} {e : Nat} {w : World} {base : Nat} {ok : Nat → Prop} {A : Option Addr} {n c : Nat} {xs : List α} (h : Kd.N d e w base ok (.slice A n c) xs) : 0 < xs.length → ∀ ad, A = some ad → ad.spot = none := by
  rintro hp ad rfl
  obtain ⟨g, cap, e1, _⟩ := Kd.N_form h hp
  injection e1 with e1
  injection e1 with e1
  rw [e1]
theorem byteB_iff {x : Int} : byteB x = true ↔ 0 ≤ x ∧ x < 256 := by unfold byteB; simp
theorem ofNat_inj {x y : Int} (hx : 0 ≤ x ∧ x < 256) (hy : 0 ≤ y ∧ y < 256) (h : UInt8.ofNat x.toNat = UInt8.ofNat y.toNat) : x = y := by
  have h := congrArg UInt8.toNat h
  simp only [UInt8.toNat_ofNat'] at h
  rw [Nat.mod_eq_of_lt (by omega), Nat.mod_eq_of_lt (by omega)] at h
  omega
theorem bytesOf_inj : ∀ {a b : List Int}, (∀ x ∈ a, 0 ≤ x ∧ x < 256) → (∀ x ∈ b, 0 ≤ x ∧ x < 256) → Lib.bytesOf a = Lib.bytesOf b → a = b
  | [], [], _, _, _ => rfl
  | [], _ :: _, _, _, h => by simp [Lib.bytesOf] at h
  | _ :: _, [], _, _, h => by simp [Lib.bytesOf] at h
  | x :: a, y :: b, ha, hb, h => by
    simp only [Lib.bytesOf, List.map_cons, List.cons.injEq] at h
    rw [ofNat_inj (ha x (by simp)) (hb y (by simp)) h.1, bytesOf_inj (fun z hz => ha z (by simp [hz])) (fun z hz => hb z (by simp [hz])) h.2]
theorem holds_of_C {w : World} {A : Option Addr} {c : Nat} {l : List Int} (hC : Kd.C (Kd.int .u8) w A l.length l) (hb : ∀ x ∈ l, 0 ≤ x ∧ x < 256) : Lib.HoldsBytes w (.slice A l.length c) (Lib.bytesOf l) := by
  refine ⟨A, c, by simp [Lib.bytesOf], ?_, ?_⟩
  · rintro rfl
    cases l with
    | nil => rfl
    | cons x l => obtain ⟨ad, e, _⟩ := hC.2.2 (by simp); cases e
  · rintro a rfl i x hx
    have hi : i < l.length := by
      have := (List.getElem?_eq_some_iff.1 hx).1
      simpa [Lib.bytesOf] using this
    obtain ⟨ad, e, hc⟩ := hC.2.2 (by omega)
    obtain rfl := Option.some.inj e
    obtain ⟨c1, _, hk, hcell⟩ := hc i l[i] (List.getElem?_eq_getElem hi)
    have hk' : c1 = [.int .u8 l[i]] := hk
    subst hk'
    have h1 := hcell 0 _ rfl
    have h1' : w.cell? (a.add i) = some (.int .u8 l[i]) := by simpa [Kd.int, Kd.scalar] using h1
    rw [h1']
    have hx' : UInt8.ofNat l[i].toNat = x := by simpa [Lib.bytesOf, hi] using hx
    have hr := hb l[i] (List.getElem_mem hi)
    rw [← hx', UInt8.toNat_ofNat', Nat.mod_eq_of_lt (by omega), Int.toNat_of_nonneg hr.1]
theorem chosen {P : Nat → Value → Prop} (n : Nat) (h : ∀ j, j < n → ∃ v, P j v) : ∃ vs : List Value, vs.length = n ∧ ∀ (j : Nat) v, vs[j]? = some v → P j v := by
  induction n with
  | zero => exact ⟨[], rfl, by simp⟩
  | succ n ih =>
    obtain ⟨vs, hl, hv⟩ := ih (fun j hj => h j (by omega))
    obtain ⟨v, hP⟩ := h n (by omega)
    refine ⟨vs ++ [v], by simp [hl], fun j u hu => ?_⟩
    by_cases hj : j < vs.length
    · exact hv j u (by rwa [List.getElem?_append_left hj] at hu)
    · rw [List.getElem?_append_right (by omega)] at hu
      have : j - vs.length = 0 := by
        rcases Nat.eq_zero_or_pos (j - vs.length) with h | h
        · exact h
        · rw [List.getElem?_eq_none (by simp; omega)] at hu; cases hu
      rw [this] at hu
      obtain rfl : v = u := by simpa using hu
      obtain rfl : j = n := by omega
      exact hP
theorem parts_of_C {w : World} {ad : Addr} {l0 : List (List Int)} (hC : Kd.C (Kd.slice 5 (Kd.int .u8)) w (some ad) l0.length l0) (hp : 0 < l0.length) (hb : ∀ l ∈ l0, ∀ x ∈ l, 0 ≤ x ∧ x < 256) : ∃ vs, Lib.PartsAt w ad vs (l0.map Lib.bytesOf) := by
  obtain ⟨ad', e, hc⟩ := hC.2.2 hp
  obtain rfl := Option.some.inj e
  obtain ⟨vs, hl, hv⟩ := chosen (P := fun j v => w.cell? (ad.add j) = some v ∧ Lib.HoldsBytes w v (Lib.bytesOf (l0.getD j []))) l0.length (fun j hj => by
    obtain ⟨c, _, ⟨A, cp, rfl, hcp, hCj⟩, hcell⟩ := hc j l0[j] (List.getElem?_eq_getElem hj)
    have h1 := hcell 0 _ rfl
    refine ⟨_, by simpa [Kd.slice] using h1, ?_⟩
    rw [List.getD_eq_getElem?_getD, List.getElem?_eq_getElem hj]
    exact holds_of_C hCj (hb _ (List.getElem_mem hj)))
  refine ⟨vs, by simp [hl], fun i v hi => (hv i v hi).1, fun i v l hi hl2 => ?_⟩
  have h2 := (hv i v hi).2
  rw [List.getElem?_map] at hl2
  rw [List.getD_eq_getElem?_getD] at h2
  cases hx : l0[i]? with
  | none => rw [hx] at hl2; cases hl2
  | some y => rw [hx] at hl2 h2; obtain rfl : Lib.bytesOf y = l := by simpa using hl2
              exact h2
theorem bytesOf_flatten : ∀ l0 : List (List Int), (l0.map Lib.bytesOf).flatten = Lib.bytesOf l0.flatten
  | [] => rfl
  | x :: l => by simp only [List.map_cons, List.flatten_cons, bytesOf_flatten l]; simp [Lib.bytesOf]
theorem join_flat (ls : List (List UInt8)) : Lib.join ls [] = ls.flatten := by
  cases ls with
  | nil => rfl
  | cons x r => rw [Lib.join_cons]; simp [Lib.joinTail]
theorem V_of_fresh {b : Nat} {w : World} {v : Value} {l : List UInt8} {xs : List Int} (h : Lib.FreshBytes b w v l) (hl : l = Lib.bytesOf xs) (hx : ∀ x ∈ xs, 0 ≤ x ∧ x < 256) : Kd.V (Kd.int .u8) 5 w b (fun k => True ∧ b ≤ k ∧ k < w.heap.size) v xs := by
  obtain ⟨g, cap, zs, rfl, hg, hcap, hmax, hz, hzr, htake, hcell, hfz⟩ := h
  have hlen : l.length = xs.length := by rw [hl]; simp [Lib.bytesOf]
  have hzx : zs.take l.length = xs := bytesOf_inj (fun x hx => hzr x (List.mem_of_mem_take hx)) hx (by rw [htake, hl])
  refine ⟨some ⟨g, 0, none⟩, cap, by rw [hlen], by omega, fun W' hW => ⟨rfl, by unfold maxLen at hmax; omega, fun hn => ⟨_, rfl, fun j p hj => ⟨[.int .u8 p], rfl, rfl, fun i u hu => ?_⟩⟩⟩⟩
  have hi : i = 0 := by
    rcases Nat.eq_zero_or_pos i with h | h
    · exact h
    · rw [List.getElem?_eq_none (by simp; omega)] at hu; cases hu
  subst hi
  obtain rfl : .int .u8 p = u := by simpa using hu
  have hjl : j < xs.length := (List.getElem?_eq_some_iff.1 hj).1
  have h0 := hcell 0 (by omega)
  have hlt := World.block_lt_of_cell? _ _ h0
  have hcj := hcell j (by omega)
  have e1 : (⟨g, 0, none⟩ : Addr).add (j * (Kd.int .u8).sz + 0) = ⟨g, j, none⟩ := by rw [Lib.add_plain2]; simp [Kd.int, Kd.scalar]
  rw [e1, World.cell?_of_block (w := w) (hW g ⟨trivial, hg, hlt⟩ hlt), hcj]
  have hp : zs[j]? = some p := by
    have : (zs.take l.length)[j]? = some p := by rw [hzx]; exact hj
    rwa [List.getElem?_take_of_lt (by omega)] at this
  rw [List.getD_eq_getElem?_getD, hp]; rfl
theorem bytes_Join.calls (A0 : Option Addr) (c0 : Nat) (l0 : List (List Int)) (A1 : Option Addr) (c1 : Nat) (l1 : List Int) (r : List Int) (w : World) (hr0 : Kd.C (Kd.slice 5 (Kd.int .u8)) w A0 l0.length l0) (hc0 : l0.length ≤ c0) (hr1 : Kd.C (Kd.int .u8) w A1 l1.length l1) (hc1 : l1.length ≤ c1) (h : bytes_Join.f l0 l1 = some r)
    (hsp : 0 < l0.length → ∀ ad, A0 = some ad → ad.spot = none) :
    Calls Try.prog 33 #[.slice A0 l0.length c0, .slice A1 l1.length c1] w fun e w' => ∃ v0_ : Value, e = .returned (v0_) ∧ Kd.V (Kd.int .u8) 5 w' w.heap.size (fun k_ => True ∧ w.heap.size ≤ k_ ∧ k_ < w'.heap.size) v0_ r ∧ Below w.heap.size w w' := by
  unfold bytes_Join.f at h
  split at h
  case isFalse => cases h
  rename_i hq
  obtain ⟨q1, q2, rfl, q4, q5⟩ := hq
  obtain rfl := Option.some.inj h
  have hb : ∀ x ∈ l0.flatten, 0 ≤ x ∧ x < 256 := fun x hx => byteB_iff.1 (List.all_eq_true.1 q4 x hx)
  have hb2 : ∀ l ∈ l0, ∀ x ∈ l, 0 ≤ x ∧ x < 256 := fun l hl x hx => hb x (List.mem_flatten.2 ⟨l, hl, hx⟩)
  obtain ⟨ad, rfl, _⟩ := hr0.2.2 (by omega)
  have hs := hsp (by omega) ad rfl
  obtain ⟨b, o, sp⟩ := ad
  obtain rfl : sp = none := hs
  obtain ⟨vs, hP⟩ := parts_of_C hr0 (by omega) hb2
  have hlens : Lib.lens (l0.map Lib.bytesOf) = l0.flatten.length := by
    unfold Lib.lens
    rw [List.length_flatten, List.map_map]
    congr 1
    apply List.map_congr_left
    intro x _
    simp [Lib.bytesOf]
  refine (Any.bytes_Join_many laysJ b o l0.length c0 vs (l0.map Lib.bytesOf) (.slice A1 0 c1) [] w (by simp) q1 hP hc0 ⟨A1, c1, rfl, fun _ => rfl, by simp⟩ q2 (by rw [hlens]; simp only [List.length_nil]; omega)).mono ?_
  rintro e w' ⟨v', rfl, hf, hbl⟩
  exact ⟨v', rfl, V_of_fresh hf (by rw [join_flat, bytesOf_flatten]) hb, hbl⟩
end Go.Proofs.Ytdklanenmihpdaa.Hand
namespace Go.Proofs.Ytdklanenmihpdaa.Hand
open Go.RowKit Go.Proofs.YtdklanenmihpdaaW.PrintWords Go.Proofs.YtdklanenmihpdaaW.PrintLast Go.Proofs.Ytdklanenmihpdaa.PA
def stopR (e : Int) : List PanicEntry := [{ v := .iface 99 (.agg #[.int .i64 e]), recovered := false }]
theorem asks_ok {b : Bool} {e : Int} {w : World} (hb : b = true) : Calls Try.prog 41 #[.bool b, .int .i64 e] w fun en w' => en = .returned (.tuple #[]) ∧ w = w' := by
  subst hb
  go_enter Try.func41, Try.ntmps41
  go_wp2
  go_end0
  exact ⟨rfl, rfl⟩
theorem asks_no {b : Bool} {e : Int} {w : World} (hb : b = false) : Calls Try.prog 41 #[.bool b, .int .i64 e] w fun en w' => en = .panicked (stopR e) ∧ w = w' := by
  subst hb
  go_enter Try.func41, Try.ntmps41
  go_wp2
  exact ⟨rfl, rfl, rfl⟩
set_option maxHeartbeats 1000000 in
theorem num_ok {w : World} {A : Option Addr} {c p : Nat} {l : List Int} {a n q : Int} (hr0 : Kd.C (Kd.int .u8) w A l.length l) (hc0 : l.length ≤ c) (hp : w.heap[p]? = some (.cells #[.int .i64 a] 3 (0, 0))) (hg : getV l a = (n, q, 0)) :
    Calls Try.prog 42 #[.slice A l.length c, .pointer (some ⟨p, 0, none⟩)] w fun en w' => en = .returned (.int .u64 n) ∧ w'.heap[p]? = some (.cells #[.int .i64 q] 3 (0, 0)) ∧ Mu (· = p) w w' := by
  have HG := Aside0.mk (wire_Get.calls A c l a n q 0 w hr0 hc0 (congrArg some hg))
  have HP := Aside0.mk hp
  have c0 := blk_cell hp 0
  clear hr0 hc0 hp hg
  go_enter Try.func42, Try.ntmps42
  go_wp2_with fail
  refine HG.out.mono ?_
  rintro en w1 ⟨rfl, hb⟩
  have h1 := (Mu.of_below hb (fun _ => False)).heap HP.out (fun h => h)
  have H1 := Aside0.mk h1
  have HB := Aside0.mk hb
  have c1 := blk_cell h1 0
  have f1 := blk_frozen h1 0
  clear h1 hb HG
  go_wp2_with fail
  refine (asks_ok rfl).mono ?_
  rintro en w2 ⟨rfl, rfl⟩
  go_wp2_with fail
  go_ret
  exact ⟨rfl, set_0 H1.out, (Mu.of_below HB.out (· = p)).setCell (p := ⟨p, 0, none⟩) (fun _ => rfl) _⟩
set_option maxHeartbeats 1000000 in
theorem num_no {w : World} {A : Option Addr} {c p : Nat} {l : List Int} {a n q e : Int} (hr0 : Kd.C (Kd.int .u8) w A l.length l) (hc0 : l.length ≤ c) (hp : w.heap[p]? = some (.cells #[.int .i64 a] 3 (0, 0))) (hg : getV l a = (n, q, e)) (he : e ≠ 0) :
    Calls Try.prog 42 #[.slice A l.length c, .pointer (some ⟨p, 0, none⟩)] w fun en w' => en = .panicked (stopR e) ∧ Below w.heap.size w w' := by
  have HG := Aside0.mk (wire_Get.calls A c l a n q e w hr0 hc0 (congrArg some hg))
  have c0 := blk_cell hp 0
  have he' : (e == 0) = false := beq_eq_false_iff_ne.2 he
  clear hr0 hc0 hp hg he
  go_enter Try.func42, Try.ntmps42
  go_wp2_with fail
  refine HG.out.mono ?_
  rintro en w1 ⟨rfl, hb⟩
  have HB := Aside0.mk hb
  clear hb HG
  go_wp2_with fail
  refine (asks_no rfl).mono ?_
  rintro en w2 ⟨rfl, rfl⟩
  exact ⟨rfl, rfl, HB.out⟩
set_option maxHeartbeats 1000000 in
theorem rcaught_nil {w : World} : Calls Try.prog 40 #[.nilIface] w fun en w' => en = .returned (.int .i64 0) ∧ w' = w := by
  go_enter Try.func40, Try.ntmps40
  go_wp2
  go_ret
  exact ⟨rfl, rfl⟩
set_option maxHeartbeats 1000000 in
theorem rcaught_stop {w : World} {X : Int} : Calls Try.prog 40 #[.iface 99 (.agg #[.int .i64 X])] w fun en w' => en = .returned (.int .i64 X) ∧ Below w.heap.size w w' := by
  have hta : ∀ (v : Value) (W : World), (Instr.typeAssert (.iface 99 v) 20 99 true).run Try.prog W = .ok (.tuple #[v, .bool true]) W := fun v W => by kernel_rfl
  go_enter Try.func40, Try.ntmps40
  go_wp2
  go_ret
  refine ⟨rfl, ?_⟩
  first
    | exact below_alloc (Below.refl _ _) _
    | exact (below_alloc (Below.refl _ _) _).trans (by simp)
    | trace_state
end Go.Proofs.Ytdklanenmihpdaa.Hand
namespace Go.Proofs.Ytdklanenmihpdaa.Hand
open Go.RowKit Go.Proofs.YtdklanenmihpdaaW.PrintWords Go.Proofs.YtdklanenmihpdaaW.PrintLast Go.Proofs.Ytdklanenmihpdaa.PA
abbrev recO (k s t : Int) (v : Value) : Obj := .cells #[.int .i64 k, .int .u64 s, .int .u64 t, v] 25 (0, 0)
theorem rec_store {W : World} {g : Nat} {k s t : Int} (k' s' t' : Int) {v : Value} (A : Option Addr) (n c : Nat) (h : W.heap[g]? = some (recO k s t v)) :
    ∃ W', (Instr.storeAt 25 (.pointer (some ⟨g, 0, none⟩)) (.agg #[.int .i64 k', .int .u64 s', .int .u64 t', .slice A n c])).run Try.prog W = .ok () W' ∧ W'.heap[g]? = some (recO k' s' t' (.slice A n c)) ∧ Mu (· = g) W W' := by
  refine ⟨W.setRow g #[.int .i64 k', .int .u64 s', .int .u64 t', .slice A n c], ?_, setRow_heap W g _ _ _ _ h, ⟨rfl, rfl, rfl, by simp, fun j _ hj => setRow_other W g j _ hj⟩⟩
  simp only [Instr.storeAt, Instr.sureAddr, Sem.run_bind, Sem.run_pure, Result.andThen_ok, run_storeVar_row (P := Try.prog) W g 25 25 _ #[.int .i64 k', .int .u64 s', .int .u64 t', .slice A n c] h (by kernel_rfl) rfl (by simp [Value.oneCell'])]
theorem rec_load {W : World} {g : Nat} {k s t : Int} {v : Value} (h : W.heap[g]? = some (recO k s t v)) :
    (Instr.loadAt 25 (.pointer (some ⟨g, 0, none⟩))).run Try.prog W = .ok (.agg #[.int .i64 k, .int .u64 s, .int .u64 t, v]) W := by
  simp only [Instr.loadAt, Instr.sureAddr, Sem.run_bind, Sem.run_pure, Result.andThen_ok, run_loadVar_row (P := Try.prog) W g 25 25 _ (0, 0) _ h Try.underlying25 rfl (by kernel_rfl)]
theorem rec_build (W : World) : (Instr.build 25 #[]).run Try.prog W = .ok (.agg #[.int .i64 0, .int .u64 0, .int .u64 0, .slice none 0 0]) W :=
  run_build (P := Try.prog) W 25 #[] _ (by kernel_rfl)
theorem wpList_storeR {P : Program} {ops : Array Oper} {rest : List Oper} {o : Oper} {a : Act} {w w' : World} {Q : Exit → Act → World → Prop} (hgd : o.guard = none) (ty : TypeId) (x y : Operand) (ho : o.op = .store ty x y) {u v : Value} (hx : a.eval x = u) (hy : a.eval y = v)
    (hr : (Instr.storeAt ty u v).run P w = .ok () w') (h : wpList P ops Q rest (a.put o.dst undef) w') : wpList P ops Q (o :: rest) a w :=
  wpList_plain hgd fun _ hK => by
    unfold Oper.wp execOp
    simp only [ho, hx, hy, Sem.run_bind, hr, Result.andThen_ok, Sem.run_pure]
    exact hK _ _ h
theorem wpList_loadR {P : Program} {ops : Array Oper} {rest : List Oper} {o : Oper} {a : Act} {w : World} {Q : Exit → Act → World → Prop} (hgd : o.guard = none) (ty : TypeId) (x : Operand) (ho : o.op = .load ty x) {u v : Value} (hx : a.eval x = u)
    (hr : (Instr.loadAt ty u).run P w = .ok v w) (h : wpList P ops Q rest (a.put o.dst v) w) : wpList P ops Q (o :: rest) a w :=
  wpList_plain hgd fun _ hK => by
    unfold Oper.wp execOp
    simp only [ho, hx, Sem.run_bind, hr, Result.andThen_ok, Sem.run_pure]
    exact hK _ _ h
noncomputable def dec_rest : Code := match Try.f39.body with | some (.seq _ c) => c | _ => .skip
set_option maxRecDepth 100000 in
set_option maxHeartbeats 1000000 in
theorem dec_rest_stop {w : World} {p : Nat} {k s t e : Int} {v rv : Value} {X f : Int} (hX : (X != 0) = true)
    (h0 : w.heap[p]? = some (recO k s t v)) (h1 : w.heap[p + 1]? = some (.cells #[.int .i64 e] 3 (0, 0))) (h2 : w.heap[p + 1 + 1]? = some (.cells #[.int .i64 f] 27 (0, 0))) :
    Code.wp Try.prog dec_rest (fun en a' w' => en = .normal ∧ a'.defers = [] ∧ w'.heap[p]? = some (recO 0 0 0 (.slice none 0 0)) ∧ w'.heap[p + 1]? = some (.cells #[.int .i64 0] 3 (0, 0)) ∧ w'.heap[p + 1 + 1]? = some (.cells #[.int .i64 X] 27 (0, 0)) ∧ Mu (fun k => p ≤ k) w w')
      { tmps := #[.pointer (some ⟨p, 0, none⟩), .pointer (some ⟨p + 1, 0, none⟩), .pointer (some ⟨p + 1 + 1, 0, none⟩), .int .i64 X, rv, .int .i64 X, undef, undef, undef, undef], defers := [] } w := by
  obtain ⟨W1, hst, g0, m0⟩ := rec_store 0 0 0 none 0 0 h0
  have g1 := m0.heap h1 (by omega)
  have g2 := m0.heap h2 (by omega)
  obtain ⟨W2, hW2⟩ : ∃ W2, W1.setCell ⟨p + 1, 0, none⟩ (.int .i64 0) = W2 := ⟨_, rfl⟩
  have j1 : W2.heap[p + 1]? = some (.cells #[.int .i64 0] 3 (0, 0)) := by rw [← hW2]; exact set_0 g1
  have m1 : Mu (· = p + 1) W1 W2 := by rw [← hW2]; exact (Mu.refl (· = p + 1) W1).setCell (p := ⟨p + 1, 0, none⟩) (fun _ => rfl) _
  have j0 := m1.heap g0 (by omega)
  have j2 := m1.heap g2 (by omega)
  have HF := Aside0.mk (And.intro j0 (And.intro j1 (And.intro j2 (And.intro m0 m1))))
  have HW := Aside0.mk hW2
  have d1 := blk_cell g1 0
  have y1 := blk_frozen g1 0
  have d2 := blk_cell g2 0
  have y2 := blk_frozen g2 0
  have hbd := rec_build
  clear h0 h1 h2 g0 g1 g2 m0 m1 j0 j1 j2 hW2
  unfold dec_rest Try.f39
  go_wp2_with ((with_reducible refine gate_ (.store 25 (.tmp 0) (.tmp 8)) rfl ?_); refine wpList_storeR rfl _ _ _ rfl (by rfl) (by rfl) hst ?_)
  rw [HW.out]
  obtain ⟨j0, j1, j2, m0, m1⟩ := HF.out
  refine ⟨(Below.heap_setCell _ _ _ _ (by show p ≠ p + 1 + 1; omega)).trans j0, (Below.heap_setCell _ _ _ _ (by show p + 1 ≠ p + 1 + 1; omega)).trans j1, set_0 j2, ?_⟩
  exact ((m0.mono (fun k _ h => by show p ≤ k; omega)).trans (m1.mono (fun k _ h => by show p ≤ k; omega))).setCell (p := ⟨p + 1 + 1, 0, none⟩) (fun _ => by show p ≤ p + 1 + 1; omega) _
set_option maxRecDepth 100000 in
set_option maxHeartbeats 1000000 in
theorem dec_stop {w : World} {p : Nat} {k s t e : Int} {v : Value} {X f : Int} {older : List PanicEntry} (hX : (X != 0) = true)
    (h0 : w.heap[p]? = some (recO k s t v)) (h1 : w.heap[p + 1]? = some (.cells #[.int .i64 e] 3 (0, 0))) (h2 : w.heap[p + 1 + 1]? = some (.cells #[.int .i64 f] 27 (0, 0))) :
    CallsD Try.prog 39 #[.pointer (some ⟨p, 0, none⟩), .pointer (some ⟨p + 1, 0, none⟩), .pointer (some ⟨p + 1 + 1, 0, none⟩)]
      (.panicking ({ v := .iface 99 (.agg #[.int .i64 X]), recovered := false } :: older)) w fun en u w' =>
      en = .returned (.tuple #[]) ∧ u = .panicking ({ v := .iface 99 (.agg #[.int .i64 X]), recovered := true } :: older) ∧
        w'.heap[p]? = some (recO 0 0 0 (.slice none 0 0)) ∧ w'.heap[p + 1]? = some (.cells #[.int .i64 0] 3 (0, 0)) ∧ w'.heap[p + 1 + 1]? = some (.cells #[.int .i64 X] 27 (0, 0)) ∧ Mu (fun k => p ≤ k) w w' := by
  refine callsD_of_wpS Try.func39 rfl fun c₀ cs hu => ?_
  have fin : ∀ (w1 : World), Below w.heap.size w w1 → ∀ (en : Exit) (a' : Act) (w' : World), (en = .normal ∧ a'.defers = [] ∧ w'.heap[p]? = some (recO 0 0 0 (.slice none 0 0)) ∧ w'.heap[p + 1]? = some (.cells #[.int .i64 0] 3 (0, 0)) ∧ w'.heap[p + 1 + 1]? = some (.cells #[.int .i64 X] 27 (0, 0)) ∧ Mu (fun k => p ≤ k) w1 w') →
      bodyPostS Try.prog Try.f39 c₀ cs (fun en u w' => en = .returned (.tuple #[]) ∧ u = .panicking ({ v := .iface 99 (.agg #[.int .i64 X]), recovered := true } :: older) ∧
        w'.heap[p]? = some (recO 0 0 0 (.slice none 0 0)) ∧ w'.heap[p + 1]? = some (.cells #[.int .i64 0] 3 (0, 0)) ∧ w'.heap[p + 1 + 1]? = some (.cells #[.int .i64 X] 27 (0, 0)) ∧ Mu (fun k => p ≤ k) w w') en a'
        ({ c₀ with mode := .panicking ({ v := .iface 99 (.agg #[.int .i64 X]), recovered := true } :: older) } :: cs) w' := by
    rintro w1 hb en a' w' ⟨rfl, hd, g0, g1, g2, hm⟩
    exact ⟨hd, _, rfl, .tuple #[], results_none rfl _ _ _, rfl, rfl, g0, g1, g2, (Mu.of_below hb _).trans hm⟩
  have HS := Aside0.mk (And.intro h0 (And.intro h1 h2))
  clear h0 h1 h2
  apply wpS_seq
  apply wpS_region
  simp [wpOpsS, go_sem, recoverD, hu, Try.ntmps39]
  refine rcaught_stop.mono ?_
  rintro en w1 ⟨rfl, hb⟩
  have hm := Mu.of_below hb (fun _ => False)
  have r := dec_rest_stop (rv := .iface 99 (.agg #[.int .i64 X])) hX (hm.heap HS.out.1 (fun h => h)) (hm.heap HS.out.2.1 (fun h => h)) (hm.heap HS.out.2.2 (fun h => h))
  simp [wpOpsS, go_sem, Exit.thenS]
  refine wpS_of_wp ?_
  refine wp_act (a' := { tmps := #[.pointer (some ⟨p, 0, none⟩), .pointer (some ⟨p + 1, 0, none⟩), .pointer (some ⟨p + 1 + 1, 0, none⟩), .int .i64 X, .iface 99 (.agg #[.int .i64 X]), .int .i64 X, undef, undef, undef, undef], defers := [] }) (by kernel_rfl) ?_
  refine wp_code (c' := dec_rest) (by kernel_rfl) ?_
  exact Code.wp_mono (fin w1 hb) r
set_option maxRecDepth 100000 in
set_option maxHeartbeats 1000000 in
theorem dec_rest_idle {w : World} {p1 p2 p3 rv : Value} :
    Code.wp Try.prog dec_rest (fun en a' w' => en = .normal ∧ a'.defers = [] ∧ w' = w)
      { tmps := #[p1, p2, p3, .int .i64 0, rv, .int .i64 0, undef, undef, undef, undef], defers := [] } w := by
  unfold dec_rest Try.f39
  go_wp2
set_option maxRecDepth 100000 in
set_option maxHeartbeats 1000000 in
theorem dec_idle {w : World} {p1 p2 p3 : Value} :
    CallsD Try.prog 39 #[p1, p2, p3] .returning w fun en u w' => en = .returned (.tuple #[]) ∧ u = .returning ∧ w' = w := by
  refine callsD_of_wpS Try.func39 rfl fun c₀ cs hu => ?_
  have fin : ∀ (en : Exit) (a' : Act) (w' : World), (en = .normal ∧ a'.defers = [] ∧ w' = w) →
      bodyPostS Try.prog Try.f39 c₀ cs (fun en u w' => en = .returned (.tuple #[]) ∧ u = .returning ∧ w' = w) en a' (c₀ :: cs) w' := by
    rintro en a' w' ⟨rfl, hd, rfl⟩
    exact ⟨hd, .returning, by rw [← hu], .tuple #[], results_none rfl _ _ _, rfl, rfl, rfl⟩
  apply wpS_seq
  apply wpS_region
  simp [wpOpsS, go_sem, recoverD, hu, Try.ntmps39]
  refine rcaught_nil.mono ?_
  rintro en w1 ⟨rfl, rfl⟩
  simp [wpOpsS, go_sem, Exit.thenS]
  refine wpS_of_wp ?_
  refine wp_act (a' := { tmps := #[p1, p2, p3, .int .i64 0, .nilIface, .int .i64 0, undef, undef, undef, undef], defers := [] }) (by kernel_rfl) ?_
  refine wp_code (c' := dec_rest) (by kernel_rfl) ?_
  exact Code.wp_mono fin dec_rest_idle
end Go.Proofs.Ytdklanenmihpdaa.Hand
namespace Go.Proofs.Ytdklanenmihpdaa.Hand
open Go.RowKit Go.Proofs.YtdklanenmihpdaaW.PrintWords Go.Proofs.YtdklanenmihpdaaW.PrintLast
theorem info5 : (Try.prog.info? 5).map (fun i => (i.zero, i.size, i.bytes)) = some (some (.int .u8 0), 1, 1) := by kernel_rfl
def copyOf (l : List Int) (w : World) (en : Ending) (w' : World) : Prop := ∃ v, en = .returned v ∧ Kd.R (Kd.int .u8) 5 w' w.heap.size (fun _ => True) v l ∧ Below w.heap.size w w'
set_option maxHeartbeats 1000000 in
theorem clone_any {w : World} {A : Option Addr} {c : Nat} {l : List Int} (hC : Kd.C (Kd.int .u8) w A l.length l) (hc : l.length ≤ c) (hl : l.length < 140737488355328) :
    Calls Try.prog 43 #[.slice A l.length c] w (copyOf l w) := by
  have HC := Aside0.mk hC
  clear hC
  have HB := Aside0.mk (Below.refl w.heap.size w)
  cases A with
  | none =>
    obtain rfl : l = [] := by
      cases l with
      | nil => rfl
      | cons x l =>
        obtain ⟨ad, e, _⟩ := HC.out.2.2 (by simp)
        cases e
    have hq : ∀ w : World, (binOp .eql 23 (.slice none 0 c) (.slice none 0 0)).run Try.prog w = .ok (.bool true) w := fun w => Lib.run_eql_slice_nil w 23 5 none 0 c 0 0 Try.underlying23
    show Calls Try.prog 43 #[.slice none 0 c] w (copyOf [] w)
    go_enter Try.func43, Try.ntmps43
    go_wp2
    go_ret
    exact ⟨_, rfl, Kd.R_nil _ _ _ _ _, Below.refl _ _⟩
  | some ad =>
    have hq : ∀ w : World, (binOp .eql 23 (.slice (some ad) l.length c) (.slice none 0 0)).run Try.prog w = .ok (.bool false) w := fun w => Lib.run_eql_slice_nil w 23 5 (some ad) l.length c 0 0 Try.underlying23
    have HL := Aside0.mk hl
    clear hl
    go_enter Try.func43, Try.ntmps43
    go_wp2_with (first
      | ((with_reducible refine gate_dst (N := 5) rfl ?_); refine Kd.R_lit (Kd.int .u8) w.heap.size 5 ?hg (N := 5) ?hd (xs := ([] : List Int)) (inner := []) (ok := fun _ => True) (okp := fun _ => True) ?hr ?hp (fun _ hk => hk) trivial (Below.refl _ _) (Nat.le_refl _) (by simp) ?_; (case hd => rfl); (case hg => rfl); (case hr => first | (go_simp; done) | (go_simp; rfl)); (case hp => exact (Reps.none _ _)); intro v1 w1 ho hb hg_ hnew_; clear hg_ hnew_; have HO1 := Aside0.mk ho; have HB1 := Aside0.mk hb; clear ho hb HB)
      | ((with_reducible refine gate_builtin (b := .append) (xs := #[.tmp 5, .tmp 6]) rfl ?_); at_builtin; refine Kd.R_append_rows (Kd.int .u8) (w0 := w) w.heap.size rfl (.tmp 5) (.tmp 6) 23 5 (.int .u8 0) 1 rfl Try.underlying23 info5 rfl (by decide) (by omega) v1 [] l _ _ _ (fun _ => True) (fun _ => False) rfl rfl HO1.out (Kd.C_below HC.out HB1.out) (fun _ _ h => h) (fun _ h => h.elim) (fun _ _ => trivial) HB1.out HB1.out.size (by have := HL.out; simp; omega) ?_; intro v2 w2 ho hb hg hat; have HO2 := Aside0.mk ho; have HB2 := Aside0.mk hb; clear ho hb hg hat HO1 HB1))
    go_ret
    exact ⟨_, rfl, HO2.out, HB2.out⟩
end Go.Proofs.Ytdklanenmihpdaa.Hand
namespace Go.Proofs.Ytdklanenmihpdaa.Hand
open Go.RowKit Go.Proofs.YtdklanenmihpdaaW.PrintWords Go.Proofs.YtdklanenmihpdaaW.PrintLast Go.Proofs.Ytdklanenmihpdaa.PA
def fourL (c : Int) : List Int := [(c / 16777216) % 256, (c / 65536) % 256, (c / 256) % 256, c % 256]
def mayL (k s t n : Int) : Prop := (k = 1 ∨ k = 2) ∧ 1 ≤ s ∧ s ≤ 4611686018427387904 ∧ t ≤ 4611686018427387904 ∧ n ≤ 1048576
instance (k s t n : Int) : Decidable (mayL k s t n) := by unfold mayL; infer_instance
def segL (l : List Int) (i j : Int) : List Int := (l.take j.toNat).drop i.toNat
def decV (l : List Int) (a : Int) : Except Int (Int × Int × Int × List Int × Int) :=
  if 6 ≤ (l.length : Int) - a then
  if rd l a = 167 ∧ rd l (a + 1) = 92 then
  if a + 6 < (l.length : Int) then
  if (getV l (a + 7)).2.2 = 0 then
  if (getV l (getV l (a + 7)).2.1).2.2 = 0 then
  if (getV l (getV l (getV l (a + 7)).2.1).2.1).2.2 = 0 then
  if (getV l (getV l (getV l (a + 7)).2.1).2.1).1 ≤ 1048576 then
  if (getV l (getV l (getV l (a + 7)).2.1).2.1).1 ≤ (l.length : Int) - (getV l (getV l (getV l (a + 7)).2.1).2.1).2.1 then
  if segL l (a + 2) (a + 6) = fourL (crcV (segL l (a + 6) ((getV l (getV l (getV l (a + 7)).2.1).2.1).2.1 + (getV l (getV l (getV l (a + 7)).2.1).2.1).1))) then
  if mayL (rd l (a + 6)) (getV l (a + 7)).1 (getV l (getV l (a + 7)).2.1).1 (getV l (getV l (getV l (a + 7)).2.1).2.1).1 then
  .ok (rd l (a + 6), (getV l (a + 7)).1, (getV l (getV l (a + 7)).2.1).1, segL l (getV l (getV l (getV l (a + 7)).2.1).2.1).2.1 ((getV l (getV l (getV l (a + 7)).2.1).2.1).2.1 + (getV l (getV l (getV l (a + 7)).2.1).2.1).1), (getV l (getV l (getV l (a + 7)).2.1).2.1).2.1 + (getV l (getV l (getV l (a + 7)).2.1).2.1).1)
  else .error 2 else .error 9 else .error 3 else .error 2 else .error (getV l (getV l (getV l (a + 7)).2.1).2.1).2.2 else .error (getV l (getV l (a + 7)).2.1).2.2 else .error (getV l (a + 7)).2.2 else .error 3 else .error 2 else .error 3
def decOut : Except Int (Int × Int × Int × List Int × Int) → Int × Int × Int × List Int × Int × Int
  | .ok (k, s, t, b, e) => (k, s, t, b, e, 0)
  | .error x => (0, 0, 0, [], 0, x)
def rec_Decode.f (l0 : List Int) (a1 : Int) : Option (Int × Int × Int × List Int × Int × Int) :=
  if l0.all byteB = true ∧ l0.length < 140737488355328 then some (if a1 < 0 ∨ (l0.length : Int) < a1 then (0, 0, 0, [], 0, 1) else decOut (decV l0 a1)) else none
theorem dec_results {tmps : Array Value} {w : World} {p : Nat} {k s t e X : Int} {v : Value} (h4 : tmps[4]? = some (.pointer (some ⟨p, 0, none⟩))) (h5 : tmps[5]? = some (.pointer (some ⟨p + 1, 0, none⟩))) (h6 : tmps[6]? = some (.pointer (some ⟨p + 1 + 1, 0, none⟩)))
    (g0 : w.heap[p]? = some (recO k s t v)) (g1 : w.heap[p + 1]? = some (.cells #[.int .i64 e] 3 (0, 0))) (g2 : w.heap[p + 1 + 1]? = some (.cells #[.int .i64 X] 27 (0, 0))) :
    (results Try.f14 tmps).run Try.prog w = .ok (.tuple #[.agg #[.int .i64 k, .int .u64 s, .int .u64 t, v], .int .i64 e, .int .i64 X]) w := by
  have e4 : tmps.getD 4 undef = .pointer (some ⟨p, 0, none⟩) := by simp [Array.getD_eq_getD_getElem?, h4]
  have e5 : tmps.getD 5 undef = .pointer (some ⟨p + 1, 0, none⟩) := by simp [Array.getD_eq_getD_getElem?, h5]
  have e6 : tmps.getD 6 undef = .pointer (some ⟨p + 1 + 1, 0, none⟩) := by simp [Array.getD_eq_getD_getElem?, h6]
  have c1 := blk_cell g1 0
  have c2 := blk_cell g2 0
  have l0 : (loadVar 25 ⟨p, 0, none⟩).run Try.prog w = .ok (.agg #[.int .i64 k, .int .u64 s, .int .u64 t, v]) w := run_loadVar_row (P := Try.prog) w p 25 25 _ (0, 0) _ g0 Try.underlying25 rfl (by kernel_rfl)
  have l1 : (loadVar 3 ⟨p + 1, 0, none⟩).run Try.prog w = .ok (.int .i64 e) w := by simp [go_sem, c1]
  have l2 : (loadVar 27 ⟨p + 1 + 1, 0, none⟩).run Try.prog w = .ok (.int .i64 X) w := by simp [go_sem, c2]
  have hr : Try.f14.results = #[.cell 4 25, .cell 5 3, .cell 6 27] := by kernel_rfl
  unfold results
  rw [hr]
  simp [h4, h5, h6, l0, l1, l2, asAddr]
theorem three_new (w : World) (o0 o1 o2 : Obj) : ∃ W, ((w.alloc o0).alloc o1).alloc o2 = W ∧ W.heap[w.heap.size]? = some o0 ∧ W.heap[w.heap.size + 1]? = some o1 ∧ W.heap[w.heap.size + 1 + 1]? = some o2 ∧ W.heap.size = w.heap.size + 3 ∧ Below w.heap.size w W := by
  have s1 : (w.alloc o0).heap.size = w.heap.size + 1 := by simp
  have s2 : ((w.alloc o0).alloc o1).heap.size = w.heap.size + 1 + 1 := by simp
  refine ⟨_, rfl, alloc_old (alloc_old (alloc_new _ _)), ?_, ?_, by simp, below_alloc (below_alloc (below_alloc (Below.refl _ _) _) _) _⟩
  · have := alloc_new (w.alloc o0) o1
    rw [s1] at this
    exact alloc_old this
  · have := alloc_new ((w.alloc o0).alloc o1) o2
    rw [s2] at this
    exact this
def DecPost (w : World) (r : Int × Int × Int × List Int × Int × Int) (e : Ending) (w' : World) : Prop :=
  ∃ v3_ : Value, e = .returned (.tuple #[.agg #[.int .i64 r.1, .int .u64 r.2.1, .int .u64 r.2.2.1, v3_], .int .i64 r.2.2.2.2.1, .int .i64 r.2.2.2.2.2]) ∧ Kd.R (Kd.int .u8) 5 w' w.heap.size (fun _ => True) v3_ r.2.2.2.1 ∧ Below w.heap.size w w'
theorem set4_0 {w : World} {g t : Nat} {a b c d x : Value} (h : w.heap[g]? = some (.cells #[a, b, c, d] t (0, 0))) : (w.setCell ⟨g, 0, none⟩ x).heap[g]? = some (.cells #[x, b, c, d] t (0, 0)) := by
  simp [World.setCell, Array.getElem?_modify, h]
theorem set4_1 {w : World} {g t : Nat} {a b c d x : Value} (h : w.heap[g]? = some (.cells #[a, b, c, d] t (0, 0))) : (w.setCell ⟨g, 1, none⟩ x).heap[g]? = some (.cells #[a, x, c, d] t (0, 0)) := by
  simp [World.setCell, Array.getElem?_modify, h]
theorem set4_2 {w : World} {g t : Nat} {a b c d x : Value} (h : w.heap[g]? = some (.cells #[a, b, c, d] t (0, 0))) : (w.setCell ⟨g, 2, none⟩ x).heap[g]? = some (.cells #[a, b, x, d] t (0, 0)) := by
  simp [World.setCell, Array.getElem?_modify, h]
theorem set4_3 {w : World} {g t : Nat} {a b c d x : Value} (h : w.heap[g]? = some (.cells #[a, b, c, d] t (0, 0))) : (w.setCell ⟨g, 3, none⟩ x).heap[g]? = some (.cells #[a, b, c, x] t (0, 0)) := by
  simp [World.setCell, Array.getElem?_modify, h]
theorem cutSeg (A : Option Addr) (c : Nat) (l : List Int) (lo hi : Int) (h0 : 0 ≤ lo) (h1 : lo ≤ hi) (h2 : hi ≤ l.length) (hc : l.length ≤ c) :
    ∃ A', (∀ W : World, (Instr.slice 23 (.slice A l.length c) (some (.int .i64 lo)) (some (.int .i64 hi)) none).run Try.prog W = .ok (.slice A' (segL l lo hi).length (c - lo.toNat)) W) ∧
      (∀ W : World, Kd.C (Kd.int .u8) W A l.length l → Kd.C (Kd.int .u8) W A' (segL l lo hi).length (segL l lo hi)) ∧ (segL l lo hi).length ≤ c - lo.toNat := by
  have hlen : (segL l lo hi).length = hi.toNat - lo.toNat := by
    unfold segL
    rw [List.length_drop, List.length_take, Nat.min_eq_left (by omega)]
  obtain ⟨i0, hi0, _, hz1, _⟩ := info_parts info5
  refine ⟨if c = lo.toNat then A else A.map (·.add (lo.toNat * 1)), fun W => ?_, fun W hC => ?_, by omega⟩
  · rw [cut_mid (P := Try.prog) 23 5 .i64 .i64 Try.underlying23 hi0 1 hz1 A l.length c lo hi h0 h1 h2 hc W, hlen]
  · exact Kd.C_mid (lo := lo.toNat) (hi := hi.toNat) hC (by omega) (by omega) hc
theorem numL_ok (l : List Int) : ∀ (k i : Nat) (n p : Int) (m q : Int), 0 ≤ n → n ≤ 18446744073709551615 → p ≤ l.length → numL l k i n p = .ok (m, q) → 0 ≤ m ∧ m ≤ 18446744073709551615 ∧ p ≤ q ∧ q ≤ l.length
  | 0, i, n, p, m, q, _, _, _, h => by simp only [numL] at h; cases h
  | k + 1, i, n, p, m, q, h0, h1, hp, h => by
    have hv : 0 ≤ vstep n (rd l p) i ∧ vstep n (rd l p) i ≤ 18446744073709551615 := by
      unfold vstep
      exact bounds_u64 (wf_bits .or .u64 _ _)
    generalize hvv : vstep n (rd l p) i = v at *
    simp only [numL, hvv] at h
    split at h
    · cases h
    · rename_i hne
      split at h
      · cases h
      · split at h
        · injection h with h
          injection h with h1 h2
          subst h1 h2
          exact ⟨hv.1, hv.2, by omega, by omega⟩
        · have := numL_ok l k (i + 1) v (p + 1) m q hv.1 hv.2 (by omega) h
          exact ⟨this.1, this.2.1, by omega, this.2.2.2⟩
theorem getV_ok {l : List Int} {a n q : Int} (h : getV l a = (n, q, 0)) : 0 ≤ a ∧ 0 ≤ n ∧ n ≤ 18446744073709551615 ∧ a ≤ q ∧ q ≤ l.length := by
  unfold getV at h
  split at h
  · injection h with _ h; injection h with _ h; cases h
  · split at h
    · injection h with _ h; injection h with _ h; cases h
    · rename_i h0 h1
      cases hn : numL l 10 0 0 a with
      | error x =>
        rw [hn] at h
        injection h with _ h
        injection h with _ h
        subst h
        have := numL_nz l _ _ _ _ _ hn
        cases this
      | ok np =>
        obtain ⟨n', q'⟩ := np
        rw [hn] at h
        injection h with e1 h
        injection h with e2 _
        subst e1 e2
        have := numL_ok l 10 0 0 a n' q' (by omega) (by omega) (by omega) hn
        exact ⟨by omega, this⟩
theorem leave_stop {w0 w : World} {tmps : Array Value} {k s t e X f : Int} {v : Value} (hX : (X != 0) = true) (h4 : tmps[4]? = some (.pointer (some ⟨w0.heap.size, 0, none⟩))) (h5 : tmps[5]? = some (.pointer (some ⟨w0.heap.size + 1, 0, none⟩))) (h6 : tmps[6]? = some (.pointer (some ⟨w0.heap.size + 1 + 1, 0, none⟩)))
    (hb : Below w0.heap.size w0 w) (h0 : w.heap[w0.heap.size]? = some (recO k s t v)) (h1 : w.heap[w0.heap.size + 1]? = some (.cells #[.int .i64 e] 3 (0, 0))) (h2 : w.heap[w0.heap.size + 1 + 1]? = some (.cells #[.int .i64 f] 27 (0, 0))) :
    Leaves Try.prog Try.f14 tmps (DecPost w0 (decOut (.error X))) [{ target := .fn (.func 39) #[.pointer (some ⟨w0.heap.size, 0, none⟩), .pointer (some ⟨w0.heap.size + 1, 0, none⟩), .pointer (some ⟨w0.heap.size + 1 + 1, 0, none⟩)], args := #[] }] (.panicking (stopR X)) w := by
  refine leaves_cons (f := 39) (args := #[.pointer (some ⟨w0.heap.size, 0, none⟩), .pointer (some ⟨w0.heap.size + 1, 0, none⟩), .pointer (some ⟨w0.heap.size + 1 + 1, 0, none⟩)]) (by simp) (by simp [go_sem]) ?_
  refine (dec_stop (older := []) hX h0 h1 h2).mono ?_
  rintro en u w3 ⟨rfl, rfl, g0, g1, g2, hm⟩
  exact ⟨_, dec_results h4 h5 h6 g0 g1 g2, _, rfl, Kd.R_nil _ _ _ _ _, Mu.below_of hb hm (by intro i hi; omega)⟩
theorem leaves_congr {P : Program} {fn : Func} {t t' : Array Value} {R : Ending → World → Prop} (h : results fn t = results fn t') : ∀ (ds : List Deferred) (u : FrameMode) (w : World), Leaves P fn t R ds u w → Leaves P fn t' R ds u w
  | [], .returning, w, hl => by
    obtain ⟨v, h1, h2⟩ := hl
    exact ⟨v, by rw [← h]; exact h1, h2⟩
  | [], .panicking _, _, hl => hl
  | [], .run, _, hl => hl
  | d :: ds, u, w, hl => by
    obtain ⟨h1, fv, cap, f, args, h2, h3, h4⟩ := hl
    refine ⟨h1, fv, cap, f, args, h2, h3, h4.mono ?_⟩
    intro e u' w' hh
    cases e with
    | returned _ => exact leaves_congr h ds _ _ hh
    | panicked _ => exact leaves_congr h ds _ _ hh
    | outgrown => exact hh
theorem dec_put {a : Act} {N : Tmp} {v : Value} (h4 : N ≠ 4) (h5 : N ≠ 5) (h6 : N ≠ 6) : results Try.f14 (a.put (some N) v).tmps = results Try.f14 a.tmps := by
  have hr : Try.f14.results = #[.cell 4 25, .cell 5 3, .cell 6 27] := by kernel_rfl
  have e : ∀ i, N ≠ i → (a.tmps.setIfInBounds N v)[i]? = a.tmps[i]? := fun i hi => Array.getElem?_setIfInBounds_ne hi
  unfold results
  rw [hr]
  simp [Act.put, e 4 h4, e 5 h5, e 6 h6]
theorem dec_hQ {w0 : World} {R : Int × Int × Int × List Int × Int × Int} {K : Act → World → Prop} (N : Tmp) (v : Value) (h4 : N ≠ 4) (h5 : N ≠ 5) (h6 : N ≠ 6) (c : List PanicEntry) (a : Act) (w : World)
    (h : Exit.then K (bodyPostD Try.prog Try.f14 (DecPost w0 R)) (.panic c) (a.put (some N) v) w) : Exit.then K (bodyPostD Try.prog Try.f14 (DecPost w0 R)) (.panic c) a w :=
  leaves_congr (dec_put h4 h5 h6) _ _ _ h
section
variable {P : Program} {ops : Array Oper} {Q : Exit → Act → World → Prop}
theorem goesP_ {oi : Oper} {N : Option Tmp} {a : Act} {w : World} {K : Act → World → Prop} {f : FuncId} {fn : Func} {xs_ : Array Operand} {ts : Array TypeId} (hf : P.funcs[f]? = some fn) (hname : (fn.name == "runtime.NumGoroutine") = false) (hb : fn.body.isSome = true) (args : Array Value)
    (hw : Region.wanted oi (yielded ops a.tmps) = true) (hN : oi.dst = N) (hop : oi.op = .call { callee := .value (.func f), args := xs_, argTypes := ts }) (hargs : xs_.map a.eval = args)
    (h : Calls P f args w fun e w' => ∃ c, e = .panicked c ∧ Q (.panic c) a w') : if Region.wanted oi (yielded ops a.tmps) = true then Oper.wp P oi a w K Q else K (a.put N undef) w := by
  have he := enters_ hf hname hb args w
  have hrun : (execOp a.eval oi).run P w = .ok (.enter f args) w := by
    unfold execOp
    simp [hop, resolve, Deferred.ofValue, invoke, Act.eval, hargs, he]
  rw [if_pos hw]
  unfold Oper.wp
  rw [hrun, Oper.upon_enter]
  refine h.mono fun e w'' hh => ?_
  obtain ⟨c, rfl, hk⟩ := hh
  exact hk
theorem exec_load {w : World} {ev : Operand → Value} {o : Oper} {t : TypeId} {x : Operand} {u v : Value} (ho : o.op = .load t x) (hx : ev x = u) (hr : (Instr.loadAt t u).run P w = .ok v w) : (execOp ev o).run P w = .ok (.value v) w := by
  unfold execOp
  simp only [ho, hx, Sem.run_bind, hr, Result.andThen_ok, Sem.run_pure]
theorem exec_store {w w' : World} {ev : Operand → Value} {o : Oper} {t : TypeId} {x y : Operand} {u v : Value} (ho : o.op = .store t x y) (hx : ev x = u) (hy : ev y = v) (hr : (Instr.storeAt t u v).run P w = .ok () w') : (execOp ev o).run P w = .ok .skip w' := by
  unfold execOp
  simp only [ho, hx, hy, Sem.run_bind, hr, Result.andThen_ok, Sem.run_pure]
end
theorem st_end {W : World} {g t : Nat} {x : Int} {y : Value} (h : W.heap[g]? = some (.cells #[y] t (0, 0))) : (Instr.storeAt 3 (.pointer (some ⟨g, 0, none⟩)) (.int .i64 x)).run Try.prog W = .ok () (W.setCell ⟨g, 0, none⟩ (.int .i64 x)) := by
  have c := blk_cell h 0
  have f := blk_frozen h 0
  simp [go_sem, c, f]
theorem st_err {W : World} {g t : Nat} {x : Int} {y : Value} (h : W.heap[g]? = some (.cells #[y] t (0, 0))) : (Instr.storeAt 27 (.pointer (some ⟨g, 0, none⟩)) (.int .i64 x)).run Try.prog W = .ok () (W.setCell ⟨g, 0, none⟩ (.int .i64 x)) := by
  have c := blk_cell h 0
  have f := blk_frozen h 0
  simp [go_sem, c, f]
theorem seg_bytes {l : List Int} (h : Bytes255 l) (i j : Int) : Bytes255 (segL l i j) := fun x hx => h x (List.mem_of_mem_take (List.mem_of_mem_drop hx))
theorem four_bytes (c : Int) : Bytes255 (fourL c) := by
  intro x hx
  simp only [fourL, List.mem_cons, List.not_mem_nil, or_false] at hx
  rcases hx with rfl | rfl | rfl | rfl <;> omega
theorem equal_bytes {a b : List Int} (ha : Bytes255 a) (hb : Bytes255 b) : ((strOfNums a).toList == (strOfNums b).toList) = decide (a = b) := by
  rw [Lib.strOfNums_toList, Lib.strOfNums_toList]
  by_cases h : a = b
  · rw [h]; simp
  · rw [decide_eq_false h, beq_eq_false_iff_ne]
    exact fun e => h (bytesOf_inj ha hb e)
theorem may_f (k s t : Int) (l : List Int) : rec_May.f k s t l = some (decide (mayL k s t l.length)) := by
  unfold rec_May.f mayL
  by_cases h1 : k = 1 <;> by_cases h2 : k = 2 <;> by_cases h3 : 1 ≤ s <;> by_cases h4 : s ≤ 4611686018427387904 <;> by_cases h5 : t ≤ 4611686018427387904 <;> simp [h1, h2, h3, h4, h5]
set_option maxRecDepth 100000 in
set_option maxHeartbeats 4000000 in
theorem dec_main {A0 : Option Addr} {c0 : Nat} {l0 : List Int} {a1 : Int} {R : Except Int (Int × Int × Int × List Int × Int)} {w : World} (hr0 : Kd.C (Kd.int .u8) w A0 l0.length l0) (hc0 : l0.length ≤ c0) (hb : Bytes255 l0) (hl : l0.length < 140737488355328) (h1 : 0 ≤ a1) (h2 : a1 ≤ l0.length) (hR : decV l0 a1 = R) :
    Calls Try.prog 14 #[.slice A0 l0.length c0, .int .i64 a1] w (DecPost w (decOut R)) := by
  have e1 : decide (a1 < 0) = false := decide_eq_false (by omega)
  have e2 : decide ((l0.length : Int) < a1) = false := decide_eq_false (by omega)
  obtain ⟨W, hW, b0, b1, b2, hWs, hWb⟩ := three_new w (recO 0 0 0 (.slice none 0 0)) (.cells #[.int .i64 0] 3 (0, 0)) (.cells #[.int .i64 0] 27 (0, 0))
  have HW := Aside0.mk hW
  have B0 := Aside0.mk b0
  have B1 := Aside0.mk b1
  have B2 := Aside0.mk b2
  have HWs := Aside0.mk hWs
  have HWb := Aside0.mk hWb
  have HCC := Aside0.mk (And.intro hr0 (And.intro hc0 hb))
  have hmf : ∀ (fn : Fn) (first cap : Array Value) (w : World), (Instr.makeFunc fn first cap).run Try.prog w = .ok (.func fn first cap) w := fun _ _ _ _ => rfl
  clear hW b0 b1 b2 hWs hWb hr0 hc0 hb
  go_enter_defers Try.func14, Try.ntmps14
  go_wp2_with fail
  rw [HW.out]
  by_cases q1 : 6 ≤ (l0.length : Int) - a1
  case neg =>
    have d1 : decide (6 ≤ (l0.length : Int) - a1) = false := decide_eq_false q1
    have hr : R = .error 3 := hR.symm.trans (if_neg q1)
    subst hr
    clear q1 hR
    refine (asks_no d1).mono ?_
    rintro en w2 ⟨rfl, rfl⟩
    exact leave_stop rfl rfl rfl rfl HWb.out B0.out B1.out B2.out
  have d1 : decide (6 ≤ (l0.length : Int) - a1) = true := decide_eq_true q1
  have HR1 := Aside0.mk ((if_pos q1).symm.trans hR)
  have Q1 := Aside0.mk q1
  clear hR
  refine (asks_ok d1).mono ?_
  rintro en w2 ⟨rfl, rfl⟩
  clear d1 q1
  have hCW := Kd.C_below HCC.out.1 HWb.out
  obtain ⟨ad, ea, hx⟩ := Kd.at_int hCW a1 h1 (by have := Q1.out; omega)
  subst ea
  obtain ⟨ad2, ea2, hx2⟩ := Kd.at_int hCW (a1 + 1) (by omega) (by have := Q1.out; omega)
  obtain rfl := Option.some.inj ea2
  have hw1 : IntKind.i64.wrap (a1 + 1) = a1 + 1 := IntWalk.i64_in _ (by omega)
  have hw6 : IntKind.i64.wrap (a1 + 6) = a1 + 6 := IntWalk.i64_in _ (by omega)
  have hlt1 : a1 < (l0.length : Int) := by have := Q1.out; omega
  have hlt2 : a1 + 1 < (l0.length : Int) := by have := Q1.out; omega
  have hge2 : 0 ≤ a1 + 1 := by omega
  have HCW := Aside0.mk hCW
  clear hCW ea2
  have stop2 : ¬ (rd l0 a1 = 167 ∧ rd l0 (a1 + 1) = 92) → R = .error 2 := fun hn => HR1.out.symm.trans (if_neg hn)
  by_cases k1 : rd l0 a1 = 167
  case neg =>
    have d2 : (rd l0 a1 == 167) = false := beq_eq_false_iff_ne.2 k1
    have hr := stop2 (fun h => k1 h.1)
    subst hr
    clear k1 HR1 stop2
    go_wp2_with fail
    refine (asks_no rfl).mono ?_
    rintro en w2 ⟨rfl, rfl⟩
    exact leave_stop rfl rfl rfl rfl HWb.out B0.out B1.out B2.out
  have d2 : (rd l0 a1 == 167) = true := beq_iff_eq.2 k1
  by_cases k2 : rd l0 (a1 + 1) = 92
  case neg =>
    have d3 : (rd l0 (a1 + 1) == 92) = false := beq_eq_false_iff_ne.2 k2
    have hr := stop2 (fun h => k2 h.2)
    subst hr
    clear k1 k2 HR1 stop2
    go_wp2_with fail
    refine (asks_no rfl).mono ?_
    rintro en w2 ⟨rfl, rfl⟩
    exact leave_stop rfl rfl rfl rfl HWb.out B0.out B1.out B2.out
  have d3 : (rd l0 (a1 + 1) == 92) = true := beq_iff_eq.2 k2
  have HR2 := Aside0.mk ((if_pos (And.intro k1 k2)).symm.trans HR1.out)
  clear k1 k2 HR1 stop2
  go_wp2_with fail
  refine (asks_ok rfl).mono ?_
  rintro en w2 ⟨rfl, rfl⟩
  clear d2 d3 hx hx2
  by_cases q3 : a1 + 6 < (l0.length : Int)
  case neg =>
    have d3 : decide (a1 + 6 < (l0.length : Int)) = false := decide_eq_false q3
    have hr : R = .error 3 := HR2.out.symm.trans (if_neg q3)
    subst hr
    clear q3 HR2
    go_wp2_with fail
    refine (asks_no rfl).mono ?_
    rintro en w2 ⟨rfl, rfl⟩
    exact leave_stop rfl rfl rfl rfl HWb.out B0.out B1.out B2.out
  have d3 : decide (a1 + 6 < (l0.length : Int)) = true := decide_eq_true q3
  have HR3 := Aside0.mk ((if_pos q3).symm.trans HR2.out)
  clear HR2
  go_wp2_with fail
  refine (asks_ok rfl).mono ?_
  rintro en w2 ⟨rfl, rfl⟩
  obtain ⟨ad2, ea2, hx⟩ := Kd.at_int HCW.out (a1 + 6) (by omega) q3
  obtain rfl := Option.some.inj ea2
  have hge6 : 0 ≤ a1 + 6 := by omega
  have hw7 : IntKind.i64.wrap (a1 + 6 + 1) = a1 + 7 := by rw [IntWalk.i64_in _ (by omega)]; omega
  have hrd := rd_255 HCC.out.2.2 (a1 + 6)
  have hwb : IntKind.i64.wrap (rd l0 (a1 + 6)) = rd l0 (a1 + 6) := IntWalk.i64_in _ (by omega)
  have u0 := blk_cell B0.out 0
  have u0f := blk_frozen B0.out 0
  have u1 := blk_cell B1.out 0
  have u1f := blk_frozen B1.out 0
  obtain ⟨W1, hW1⟩ : ∃ W1, (W.setCell ⟨w.heap.size, 0, none⟩ (.int .i64 (rd l0 (a1 + 6)))).setCell ⟨w.heap.size + 1, 0, none⟩ (.int .i64 (a1 + 7)) = W1 := ⟨_, rfl⟩
  have m1 : Mu (fun k => w.heap.size ≤ k) W W1 := by rw [← hW1]; exact ((Mu.refl _ W).setCell (p := ⟨w.heap.size, 0, none⟩) (fun _ => Nat.le_refl _) _).setCell (p := ⟨w.heap.size + 1, 0, none⟩) (fun _ => Nat.le_succ _) _
  have G0 : W1.heap[w.heap.size]? = some (recO (rd l0 (a1 + 6)) 0 0 (.slice none 0 0)) := by rw [← hW1, Below.heap_setCell _ _ _ _ (by show w.heap.size ≠ w.heap.size + 1; omega)]; exact set4_0 B0.out
  have G1 : W1.heap[w.heap.size + 1]? = some (.cells #[.int .i64 (a1 + 7)] 3 (0, 0)) := by rw [← hW1]; exact set_0 ((Below.heap_setCell _ _ _ _ (by show w.heap.size + 1 ≠ w.heap.size; omega)).trans B1.out)
  have G2 : W1.heap[w.heap.size + 1 + 1]? = some (.cells #[.int .i64 0] 27 (0, 0)) := by rw [← hW1, Below.heap_setCell _ _ _ _ (by show w.heap.size + 1 + 1 ≠ w.heap.size + 1; omega), Below.heap_setCell _ _ _ _ (by show w.heap.size + 1 + 1 ≠ w.heap.size; omega)]; exact B2.out
  have HG := Aside0.mk (And.intro G0 (And.intro G1 (And.intro G2 (Mu.below_of HWb.out m1 (by intro i hi; omega)))))
  have HW1 := Aside0.mk hW1
  have Q3 := Aside0.mk q3
  clear m1 G0 G1 G2 hW1 hrd ea2
  go_wp2_with fail
  rw [HW1.out]
  clear u0 u0f u1 u1f hx hwb HW1 B0 B1 B2 HWb
  obtain ⟨K1, hK1⟩ : ∃ k, rd l0 (a1 + 6) = k := ⟨_, rfl⟩
  rw [hK1] at HG HR3
  rcases hg1 : getV l0 (a1 + 7) with ⟨n1, p1, x1⟩
  rw [hg1] at HR3
  by_cases z1 : x1 = 0
  case neg =>
    have hr : R = .error x1 := HR3.out.symm.trans (if_neg z1)
    subst hr
    clear HR3
    refine (num_no (Kd.C_below HCC.out.1 HG.out.2.2.2) HCC.out.2.1 HG.out.2.1 hg1 z1).mono ?_
    rintro en w2 ⟨rfl, hb⟩
    have hm := Mu.of_below hb (fun _ => False)
    exact leave_stop (bne_iff_ne.2 z1) rfl rfl rfl (below_step HG.out.2.2.2 hb) (hm.heap HG.out.1 (fun h => h)) (hm.heap HG.out.2.1 (fun h => h)) (hm.heap HG.out.2.2.1 (fun h => h))
  subst z1
  have HR4 := Aside0.mk ((if_pos rfl).symm.trans HR3.out)
  refine (num_ok (Kd.C_below HCC.out.1 HG.out.2.2.2) HCC.out.2.1 HG.out.2.1 hg1).mono ?_
  rintro en W2 ⟨rfl, g1_, hm⟩
  have HGb := Aside0.mk (And.intro (hm.heap HG.out.1 (by omega)) (And.intro g1_ (And.intro (hm.heap HG.out.2.2.1 (by omega)) (Mu.below_of HG.out.2.2.2 hm (by intro i hi; omega)))))
  have GV1 := Aside0.mk (getV_ok hg1)
  clear hm g1_ HR3 HG hg1
  go_wp2_with fail
  rcases hg2 : getV l0 p1 with ⟨n2, p2, x2⟩
  rw [hg2] at HR4
  by_cases z2 : x2 = 0
  case neg =>
    have hr : R = .error x2 := HR4.out.symm.trans (if_neg z2)
    subst hr
    clear HR4
    refine (num_no (Kd.C_below HCC.out.1 HGb.out.2.2.2) HCC.out.2.1 HGb.out.2.1 hg2 z2).mono ?_
    rintro en w2 ⟨rfl, hb⟩
    have hm := Mu.of_below hb (fun _ => False)
    exact leave_stop (bne_iff_ne.2 z2) rfl rfl rfl (below_step HGb.out.2.2.2 hb) (hm.heap HGb.out.1 (fun h => h)) (hm.heap HGb.out.2.1 (fun h => h)) (hm.heap HGb.out.2.2.1 (fun h => h))
  subst z2
  have HR5 := Aside0.mk ((if_pos rfl).symm.trans HR4.out)
  refine (num_ok (Kd.C_below HCC.out.1 HGb.out.2.2.2) HCC.out.2.1 HGb.out.2.1 hg2).mono ?_
  rintro en W3 ⟨rfl, g1_, hm⟩
  have HGbb := Aside0.mk (And.intro (hm.heap HGb.out.1 (by omega)) (And.intro g1_ (And.intro (hm.heap HGb.out.2.2.1 (by omega)) (Mu.below_of HGb.out.2.2.2 hm (by intro i hi; omega)))))
  have GV2 := Aside0.mk (getV_ok hg2)
  clear hm g1_ HR4 HGb hg2
  have u1 := blk_cell HGbb.out.1 1
  have u1f := blk_frozen HGbb.out.1 1
  have u2 := blk_cell HGbb.out.1 2
  have u2f := blk_frozen HGbb.out.1 2
  obtain ⟨W4, hW4⟩ : ∃ W4, (W3.setCell ⟨w.heap.size, 1, none⟩ (.int .u64 n1)).setCell ⟨w.heap.size, 2, none⟩ (.int .u64 n2) = W4 := ⟨_, rfl⟩
  have m4 : Mu (· = w.heap.size) W3 W4 := by rw [← hW4]; exact ((Mu.refl (· = w.heap.size) W3).setCell (p := ⟨w.heap.size, 1, none⟩) (fun _ => rfl) _).setCell (p := ⟨w.heap.size, 2, none⟩) (fun _ => rfl) _
  have g0 : W4.heap[w.heap.size]? = some (recO K1 n1 n2 (.slice none 0 0)) := by rw [← hW4]; exact set4_2 (set4_1 HGbb.out.1)
  have HH := Aside0.mk (And.intro g0 (And.intro (m4.heap HGbb.out.2.1 (by omega)) (And.intro (m4.heap HGbb.out.2.2.1 (by omega)) (Mu.below_of HGbb.out.2.2.2 m4 (by intro i hi; omega)))))
  have HW4 := Aside0.mk hW4
  clear m4 g0 hW4 HGbb
  go_wp2_with fail
  rw [HW4.out]
  clear u1 u1f u2 u2f HW4
  rcases hg3 : getV l0 p2 with ⟨n3, p3, x3⟩
  rw [hg3] at HR5
  by_cases z3 : x3 = 0
  case neg =>
    have hr : R = .error x3 := HR5.out.symm.trans (if_neg z3)
    subst hr
    clear HR5
    refine (num_no (Kd.C_below HCC.out.1 HH.out.2.2.2) HCC.out.2.1 HH.out.2.1 hg3 z3).mono ?_
    rintro en w2 ⟨rfl, hb⟩
    have hm := Mu.of_below hb (fun _ => False)
    exact leave_stop (bne_iff_ne.2 z3) rfl rfl rfl (below_step HH.out.2.2.2 hb) (hm.heap HH.out.1 (fun h => h)) (hm.heap HH.out.2.1 (fun h => h)) (hm.heap HH.out.2.2.1 (fun h => h))
  subst z3
  have HR6 := Aside0.mk ((if_pos rfl).symm.trans HR5.out)
  refine (num_ok (Kd.C_below HCC.out.1 HH.out.2.2.2) HCC.out.2.1 HH.out.2.1 hg3).mono ?_
  rintro en W5 ⟨rfl, g1_, hm⟩
  have HHb := Aside0.mk (And.intro (hm.heap HH.out.1 (by omega)) (And.intro g1_ (And.intro (hm.heap HH.out.2.2.1 (by omega)) (Mu.below_of HH.out.2.2.2 hm (by intro i hi; omega)))))
  have GV3 := Aside0.mk (getV_ok hg3)
  clear hm g1_ HR5 HH hg3
  have G3 := GV3.out
  go_wp2_with fail
  by_cases q7 : n3 ≤ 1048576
  case neg =>
    have hr : R = .error 2 := HR6.out.symm.trans (if_neg q7)
    subst hr
    clear HR6
    refine (asks_no (decide_eq_false q7)).mono ?_
    rintro en w2 ⟨rfl, rfl⟩
    exact leave_stop rfl rfl rfl rfl HHb.out.2.2.2 HHb.out.1 HHb.out.2.1 HHb.out.2.2.1
  have HR7 := Aside0.mk ((if_pos q7).symm.trans HR6.out)
  clear HR6
  refine (asks_ok (decide_eq_true q7)).mono ?_
  rintro en w2 ⟨rfl, rfl⟩
  have v1 := blk_cell HHb.out.2.1 0
  have hwa : IntKind.i64.wrap ((l0.length : Int) - p3) = (l0.length : Int) - p3 := IntWalk.i64_in _ (by omega)
  have hwc : IntKind.u64.wrap ((l0.length : Int) - p3) = (l0.length : Int) - p3 := IntWalk.u64_in _ (by omega)
  have hwn : IntKind.i64.wrap n3 = n3 := IntWalk.i64_in _ (by omega)
  have hwe : IntKind.i64.wrap (p3 + n3) = p3 + n3 := IntWalk.i64_in _ (by omega)
  clear G3
  go_wp2_with fail
  by_cases q8 : n3 ≤ (l0.length : Int) - p3
  case neg =>
    have hr : R = .error 3 := HR7.out.symm.trans (if_neg q8)
    subst hr
    clear HR7
    refine (asks_no (decide_eq_false q8)).mono ?_
    rintro en w2 ⟨rfl, rfl⟩
    exact leave_stop rfl rfl rfl rfl HHb.out.2.2.2 HHb.out.1 HHb.out.2.1 HHb.out.2.2.1
  have HR8 := Aside0.mk ((if_pos q8).symm.trans HR7.out)
  clear HR7
  refine (asks_ok (decide_eq_true q8)).mono ?_
  rintro en w2 ⟨rfl, rfl⟩
  have GV12 := And.intro GV1.out (And.intro GV2.out GV3.out)
  obtain ⟨A3, hcut3, hC3, hl3⟩ := cutSeg (some ad) c0 l0 p3 (p3 + n3) (by omega) (by omega) (by omega) HCC.out.2.1
  have HC3 := Aside0.mk (clone_any (hC3 W5 (Kd.C_below HCC.out.1 HHb.out.2.2.2)) hl3 (by unfold segL; rw [List.length_drop, List.length_take]; omega))
  have Q7 := Aside0.mk q7
  have Q8 := Aside0.mk q8
  clear GV12 hC3 q7 q8
  go_wp2_with fail
  refine HC3.out.mono ?_
  rintro en W6 ⟨v, rfl, hr6, hb6⟩
  obtain ⟨A6, c6, rfl⟩ := Kd.R_slice hr6
  have hm6 := Mu.of_below hb6 (fun _ => False)
  have HI := Aside0.mk (And.intro (hm6.heap HHb.out.1 (fun h => h)) (And.intro (hm6.heap HHb.out.2.1 (fun h => h)) (And.intro (hm6.heap HHb.out.2.2.1 (fun h => h)) (below_step HHb.out.2.2.2 hb6))))
  have HB6 := Aside0.mk (And.intro (Kd.R_bound hr6) (heap_lt HHb.out.2.2.1))
  have HS5 := Aside0.mk HHb.out.2.2.2.size
  clear hcut3 HC3 hr6 hb6 hm6 v1 HHb hl3
  have u3 := blk_cell HI.out.1 3
  have u3f := blk_frozen HI.out.1 3
  have u1 := blk_cell HI.out.2.1 0
  have u1f := blk_frozen HI.out.2.1 0
  obtain ⟨W7, hW7⟩ : ∃ W7, (W6.setCell ⟨w.heap.size, 3, none⟩ (.slice A6 (segL l0 p3 (p3 + n3)).length c6)).setCell ⟨w.heap.size + 1, 0, none⟩ (.int .i64 (p3 + n3)) = W7 := ⟨_, rfl⟩
  have m7 : Mu (fun k => w.heap.size ≤ k ∧ k ≤ w.heap.size + 1) W6 W7 := by rw [← hW7]; exact ((Mu.refl _ W6).setCell (p := ⟨w.heap.size, 3, none⟩) (fun _ => ⟨Nat.le_refl _, Nat.le_succ _⟩) _).setCell (p := ⟨w.heap.size + 1, 0, none⟩) (fun _ => ⟨Nat.le_succ _, Nat.le_refl _⟩) _
  have g0 : W7.heap[w.heap.size]? = some (recO K1 n1 n2 (.slice A6 (segL l0 p3 (p3 + n3)).length c6)) := by rw [← hW7, Below.heap_setCell _ _ _ _ (by show w.heap.size ≠ w.heap.size + 1; omega)]; exact set4_3 HI.out.1
  have g1 : W7.heap[w.heap.size + 1]? = some (.cells #[.int .i64 (p3 + n3)] 3 (0, 0)) := by rw [← hW7]; exact set_0 ((Below.heap_setCell _ _ _ _ (by show w.heap.size + 1 ≠ w.heap.size; omega)).trans HI.out.2.1)
  have g2 := m7.heap HI.out.2.2.1 (by omega)
  have HJ := Aside0.mk (And.intro g0 (And.intro g1 (And.intro g2 (Mu.below_of HI.out.2.2.2 m7 (by intro i hi; omega)))))
  have HB7 := Aside0.mk (Kd.R_mono (Kd.R_move HB6.out.1 (fun k hk => m7.block k hk.2.2.1 (by have := hk.2.1; have := HB6.out.2; omega))) (fun _ _ => trivial) : Kd.R (Kd.int .u8) 5 W7 W5.heap.size (fun _ => True) _ _)
  have H5 := Aside0.mk (And.intro HB6.out.2 HS5.out)
  have HW7 := Aside0.mk hW7
  have hwe : IntKind.i64.wrap (p3 + n3) = p3 + n3 := by have := GV3.out; have := Q7.out; have := Q8.out; exact IntWalk.i64_in _ (by omega)
  have hwn : IntKind.i64.wrap n3 = n3 := by have := GV3.out; have := Q7.out; exact IntWalk.i64_in _ (by omega)
  clear hW7 m7 g0 g1 g2
  go_upto_region 15 with fail
  rw [HW7.out]
  clear u3 u3f u1 u1f HW7 hwn hwe HI HB6 HS5
  have GVV := And.intro GV1.out (And.intro GV2.out GV3.out)
  have hwa2 : IntKind.i64.wrap (a1 + 2) = a1 + 2 := IntWalk.i64_in _ (by omega)
  obtain ⟨AS, hcutS, hCS, hlS⟩ := cutSeg (some ad) c0 l0 (a1 + 2) (a1 + 6) (by omega) (by omega) (by omega) HCC.out.2.1
  obtain ⟨AC, hcutC, hCC, hlC⟩ := cutSeg (some ad) c0 l0 (a1 + 6) (p3 + n3) (by omega) (by have := Q7.out; have := Q8.out; omega) (by have := Q8.out; omega) HCC.out.2.1
  have HCS := Aside0.mk hCS
  have HCCr := Aside0.mk hCC
  have hlc : (segL l0 (a1 + 6) (p3 + n3)).length ≤ l0.length := by unfold segL; rw [List.length_drop, List.length_take]; omega
  have hcrc := wireCrc_any (10 * (segL l0 (a1 + 6) (p3 + n3)).length + 1) _ (by omega) (seg_bytes HCC.out.2.2 (a1 + 6) (p3 + n3)) (Nat.le_refl _)
  have HCrc := Aside0.mk hcrc
  have HlS := Aside0.mk hlS
  have HlC := Aside0.mk hlC
  have HEq := Aside0.mk (equal_bytes (seg_bytes HCC.out.2.2 (a1 + 2) (a1 + 6)) (four_bytes (crcV (segL l0 (a1 + 6) (p3 + n3)))))
  clear GVV hCS hCC hlc hcrc hlS hlC
  refine start_ (n := 13) (S := fun W => W.cell? ⟨w.heap.size + 1, 0, none⟩ = some (.int .i64 (p3 + n3))) (ds := [12]) #[false, false, false, false, false, false, false, false, false, false, false, false, false] (by kernel_rfl) rfl rfl (blk_cell HJ.out.2.1 0) (fun hS => ?_)
  refine pure_ (i := 0) (N := some 86) (v := ?_) (a' := ?_) #[true, false, false, false, false, false, false, false, false, false, false, false, false] rfl rfl (by kernel_rfl) (dec_hQ 86 _ (by decide) (by decide) (by decide)) (Or.inl ⟨by rfl, ?_⟩) ?_ ?_
  rotate_left
  · intro w'
    go_simp
    with_reducible rfl
  rotate_left
  · simp only [Act.put, List.setIfInBounds_toArray, List.set_cons_zero, List.set_cons_succ, i64_w, i32_w]
    rfl
  refine pure_ (i := 1) (N := some 87) (v := ?_) (a' := ?_) #[true, true, false, false, false, false, false, false, false, false, false, false, false] rfl rfl (by kernel_rfl) (dec_hQ 87 _ (by decide) (by decide) (by decide)) (Or.inl ⟨by rfl, ?_⟩) ?_ ?_
  rotate_left
  · intro w'
    go_simp
    with_reducible rfl
  rotate_left
  · simp only [Act.put, List.setIfInBounds_toArray, List.set_cons_zero, List.set_cons_succ, i64_w, i32_w]
    rfl
  refine pure_ (i := 2) (N := some 88) (v := ?_) (a' := ?_) #[true, true, true, false, false, false, false, false, false, false, false, false, false] rfl rfl (by kernel_rfl) (dec_hQ 88 _ (by decide) (by decide) (by decide)) (Or.inl ⟨by rfl, ?_⟩) ?_ ?_
  rotate_left
  · intro w'
    go_simp
    with_reducible rfl
  rotate_left
  · simp only [Act.put, List.setIfInBounds_toArray, List.set_cons_zero, List.set_cons_succ, i64_w, i32_w]
    rfl
  refine pure_ (i := 3) (N := some 89) (v := ?_) (a' := ?_) #[true, true, true, true, false, false, false, false, false, false, false, false, false] rfl rfl (by kernel_rfl) (dec_hQ 89 _ (by decide) (by decide) (by decide)) (Or.inl ⟨by rfl, ?_⟩) ?_ ?_
  rotate_left
  · intro w'
    go_simp
    with_reducible rfl
  rotate_left
  · simp only [Act.put, List.setIfInBounds_toArray, List.set_cons_zero, List.set_cons_succ, i64_w, i32_w]
    rfl
  refine pure_ (i := 4) (N := some 90) (v := ?_) (a' := ?_) #[true, true, true, true, true, false, false, false, false, false, false, false, false] rfl rfl (by kernel_rfl) (dec_hQ 90 _ (by decide) (by decide) (by decide)) (Or.inl ⟨by rfl, ?_⟩) ?_ ?_
  rotate_left
  · intro w'
    go_simp
    with_reducible rfl
  rotate_left
  · simp only [Act.put, List.setIfInBounds_toArray, List.set_cons_zero, List.set_cons_succ, i64_w, i32_w]
    rfl
  refine pure_ (i := 5) (N := some 91) (v := ?_) (a' := ?_) #[true, true, true, true, true, true, false, false, false, false, false, false, false] rfl rfl (by kernel_rfl) (dec_hQ 91 _ (by decide) (by decide) (by decide)) (Or.inl ⟨by rfl, ?_⟩) ?_ ?_
  rotate_left
  · intro w'
    go_simp
    with_reducible rfl
  rotate_left
  · simp only [Act.put, List.setIfInBounds_toArray, List.set_cons_zero, List.set_cons_succ, i64_w, i32_w]
    rfl
  refine pure_ (i := 6) (N := some 92) (v := ?_) (a' := ?_) #[true, true, true, true, true, true, true, false, false, false, false, false, false] rfl rfl (by kernel_rfl) (dec_hQ 92 _ (by decide) (by decide) (by decide)) (Or.inl ⟨by rfl, ?_⟩) ?_ ?_
  rotate_left
  · intro w'
    go_simp
    with_reducible rfl
  rotate_left
  · simp only [Act.put, List.setIfInBounds_toArray, List.set_cons_zero, List.set_cons_succ, i64_w, i32_w]
    rfl
  refine take_ (i := 7) (N := some 93) (v := ?_) (a' := ?_) #[true, true, true, true, true, true, true, true, false, false, false, false, false] rfl rfl (by kernel_rfl) (dec_hQ 93 _ (by decide) (by decide) (by decide)) (Or.inl ⟨by rfl, ?_⟩) hS ?_ ?_
  rotate_left
  · intro w' hs
    go_simp
    with_reducible rfl
  rotate_left
  · simp only [Act.put, List.setIfInBounds_toArray, List.set_cons_zero, List.set_cons_succ, i64_w, i32_w]
    rfl
  refine pure_ (i := 8) (N := some 94) (v := ?_) (a' := ?_) #[true, true, true, true, true, true, true, true, true, false, false, false, false] rfl rfl (by kernel_rfl) (dec_hQ 94 _ (by decide) (by decide) (by decide)) (Or.inl ⟨by rfl, ?_⟩) ?_ ?_
  rotate_left
  · intro w'
    go_simp
    with_reducible rfl
  rotate_left
  · simp only [Act.put, List.setIfInBounds_toArray, List.set_cons_zero, List.set_cons_succ, i64_w, i32_w]
    rfl
  have hC7 := Kd.C_below HCC.out.1 HJ.out.2.2.2
  have HC7 := Aside0.mk hC7
  clear hC7
  refine one_ (i := 9) (N := some 95) #[true, true, true, true, true, true, true, true, true, true, false, false, false] rfl rfl (by kernel_rfl) (by decide) (fun K hK => ?_)
  refine goes_ Try.func36 (by kernel_rfl) rfl #[.slice AC (segL l0 (a1 + 6) (p3 + n3)).length (c0 - (a1 + 6).toNat)] (by rfl) rfl rfl (by (try simp only [List.map_toArray, List.map_cons, List.map_nil]); first | done | rfl) ?_
  refine (wire_Crc.calls _ _ _ _ _ _ (Kd.C_drew (HCCr.out _ HC7.out)) HlC.out HCrc.out).mono ?_
  rintro e w8 ⟨rfl, ⟨nd, rfl⟩⟩
  refine ⟨_, rfl, ?_⟩
  refine hK.out _ _ hS (fun hS => ?_)
  refine norm_ (a' := ?_) ?_ ?_
  rotate_left
  · show Act.put _ (some 95) _ = _
    simp only [Act.put, List.setIfInBounds_toArray, List.set_cons_zero, List.set_cons_succ, i64_w, i32_w]
    rfl
  refine one_ (i := 10) (N := some 96) #[true, true, true, true, true, true, true, true, true, true, true, false, false] rfl rfl (by kernel_rfl) (by decide) (fun K hK => ?_)
  refine goes_ Try.func35 (by kernel_rfl) rfl #[.int .u32 (crcV (segL l0 (a1 + 6) (p3 + n3)))] (by rfl) rfl rfl (by (try simp only [List.map_toArray, List.map_cons, List.map_nil]); first | done | rfl) ?_
  refine (wire_Four.calls _ (fourL (crcV (segL l0 (a1 + 6) (p3 + n3)))) _ rfl).mono ?_
  rintro e w9 ⟨v9, rfl, ho9, hb9⟩
  obtain ⟨A9, c9, rfl⟩ := Kd.R_slice ho9
  have hm9 := Mu.of_below hb9 (fun _ => False)
  have g0 := hm9.heap (show (W7.drew.drewN nd).heap[w.heap.size]? = _ from HJ.out.1) (fun h => h)
  have g1 := hm9.heap (show (W7.drew.drewN nd).heap[w.heap.size + 1]? = _ from HJ.out.2.1) (fun h => h)
  have g2 := hm9.heap (show (W7.drew.drewN nd).heap[w.heap.size + 1 + 1]? = _ from HJ.out.2.2.1) (fun h => h)
  have HL := Aside0.mk (And.intro g0 (And.intro g1 (And.intro g2 (below_step (pw_below_drewN (below_drew1 HJ.out.2.2.2) nd) hb9))))
  have HC9 := Aside0.mk (Kd.C_below (Kd.C_drewN (Kd.C_drew HC7.out) nd) hb9)
  have HR9 := Aside0.mk (Kd.R_reads' ho9)
  have HB9 := Aside0.mk (Kd.R_below (Kd.R_drewN (Kd.R_drew HB7.out) nd) hb9)
  clear hm9 g0 g1 g2 ho9 HC7 HB7 HJ
  refine ⟨_, rfl, ?_⟩
  refine hK.out _ _ (blk_cell HL.out.2.1 0) (fun hS => ?_)
  clear hb9
  refine norm_ (a' := ?_) ?_ ?_
  rotate_left
  · show Act.put _ (some 96) _ = _
    simp only [Act.put, List.setIfInBounds_toArray, List.set_cons_zero, List.set_cons_succ, i64_w, i32_w]
    rfl
  refine one_ (i := 11) (N := some 97) #[true, true, true, true, true, true, true, true, true, true, true, true, false] rfl rfl (by kernel_rfl) (by decide) (fun K hK => ?_)
  refine goes_ Try.func44 (by kernel_rfl) rfl #[.slice AS (segL l0 (a1 + 2) (a1 + 6)).length (c0 - (a1 + 2).toNat), .slice A9 (fourL (crcV (segL l0 (a1 + 6) (p3 + n3)))).length c9] (by rfl) rfl rfl (by (try simp only [List.map_toArray, List.map_cons, List.map_nil]); first | done | rfl) ?_
  refine (bytes_Equal.calls _ _ _ _ _ _ _ _ (HCS.out _ HC9.out) HlS.out HR9.out.2.2 HR9.out.2.1 (congrArg some HEq.out)).mono ?_
  rintro e w10 ⟨rfl, ⟨nd2, rfl⟩⟩
  refine ⟨_, rfl, ?_⟩
  refine hK.out _ _ hS (fun hS => ?_)
  refine norm_ (a' := ?_) ?_ ?_
  rotate_left
  · show Act.put _ (some 97) _ = _
    simp only [Act.put, List.setIfInBounds_toArray, List.set_cons_zero, List.set_cons_succ, i64_w, i32_w]
    rfl
  by_cases q9 : (segL l0 (a1 + 2) (a1 + 6)) = fourL (crcV (segL l0 (a1 + 6) (p3 + n3)))
  case neg =>
    have hr : R = .error 9 := HR8.out.symm.trans (if_neg q9)
    subst hr
    clear HR8
    refine last_ (i := 12) (N := some 98) #[true, true, true, true, true, true, true, true, true, true, true, true, true] rfl rfl (by kernel_rfl) (by decide) (fun K hK => ?_)
    refine goesP_ Try.func41 (by kernel_rfl) rfl #[.bool (decide ((segL l0 (a1 + 2) (a1 + 6)) = fourL (crcV (segL l0 (a1 + 6) (p3 + n3))))), .int .i64 9] (by rfl) rfl rfl (by (try simp only [List.map_toArray, List.map_cons, List.map_nil]); first | done | rfl) ?_
    refine (asks_no (decide_eq_false q9)).mono ?_
    rintro en w11 ⟨rfl, rfl⟩
    exact ⟨_, rfl, leave_stop rfl rfl rfl rfl (pw_below_drewN HL.out.2.2.2 nd2) HL.out.1 HL.out.2.1 HL.out.2.2.1⟩
  have HR9' := Aside0.mk ((if_pos q9).symm.trans HR8.out)
  clear HR8
  refine last_ (i := 12) (N := some 98) #[true, true, true, true, true, true, true, true, true, true, true, true, true] rfl rfl (by kernel_rfl) (by decide) (fun K hK => ?_)
  refine goes_ Try.func41 (by kernel_rfl) rfl #[.bool (decide ((segL l0 (a1 + 2) (a1 + 6)) = fourL (crcV (segL l0 (a1 + 6) (p3 + n3))))), .int .i64 9] (by rfl) rfl rfl (by (try simp only [List.map_toArray, List.map_cons, List.map_nil]); first | done | rfl) ?_
  refine (asks_ok (decide_eq_true q9)).mono ?_
  rintro en w11 ⟨rfl, rfl⟩
  refine ⟨_, rfl, ?_⟩
  refine hK.out _ _ ?_
  refine norm_ (a' := ?_) ?_ ?_
  rotate_left
  · show Act.put _ (some 98) _ = _
    simp only [Act.put, List.setIfInBounds_toArray, List.set_cons_zero, List.set_cons_succ, i64_w, i32_w]
    rfl
  refine done_ (by kernel_rfl) ?_
  clear q9 hS hcutS hcutC HCS HCCr HlS HlC HEq HCrc HC9 HR9
  have hsl : (((segL l0 p3 (p3 + n3)).length : Nat) : Int) = n3 := by have := GV1.out; have := GV2.out; have := GV3.out; have := Q8.out; unfold segL; rw [List.length_drop, List.length_take]; omega
  have HM := Aside0.mk (show ((w9.drewN nd2).heap[w.heap.size]? = _ ∧ (w9.drewN nd2).heap[w.heap.size + 1]? = _ ∧ (w9.drewN nd2).heap[w.heap.size + 1 + 1]? = _ ∧ Below w.heap.size w (w9.drewN nd2) ∧ Kd.R _ _ (w9.drewN nd2) _ _ _ _) from ⟨HL.out.1, HL.out.2.1, HL.out.2.2.1, pw_below_drewN HL.out.2.2.2 nd2, Kd.R_drewN HB9.out nd2⟩)
  clear HL HB9
  generalize w9.drewN nd2 = W9 at *
  have HMay := Aside0.mk (rec_May.calls K1 n1 n2 A6 c6 (segL l0 p3 (p3 + n3)) _ W9 (Kd.R_reads' HM.out.2.2.2.2).2.2 (Kd.R_reads' HM.out.2.2.2.2).2.1 (may_f K1 n1 n2 (segL l0 p3 (p3 + n3))))
  rw [hsl] at HMay
  go_wp2_with ((with_reducible refine gate_ (.load 25 (.tmp 4)) rfl ?_); refine wpList_loadR rfl _ _ rfl (by rfl) (rec_load HM.out.1) ?_)
  refine HMay.out.mono ?_
  rintro e w12 ⟨rfl, hb12⟩
  have hm12 := Mu.of_below hb12 (fun _ => False)
  have HN := Aside0.mk (And.intro (hm12.heap HM.out.1 (fun h => h)) (And.intro (hm12.heap HM.out.2.1 (fun h => h)) (And.intro (hm12.heap HM.out.2.2.1 (fun h => h)) (And.intro (below_step HM.out.2.2.2.1 hb12) (Kd.R_below HM.out.2.2.2.2 hb12)))))
  clear hm12 hb12 HMay HM
  go_wp2_with fail
  by_cases q10 : mayL K1 n1 n2 n3
  case neg =>
    have hr : R = .error 2 := HR9'.out.symm.trans (if_neg q10)
    subst hr
    clear HR9'
    refine (asks_no (decide_eq_false q10)).mono ?_
    rintro en w13 ⟨rfl, rfl⟩
    exact leave_stop rfl rfl rfl rfl HN.out.2.2.2.1 HN.out.1 HN.out.2.1 HN.out.2.2.1
  have hr : R = .ok (K1, n1, n2, (segL l0 p3 (p3 + n3)), p3 + n3) := HR9'.out.symm.trans (if_pos q10)
  subst hr
  clear HR9'
  refine (asks_ok (decide_eq_true q10)).mono ?_
  rintro en w13 ⟨rfl, rfl⟩
  clear q10
  go_upto_region 17 with fail
  obtain ⟨W13, hst, G0, m13⟩ := rec_store K1 n1 n2 A6 (segL l0 p3 (p3 + n3)).length c6 (show w12.drew.heap[w.heap.size]? = _ from HN.out.1)
  have G1 := m13.heap (show w12.drew.heap[w.heap.size + 1]? = _ from HN.out.2.1) (by omega)
  have G2 := m13.heap (show w12.drew.heap[w.heap.size + 1 + 1]? = _ from HN.out.2.2.1) (by omega)
  refine start_ (n := 5) (S := fun W => W.cell? ⟨w.heap.size + 1, 0, none⟩ = some (.int .i64 (p3 + n3))) (ds := [3, 4]) #[false, false, false, false, false] (by kernel_rfl) rfl rfl (blk_cell HN.out.2.1 0) (fun hS => ?_)
  refine take_ (i := 1) (N := some 103) (v := ?_) (a' := ?_) #[false, true, false, false, false] rfl rfl (by kernel_rfl) (dec_hQ 103 _ (by decide) (by decide) (by decide)) (Or.inl ⟨by rfl, ?_⟩) hS ?_ ?_
  rotate_left
  · intro w' hs
    go_simp
    with_reducible rfl
  rotate_left
  · simp only [Act.put, List.setIfInBounds_toArray, List.set_cons_zero, List.set_cons_succ, i64_w, i32_w]
    rfl
  refine one_ (i := 0) (N := some 102) #[true, true, false, false, false] rfl rfl (by kernel_rfl) (by decide) (fun K hK => ?_)
  refine value_ (by rfl) rfl (exec_load rfl (by rfl) (rec_load (show w12.drew.heap[w.heap.size]? = _ from HN.out.1))) ?_
  refine hK.out _ _ hS (fun hS => ?_)
  refine norm_ (a' := ?_) ?_ ?_
  rotate_left
  · show Act.put _ (some 102) _ = _
    simp only [Act.put, List.setIfInBounds_toArray, List.set_cons_zero, List.set_cons_succ, i64_w, i32_w]
    rfl
  refine one_ (i := 2) (N := none) #[true, true, true, false, false] rfl rfl (by kernel_rfl) (by decide) (fun K hK => ?_)
  refine skip_ (by rfl) rfl (exec_store rfl (by rfl) (by rfl) hst) ?_
  refine hK.out _ _ (blk_cell G1 0) (fun hS => ?_)
  refine last_ (i := 3) (N := none) #[true, true, true, true, false] rfl rfl (by kernel_rfl) (by decide) (fun K hK => ?_)
  refine skip_ (by rfl) rfl (exec_store rfl (by rfl) (by rfl) (st_end G1)) ?_
  refine hK.out _ _ ?_
  have g2 := (Below.heap_setCell W13 ⟨w.heap.size + 1, 0, none⟩ (.int .i64 (p3 + n3)) (w.heap.size + 1 + 1) (by show w.heap.size + 1 + 1 ≠ w.heap.size + 1; omega)).trans G2
  refine last_ (i := 4) (N := none) #[true, true, true, true, true] rfl rfl (by kernel_rfl) (by decide) (fun K hK => ?_)
  refine skip_ (by rfl) rfl (exec_store rfl (by rfl) (by rfl) (st_err g2)) ?_
  refine hK.out _ _ ?_
  refine done_ (by kernel_rfl) ?_
  have j0 := (Below.heap_setCell (W13.setCell ⟨w.heap.size + 1, 0, none⟩ (.int .i64 (p3 + n3))) ⟨w.heap.size + 1 + 1, 0, none⟩ (.int .i64 0) w.heap.size (by show w.heap.size ≠ w.heap.size + 1 + 1; omega)).trans ((Below.heap_setCell W13 ⟨w.heap.size + 1, 0, none⟩ (.int .i64 (p3 + n3)) w.heap.size (by show w.heap.size ≠ w.heap.size + 1; omega)).trans G0)
  have j1 := (Below.heap_setCell (W13.setCell ⟨w.heap.size + 1, 0, none⟩ (.int .i64 (p3 + n3))) ⟨w.heap.size + 1 + 1, 0, none⟩ (.int .i64 0) (w.heap.size + 1) (by show w.heap.size + 1 ≠ w.heap.size + 1 + 1; omega)).trans (set_0 (x := .int .i64 (p3 + n3)) G1)
  have j2 := set_0 (x := .int .i64 0) g2
  have mF : Mu (fun k => w.heap.size ≤ k ∧ k ≤ w.heap.size + 1 + 1) w12.drew ((W13.setCell ⟨w.heap.size + 1, 0, none⟩ (.int .i64 (p3 + n3))).setCell ⟨w.heap.size + 1 + 1, 0, none⟩ (.int .i64 0)) :=
    ((m13.mono (fun k _ h => by have h : k = w.heap.size := h; omega)).setCell (p := ⟨w.heap.size + 1, 0, none⟩) (fun _ => by show w.heap.size ≤ w.heap.size + 1 ∧ w.heap.size + 1 ≤ w.heap.size + 1 + 1; omega) _).setCell (p := ⟨w.heap.size + 1 + 1, 0, none⟩) (fun _ => by show w.heap.size ≤ w.heap.size + 1 + 1 ∧ w.heap.size + 1 + 1 ≤ w.heap.size + 1 + 1; omega) _
  have HZ := Aside0.mk (And.intro j0 (And.intro j1 (And.intro j2 mF)))
  clear j0 j1 j2 mF g2 G0 G1 G2 m13 hS hst
  generalize ((W13.setCell ⟨w.heap.size + 1, 0, none⟩ (.int .i64 (p3 + n3))).setCell ⟨w.heap.size + 1 + 1, 0, none⟩ (.int .i64 0)) = W14 at *
  go_wp2
  refine leaves_cons (f := 39) (args := #[.pointer (some ⟨w.heap.size, 0, none⟩), .pointer (some ⟨w.heap.size + 1, 0, none⟩), .pointer (some ⟨w.heap.size + 1 + 1, 0, none⟩)]) (by simp) (by simp [go_sem]) ?_
  refine dec_idle.mono ?_
  rintro en u w15 ⟨rfl, rfl, rfl⟩
  refine ⟨_, dec_results rfl rfl rfl HZ.out.1 HZ.out.2.1 HZ.out.2.2.1, _, rfl, ?_, ?_⟩
  · have h1_ := Kd.R_bound (Kd.R_drew HN.out.2.2.2.2)
    exact Kd.R_lower (Kd.R_mono (Kd.R_move h1_ (fun k hk => HZ.out.2.2.2.block k hk.2.2.1 (by have := hk.2.1; have := H5.out.1; omega))) (fun _ _ => trivial)) H5.out.2
  · exact Mu.below_of (below_drew1 HN.out.2.2.2.1) HZ.out.2.2.2 (by intro i hi; omega)
end Go.Proofs.Ytdklanenmihpdaa.Hand
namespace Go.Proofs.Ytdklanenmihpdaa.Hand
open Go.RowKit Go.Proofs.YtdklanenmihpdaaW.PrintWords Go.Proofs.YtdklanenmihpdaaW.PrintLast Go.Proofs.Ytdklanenmihpdaa.PA
set_option maxRecDepth 100000 in
set_option maxHeartbeats 4000000 in
theorem dec_early {A0 : Option Addr} {c0 : Nat} {l0 : List Int} {a1 : Int} {w : World} (h : a1 < 0 ∨ (l0.length : Int) < a1) :
    Calls Try.prog 14 #[.slice A0 l0.length c0, .int .i64 a1] w (DecPost w (0, 0, 0, [], 0, 1)) := by
  obtain ⟨W, hW, b0, b1, b2, hWs, hWb⟩ := three_new w (recO 0 0 0 (.slice none 0 0)) (.cells #[.int .i64 0] 3 (0, 0)) (.cells #[.int .i64 0] 27 (0, 0))
  obtain ⟨W1, hst, g0, m0⟩ := rec_store 0 0 0 none 0 0 b0
  have g1 := m0.heap b1 (by omega)
  have g2 := m0.heap b2 (by omega)
  have k2 := (Below.heap_setCell W1 ⟨w.heap.size + 1, 0, none⟩ (.int .i64 0) (w.heap.size + 1 + 1) (by show w.heap.size + 1 + 1 ≠ w.heap.size + 1; omega)).trans g2
  have j0 := (Below.heap_setCell (W1.setCell ⟨w.heap.size + 1, 0, none⟩ (.int .i64 0)) ⟨w.heap.size + 1 + 1, 0, none⟩ (.int .i64 1) w.heap.size (by show w.heap.size ≠ w.heap.size + 1 + 1; omega)).trans ((Below.heap_setCell W1 ⟨w.heap.size + 1, 0, none⟩ (.int .i64 0) w.heap.size (by show w.heap.size ≠ w.heap.size + 1; omega)).trans g0)
  have j1 := (Below.heap_setCell (W1.setCell ⟨w.heap.size + 1, 0, none⟩ (.int .i64 0)) ⟨w.heap.size + 1 + 1, 0, none⟩ (.int .i64 1) (w.heap.size + 1) (by show w.heap.size + 1 ≠ w.heap.size + 1 + 1; omega)).trans (set_0 (x := .int .i64 0) g1)
  have j2 := set_0 (x := .int .i64 1) k2
  have mF : Mu (fun k => w.heap.size ≤ k) W ((W1.setCell ⟨w.heap.size + 1, 0, none⟩ (.int .i64 0)).setCell ⟨w.heap.size + 1 + 1, 0, none⟩ (.int .i64 1)) :=
    ((m0.mono (fun k _ h => by have h : k = w.heap.size := h; omega)).setCell (p := ⟨w.heap.size + 1, 0, none⟩) (fun _ => by show w.heap.size ≤ w.heap.size + 1; omega) _).setCell (p := ⟨w.heap.size + 1 + 1, 0, none⟩) (fun _ => by show w.heap.size ≤ w.heap.size + 1 + 1; omega) _
  have HE := Aside0.mk (And.intro j0 (And.intro j1 (And.intro j2 (Mu.below_of hWb mF (by intro i hi; omega)))))
  have HW := Aside0.mk hW
  have d1 := blk_cell g1 0
  have y1 := blk_frozen g1 0
  have d2 := blk_cell g2 0
  have y2 := blk_frozen g2 0
  have hbd := rec_build
  have hmf : ∀ (fn : Fn) (first cap : Array Value) (w : World), (Instr.makeFunc fn first cap).run Try.prog w = .ok (.func fn first cap) w := fun _ _ _ _ => rfl
  clear hW b0 b1 b2 hWs hWb g0 g1 g2 m0 k2 j0 j1 j2 mF
  by_cases h1 : a1 < 0
  · have e1 : decide (a1 < 0) = true := decide_eq_true h1
    go_enter_defers Try.func14, Try.ntmps14
    go_wp2_with (first | ((with_reducible refine gate_ (.store 25 (.tmp 4) (.tmp 17)) rfl ?_); rw [HW.out]; refine wpList_storeR rfl _ _ _ rfl (by rfl) (by rfl) hst ?_))
    refine ⟨_, dec_results rfl rfl rfl HE.out.1 HE.out.2.1 HE.out.2.2.1, _, rfl, Kd.R_nil _ _ _ _ _, HE.out.2.2.2⟩
  · have e1 : decide (a1 < 0) = false := decide_eq_false h1
    have e2 : decide ((l0.length : Int) < a1) = true := decide_eq_true (h.resolve_left h1)
    go_enter_defers Try.func14, Try.ntmps14
    go_wp2_with (first | ((with_reducible refine gate_ (.store 25 (.tmp 4) (.tmp 17)) rfl ?_); rw [HW.out]; refine wpList_storeR rfl _ _ _ rfl (by rfl) (by rfl) hst ?_))
    refine ⟨_, dec_results rfl rfl rfl HE.out.1 HE.out.2.1 HE.out.2.2.1, _, rfl, Kd.R_nil _ _ _ _ _, HE.out.2.2.2⟩
theorem rec_Decode.calls (A0 : Option Addr) (c0 : Nat) (l0 : List Int) (a1 : Int) (r1 r2 r3 : Int) (r4 : List Int) (r5 r6 : Int) (w : World) (hr0 : Kd.C (Kd.int .u8) w A0 l0.length l0) (hc0 : l0.length ≤ c0) (h : rec_Decode.f l0 a1 = some (r1, r2, r3, r4, r5, r6)) :
    Calls Try.prog 14 #[.slice A0 l0.length c0, .int .i64 a1] w fun e w' => ∃ v3_ : Value, e = .returned (.tuple #[.agg #[.int .i64 r1, .int .u64 r2, .int .u64 r3, v3_], .int .i64 r5, .int .i64 r6]) ∧ Kd.R (Kd.int .u8) 5 w' w.heap.size (fun _ => True) v3_ r4 ∧ Below w.heap.size w w' := by
  unfold rec_Decode.f at h
  split at h
  case isFalse => cases h
  rename_i hq
  have hv := Option.some.inj h
  by_cases he : a1 < 0 ∨ (l0.length : Int) < a1
  · rw [if_pos he] at hv
    have := dec_early (A0 := A0) (c0 := c0) (w := w) he
    rw [hv] at this
    exact this
  · rw [if_neg he] at hv
    have hb : Bytes255 l0 := fun x hx => byteB_iff.1 (List.all_eq_true.1 hq.1 x hx)
    have := dec_main (R := decV l0 a1) hr0 hc0 hb hq.2 (by omega) (by omega) rfl
    rw [hv] at this
    exact this
end Go.Proofs.Ytdklanenmihpdaa.Hand
namespace Go.Proofs.Ytdklanenmihpdaa.Hand
open Go.RowKit Go.Proofs.YtdklanenmihpdaaW.PrintWords Go.Proofs.YtdklanenmihpdaaW.PrintLast Go.Proofs.YtdklanenmihpdaaW.PrintMore Go.Proofs.Ytdklanenmihpdaa.PA
theorem seg_len {l : List Int} {i j : Int} (h0 : 0 ≤ i) (h1 : i ≤ j) (h2 : j ≤ l.length) : ((segL l i j).length : Int) = j - i := by
  unfold segL
  rw [List.length_drop, List.length_take]
  omega
theorem seg_app {l : List Int} {i j k : Int} (h0 : 0 ≤ i) (h1 : i ≤ j) (h2 : j ≤ k) (h3 : k ≤ l.length) : segL l i k = segL l i j ++ segL l j k := by
  unfold segL
  have e : (l.take k.toNat) = l.take j.toNat ++ (l.take k.toNat).drop j.toNat := by
    have := (List.take_append_drop j.toNat (l.take k.toNat)).symm
    rwa [List.take_take, Nat.min_eq_left (by omega)] at this
  conv => lhs; rw [e]
  rw [List.drop_append, show i.toNat - (l.take j.toNat).length = 0 by rw [List.length_take]; omega, List.drop_zero]
theorem seg_one {l : List Int} {i : Int} (h0 : 0 ≤ i) (h1 : i < l.length) : segL l i (i + 1) = [rd l i] := by
  unfold segL rd
  have e : (i + 1).toNat = i.toNat + 1 := by omega
  have h : i.toNat < l.length := by omega
  rw [e, List.take_add_one, List.drop_append, List.length_take, List.getElem?_eq_getElem h, List.drop_of_length_le (by rw [List.length_take]; omega)]
  rw [Nat.min_eq_left (by omega), Nat.sub_self, List.drop_zero, List.nil_append, List.getD_eq_getElem?_getD, List.getElem?_eq_getElem h]
  rfl
theorem seg_cons {l : List Int} {i j : Int} (h0 : 0 ≤ i) (h1 : i < j) (h2 : j ≤ l.length) : segL l i j = rd l i :: segL l (i + 1) j := by
  rw [seg_app h0 (show i ≤ i + 1 by omega) (show i + 1 ≤ j by omega) h2, seg_one h0 (by omega)]; rfl
theorem seg_mid (P M S : List Int) : segL (P ++ (M ++ S)) (P.length : Int) ((P.length : Int) + (M.length : Int)) = M := by
  unfold segL
  rw [show ((P.length : Int) + (M.length : Int)).toNat = P.length + M.length by omega, Int.toNat_natCast, ← List.append_assoc, List.take_append_of_le_length (by simp), List.take_of_length_le (by simp), List.drop_append, List.drop_of_length_le (Nat.le_refl _), Nat.sub_self, List.drop_zero, List.nil_append]
theorem get_back (P : List Int) (a : Int) (S : List Int) (h0 : 0 ≤ a) (h1 : a < 18446744073709551616) : getV (P ++ (varL 9 a ++ S)) (P.length : Int) = (a, (P.length : Int) + ((varL 9 a).length : Int), 0) := by
  have rb := read_back 9 0 a 0 P S rfl h0 (by simp only [Int.reducePow, Int.reduceMul]; omega) (by omega) (by simp) (by simpa using h1) (by omega)
  simp only [Nat.mul_zero, Int.pow_zero, Int.mul_one, Int.zero_add] at rb
  rw [getV_in _ P.length (by simp), rb]; rfl
theorem varL_bytes (a : Int) (h0 : 0 ≤ a) (h1 : a < 18446744073709551616) : Bytes255 (varL 9 a) := by
  obtain ⟨F, c, eV, hF, c0, c1, hl⟩ := varL_front 9 a h0 (by simp only [Int.reducePow, Int.reduceMul]; omega)
  rw [eV]
  intro x hx
  rcases List.mem_append.1 hx with h | h
  · have := hF x h; omega
  · rw [List.mem_singleton.1 h]; omega
theorem varL_len (a : Int) (h0 : 0 ≤ a) (h1 : a < 18446744073709551616) : (varL 9 a).length ≤ 10 := by
  obtain ⟨F, c, eV, hF, c0, c1, hl⟩ := varL_front 9 a h0 (by simp only [Int.reducePow, Int.reduceMul]; omega)
  rw [eV]; simp; omega
theorem varL_small (d : Nat) (a : Int) (h0 : 0 ≤ a) (h1 : a < 128) : varL d a = [a] := by
  cases d with
  | zero => show [a % 256] = [a]; rw [Int.emod_eq_of_lt h0 (by omega)]
  | succ d => rw [varL, if_neg (by omega), Int.emod_eq_of_lt h0 (by omega)]
theorem numL_canon {l : List Int} (hb : Bytes255 l) : ∀ (d i : Nat) (n p m q : Int), i + d = 10 → 0 ≤ n → n < 2 ^ (7 * i) → 0 ≤ p → p ≤ l.length → numL l d i n p = .ok (m, q) →
    ∃ a, 0 ≤ a ∧ (0 < i → 1 ≤ a) ∧ m = n + a * 2 ^ (7 * i) ∧ segL l p q = varL (9 - i) a ∧ p < q ∧ q ≤ l.length := by
  intro d
  induction d with
  | zero => intro i n p m q _ _ _ _ _ h; simp only [numL] at h; cases h
  | succ d ih =>
    intro i n p m q hi h0 hn hp0 hp h
    have hc := rd_255 hb p
    rw [numL_succ l d i n p _ rfl] at h
    split at h
    · cases h
    · rename_i hpl
      split at h
      · cases h
      · rename_i hno
        have hv := vstep_eq n (rd l p) i h0 hn hc.1 hc.2 (by omega) (fun h9 => by
          rcases Int.lt_or_le 1 (rd l p) with h1 | h1
          · exact absurd (.inl ⟨h9, h1⟩) hno
          · exact h1)
        rw [hv] at h
        split at h
        · rename_i hlt
          injection h with h
          injection h with e1 e2
          subst e1 e2
          refine ⟨rd l p, hc.1, fun h => ?_, by rw [Int.emod_eq_of_lt hc.1 hlt], ?_, by omega, by omega⟩
          · rcases Int.lt_or_le 0 (rd l p) with h1 | h1
            · omega
            · exact absurd (.inr ⟨by omega, h⟩) hno
          · rw [seg_one hp0 (by omega), varL_small _ _ hc.1 hlt]
        · rename_i hge
          have hi9 : i ≠ 9 := fun h9 => hno (.inl ⟨h9, by omega⟩)
          have hb2 := vbound n (rd l p % 128) i hn (by omega) (by omega) (by omega) (fun h9 => absurd h9 hi9)
          have e2 : (2 : Int) ^ (7 * (i + 1)) = 2 ^ (7 * i) * 128 := by rw [show 7 * (i + 1) = 7 * i + 7 by omega, Int.pow_add]; rfl
          have h2 : 1 ≤ (2 : Int) ^ (7 * i) := pow_le i (by omega)
          have d3 : rd l p % 128 * 2 ^ (7 * i) ≤ 127 * 2 ^ (7 * i) := Int.mul_le_mul_of_nonneg_right (by omega) (by omega)
          obtain ⟨a, a0, a1, em, es, hpq, hq⟩ := ih (i + 1) _ (p + 1) m q (by omega) (by omega) (by rw [e2]; omega) (by omega) (by omega) h
          have a1 := a1 (by omega)
          refine ⟨rd l p % 128 + 128 * a, by omega, fun _ => by omega, ?_, ?_, by omega, hq⟩
          · rw [em, e2, Int.add_mul, show a * (2 ^ (7 * i) * 128) = 128 * a * 2 ^ (7 * i) by ac_rfl]; omega
          · rw [seg_cons hp0 (by omega) hq, es, show 9 - i = (9 - (i + 1)) + 1 by omega, varL, if_pos (by omega)]
            have q1 : (rd l p % 128 + 128 * a) % 128 + 128 = rd l p := by omega
            have q2 : (rd l p % 128 + 128 * a) / 128 = a := by omega
            rw [q1, q2]
theorem get_canon {l : List Int} (hb : Bytes255 l) {p n q : Int} (h : getV l p = (n, q, 0)) : 0 ≤ p ∧ segL l p q = varL 9 n ∧ 0 ≤ n ∧ n ≤ 18446744073709551615 ∧ p < q ∧ q ≤ l.length := by
  have hk := getV_ok h
  unfold getV at h
  split at h
  · injection h with _ h; injection h with _ h; cases h
  · split at h
    · injection h with _ h; injection h with _ h; cases h
    · cases hn : numL l 10 0 0 p with
      | error x =>
        rw [hn] at h
        injection h with _ h
        injection h with _ h
        subst h
        have := numL_nz l _ _ _ _ _ hn
        cases this
      | ok np =>
        obtain ⟨n', q'⟩ := np
        rw [hn] at h
        injection h with e1 h
        injection h with e2 _
        subst e1 e2
        obtain ⟨a, a0, _, em, es, hpq, hq⟩ := numL_canon hb 10 0 0 p n' q' rfl (by omega) (by simp) (by omega) (by omega) hn
        have : n' = a := by simpa using em
        subst this
        exact ⟨by omega, es, hk.2.1, hk.2.2.1, hpq, hq⟩
end Go.Proofs.Ytdklanenmihpdaa.Hand
namespace Go.Proofs.Ytdklanenmihpdaa.Hand
open Go.RowKit Go.Proofs.YtdklanenmihpdaaW.PrintWords Go.Proofs.YtdklanenmihpdaaW.PrintLast Go.Proofs.YtdklanenmihpdaaW.PrintMore Go.Proofs.Ytdklanenmihpdaa.PA
def bodyL (k s t : Int) (b : List Int) : List Int := k :: (varL 9 s ++ (varL 9 t ++ (varL 9 (b.length : Int) ++ b)))
def headL (k s t : Int) (b : List Int) : List Int := 167 :: 92 :: (fourL (crcV (bodyL k s t b)) ++ [k])
def restL (s t : Int) (b : List Int) : List Int := varL 9 s ++ (varL 9 t ++ (varL 9 (b.length : Int) ++ b))
def encL (k s t : Int) (b : List Int) : List Int := 167 :: 92 :: (fourL (crcV (bodyL k s t b)) ++ bodyL k s t b)
theorem enc_split (k s t : Int) (b : List Int) : encL k s t b = headL k s t b ++ restL s t b := by
  simp [encL, headL, restL, bodyL]
theorem head_len (k s t : Int) (b : List Int) : (headL k s t b).length = 7 := by simp [headL, fourL]
theorem enc_len (k s t : Int) (b : List Int) : (encL k s t b).length = 7 + (restL s t b).length := by rw [enc_split, List.length_append, head_len]
theorem rd_app (P M : List Int) (i : Nat) : rd (P ++ M) ((P.length : Int) + (i : Int)) = rd M (i : Int) := by
  unfold rd
  rw [show ((P.length : Int) + (i : Int)).toNat = P.length + i by omega, Int.toNat_natCast, List.getD_eq_getElem?_getD, List.getD_eq_getElem?_getD, List.getElem?_append_right (by omega), Nat.add_sub_cancel_left]
structure MayR (k s t : Int) (b : List Int) : Prop where
  may : mayL k s t b.length
  s0 : 0 ≤ s
  t0 : 0 ≤ t
theorem MayR.s1 {k s t : Int} {b : List Int} (h : MayR k s t b) : s < 18446744073709551616 := by have := h.may.2.2.1; omega
theorem MayR.t1 {k s t : Int} {b : List Int} (h : MayR k s t b) : t < 18446744073709551616 := by have := h.may.2.2.2.1; omega
theorem MayR.b1 {k s t : Int} {b : List Int} (h : MayR k s t b) : (b.length : Int) ≤ 1048576 := h.may.2.2.2.2
theorem dec_enc (P S : List Int) {k s t : Int} {b : List Int} (h : MayR k s t b) : decV (P ++ (encL k s t b ++ S)) (P.length : Int) = .ok (k, s, t, b, (P.length : Int) + ((encL k s t b).length : Int)) := by
  have hb1 := h.b1
  have g1 := get_back (P ++ headL k s t b) s (varL 9 t ++ (varL 9 (b.length : Int) ++ (b ++ S))) h.s0 h.s1
  have g2 := get_back (P ++ headL k s t b ++ varL 9 s) t (varL 9 (b.length : Int) ++ (b ++ S)) h.t0 h.t1
  have g3 := get_back (P ++ headL k s t b ++ varL 9 s ++ varL 9 t) (b.length : Int) (b ++ S) (by omega) (by omega)
  have e1 : P ++ headL k s t b ++ (varL 9 s ++ (varL 9 t ++ (varL 9 (b.length : Int) ++ (b ++ S)))) = P ++ (encL k s t b ++ S) := by rw [enc_split]; simp [restL]
  have e2 : P ++ headL k s t b ++ varL 9 s ++ (varL 9 t ++ (varL 9 (b.length : Int) ++ (b ++ S))) = P ++ (encL k s t b ++ S) := by rw [enc_split]; simp [restL]
  have e3 : P ++ headL k s t b ++ varL 9 s ++ varL 9 t ++ (varL 9 (b.length : Int) ++ (b ++ S)) = P ++ (encL k s t b ++ S) := by rw [enc_split]; simp [restL]
  have e4 : (P ++ headL k s t b ++ varL 9 s ++ varL 9 t ++ varL 9 (b.length : Int)) ++ (b ++ S) = P ++ (encL k s t b ++ S) := by rw [enc_split]; simp [restL]
  have e5 : (P ++ (167 :: 92 :: [])) ++ (fourL (crcV (bodyL k s t b)) ++ (bodyL k s t b ++ S)) = P ++ (encL k s t b ++ S) := by simp [encL]
  have e6 : (P ++ (167 :: 92 :: fourL (crcV (bodyL k s t b)))) ++ (bodyL k s t b ++ S) = P ++ (encL k s t b ++ S) := by simp [encL]
  have m1 := seg_mid (P ++ (167 :: 92 :: [])) (fourL (crcV (bodyL k s t b))) (bodyL k s t b ++ S)
  have m2 := seg_mid (P ++ (167 :: 92 :: fourL (crcV (bodyL k s t b)))) (bodyL k s t b) S
  have m3 := seg_mid (P ++ headL k s t b ++ varL 9 s ++ varL 9 t ++ varL 9 (b.length : Int)) b S
  rw [e1] at g1
  rw [e2] at g2
  rw [e3] at g3
  rw [e4] at m3
  rw [e5] at m1
  rw [e6] at m2
  have r0 := rd_app P (encL k s t b ++ S) 0
  have r1 := rd_app P (encL k s t b ++ S) 1
  have r6 := rd_app P (encL k s t b ++ S) 6
  have el := enc_len k s t b
  have rl : (restL s t b).length = (varL 9 s).length + ((varL 9 t).length + ((varL 9 (b.length : Int)).length + b.length)) := by simp [restL]
  have bl : (bodyL k s t b).length = (restL s t b).length + 1 := rfl
  have fl : (fourL (crcV (bodyL k s t b))).length = 4 := rfl
  have hl := head_len k s t b
  have v0 : rd (encL k s t b ++ S) ((0 : Nat) : Int) = 167 := rfl
  have v1 : rd (encL k s t b ++ S) ((1 : Nat) : Int) = 92 := rfl
  have v6 : rd (encL k s t b ++ S) ((6 : Nat) : Int) = k := rfl
  have tl : (P ++ (encL k s t b ++ S)).length = P.length + (7 + (restL s t b).length) + S.length := by simp [el]; omega
  rw [v0] at r0
  rw [v1] at r1
  rw [v6] at r6
  generalize P ++ (encL k s t b ++ S) = L at *
  simp only [List.length_append, List.length_cons, List.length_nil, hl, fl] at g1 g2 g3 m1 m2 m3
  have a1 : ((P.length + 7 : Nat) : Int) = (P.length : Int) + 7 := by omega
  generalize (varL 9 s).length = ns at *
  generalize (varL 9 t).length = nt at *
  generalize (varL 9 (b.length : Int)).length = nb at *
  have p1 : ((P.length + 7 : Nat) : Int) + (ns : Int) = ((P.length + 7 + ns : Nat) : Int) := by omega
  have p2 : ((P.length + 7 + ns : Nat) : Int) + (nt : Int) = ((P.length + 7 + ns + nt : Nat) : Int) := by omega
  have p3 : ((P.length + 7 + ns + nt : Nat) : Int) + (nb : Int) = ((P.length + 7 + ns + nt + nb : Nat) : Int) := by omega
  rw [p1] at g1
  rw [p2] at g2
  rw [p3] at g3
  have b2 : (P.length : Int) + 2 = ((P.length + (0 + 1 + 1) : Nat) : Int) := by omega
  have b6 : (P.length : Int) + 6 = ((P.length + (4 + 1 + 1) : Nat) : Int) := by omega
  have b6' : (P.length : Int) + 6 = ((P.length + (0 + 1 + 1) : Nat) : Int) + ((4 : Nat) : Int) := by omega
  have b9 : ((P.length + 7 + ns + nt + nb : Nat) : Int) + (b.length : Int) = ((P.length + (4 + 1 + 1) : Nat) : Int) + ((bodyL k s t b).length : Int) := by omega
  unfold decV
  rw [← a1, g1]
  dsimp only
  rw [g2]
  dsimp only
  rw [g3]
  dsimp only
  have c1 : 6 ≤ (L.length : Int) - (P.length : Int) := by omega
  have c2 : rd L (P.length : Int) = 167 ∧ rd L ((P.length : Int) + 1) = 92 := ⟨by simpa using r0, by simpa using r1⟩
  have c3 : (P.length : Int) + 6 < (L.length : Int) := by omega
  have c4 : (b.length : Int) ≤ (L.length : Int) - ((P.length + 7 + ns + nt + nb : Nat) : Int) := by omega
  have c5 : segL L ((P.length : Int) + 2) ((P.length : Int) + 6) = fourL (crcV (segL L ((P.length : Int) + 6) (((P.length + 7 + ns + nt + nb : Nat) : Int) + (b.length : Int)))) := by
    rw [b2, b6', m1, ← b6', b9, b6, m2]
  have c6 : rd L ((P.length : Int) + 6) = k := r6
  rw [if_pos c1, if_pos c2, if_pos c3, if_pos rfl, if_pos rfl, if_pos rfl, if_pos hb1, if_pos c4, if_pos c5, c6, if_pos h.may, m3]
  exact congrArg (fun z => Except.ok (k, s, t, b, z)) (by omega)
theorem dec_inv {l : List Int} (hb : Bytes255 l) {a k s t e : Int} {b : List Int} (h0 : 0 ≤ a) (h : decV l a = .ok (k, s, t, b, e)) :
    segL l a e = encL k s t b ∧ MayR k s t b ∧ e = a + ((encL k s t b).length : Int) ∧ e ≤ l.length ∧ Bytes255 b := by
  unfold decV at h
  split at h
  case isFalse => cases h
  rename_i c1
  split at h
  case isFalse => cases h
  rename_i c2
  split at h
  case isFalse => cases h
  rename_i c3
  rcases hg1 : getV l (a + 7) with ⟨n1, p1, x1⟩
  rw [hg1] at h
  dsimp only at h
  split at h
  case isFalse => cases h
  rename_i z1
  subst z1
  rcases hg2 : getV l p1 with ⟨n2, p2, x2⟩
  rw [hg2] at h
  dsimp only at h
  split at h
  case isFalse => cases h
  rename_i z2
  subst z2
  rcases hg3 : getV l p2 with ⟨n3, p3, x3⟩
  rw [hg3] at h
  dsimp only at h
  split at h
  case isFalse => cases h
  rename_i z3
  subst z3
  split at h
  case isFalse => cases h
  rename_i c4
  split at h
  case isFalse => cases h
  rename_i c5
  split at h
  case isFalse => cases h
  rename_i c6
  split at h
  case isFalse => cases h
  rename_i c7
  injection h with h
  injection h with ek h
  injection h with es h
  injection h with et h
  injection h with eb ee
  subst es et ee
  obtain ⟨_, s1, n10, n11, q1, r1⟩ := get_canon hb hg1
  obtain ⟨_, s2, n20, n21, q2, r2⟩ := get_canon hb hg2
  obtain ⟨_, s3, n30, n31, q3, r3⟩ := get_canon hb hg3
  have hbl : (b.length : Int) = n3 := by rw [← eb, seg_len (by omega) (by omega) (by omega)]; omega
  have f1 : segL l (a + 6) (p3 + n3) = bodyL k n1 n2 b := by
    rw [seg_cons (by omega) (by omega) (by omega), show a + 6 + 1 = a + 7 by omega, seg_app (i := a + 7) (j := p1) (by omega) (by omega) (by omega) (by omega), seg_app (i := p1) (j := p2) (by omega) (by omega) (by omega) (by omega), seg_app (i := p2) (j := p3) (by omega) (by omega) (by omega) (by omega), s1, s2, s3, eb, ek]
    unfold bodyL
    rw [hbl]
  have f2 : segL l a (p3 + n3) = encL k n1 n2 b := by
    rw [seg_cons (by omega) (by omega) (by omega), seg_cons (i := a + 1) (by omega) (by omega) (by omega), show a + 1 + 1 = a + 2 by omega, seg_app (i := a + 2) (j := a + 6) (by omega) (by omega) (by omega) (by omega), c6, c2.1, c2.2, f1]
    rfl
  refine ⟨f2, ⟨?_, n10, n20⟩, ?_, by omega, ?_⟩
  · rw [hbl, ← ek]; exact c7
  · rw [← f2, seg_len (by omega) (by omega) (by omega)]; omega
  · rw [← eb]; exact seg_bytes hb _ _
end Go.Proofs.Ytdklanenmihpdaa.Hand
namespace Go.Proofs.Ytdklanenmihpdaa.PL
open Go.RowKit Go.Proofs.YtdklanenmihpdaaW.PrintWords Go.Proofs.YtdklanenmihpdaaW.PrintLast Go.Proofs.YtdklanenmihpdaaW.PrintMore
attribute [local go_sem] max2_int min2_int max_two min_two max_three min_three max_four min_four
open Go.Proofs.Ytdklanenmihpdaa.Hand
open Go.Proofs.Ytdklanenmihpdaa.PA
set_option linter.unusedVariables false
set_option linter.unusedSimpArgs false
def errW : Option Int → Value
  | none => .nilIface
  | some c => .iface 0 (.int .i64 c)
theorem errW_none : errW none = .nilIface := rfl
theorem errW_some (c : Int) : errW (some c) = .iface 0 (.int .i64 c) := rfl
theorem info5 : (Try.prog.info? 5).map (fun i => (i.zero, i.size, i.bytes)) = some (some (.int .u8 0), 1, 1) := by kernel_rfl
end Go.Proofs.Ytdklanenmihpdaa.PL
