/-
  tries: something read; if it was given up, nothing was taken.
-/
import Derived.Test.YtabljieejnhefaaWire3
namespace Go.Proofs.Ytabljieejnhefaa.Hand
open Go.RowKit Go.Proofs.YtabljieejnhefaaW.PrintWords Go.Proofs.YtabljieejnhefaaW.PrintLast

/-- What a reading leaves: a value (Res: what it is good for, from block b on), or a failure. -/
def RdPost (Res : Nat → World → Value → Prop) (b : Nat) (F : Nat → Prop) (g : Nat) (l : List Int) (e : Int) (w : World) : Except Int Int → Ending → World → Prop
  | .ok at', en, w' => (∃ v, en = .returned v ∧ Res b w' v) ∧ IsRd w' F g l at' e ∧ 0 ≤ at' ∧ at' ≤ l.length ∧ Mu (· = g) w w'
  | .error x, en, w' => en = .panicked (stopV x) ∧ (∃ at', IsRd w' F g l at' e) ∧ Mu (· = g) w w'
/-- What tries leaves. -/
def TrPost (Res : Nat → World → Value → Prop) (b : Nat) (F : Nat → Prop) (g : Nat) (l : List Int) (at_ e : Int) (zero : Value) (w : World) (R : Except Int Int) (en : Ending) (w' : World) : Prop :=
  Mu (· = g) w w' ∧ ((e ≠ 0 ∧ en = .returned zero ∧ IsRd w' F g l at_ e) ∨ (e = 0 ∧ ∃ at', R = .ok at' ∧ (∃ v, en = .returned v ∧ Res b w' v) ∧ IsRd w' F g l at' 0 ∧ 0 ≤ at' ∧ at' ≤ l.length) ∨
    (e = 0 ∧ ∃ x, R = .error x ∧ en = .returned zero ∧ IsRd w' F g l at_ x))
structure Stays (Res : Nat → World → Value → Prop) : Prop where
  mu : ∀ {b w1 w2 v}, Res b w1 v → Mu (fun k => k < b) w1 w2 → Res b w2 v
  lower : ∀ {b b' w v}, Res b w v → b' ≤ b → Res b' w v

theorem Mu.trans' {S T : Nat → Prop} {a b c : World} (h : Mu S a b) (k : Mu T b c) (hT : ∀ i, i < a.heap.size → T i → S i) : Mu S a c :=
  ⟨k.os.trans h.os, k.tape.trans h.tape, k.output.trans h.output, Nat.le_trans h.size k.size, fun i hi hs => (k.block i (Nat.lt_of_lt_of_le hi h.size) (fun ht => hs (hT i hi ht))).trans (h.block i hi hs)⟩
theorem alloc_new (w : World) (o : Obj) : (w.alloc o).heap[w.heap.size]? = some o := by
  show (w.heap.push o)[w.heap.size]? = some o
  simp
theorem alloc_old {w : World} {o O : Obj} {k : Nat} (h : w.heap[k]? = some o) : (w.alloc O).heap[k]? = some o := alloc_blk h
/-- Four new blocks. -/
theorem four_new (w : World) (o0 o1 o2 o3 : Obj) : ∃ W, (((w.alloc o0).alloc o1).alloc o2).alloc o3 = W ∧ W.heap[w.heap.size]? = some o0 ∧ W.heap[w.heap.size + 1]? = some o1 ∧ W.heap[w.heap.size + 1 + 1]? = some o2 ∧ W.heap[w.heap.size + 1 + 1 + 1]? = some o3 ∧
    W.heap.size = w.heap.size + 4 ∧ Below w.heap.size w W := by
  have s1 : (w.alloc o0).heap.size = w.heap.size + 1 := by simp
  have s2 : ((w.alloc o0).alloc o1).heap.size = w.heap.size + 1 + 1 := by simp
  have s3 : (((w.alloc o0).alloc o1).alloc o2).heap.size = w.heap.size + 1 + 1 + 1 := by simp
  refine ⟨_, rfl, ?_, ?_, ?_, ?_, by simp, ?_⟩
  · exact alloc_old (alloc_old (alloc_old (alloc_new _ _)))
  · have := alloc_new (w.alloc o0) o1
    rw [s1] at this
    exact alloc_old (alloc_old this)
  · have := alloc_new ((w.alloc o0).alloc o1) o2
    rw [s2] at this
    exact alloc_old this
  · have := alloc_new (((w.alloc o0).alloc o1).alloc o2) o3
    rw [s3] at this
    exact this
  · exact below_alloc (below_alloc (below_alloc (below_alloc (Below.refl _ _) _) _) _) _
theorem IsRd.blk {w : World} {F : Nat → Prop} {g : Nat} {l : List Int} {at_ e : Int} (h : IsRd w F g l at_ e) : ∃ v, w.heap[g]? = some (.cells #[v, .int .i64 at_, .int .i64 e] 57 (0, 0)) := by
  obtain ⟨A, c, i1, i2, i3, i4, i5⟩ := h
  exact ⟨_, i2⟩

set_option maxHeartbeats 2000000 in
theorem triesdU {Res : Nat → World → Value → Prop} (hS : Stays Res) (hsh : ∀ b w v, Res b w v → ∃ n, v = .int .u64 n) {f : FuncId} {first cap args : Array Value} (hargs : first ++ cap = args)
    (hcf : ∀ w : World, (callFunc f args).run Try.prog w = .ok (.enter f args) w)
    {w : World} {F : Nat → Prop} {g : Nat} {l : List Int} {at_ e : Int} (R : Except Int Int) (hX : ∀ x, R = .error x → (x != 0) = true) (hI : IsRd w F g l at_ e) (hF : ∀ k, F k → k < w.heap.size)
    (hread : e = 0 → ∀ w1, Below w.heap.size w w1 → Calls Try.prog f args w1 (RdPost Res w1.heap.size F g l 0 w1 R)) :
    Calls Try.prog 32 #[.pointer (some ⟨g, 0, none⟩), .func (.func f) first cap] w (TrPost Res w.heap.size F g l at_ e (.int .u64 0) w R) := by
  have HI := Aside0.mk hI
  have HX := Aside0.mk hX
  have HF := Aside0.mk hF
  have HR := Aside0.mk hread
  have HS := Aside0.mk hS
  have Hsh := Aside0.mk hsh
  obtain ⟨A, c, i1, i2, i3, i4, i5⟩ := hI
  have I2 := Aside0.mk i2
  have c1 := blk_cell i2 1
  have c2 := blk_cell i2 2
  have hglt := heap_lt i2
  have hsz0 : w.heap.size ≠ g := by omega
  have hsz1 : w.heap.size + 1 ≠ g := by omega
  have hsz2 : w.heap.size + 1 + 1 ≠ g := by omega
  have hsz3 : w.heap.size + 1 + 1 + 1 ≠ g := by omega
  clear hX hF hread hS hsh i1 i2 i3 i4 i5
  have hmf : ∀ (fn : Fn) (first cap : Array Value) (w : World), (Instr.makeFunc fn first cap).run Try.prog w = .ok (.func fn first cap) w := fun _ _ _ _ => rfl
  by_cases he : e = 0
  · subst he
    obtain ⟨W, hW, b0, b1, b2, b3, hWs, hWb⟩ := four_new w (.cells #[.pointer (some ⟨g, 0, none⟩)] 38) (.cells #[.int .u64 0] 22) (.cells #[.int .i64 at_] 3) (.cells #[.int .u64 0] 22)
    have HW := Aside0.mk hW
    have B0 := Aside0.mk b0
    have B1 := Aside0.mk b1
    have B2 := Aside0.mk b2
    have B3 := Aside0.mk b3
    have HWs := Aside0.mk hWs
    have HWb := Aside0.mk hWb
    clear hW b0 b1 b2 b3 hWs hWb
    go_enter_defers Try.func32, Try.ntmps32
    go_wp2_with fail
    rw [HW.out]
    refine (HR.out trivial W HWb.out).mono ?_
    have hIW : IsRd W F g l at_ 0 := HI.out.mu (Mu.of_below HWb.out (fun _ => False)) (fun _ _ h => h)
    cases R with
    | ok p =>
      rintro en w2 ⟨⟨v, rfl, hres⟩, hI2, h0, h1, hm⟩
      obtain ⟨n, rfl⟩ := Hsh.out _ _ _ hres
      have b1 := hm.heap B1.out hsz1
      have b0 := hm.heap B0.out hsz0
      have c3 := blk_cell b1 0
      have f3 := blk_frozen b1 0
      have HM := Aside0.mk hm
      have HI2 := Aside0.mk hI2
      have HRes := Aside0.mk hres
      have B1' := Aside0.mk b1
      have B0' := Aside0.mk b0
      clear hm hI2 hres b1 b0
      go_wp2
      obtain ⟨v2, hb2⟩ := HI2.out.blk
      refine leaves_cons (f := 42) (args := #[.pointer (some ⟨w.heap.size, 0, none⟩), .pointer (some ⟨w.heap.size + 1 + 1, 0, none⟩), .pointer (some ⟨w.heap.size + 1 + 1 + 1, 0, none⟩), .pointer (some ⟨w.heap.size + 1, 0, none⟩)]) (by simp) (by simp [go_sem]) ?_
      refine (dU_idle (g := g) (v := v2) (a := .int .i64 p) ?_ ?_).mono ?_
      · exact (Below.heap_setCell _ _ _ _ (by exact fun e => hsz1 e.symm)).trans hb2
      · exact (Below.heap_setCell _ _ _ _ (by show w.heap.size ≠ w.heap.size + 1; omega)).trans B0'.out
      rintro en u w3 ⟨rfl, rfl, rfl⟩
      have hx := set_0 (x := .int .u64 n) B1'.out
      have cx := blk_cell hx 0
      have hm3 : ∀ S : Nat → Prop, S (w.heap.size + 1) → Mu S w2 ((w2.setCell ⟨w.heap.size + 1, 0, none⟩ (.int .u64 n)).drew) := fun S hS => ((Mu.refl S w2).setCell (p := ⟨w.heap.size + 1, 0, none⟩) (fun _ => hS) _).drew
      refine ⟨.int .u64 n, ?_, ?_, .inr (.inl ⟨rfl, p, rfl, ⟨_, rfl, ?_⟩, ?_, h0, h1⟩)⟩
      · simp [results, Try.results32, go_sem, cx]
      · exact (((Mu.of_below HWb.out (· = g)).trans HM.out).setCell (p := ⟨w.heap.size + 1, 0, none⟩) (fun h => absurd h (by show ¬ w.heap.size + 1 < w.heap.size; omega)) _).drew
      · exact HS.out.lower (HS.out.mu HRes.out (hm3 _ (by rw [HWs.out]; omega))) (by rw [HWs.out]; omega)
      · exact HI2.out.mu (hm3 (· = w.heap.size + 1) rfl) (fun k hk e => by have := HF.out k hk; omega)
    | error x =>
      rintro en w2 ⟨rfl, ⟨at', hI2⟩, hm⟩
      obtain ⟨v2, hb2⟩ := hI2.blk
      have hX := HX.out x rfl
      have hd := dU_stop (older := []) hX hsz0 hsz2 hsz3 hsz1 hb2 (hm.heap B0.out hsz0) (hm.heap B2.out hsz2) (hm.heap B3.out hsz3) (hm.heap B1.out hsz1)
      refine leaves_cons (f := 42) (args := #[.pointer (some ⟨w.heap.size, 0, none⟩), .pointer (some ⟨w.heap.size + 1 + 1, 0, none⟩), .pointer (some ⟨w.heap.size + 1 + 1 + 1, 0, none⟩), .pointer (some ⟨w.heap.size + 1, 0, none⟩)]) (by simp) (by simp [go_sem]) ?_
      refine hd.mono ?_
      rintro en u w3 ⟨rfl, rfl, g1, x1, m1⟩
      have cx := blk_cell x1 0
      refine ⟨.int .u64 0, ?_, ?_, .inr (.inr ⟨rfl, x, rfl, rfl, ?_⟩)⟩
      · simp [results, Try.results32, go_sem, cx]
      · refine ((Mu.of_below HWb.out (· = g)).trans hm).trans' m1 ?_
        rintro k hk (h | h)
        · exact h
        · omega
      · obtain ⟨A', c', j1, j2, j3, j4, j5⟩ := hI2
        rw [hb2] at j2
        obtain rfl : v2 = .slice A' l.length c' := by
          injection j2 with j2
          injection j2 with j2
          simpa using j2
        exact ⟨A', c', j1, g1, j3, C_mu m1 j4 (fun ad ea hn => by
          rintro (h | h)
          · exact (j5 ad ea hn).2 h
          · have := HF.out _ (j5 ad ea hn).1; omega), j5⟩
  · have he' : (e != 0) = true := by rw [bne_iff_ne]; exact he
    have He := Aside0.mk he
    clear he
    go_enter_defers Try.func32, Try.ntmps32
    go_wp2_with fail
    refine ⟨.int .u64 0, ?_, ?_⟩
    · simp [results, Try.results32, go_sem]
    · have hb : Below w.heap.size w ((w.alloc (Obj.cells #[Value.pointer (some ⟨g, 0, none⟩)] 38)).alloc (Obj.cells #[Value.int .u64 0] 22)) := below_alloc (below_alloc (Below.refl _ _) _) _
      exact ⟨Mu.of_below hb _, .inl ⟨He.out, rfl, HI.out.mu (Mu.of_below hb (fun _ => False)) (fun _ _ h => h)⟩⟩
set_option maxHeartbeats 2000000 in
theorem triesdB {Res : Nat → World → Value → Prop} (hS : Stays Res) (hsh : ∀ b w v, Res b w v → ∃ a n c, v = .slice a n c) {f : FuncId} {first cap args : Array Value} (hargs : first ++ cap = args)
    (hcf : ∀ w : World, (callFunc f args).run Try.prog w = .ok (.enter f args) w)
    {w : World} {F : Nat → Prop} {g : Nat} {l : List Int} {at_ e : Int} (R : Except Int Int) (hX : ∀ x, R = .error x → (x != 0) = true) (hI : IsRd w F g l at_ e) (hF : ∀ k, F k → k < w.heap.size)
    (hread : e = 0 → ∀ w1, Below w.heap.size w w1 → Calls Try.prog f args w1 (RdPost Res w1.heap.size F g l 0 w1 R)) :
    Calls Try.prog 37 #[.pointer (some ⟨g, 0, none⟩), .func (.func f) first cap] w (TrPost Res w.heap.size F g l at_ e (.slice none 0 0) w R) := by
  have HI := Aside0.mk hI
  have HX := Aside0.mk hX
  have HF := Aside0.mk hF
  have HR := Aside0.mk hread
  have HS := Aside0.mk hS
  have Hsh := Aside0.mk hsh
  obtain ⟨A, c, i1, i2, i3, i4, i5⟩ := hI
  have I2 := Aside0.mk i2
  have c1 := blk_cell i2 1
  have c2 := blk_cell i2 2
  have hglt := heap_lt i2
  have hsz0 : w.heap.size ≠ g := by omega
  have hsz1 : w.heap.size + 1 ≠ g := by omega
  have hsz2 : w.heap.size + 1 + 1 ≠ g := by omega
  have hsz3 : w.heap.size + 1 + 1 + 1 ≠ g := by omega
  clear hX hF hread hS hsh i1 i2 i3 i4 i5
  have hmf : ∀ (fn : Fn) (first cap : Array Value) (w : World), (Instr.makeFunc fn first cap).run Try.prog w = .ok (.func fn first cap) w := fun _ _ _ _ => rfl
  by_cases he : e = 0
  · subst he
    obtain ⟨W, hW, b0, b1, b2, b3, hWs, hWb⟩ := four_new w (.cells #[.pointer (some ⟨g, 0, none⟩)] 38) (.cells #[.slice none 0 0] 23) (.cells #[.int .i64 at_] 3) (.cells #[.slice none 0 0] 23)
    have HW := Aside0.mk hW
    have B0 := Aside0.mk b0
    have B1 := Aside0.mk b1
    have B2 := Aside0.mk b2
    have B3 := Aside0.mk b3
    have HWs := Aside0.mk hWs
    have HWb := Aside0.mk hWb
    clear hW b0 b1 b2 b3 hWs hWb
    go_enter_defers Try.func37, Try.ntmps37
    go_wp2_with fail
    rw [HW.out]
    refine (HR.out trivial W HWb.out).mono ?_
    have hIW : IsRd W F g l at_ 0 := HI.out.mu (Mu.of_below HWb.out (fun _ => False)) (fun _ _ h => h)
    cases R with
    | ok p =>
      rintro en w2 ⟨⟨v, rfl, hres⟩, hI2, h0, h1, hm⟩
      obtain ⟨sa, sn, sc, rfl⟩ := Hsh.out _ _ _ hres
      have b1 := hm.heap B1.out hsz1
      have b0 := hm.heap B0.out hsz0
      have c3 := blk_cell b1 0
      have f3 := blk_frozen b1 0
      have HM := Aside0.mk hm
      have HI2 := Aside0.mk hI2
      have HRes := Aside0.mk hres
      have B1' := Aside0.mk b1
      have B0' := Aside0.mk b0
      clear hm hI2 hres b1 b0
      go_wp2
      obtain ⟨v2, hb2⟩ := HI2.out.blk
      refine leaves_cons (f := 45) (args := #[.pointer (some ⟨w.heap.size, 0, none⟩), .pointer (some ⟨w.heap.size + 1 + 1, 0, none⟩), .pointer (some ⟨w.heap.size + 1 + 1 + 1, 0, none⟩), .pointer (some ⟨w.heap.size + 1, 0, none⟩)]) (by simp) (by simp [go_sem]) ?_
      refine (dB_idle (g := g) (v := v2) (a := .int .i64 p) ?_ ?_).mono ?_
      · exact (Below.heap_setCell _ _ _ _ (by exact fun e => hsz1 e.symm)).trans hb2
      · exact (Below.heap_setCell _ _ _ _ (by show w.heap.size ≠ w.heap.size + 1; omega)).trans B0'.out
      rintro en u w3 ⟨rfl, rfl, rfl⟩
      have hx := set_0 (x := .slice sa sn sc) B1'.out
      have cx := blk_cell hx 0
      have hm3 : ∀ S : Nat → Prop, S (w.heap.size + 1) → Mu S w2 ((w2.setCell ⟨w.heap.size + 1, 0, none⟩ (.slice sa sn sc)).drew) := fun S hS => ((Mu.refl S w2).setCell (p := ⟨w.heap.size + 1, 0, none⟩) (fun _ => hS) _).drew
      refine ⟨.slice sa sn sc, ?_, ?_, .inr (.inl ⟨rfl, p, rfl, ⟨_, rfl, ?_⟩, ?_, h0, h1⟩)⟩
      · simp [results, Try.results37, go_sem, cx]
      · exact (((Mu.of_below HWb.out (· = g)).trans HM.out).setCell (p := ⟨w.heap.size + 1, 0, none⟩) (fun h => absurd h (by show ¬ w.heap.size + 1 < w.heap.size; omega)) _).drew
      · exact HS.out.lower (HS.out.mu HRes.out (hm3 _ (by rw [HWs.out]; omega))) (by rw [HWs.out]; omega)
      · exact HI2.out.mu (hm3 (· = w.heap.size + 1) rfl) (fun k hk e => by have := HF.out k hk; omega)
    | error x =>
      rintro en w2 ⟨rfl, ⟨at', hI2⟩, hm⟩
      obtain ⟨v2, hb2⟩ := hI2.blk
      have hX := HX.out x rfl
      have hd := dB_stop (older := []) hX hsz0 hsz2 hsz3 hsz1 hb2 (hm.heap B0.out hsz0) (hm.heap B2.out hsz2) (hm.heap B3.out hsz3) (hm.heap B1.out hsz1)
      refine leaves_cons (f := 45) (args := #[.pointer (some ⟨w.heap.size, 0, none⟩), .pointer (some ⟨w.heap.size + 1 + 1, 0, none⟩), .pointer (some ⟨w.heap.size + 1 + 1 + 1, 0, none⟩), .pointer (some ⟨w.heap.size + 1, 0, none⟩)]) (by simp) (by simp [go_sem]) ?_
      refine hd.mono ?_
      rintro en u w3 ⟨rfl, rfl, g1, x1, m1⟩
      have cx := blk_cell x1 0
      refine ⟨.slice none 0 0, ?_, ?_, .inr (.inr ⟨rfl, x, rfl, rfl, ?_⟩)⟩
      · simp [results, Try.results37, go_sem, cx]
      · refine ((Mu.of_below HWb.out (· = g)).trans hm).trans' m1 ?_
        rintro k hk (h | h)
        · exact h
        · omega
      · obtain ⟨A', c', j1, j2, j3, j4, j5⟩ := hI2
        rw [hb2] at j2
        obtain rfl : v2 = .slice A' l.length c' := by
          injection j2 with j2
          injection j2 with j2
          simpa using j2
        exact ⟨A', c', j1, g1, j3, C_mu m1 j4 (fun ad ea hn => by
          rintro (h | h)
          · exact (j5 ad ea hn).2 h
          · have := HF.out _ (j5 ad ea hn).1; omega), j5⟩
  · have he' : (e != 0) = true := by rw [bne_iff_ne]; exact he
    have He := Aside0.mk he
    clear he
    go_enter_defers Try.func37, Try.ntmps37
    go_wp2_with fail
    refine ⟨.slice none 0 0, ?_, ?_⟩
    · simp [results, Try.results37, go_sem]
    · have hb : Below w.heap.size w ((w.alloc (Obj.cells #[Value.pointer (some ⟨g, 0, none⟩)] 38)).alloc (Obj.cells #[Value.slice none 0 0] 23)) := below_alloc (below_alloc (Below.refl _ _) _) _
      exact ⟨Mu.of_below hb _, .inl ⟨He.out, rfl, HI.out.mu (Mu.of_below hb (fun _ => False)) (fun _ _ h => h)⟩⟩
set_option maxHeartbeats 2000000 in
theorem triesdS {Res : Nat → World → Value → Prop} (hS : Stays Res) (hsh : ∀ b w v, Res b w v → ∃ s, v = .string s) {f : FuncId} {first cap args : Array Value} (hargs : first ++ cap = args)
    (hcf : ∀ w : World, (callFunc f args).run Try.prog w = .ok (.enter f args) w)
    {w : World} {F : Nat → Prop} {g : Nat} {l : List Int} {at_ e : Int} (R : Except Int Int) (hX : ∀ x, R = .error x → (x != 0) = true) (hI : IsRd w F g l at_ e) (hF : ∀ k, F k → k < w.heap.size)
    (hread : e = 0 → ∀ w1, Below w.heap.size w w1 → Calls Try.prog f args w1 (RdPost Res w1.heap.size F g l 0 w1 R)) :
    Calls Try.prog 40 #[.pointer (some ⟨g, 0, none⟩), .func (.func f) first cap] w (TrPost Res w.heap.size F g l at_ e (.string ⟨#[]⟩) w R) := by
  have HI := Aside0.mk hI
  have HX := Aside0.mk hX
  have HF := Aside0.mk hF
  have HR := Aside0.mk hread
  have HS := Aside0.mk hS
  have Hsh := Aside0.mk hsh
  obtain ⟨A, c, i1, i2, i3, i4, i5⟩ := hI
  have I2 := Aside0.mk i2
  have c1 := blk_cell i2 1
  have c2 := blk_cell i2 2
  have hglt := heap_lt i2
  have hsz0 : w.heap.size ≠ g := by omega
  have hsz1 : w.heap.size + 1 ≠ g := by omega
  have hsz2 : w.heap.size + 1 + 1 ≠ g := by omega
  have hsz3 : w.heap.size + 1 + 1 + 1 ≠ g := by omega
  clear hX hF hread hS hsh i1 i2 i3 i4 i5
  have hmf : ∀ (fn : Fn) (first cap : Array Value) (w : World), (Instr.makeFunc fn first cap).run Try.prog w = .ok (.func fn first cap) w := fun _ _ _ _ => rfl
  by_cases he : e = 0
  · subst he
    obtain ⟨W, hW, b0, b1, b2, b3, hWs, hWb⟩ := four_new w (.cells #[.pointer (some ⟨g, 0, none⟩)] 38) (.cells #[.string ⟨#[]⟩] 9) (.cells #[.int .i64 at_] 3) (.cells #[.string ⟨#[]⟩] 9)
    have HW := Aside0.mk hW
    have B0 := Aside0.mk b0
    have B1 := Aside0.mk b1
    have B2 := Aside0.mk b2
    have B3 := Aside0.mk b3
    have HWs := Aside0.mk hWs
    have HWb := Aside0.mk hWb
    clear hW b0 b1 b2 b3 hWs hWb
    go_enter_defers Try.func40, Try.ntmps40
    go_wp2_with fail
    rw [HW.out]
    refine (HR.out trivial W HWb.out).mono ?_
    have hIW : IsRd W F g l at_ 0 := HI.out.mu (Mu.of_below HWb.out (fun _ => False)) (fun _ _ h => h)
    cases R with
    | ok p =>
      rintro en w2 ⟨⟨v, rfl, hres⟩, hI2, h0, h1, hm⟩
      obtain ⟨sv, rfl⟩ := Hsh.out _ _ _ hres
      have b1 := hm.heap B1.out hsz1
      have b0 := hm.heap B0.out hsz0
      have c3 := blk_cell b1 0
      have f3 := blk_frozen b1 0
      have HM := Aside0.mk hm
      have HI2 := Aside0.mk hI2
      have HRes := Aside0.mk hres
      have B1' := Aside0.mk b1
      have B0' := Aside0.mk b0
      clear hm hI2 hres b1 b0
      go_wp2
      obtain ⟨v2, hb2⟩ := HI2.out.blk
      refine leaves_cons (f := 46) (args := #[.pointer (some ⟨w.heap.size, 0, none⟩), .pointer (some ⟨w.heap.size + 1 + 1, 0, none⟩), .pointer (some ⟨w.heap.size + 1 + 1 + 1, 0, none⟩), .pointer (some ⟨w.heap.size + 1, 0, none⟩)]) (by simp) (by simp [go_sem]) ?_
      refine (dS_idle (g := g) (v := v2) (a := .int .i64 p) ?_ ?_).mono ?_
      · exact (Below.heap_setCell _ _ _ _ (by exact fun e => hsz1 e.symm)).trans hb2
      · exact (Below.heap_setCell _ _ _ _ (by show w.heap.size ≠ w.heap.size + 1; omega)).trans B0'.out
      rintro en u w3 ⟨rfl, rfl, rfl⟩
      have hx := set_0 (x := .string sv) B1'.out
      have cx := blk_cell hx 0
      have hm3 : ∀ S : Nat → Prop, S (w.heap.size + 1) → Mu S w2 ((w2.setCell ⟨w.heap.size + 1, 0, none⟩ (.string sv)).drew) := fun S hS => ((Mu.refl S w2).setCell (p := ⟨w.heap.size + 1, 0, none⟩) (fun _ => hS) _).drew
      refine ⟨.string sv, ?_, ?_, .inr (.inl ⟨rfl, p, rfl, ⟨_, rfl, ?_⟩, ?_, h0, h1⟩)⟩
      · simp [results, Try.results40, go_sem, cx]
      · exact (((Mu.of_below HWb.out (· = g)).trans HM.out).setCell (p := ⟨w.heap.size + 1, 0, none⟩) (fun h => absurd h (by show ¬ w.heap.size + 1 < w.heap.size; omega)) _).drew
      · exact HS.out.lower (HS.out.mu HRes.out (hm3 _ (by rw [HWs.out]; omega))) (by rw [HWs.out]; omega)
      · exact HI2.out.mu (hm3 (· = w.heap.size + 1) rfl) (fun k hk e => by have := HF.out k hk; omega)
    | error x =>
      rintro en w2 ⟨rfl, ⟨at', hI2⟩, hm⟩
      obtain ⟨v2, hb2⟩ := hI2.blk
      have hX := HX.out x rfl
      have hd := dS_stop (older := []) hX hsz0 hsz2 hsz3 hsz1 hb2 (hm.heap B0.out hsz0) (hm.heap B2.out hsz2) (hm.heap B3.out hsz3) (hm.heap B1.out hsz1)
      refine leaves_cons (f := 46) (args := #[.pointer (some ⟨w.heap.size, 0, none⟩), .pointer (some ⟨w.heap.size + 1 + 1, 0, none⟩), .pointer (some ⟨w.heap.size + 1 + 1 + 1, 0, none⟩), .pointer (some ⟨w.heap.size + 1, 0, none⟩)]) (by simp) (by simp [go_sem]) ?_
      refine hd.mono ?_
      rintro en u w3 ⟨rfl, rfl, g1, x1, m1⟩
      have cx := blk_cell x1 0
      refine ⟨.string ⟨#[]⟩, ?_, ?_, .inr (.inr ⟨rfl, x, rfl, rfl, ?_⟩)⟩
      · simp [results, Try.results40, go_sem, cx]
      · refine ((Mu.of_below HWb.out (· = g)).trans hm).trans' m1 ?_
        rintro k hk (h | h)
        · exact h
        · omega
      · obtain ⟨A', c', j1, j2, j3, j4, j5⟩ := hI2
        rw [hb2] at j2
        obtain rfl : v2 = .slice A' l.length c' := by
          injection j2 with j2
          injection j2 with j2
          simpa using j2
        exact ⟨A', c', j1, g1, j3, C_mu m1 j4 (fun ad ea hn => by
          rintro (h | h)
          · exact (j5 ad ea hn).2 h
          · have := HF.out _ (j5 ad ea hn).1; omega), j5⟩
  · have he' : (e != 0) = true := by rw [bne_iff_ne]; exact he
    have He := Aside0.mk he
    clear he
    go_enter_defers Try.func40, Try.ntmps40
    go_wp2_with fail
    refine ⟨.string ⟨#[]⟩, ?_, ?_⟩
    · simp [results, Try.results40, go_sem]
    · have hb : Below w.heap.size w ((w.alloc (Obj.cells #[Value.pointer (some ⟨g, 0, none⟩)] 38)).alloc (Obj.cells #[Value.string ⟨#[]⟩] 9)) := below_alloc (below_alloc (Below.refl _ _) _) _
      exact ⟨Mu.of_below hb _, .inl ⟨He.out, rfl, HI.out.mu (Mu.of_below hb (fun _ => False)) (fun _ _ h => h)⟩⟩
end Go.Proofs.Ytabljieejnhefaa.Hand
