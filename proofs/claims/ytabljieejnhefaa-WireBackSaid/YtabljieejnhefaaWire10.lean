/-
  What the chapter's examples fix: first answers true.
-/
import Derived.Test.YtabljieejnhefaaWire6
import Derived.Test.YtabljieejnhefaaPAx1
import Derived.Test.YtabljieejnhefaaPAx2
import Derived.Lib.SlBytesConst
namespace Go.Proofs.Ytabljieejnhefaa.Hand
open Go.RowKit Go.Proofs.YtabljieejnhefaaW.PrintWords Go.Proofs.YtabljieejnhefaaW.PrintLast Go.Proofs.Ytabljieejnhefaa.PA

theorem C_block {k : IntKind} {W : World} {b t : Nat} {fr : Nat × Nat} {cs : Array Value} {xs : List Int} (h : W.heap[b]? = some (.cells cs t fr)) (hc : cs.toList = xs.map (Value.int k)) (hl : xs.length ≤ 9223372036854775807) :
    Kd.C (Kd.int k) W (some ⟨b, 0, none⟩) xs.length xs := by
  refine ⟨rfl, hl, fun _ => ⟨_, rfl, fun j p hj => ⟨[.int k p], rfl, rfl, fun i u hu => ?_⟩⟩⟩
  have hi : i = 0 := by
    cases i with
    | zero => rfl
    | succ i => simp at hu
  subst hi
  simp at hu
  subst hu
  have e : ((⟨b, 0, none⟩ : Addr).add (j * (Kd.int k).sz + 0)) = ⟨b, j, none⟩ := by
    show (⟨b, 0, none⟩ : Addr).add (j * 1 + 0) = _
    unfold Addr.add
    split
    · next h => have : j = 0 := by omega
                rw [this]
    · simp
  rw [e]
  simp only [World.cell?, h]
  have h2 : cs[j]? = some (.int k p) := by
    rw [← Array.getElem?_toList, hc, List.getElem?_map, hj]; rfl
  simpa using h2
theorem C_new {k : IntKind} {w : World} {t : Nat} {cs : Array Value} {xs : List Int} (hc : cs.toList = xs.map (Value.int k)) (hl : xs.length ≤ 9223372036854775807) :
    Kd.C (Kd.int k) (w.alloc (.cells cs t)) (some ⟨w.heap.size, 0, none⟩) xs.length xs := C_block (alloc_new _ _) hc hl
def tiklaw2_first.f : Option Bool := some true
set_option maxHeartbeats 2000000 in
theorem tiklaw2_first.calls (r : Bool) (w : World) (h : tiklaw2_first.f = some r) :
    Calls Try.prog 9 #[] w fun e w' => e = .returned (.bool r) ∧ Below w.heap.size w w' := by
  obtain rfl : true = r := Option.some.inj h
  clear h
  have kc := fun (w : World) (C : Array Value) (n c : Nat) => Lib.run_convert_bytes_const (P := Try.prog) w 23 5 C n c Try.underlying23 Try.underlying5
  go_enter Try.func9, Try.ntmps9
  go_wp2_with fail
  refine (wire_Get.calls (some ⟨w.heap.size, 0, none⟩) 2 [172, 2] 0 300 2 0 _ (C_new rfl (by decide)) (by decide) (by decide +kernel)).mono ?_
  rintro en w1 ⟨rfl, hb1⟩
  have HB1 := Aside0.mk (below_step (below_alloc (Below.refl w.heap.size w) _) hb1)
  clear hb1
  go_wp2_with fail
  refine (wire_Var.calls 5 300 [172, 2] _ (by decide +kernel)).mono ?_
  rintro en w2 ⟨v2, rfl, hr2, hb2⟩
  obtain ⟨A2, c2, rfl, hc2, hC2⟩ := Kd.R_reads hr2
  have HC2 := Aside0.mk hC2
  have HB2 := Aside0.mk (below_step HB1.out hb2)
  clear hr2 hb2 hC2 HB1
  go_wp2_with fail
  refine (tikref_Bytes.calls A2 c2 [172, 2] (some ⟨w2.heap.size, 0, none⟩) 2 [172, 2] true _ (Kd.C_alloc HC2.out _) hc2 (C_new rfl (by decide)) (by decide) (by decide +kernel)).mono ?_
  rintro en w3 ⟨rfl, hd3⟩
  have HB3 := Aside0.mk (below_step (below_alloc HB2.out _) hd3.below)
  clear hd3 HB2 HC2 hc2
  go_wp2_with fail
  refine (wire_Crc.calls 200 (some ⟨w3.heap.size, 0, none⟩) 9 [49, 50, 51, 52, 53, 54, 55, 56, 57] 3421780262 _ (C_block (alloc_new _ _) rfl (by decide)) (by decide) (by decide +kernel)).mono ?_
  rintro en w4 ⟨rfl, hd4⟩
  have HB4 := Aside0.mk (below_step (below_alloc HB3.out _) hd4.below)
  clear hd4 HB3
  go_wp2_with fail
  refine (wire_Four.calls 258 [0, 0, 1, 2] _ (by decide +kernel)).mono ?_
  rintro en w5 ⟨v5, rfl, hr5, hb5⟩
  obtain ⟨A5, c5, rfl, hc5, hC5⟩ := Kd.R_reads hr5
  have HC5 := Aside0.mk hC5
  have HB5 := Aside0.mk (below_step HB4.out hb5)
  clear hr5 hb5 hC5 HB4
  go_wp2_with fail
  refine (tikref_Bytes.calls A5 c5 [0, 0, 1, 2] (some ⟨w5.heap.size, 0, none⟩) 4 [0, 0, 1, 2] true _ (Kd.C_alloc HC5.out _) hc5 (C_new rfl (by decide)) (by decide) (by decide +kernel)).mono ?_
  rintro en w6 ⟨rfl, hd6⟩
  have HB6 := Aside0.mk (below_step (below_alloc HB5.out _) hd6.below)
  clear hd6 HB5 HC5 hc5
  go_wp2_with fail
  go_ret
  exact ⟨rfl, HB6.out⟩
end Go.Proofs.Ytabljieejnhefaa.Hand
