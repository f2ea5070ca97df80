/- Texts of this claim, put together. -/
import Derived.Test.YtcfndcjbgalnpaaDoorMGYc
import Derived.Test.YtcfndcjbgalnpaaDoorMGYa
import Derived.Test.YtcfndcjbgalnpaaDoorMGYb
import Derived.Test.YtcfndcjbgalnpaaDoorRows
import Derived.Test.YtcfndcjbgalnpaaDoorTie
import Derived.Test.YtcfndcjbgalnpaaDoorCards
import Derived.WalkKit
import Derived.ProofKit
import Derived.OpenShut
import Derived.ShutString
import Derived.ChangeOld
import Derived.Below
import Derived.SizedLaws
import Derived.LaidMore
import Derived.Stop.Joined
import Derived.SevenTiedAt
set_option linter.unusedVariables false
set_option linter.unusedSimpArgs false
namespace Go.Proofs.YtcfndcjbgalnpaaDoor.Hand
open Go.RowKit Go.Proofs.YtcfndcjbgalnpaaDoorW.PrintWords Go.Proofs.YtcfndcjbgalnpaaDoorW.PrintLast
section
variable {ops : Array Oper} {oi : Oper} {a : Act} {K : Act → World → Prop} {Q : Exit → Act → World → Prop} {W : World}
theorem skip_store_field {g T : Nat} {cs : Array Value} (hw : Region.wanted oi (yielded ops a.tmps) = true) (hN : oi.dst = none) {t : TypeId} {p x : Operand} (ho : oi.op = .store t p x) (hB : W.heap[g]? = some (.cells cs T (0, 0))) (j : Nat) (v : Value) {cs' : Array Value} (hv : v.oneCell' = true) (hc : v.cells.toList = [v]) (he : (cs.toList.take j ++ [v]) ++ cs.toList.drop (j + 1) = cs'.toList) (ht : (Tryd.prog.info? t).map (·.size) = some 1)
    (hp : a.eval p = .pointer (some ⟨g, j, none⟩)) (hx : a.eval x = v) (h : ∀ w', w'.heap[g]? = some (.cells cs' T (0, 0)) → W.grownBy w' (some g) → K a w') (hj : j < cs.size := by simp) :
    if Region.wanted oi (yielded ops a.tmps) = true then Oper.wp Tryd.prog oi a W K Q else K (a.put none undef) W := by
  have hrun := run_store_run (P := Tryd.prog) t v [v] (o := j) hB hc ht (by show j + 1 ≤ cs.size; omega) (by intro q hq; rw [List.mem_singleton.1 hq]; exact hv)
  obtain ⟨cur', h2, h3, h4⟩ := setCells_row [v] j W cs hB (by show j + 1 ≤ cs.size; omega)
  have e : cur' = cs' := Array.toList_inj.1 (h4.trans he)
  rw [e] at h2
  refine skip_ hw hN ?_ (h _ h2 (grown_setCells _ _ _ _))
  unfold execOp
  simp only [ho, hp, hx, Sem.run_bind, Sem.run_pure, Result.andThen_ok, hrun]
end
def cpN (c c2 : Nat) (L M : List C5) : Nat → List C5
  | 0 => M
  | k + 1 => splice (cpN c c2 L M k) (k * c2) ((L.drop (k * c)).take (min c c2))
theorem cpN_length {r c r2 c2 : Nat} {L M : List C5} (hl : L.length = r * c) (hM : M.length = r2 * c2) : ∀ k, k ≤ min r r2 → (cpN c c2 L M k).length = r2 * c2
  | 0, _ => hM
  | k + 1, h => by
    have e1 := place_le (c := c) (show k < r by omega)
    have e2 := place_le (c := c2) (show k < r2 by omega)
    have e3 : ((L.drop (k * c)).take (min c c2)).length = min c c2 := part_length L (k * c) (min c c2) (by omega)
    have e4 := cpN_length hl hM k (by omega)
    unfold cpN
    rw [splice_length _ _ _ (by omega), e4]
def mdN (c2 : Nat) (M : List C5) : Nat → List C5
  | 0 => M
  | k + 1 => mendRow c2 (mdN c2 M k) k
theorem mdN_length {r2 c2 : Nat} {M : List C5} (hM : M.length = r2 * c2) : ∀ k, k ≤ r2 → (mdN c2 M k).length = r2 * c2
  | 0, _ => hM
  | k + 1, h => by
    unfold mdN
    rw [mendRow_length (mdN_length hM k (by omega)) (by omega), mdN_length hM k (by omega)]
def rresG (r c r2 c2 : Nat) (L : List C5) : List C5 := mdN c2 (cpN c c2 L (List.replicate (r2 * c2) (blankC 0)) (min r r2)) r2
theorem rresize_no {w : World} {g : Nat} (rows cols : Int) (hno : ¬ (1 ≤ rows ∧ rows ≤ 60 ∧ 1 ≤ cols ∧ cols ≤ 200)) :
    Calls Tryd.prog 48 #[.pointer (some ⟨g, 0, none⟩), .int .i64 rows, .int .i64 cols] w (fun e w' => e = .returned (.int .i64 1) ∧ Below w.heap.size w w') := by
  have HN := Aside0.mk hno
  clear hno
  go_enter Tryd.func48, Tryd.ntmps48
  go_wp2_with fail
  refine (rnew_no rows cols HN.out).mono ?_
  rintro e w1 ⟨rfl, hb⟩
  have HB := Aside0.mk hb
  clear hb
  go_wp2
  go_ret
  exact ⟨rfl, HB.out⟩
set_option maxRecDepth 100000 in
set_option maxHeartbeats 8000000 in
theorem rresize_yes {w : World} {base g b r c : Nat} {L : List C5} (h : RefAt w base g b r c L) (r2 c2 : Nat) (h1 : 1 ≤ r2) (h2 : r2 ≤ 60) (h3 : 1 ≤ c2) (h4 : c2 ≤ 200) :
    Calls Tryd.prog 48 #[.pointer (some ⟨g, 0, none⟩), .int .i64 r2, .int .i64 c2] w (fun e w' => e = .returned (.int .i64 0) ∧ ∃ b', RefAt w' base g b' r2 c2 (rresG r c r2 c2 L) ∧ w.heap.size ≤ b' ∧ w.grownBy w' (some g)) := by
  have HG := Aside0.mk h
  have H1 := Aside0.mk h1
  have H2 := Aside0.mk h2
  have H3 := Aside0.mk h3
  have H4 := Aside0.mk h4
  have EO : Aside0 (rresG r c r2 c2 L = mdN c2 (cpN c c2 L (List.replicate (r2 * c2) (blankC 0)) (min r r2)) r2) := ⟨rfl⟩
  clear h
  go_enter Tryd.func48, Tryd.ntmps48
  go_wp2_with fail
  refine (rnew_yes r2 c2 h1 h2 h3 h4).mono ?_
  rintro e ws ⟨gx, bx, rfl, hGx, hbs⟩
  obtain ⟨cap, k1, k2, hk⟩ := HG.out.kbase hbs
  obtain ⟨capx, k3, k4, hkx⟩ := hGx.kbase (Below.refl _ _)
  obtain ⟨n2, hn2⟩ : ∃ n2, r2 * c2 = n2 := ⟨_, rfl⟩
  rw [List.length_replicate, hn2] at hkx k3
  have hbx : b ≠ bx := by have := HG.out.row.lt; have := hGx.bb; omega
  have hgx : gx ≠ g := by have := hGx.bg; have := blk_lt hk.blk; obtain ⟨_, q, _⟩ := HG.out.blk; have := blk_lt q; omega
  have hgb : g ≠ bx := by have := hGx.bb; obtain ⟨_, q, _⟩ := HG.out.blk; have := blk_lt q; omega
  have HBX := Aside0.mk hbx
  have HGX := Aside0.mk hgx
  have HKs := Aside0.mk (hkx.more (k := g) hk.blk hgb)
  have HLs := Aside0.mk (HG.out.row.below hbs)
  have HRs := Aside0.mk hGx.row
  have HBS := Aside0.mk hbs
  have HBB := Aside0.mk hGx.bb
  have HN2 := Aside0.mk hn2
  have HGB := Aside0.mk hgb
  have hsm2 : n2 ≤ 12000 := by rw [← hn2]; exact Nat.mul_le_mul h2 h4
  have hsm := HG.out.small
  have hr60 := HG.out.r2
  have hc200 := HG.out.c2
  rw [hn2] at EO
  clear hk hkx hGx hbs hbx hgx hgb hn2
  obtain ⟨M0, hM0⟩ : ∃ M0, List.replicate (r2 * c2) (blankC 0) = M0 := ⟨_, rfl⟩
  have HM0 : Aside0 (M0.length = r2 * c2) := ⟨by rw [← hM0, List.length_replicate]⟩
  rw [HN2.out] at hM0
  rw [hM0] at EO
  rw [HN2.out, hM0] at HRs
  clear hM0
  obtain ⟨mr, hmr⟩ : ∃ mr, min r r2 = mr := ⟨_, rfl⟩
  obtain ⟨mc, hmc⟩ : ∃ mc, min c c2 = mc := ⟨_, rfl⟩
  rw [hmr] at EO
  have HMR : Aside0 ((if (r : Int) < (r2 : Int) then (r : Int) else (r2 : Int)) = (mr : Int) ∧ (if r < r2 then (r : Int) else (r2 : Int)) = (mr : Int)) := ⟨by constructor <;> split <;> omega⟩
  have HMC : Aside0 ((if (c : Int) < (c2 : Int) then (c : Int) else (c2 : Int)) = (mc : Int) ∧ (if c < c2 then (c : Int) else (c2 : Int)) = (mc : Int)) := ⟨by constructor <;> split <;> omega⟩
  have HMRE := Aside0.mk hmr
  have HMCE := Aside0.mk hmc
  have hmr1 : mr ≤ r := by omega
  have hmr2 : mr ≤ r2 := by omega
  have hmc1 : mc ≤ c := by omega
  have hmc2 : mc ≤ c2 := by omega
  clear hmr hmc
  go_wp2
  go_loopw [9, 10] (fun v9 _ wr => ∃ k : Nat, k ≤ mr ∧ v9 = .int .i64 k ∧ Aside0 (RowAt wr bx (cpN c c2 L M0 k)) ∧ Aside0 (RowAt wr b L) ∧ Aside0 (KBase ws gx bx r2 c2 n2 capx [(g, .cells #[.int .i64 r, .int .i64 c, .slice (some ⟨b, 0, none⟩) L.length cap] 59 (0, 0))] wr)) (fun v9 _ _ => mr - (intOf v9).toNat)
  case atStart => exact ⟨0, Nat.zero_le _, rfl, HRs, HLs, HKs⟩
  case round =>
    obtain ⟨k, hk, rfl, HR8, HL8, HK8⟩ := hrel
    clear HRs HLs HKs
    have zr : wr.cell? ⟨g, 0, none⟩ = some (.int .i64 (r : Int)) := (blk_cell HK8.out.top 0).trans rfl
    have hm1 := HMR.out.1
    have hm2 := HMR.out.2
    by_cases hlt : k < mr
    · have HLT := Aside0.mk hlt
      go_wp2
      clear zr hm1 hm2
      go_loopw [10] (fun v10 wr => ∃ cc : Nat, cc ≤ mc ∧ v10 = .int .i64 cc ∧ Aside0 (RowAt wr bx (splice (cpN c c2 L M0 k) (k * c2) ((L.drop (k * c)).take cc))) ∧ Aside0 (RowAt wr b L) ∧ Aside0 (KBase ws gx bx r2 c2 n2 capx [(g, .cells #[.int .i64 r, .int .i64 c, .slice (some ⟨b, 0, none⟩) L.length cap] 59 (0, 0))] wr)) (fun v10 _ => mc - (intOf v10).toNat)
      case atStart => exact ⟨0, Nat.zero_le _, rfl, ⟨by rw [List.take_zero, splice_none]; exact HR8.out⟩, HL8, HK8⟩
      case round =>
        obtain ⟨cc, hcc, rfl, HR9, HL9, HK9⟩ := hrel
        clear HR8 HL8 HK8
        have zc : wr.cell? ⟨g, 1, none⟩ = some (.int .i64 (c : Int)) := (blk_cell HK9.out.top 1).trans rfl
        have hm1 := HMC.out.1
        have hm2 := HMC.out.2
        by_cases hltc : cc < mc
        · have HLC := Aside0.mk hltc
          have hkr : k < r := by omega
          have hkr2 : k < r2 := by omega
          have hp1 := place_le (c := c) hkr
          have hp2 := place_le (c := c2) hkr2
          rw [← HG.out.len] at hp1
          rw [HN2.out] at hp2
          obtain ⟨o, ho⟩ : ∃ o, k * c = o := ⟨_, rfl⟩
          obtain ⟨o2, ho2⟩ : ∃ o2, k * c2 = o2 := ⟨_, rfl⟩
          rw [ho] at hp1 HR9
          rw [ho2] at hp2 HR9
          obtain ⟨q, hq⟩ : ∃ q, o + cc = q := ⟨_, rfl⟩
          obtain ⟨p, hp⟩ : ∃ p, o2 + cc = p := ⟨_, rfl⟩
          have hqL0 : q < L.length := by omega
          have hpn0 : p < n2 := by omega
          have hcl : (cpN c c2 L M0 k).length = n2 := by rw [← HN2.out]; exact cpN_length HG.out.len HM0.out k (by have := HMRE.out; omega)
          have htl : ((L.drop o).take cc).length = cc := part_length L o cc (by omega)
          have hfit : o2 + ((L.drop o).take cc).length < (cpN c c2 L M0 k).length := by rw [htl, hcl]; omega
          have HFIT := Aside0.mk hfit
          have HTL := Aside0.mk htl
          have HLP : Aside0 (p < (splice (cpN c c2 L M0 k) o2 ((L.drop o).take cc)).length) := ⟨by rw [splice_length _ _ _ (by omega), hcl]; exact hpn0⟩
          obtain ⟨z, hz⟩ : ∃ z, L[q]? = some z := ⟨L[q], List.getElem?_eq_getElem hqL0⟩
          have HZ := Aside0.mk hz
          have hnx : (L.drop o).take (cc + 1) = (L.drop o).take cc ++ [z] := by
            rw [List.take_add_one, List.getElem?_drop, hq, hz]
            rfl
          have HNX := Aside0.mk hnx
          have HO := Aside0.mk (wrap_mul ho (by omega))
          have HO2 := Aside0.mk (wrap_mul ho2 (by omega))
          have HQ1 := Aside0.mk (show (o : Int) + (cc : Int) = (q : Int) by omega)
          have HQ2 : Aside0 (wrap64 (q : Int) = (q : Int)) := ⟨by unfold wrap64; omega⟩
          have HP1 := Aside0.mk (show (o2 : Int) + (cc : Int) = (p : Int) by omega)
          have HP2 : Aside0 (wrap64 (p : Int) = (p : Int)) := ⟨by unfold wrap64; omega⟩
          have HPE := Aside0.mk hp
          have HOE := Aside0.mk ho
          have HOE2 := Aside0.mk ho2
          clear hnx hz hfit htl hcl hq hp ho ho2 hp1 hp2
          have hq1 := HQ1.out
          have hq3 := HQ2.out
          have hq2 : IntKind.i64.wrap (q : Int) = (q : Int) := by rw [i64_w]; exact hq3
          have hp1 := HP1.out
          have hp3 := HP2.out
          have hp2 : IntKind.i64.wrap (p : Int) = (p : Int) := by rw [i64_w]; exact hp3
          have hw1 := HO.out
          have hw2 := HO2.out
          have hqL := hqL0
          have hpn := hpn0
          clear hqL0 hpn0
          go_wp2
          clear hm1 hm2 zc
          have HKd := Aside0.mk (HK9.out.next (below_drew (Below.refl _ _)))
          have HRd := Aside0.mk (HR9.out.below (below_drew (Below.refl _ _)))
          have HLd := Aside0.mk (HL9.out.below (below_drew (Below.refl _ _)))
          refine start_ (n := 25) (S := fun w' => w'.cell? ⟨gx, 2, none⟩ = some (.slice (some ⟨bx, 0, none⟩) n2 capx) ∧ w'.cell? ⟨g, 1, none⟩ = some (.int .i64 (c : Int)) ∧ w'.cell? ⟨g, 2, none⟩ = some (.slice (some ⟨b, 0, none⟩) L.length cap) ∧ w'.cell? ⟨b, q * 5, none⟩ = some (.int .i32 z.r) ∧ w'.cell? ⟨b, q * 5 + 1, none⟩ = some (.int .i64 z.f) ∧ w'.cell? ⟨b, q * 5 + 2, none⟩ = some (.int .i64 z.g) ∧ w'.cell? ⟨b, q * 5 + 3, none⟩ = some (.int .i64 z.b) ∧ w'.cell? ⟨b, q * 5 + 4, none⟩ = some (.int .i64 z.w) ∧ KBase ws gx bx r2 c2 n2 capx [(g, .cells #[.int .i64 r, .int .i64 c, .slice (some ⟨b, 0, none⟩) L.length cap] 59 (0, 0))] w') (ds := [24]) #[false, false, false, false, false, false, false, false, false, false, false, false, false, false, false, false, false, false, false, false, false, false, false, false, false] (by kernel_rfl) rfl rfl ⟨HKd.out.c2, (blk_cell HKd.out.top 1).trans rfl, (blk_cell HKd.out.top 2).trans rfl, (by rw [Nat.mul_comm]; exact HLd.out.cell HZ.out 0 (by decide)), (by rw [Nat.mul_comm]; exact HLd.out.cell HZ.out 1 (by decide)), (by rw [Nat.mul_comm]; exact HLd.out.cell HZ.out 2 (by decide)), (by rw [Nat.mul_comm]; exact HLd.out.cell HZ.out 3 (by decide)), (by rw [Nat.mul_comm]; exact HLd.out.cell HZ.out 4 (by decide)), HKd.out⟩ (fun hHeld => ?_)
          refine pure_ (i := 0) (N := some 41) (v := ?_) (a' := ?_) #[true, false, false, false, false, false, false, false, false, false, false, false, false, false, false, false, false, false, false, false, false, false, false, false, false] rfl rfl (by kernel_rfl) (fun _ _ _ h => h) (Or.inl ⟨by rfl, ?_⟩) ?_ ?_
          rotate_left
          · intro w'
            go_simp
            with_reducible rfl
          rotate_left
          · simp only [Act.put, List.setIfInBounds_toArray, List.set_cons_zero, List.set_cons_succ, i64_w, i32_w]
            rfl
          refine pure_ (i := 1) (N := some 42) (v := ?_) (a' := ?_) #[true, true, false, false, false, false, false, false, false, false, false, false, false, false, false, false, false, false, false, false, false, false, false, false, false] rfl rfl (by kernel_rfl) (fun _ _ _ h => h) (Or.inl ⟨by rfl, ?_⟩) ?_ ?_
          rotate_left
          · intro w'
            go_simp
            with_reducible rfl
          rotate_left
          · simp only [Act.put, List.setIfInBounds_toArray, List.set_cons_zero, List.set_cons_succ, i64_w, i32_w]
            rfl
          refine pure_ (i := 2) (N := some 43) (v := ?_) (a' := ?_) #[true, true, true, false, false, false, false, false, false, false, false, false, false, false, false, false, false, false, false, false, false, false, false, false, false] rfl rfl (by kernel_rfl) (fun _ _ _ h => h) (Or.inl ⟨by rfl, ?_⟩) ?_ ?_
          rotate_left
          · intro w'
            go_simp
            with_reducible rfl
          rotate_left
          · simp only [Act.put, List.setIfInBounds_toArray, List.set_cons_zero, List.set_cons_succ, i64_w, i32_w]
            rfl
          refine pure_ (i := 4) (N := some 45) (v := ?_) (a' := ?_) #[true, true, true, false, true, false, false, false, false, false, false, false, false, false, false, false, false, false, false, false, false, false, false, false, false] rfl rfl (by kernel_rfl) (fun _ _ _ h => h) (Or.inl ⟨by rfl, ?_⟩) ?_ ?_
          rotate_left
          · intro w'
            go_simp
            with_reducible rfl
          rotate_left
          · simp only [Act.put, List.setIfInBounds_toArray, List.set_cons_zero, List.set_cons_succ, i64_w, i32_w]
            rfl
          refine pure_ (i := 5) (N := some 46) (v := ?_) (a' := ?_) #[true, true, true, false, true, true, false, false, false, false, false, false, false, false, false, false, false, false, false, false, false, false, false, false, false] rfl rfl (by kernel_rfl) (fun _ _ _ h => h) (Or.inl ⟨by rfl, ?_⟩) ?_ ?_
          rotate_left
          · intro w'
            go_simp
            with_reducible rfl
          rotate_left
          · simp only [Act.put, List.setIfInBounds_toArray, List.set_cons_zero, List.set_cons_succ, i64_w, i32_w]
            rfl
          refine pure_ (i := 6) (N := some 47) (v := ?_) (a' := ?_) #[true, true, true, false, true, true, true, false, false, false, false, false, false, false, false, false, false, false, false, false, false, false, false, false, false] rfl rfl (by kernel_rfl) (fun _ _ _ h => h) (Or.inl ⟨by rfl, ?_⟩) ?_ ?_
          rotate_left
          · intro w'
            go_simp
            with_reducible rfl
          rotate_left
          · simp only [Act.put, List.setIfInBounds_toArray, List.set_cons_zero, List.set_cons_succ, i64_w, i32_w]
            rfl
          refine pure_ (i := 7) (N := some 48) (v := ?_) (a' := ?_) #[true, true, true, false, true, true, true, true, false, false, false, false, false, false, false, false, false, false, false, false, false, false, false, false, false] rfl rfl (by kernel_rfl) (fun _ _ _ h => h) (Or.inl ⟨by rfl, ?_⟩) ?_ ?_
          rotate_left
          · intro w'
            go_simp
            with_reducible rfl
          rotate_left
          · simp only [Act.put, List.setIfInBounds_toArray, List.set_cons_zero, List.set_cons_succ, i64_w, i32_w]
            rfl
          refine pure_ (i := 8) (N := some 49) (v := ?_) (a' := ?_) #[true, true, true, false, true, true, true, true, true, false, false, false, false, false, false, false, false, false, false, false, false, false, false, false, false] rfl rfl (by kernel_rfl) (fun _ _ _ h => h) (Or.inl ⟨by rfl, ?_⟩) ?_ ?_
          rotate_left
          · intro w'
            go_simp
            with_reducible rfl
          rotate_left
          · simp only [Act.put, List.setIfInBounds_toArray, List.set_cons_zero, List.set_cons_succ, i64_w, i32_w]
            rfl
          refine pure_ (i := 9) (N := some 50) (v := ?_) (a' := ?_) #[true, true, true, false, true, true, true, true, true, true, false, false, false, false, false, false, false, false, false, false, false, false, false, false, false] rfl rfl (by kernel_rfl) (fun _ _ _ h => h) (Or.inl ⟨by rfl, ?_⟩) ?_ ?_
          rotate_left
          · intro w'
            go_simp
            with_reducible rfl
          rotate_left
          · simp only [Act.put, List.setIfInBounds_toArray, List.set_cons_zero, List.set_cons_succ, i64_w, i32_w]
            rfl
          refine pure_ (i := 10) (N := some 51) (v := ?_) (a' := ?_) #[true, true, true, false, true, true, true, true, true, true, true, false, false, false, false, false, false, false, false, false, false, false, false, false, false] rfl rfl (by kernel_rfl) (fun _ _ _ h => h) (Or.inl ⟨by rfl, ?_⟩) ?_ ?_
          rotate_left
          · intro w'
            go_simp
            with_reducible rfl
          rotate_left
          · simp only [Act.put, List.setIfInBounds_toArray, List.set_cons_zero, List.set_cons_succ, i64_w, i32_w]
            rfl
          refine pure_ (i := 11) (N := some 52) (v := ?_) (a' := ?_) #[true, true, true, false, true, true, true, true, true, true, true, true, false, false, false, false, false, false, false, false, false, false, false, false, false] rfl rfl (by kernel_rfl) (fun _ _ _ h => h) (Or.inl ⟨by rfl, ?_⟩) ?_ ?_
          rotate_left
          · intro w'
            go_simp
            with_reducible rfl
          rotate_left
          · simp only [Act.put, List.setIfInBounds_toArray, List.set_cons_zero, List.set_cons_succ, i64_w, i32_w]
            rfl
          refine pure_ (i := 13) (N := some 54) (v := ?_) (a' := ?_) #[true, true, true, false, true, true, true, true, true, true, true, true, false, true, false, false, false, false, false, false, false, false, false, false, false] rfl rfl (by kernel_rfl) (fun _ _ _ h => h) (Or.inl ⟨by rfl, ?_⟩) ?_ ?_
          rotate_left
          · intro w'
            go_simp
            with_reducible rfl
          rotate_left
          · simp only [Act.put, List.setIfInBounds_toArray, List.set_cons_zero, List.set_cons_succ, i64_w, i32_w]
            rfl
          refine pure_ (i := 14) (N := some 55) (v := ?_) (a' := ?_) #[true, true, true, false, true, true, true, true, true, true, true, true, false, true, true, false, false, false, false, false, false, false, false, false, false] rfl rfl (by kernel_rfl) (fun _ _ _ h => h) (Or.inl ⟨by rfl, ?_⟩) ?_ ?_
          rotate_left
          · intro w'
            go_simp
            with_reducible rfl
          rotate_left
          · simp only [Act.put, List.setIfInBounds_toArray, List.set_cons_zero, List.set_cons_succ, i64_w, i32_w]
            rfl
          refine pure_ (i := 15) (N := some 56) (v := ?_) (a' := ?_) #[true, true, true, false, true, true, true, true, true, true, true, true, false, true, true, true, false, false, false, false, false, false, false, false, false] rfl rfl (by kernel_rfl) (fun _ _ _ h => h) (Or.inl ⟨by rfl, ?_⟩) ?_ ?_
          rotate_left
          · intro w'
            go_simp
            with_reducible rfl
          rotate_left
          · simp only [Act.put, List.setIfInBounds_toArray, List.set_cons_zero, List.set_cons_succ, i64_w, i32_w]
            rfl
          refine pure_ (i := 16) (N := some 57) (v := ?_) (a' := ?_) #[true, true, true, false, true, true, true, true, true, true, true, true, false, true, true, true, true, false, false, false, false, false, false, false, false] rfl rfl (by kernel_rfl) (fun _ _ _ h => h) (Or.inl ⟨by rfl, ?_⟩) ?_ ?_
          rotate_left
          · intro w'
            go_simp
            with_reducible rfl
          rotate_left
          · simp only [Act.put, List.setIfInBounds_toArray, List.set_cons_zero, List.set_cons_succ, i64_w, i32_w]
            rfl
          refine pure_ (i := 19) (N := some 60) (v := ?_) (a' := ?_) #[true, true, true, false, true, true, true, true, true, true, true, true, false, true, true, true, true, false, false, true, false, false, false, false, false] rfl rfl (by kernel_rfl) (fun _ _ _ h => h) (Or.inl ⟨by rfl, ?_⟩) ?_ ?_
          rotate_left
          · intro w'
            go_simp
            with_reducible rfl
          rotate_left
          · simp only [Act.put, List.setIfInBounds_toArray, List.set_cons_zero, List.set_cons_succ, i64_w, i32_w]
            rfl
          refine take_ (i := 3) (N := some 44) (v := ?_) (a' := ?_) #[true, true, true, true, true, true, true, true, true, true, true, true, false, true, true, true, true, false, false, true, false, false, false, false, false] rfl rfl (by kernel_rfl) (fun _ _ _ h => h) (Or.inl ⟨by rfl, ?_⟩) hHeld ?_ ?_
          rotate_left
          · rintro w' ⟨s0, s1, s2, s3, s4, s5, s6, s7, s8⟩
            go_simp
            with_reducible rfl
          rotate_left
          · simp only [Act.put, List.setIfInBounds_toArray, List.set_cons_zero, List.set_cons_succ, i64_w, i32_w]
            rfl
          refine take_ (i := 12) (N := some 53) (v := ?_) (a' := ?_) #[true, true, true, true, true, true, true, true, true, true, true, true, true, true, true, true, true, false, false, true, false, false, false, false, false] rfl rfl (by kernel_rfl) (fun _ _ _ h => h) (Or.inl ⟨by rfl, ?_⟩) hHeld ?_ ?_
          rotate_left
          · rintro w' ⟨s0, s1, s2, s3, s4, s5, s6, s7, s8⟩
            go_simp
            with_reducible rfl
          rotate_left
          · simp only [Act.put, List.setIfInBounds_toArray, List.set_cons_zero, List.set_cons_succ, i64_w, i32_w]
            rfl
          refine take_ (i := 17) (N := some 58) (v := ?_) (a' := ?_) #[true, true, true, true, true, true, true, true, true, true, true, true, true, true, true, true, true, true, false, true, false, false, false, false, false] rfl rfl (by kernel_rfl) (fun _ _ _ h => h) (Or.inl ⟨by rfl, ?_⟩) hHeld ?_ ?_
          rotate_left
          · rintro w' ⟨s0, s1, s2, s3, s4, s5, s6, s7, s8⟩
            go_simp
            with_reducible rfl
          rotate_left
          · simp only [Act.put, List.setIfInBounds_toArray, List.set_cons_zero, List.set_cons_succ, i64_w, i32_w]
            rfl
          refine pure_ (i := 18) (N := some 59) (v := ?_) (a' := ?_) #[true, true, true, true, true, true, true, true, true, true, true, true, true, true, true, true, true, true, true, true, false, false, false, false, false] rfl rfl (by kernel_rfl) (fun _ _ _ h => h) (Or.inl ⟨by rfl, ?_⟩) ?_ ?_
          rotate_left
          · intro w'
            go_simp
            with_reducible rfl
          rotate_left
          · simp only [Act.put, List.setIfInBounds_toArray, List.set_cons_zero, List.set_cons_succ, i64_w, i32_w]
            rfl
          refine pure_ (i := 20) (N := some 61) (v := ?_) (a' := ?_) #[true, true, true, true, true, true, true, true, true, true, true, true, true, true, true, true, true, true, true, true, true, false, false, false, false] rfl rfl (by kernel_rfl) (fun _ _ _ h => h) (Or.inl ⟨by rfl, ?_⟩) ?_ ?_
          rotate_left
          · intro w'
            go_simp
            with_reducible rfl
          rotate_left
          · simp only [Act.put, List.setIfInBounds_toArray, List.set_cons_zero, List.set_cons_succ, i64_w, i32_w]
            rfl
          refine pure_ (i := 21) (N := some 62) (v := ?_) (a' := ?_) #[true, true, true, true, true, true, true, true, true, true, true, true, true, true, true, true, true, true, true, true, true, true, false, false, false] rfl rfl (by kernel_rfl) (fun _ _ _ h => h) (Or.inl ⟨by rfl, ?_⟩) ?_ ?_
          rotate_left
          · intro w'
            go_simp
            with_reducible rfl
          rotate_left
          · simp only [Act.put, List.setIfInBounds_toArray, List.set_cons_zero, List.set_cons_succ, i64_w, i32_w]
            rfl
          refine take_ (i := 22) (N := some 63) (v := ?_) (a' := ?_) #[true, true, true, true, true, true, true, true, true, true, true, true, true, true, true, true, true, true, true, true, true, true, true, false, false] rfl rfl (by kernel_rfl) (fun _ _ _ h => h) (Or.inl ⟨by rfl, ?_⟩) hHeld ?_ ?_
          rotate_left
          · rintro w' ⟨s0, s1, s2, s3, s4, s5, s6, s7, s8⟩
            go_simp
            with_reducible rfl
          rotate_left
          · simp only [Act.put, List.setIfInBounds_toArray, List.set_cons_zero, List.set_cons_succ, i64_w, i32_w]
            rfl
          refine pure_ (i := 23) (N := some 64) (v := ?_) (a' := ?_) #[true, true, true, true, true, true, true, true, true, true, true, true, true, true, true, true, true, true, true, true, true, true, true, true, false] rfl rfl (by kernel_rfl) (fun _ _ _ h => h) (Or.inl ⟨by rfl, ?_⟩) ?_ ?_
          rotate_left
          · intro w'
            go_simp
            with_reducible rfl
          rotate_left
          · simp only [Act.put, List.setIfInBounds_toArray, List.set_cons_zero, List.set_cons_succ, i64_w, i32_w]
            rfl
          refine last_ (i := 24) (N := none) #[true, true, true, true, true, true, true, true, true, true, true, true, true, true, true, true, true, true, true, true, true, true, true, true, true] rfl rfl (by kernel_rfl) (by decide) (fun K hK => ?_)
          refine skip_store_cell (by rfl) rfl rfl HRd.out p HLP.out z info_cell (by rfl) (Nat.mul_comm _ _) (by rfl) ?_
          intro w15 hR15 hg15
          have HK15 := Aside0.mk (HKd.out.wrote hR15 hg15)
          have HR15 := Aside0.mk hR15
          have HL15 := Aside0.mk (HLd.out.grown hg15 (fun e => HBX.out (Option.some.inj e)))
          clear hR15 hg15
          refine hK.out _ _ ?_
          clear hK K
          refine done_ (by kernel_rfl) ?_
          clear hq1 hq3 hq2 hp1 hp3 hp2 hw1 hw2 hqL hpn
          go_wp2
          go_roundw
          case rel => exact ⟨cc + 1, HLC.out, by go_num, ⟨by have := HR15.out; have e := splice_next (cpN c c2 L M0 k) ((L.drop o).take cc) o2 z HFIT.out; rw [HTL.out, HPE.out] at e; rw [e, ← HNX.out] at this; rw [HOE.out, HOE2.out]; exact this⟩, HL15, HK15⟩
          case measure => simp [intOf]; omega
        · obtain rfl : cc = mc := by omega
          go_wp2
          clear hm1 hm2 zc
          go_roundw
          case rel => exact ⟨k + 1, HLT.out, by go_num, ⟨by have := HR9.out; unfold cpN; rw [HMCE.out]; exact this⟩, HL9, HK9⟩
          case measure => simp [intOf]; omega
    · obtain rfl : k = mr := by omega
      go_wp2
      clear zr hm1 hm2
      have hbd := below_drew (Below.refl wr.heap.size wr)
      have HGd := Aside0.mk (blk_below HK8.out.top hbd)
      have HXd := Aside0.mk (blk_below HK8.out.blk hbd)
      have HRd := Aside0.mk (HR8.out.below hbd)
      clear hbd
      refine start_ (n := 24) (S := fun w' => w'.cell? ⟨gx, 0, none⟩ = some (.int .i64 (r2 : Int)) ∧ w'.cell? ⟨gx, 1, none⟩ = some (.int .i64 (c2 : Int)) ∧ w'.cell? ⟨gx, 2, none⟩ = some (.slice (some ⟨bx, 0, none⟩) n2 capx)) (ds := []) #[false, false, false, false, false, false, false, false, false, false, false, false, false, false, false, false, false, false, false, false, false, false, false, false] (by kernel_rfl) rfl rfl ⟨(blk_cell HXd.out 0).trans rfl, (blk_cell HXd.out 1).trans rfl, (blk_cell HXd.out 2).trans rfl⟩ (fun hHeld => ?_)
      refine pure_ (i := 0) (N := some 65) (v := ?_) (a' := ?_) #[true, false, false, false, false, false, false, false, false, false, false, false, false, false, false, false, false, false, false, false, false, false, false, false] rfl rfl (by kernel_rfl) (fun _ _ _ h => h) (Or.inl ⟨by rfl, ?_⟩) ?_ ?_
      rotate_left
      · intro w'
        go_simp
        with_reducible rfl
      rotate_left
      · simp only [Act.put, List.setIfInBounds_toArray, List.set_cons_zero, List.set_cons_succ, i64_w, i32_w]
        rfl
      refine pure_ (i := 1) (N := some 66) (v := ?_) (a' := ?_) #[true, true, false, false, false, false, false, false, false, false, false, false, false, false, false, false, false, false, false, false, false, false, false, false] rfl rfl (by kernel_rfl) (fun _ _ _ h => h) (Or.inl ⟨by rfl, ?_⟩) ?_ ?_
      rotate_left
      · intro w'
        go_simp
        with_reducible rfl
      rotate_left
      · simp only [Act.put, List.setIfInBounds_toArray, List.set_cons_zero, List.set_cons_succ, i64_w, i32_w]
        rfl
      refine pure_ (i := 2) (N := some 67) (v := ?_) (a' := ?_) #[true, true, true, false, false, false, false, false, false, false, false, false, false, false, false, false, false, false, false, false, false, false, false, false] rfl rfl (by kernel_rfl) (fun _ _ _ h => h) (Or.inl ⟨by rfl, ?_⟩) ?_ ?_
      rotate_left
      · intro w'
        go_simp
        with_reducible rfl
      rotate_left
      · simp only [Act.put, List.setIfInBounds_toArray, List.set_cons_zero, List.set_cons_succ, i64_w, i32_w]
        rfl
      refine pure_ (i := 3) (N := some 68) (v := ?_) (a' := ?_) #[true, true, true, true, false, false, false, false, false, false, false, false, false, false, false, false, false, false, false, false, false, false, false, false] rfl rfl (by kernel_rfl) (fun _ _ _ h => h) (Or.inl ⟨by rfl, ?_⟩) ?_ ?_
      rotate_left
      · intro w'
        go_simp
        with_reducible rfl
      rotate_left
      · simp only [Act.put, List.setIfInBounds_toArray, List.set_cons_zero, List.set_cons_succ, i64_w, i32_w]
        rfl
      refine pure_ (i := 4) (N := some 69) (v := ?_) (a' := ?_) #[true, true, true, true, true, false, false, false, false, false, false, false, false, false, false, false, false, false, false, false, false, false, false, false] rfl rfl (by kernel_rfl) (fun _ _ _ h => h) (Or.inl ⟨by rfl, ?_⟩) ?_ ?_
      rotate_left
      · intro w'
        go_simp
        with_reducible rfl
      rotate_left
      · simp only [Act.put, List.setIfInBounds_toArray, List.set_cons_zero, List.set_cons_succ, i64_w, i32_w]
        rfl
      refine pure_ (i := 5) (N := some 70) (v := ?_) (a' := ?_) #[true, true, true, true, true, true, false, false, false, false, false, false, false, false, false, false, false, false, false, false, false, false, false, false] rfl rfl (by kernel_rfl) (fun _ _ _ h => h) (Or.inl ⟨by rfl, ?_⟩) ?_ ?_
      rotate_left
      · intro w'
        go_simp
        with_reducible rfl
      rotate_left
      · simp only [Act.put, List.setIfInBounds_toArray, List.set_cons_zero, List.set_cons_succ, i64_w, i32_w]
        rfl
      refine pure_ (i := 7) (N := some 72) (v := ?_) (a' := ?_) #[true, true, true, true, true, true, false, true, false, false, false, false, false, false, false, false, false, false, false, false, false, false, false, false] rfl rfl (by kernel_rfl) (fun _ _ _ h => h) (Or.inl ⟨by rfl, ?_⟩) ?_ ?_
      rotate_left
      · intro w'
        go_simp
        with_reducible rfl
      rotate_left
      · simp only [Act.put, List.setIfInBounds_toArray, List.set_cons_zero, List.set_cons_succ, i64_w, i32_w]
        rfl
      refine pure_ (i := 8) (N := some 73) (v := ?_) (a' := ?_) #[true, true, true, true, true, true, false, true, true, false, false, false, false, false, false, false, false, false, false, false, false, false, false, false] rfl rfl (by kernel_rfl) (fun _ _ _ h => h) (Or.inl ⟨by rfl, ?_⟩) ?_ ?_
      rotate_left
      · intro w'
        go_simp
        with_reducible rfl
      rotate_left
      · simp only [Act.put, List.setIfInBounds_toArray, List.set_cons_zero, List.set_cons_succ, i64_w, i32_w]
        rfl
      refine pure_ (i := 9) (N := some 74) (v := ?_) (a' := ?_) #[true, true, true, true, true, true, false, true, true, true, false, false, false, false, false, false, false, false, false, false, false, false, false, false] rfl rfl (by kernel_rfl) (fun _ _ _ h => h) (Or.inl ⟨by rfl, ?_⟩) ?_ ?_
      rotate_left
      · intro w'
        go_simp
        with_reducible rfl
      rotate_left
      · simp only [Act.put, List.setIfInBounds_toArray, List.set_cons_zero, List.set_cons_succ, i64_w, i32_w]
        rfl
      refine pure_ (i := 11) (N := some 76) (v := ?_) (a' := ?_) #[true, true, true, true, true, true, false, true, true, true, false, true, false, false, false, false, false, false, false, false, false, false, false, false] rfl rfl (by kernel_rfl) (fun _ _ _ h => h) (Or.inl ⟨by rfl, ?_⟩) ?_ ?_
      rotate_left
      · intro w'
        go_simp
        with_reducible rfl
      rotate_left
      · simp only [Act.put, List.setIfInBounds_toArray, List.set_cons_zero, List.set_cons_succ, i64_w, i32_w]
        rfl
      refine pure_ (i := 12) (N := some 77) (v := ?_) (a' := ?_) #[true, true, true, true, true, true, false, true, true, true, false, true, true, false, false, false, false, false, false, false, false, false, false, false] rfl rfl (by kernel_rfl) (fun _ _ _ h => h) (Or.inl ⟨by rfl, ?_⟩) ?_ ?_
      rotate_left
      · intro w'
        go_simp
        with_reducible rfl
      rotate_left
      · simp only [Act.put, List.setIfInBounds_toArray, List.set_cons_zero, List.set_cons_succ, i64_w, i32_w]
        rfl
      refine pure_ (i := 13) (N := some 78) (v := ?_) (a' := ?_) #[true, true, true, true, true, true, false, true, true, true, false, true, true, true, false, false, false, false, false, false, false, false, false, false] rfl rfl (by kernel_rfl) (fun _ _ _ h => h) (Or.inl ⟨by rfl, ?_⟩) ?_ ?_
      rotate_left
      · intro w'
        go_simp
        with_reducible rfl
      rotate_left
      · simp only [Act.put, List.setIfInBounds_toArray, List.set_cons_zero, List.set_cons_succ, i64_w, i32_w]
        rfl
      refine take_ (i := 6) (N := some 71) (v := ?_) (a' := ?_) #[true, true, true, true, true, true, true, true, true, true, false, true, true, true, false, false, false, false, false, false, false, false, false, false] rfl rfl (by kernel_rfl) (fun _ _ _ h => h) (Or.inl ⟨by rfl, ?_⟩) hHeld ?_ ?_
      rotate_left
      · rintro w' ⟨s0, s1, s2⟩
        go_simp
        with_reducible rfl
      rotate_left
      · simp only [Act.put, List.setIfInBounds_toArray, List.set_cons_zero, List.set_cons_succ, i64_w, i32_w]
        rfl
      refine take_ (i := 10) (N := some 75) (v := ?_) (a' := ?_) #[true, true, true, true, true, true, true, true, true, true, true, true, true, true, false, false, false, false, false, false, false, false, false, false] rfl rfl (by kernel_rfl) (fun _ _ _ h => h) (Or.inl ⟨by rfl, ?_⟩) hHeld ?_ ?_
      rotate_left
      · rintro w' ⟨s0, s1, s2⟩
        go_simp
        with_reducible rfl
      rotate_left
      · simp only [Act.put, List.setIfInBounds_toArray, List.set_cons_zero, List.set_cons_succ, i64_w, i32_w]
        rfl
      refine take_ (i := 14) (N := some 79) (v := ?_) (a' := ?_) #[true, true, true, true, true, true, true, true, true, true, true, true, true, true, true, false, false, false, false, false, false, false, false, false] rfl rfl (by kernel_rfl) (fun _ _ _ h => h) (Or.inl ⟨by rfl, ?_⟩) hHeld ?_ ?_
      rotate_left
      · rintro w' ⟨s0, s1, s2⟩
        go_simp
        with_reducible rfl
      rotate_left
      · simp only [Act.put, List.setIfInBounds_toArray, List.set_cons_zero, List.set_cons_succ, i64_w, i32_w]
        rfl
      refine pure_ (i := 15) (N := some 80) (v := ?_) (a' := ?_) #[true, true, true, true, true, true, true, true, true, true, true, true, true, true, true, true, false, false, false, false, false, false, false, false] rfl rfl (by kernel_rfl) (fun _ _ _ h => h) (Or.inl ⟨by rfl, ?_⟩) ?_ ?_
      rotate_left
      · intro w'
        go_simp
        with_reducible rfl
      rotate_left
      · simp only [Act.put, List.setIfInBounds_toArray, List.set_cons_zero, List.set_cons_succ, i64_w, i32_w]
        rfl
      refine pure_ (i := 16) (N := some 81) (v := ?_) (a' := ?_) #[true, true, true, true, true, true, true, true, true, true, true, true, true, true, true, true, true, false, false, false, false, false, false, false] rfl rfl (by kernel_rfl) (fun _ _ _ h => h) (Or.inl ⟨by rfl, ?_⟩) ?_ ?_
      rotate_left
      · intro w'
        go_simp
        with_reducible rfl
      rotate_left
      · simp only [Act.put, List.setIfInBounds_toArray, List.set_cons_zero, List.set_cons_succ, i64_w, i32_w]
        rfl
      refine one_ (i := 17) (N := none) #[true, true, true, true, true, true, true, true, true, true, true, true, true, true, true, true, true, true, false, false, false, false, false, false] rfl rfl (by kernel_rfl) (by decide) (fun K hK => ?_)
      refine skip_store_field (by rfl) rfl rfl HGd.out 0 (.int .i64 r2) (cs' := #[.int .i64 r2, .int .i64 c, .slice (some ⟨b, 0, none⟩) L.length cap]) rfl rfl rfl (by kernel_rfl) (by rfl) (by rfl) ?_
      intro w17 hg17 hr17
      have HG17 := Aside0.mk hg17
      have HX17 := Aside0.mk ((hr17.block gx (blk_lt HXd.out) (fun e => HGX.out (Option.some.inj e))).trans HXd.out)
      have HP17 := Aside0.mk hr17
      clear hg17 hr17
      refine hK.out _ _ ⟨(blk_cell HX17.out 0).trans rfl, (blk_cell HX17.out 1).trans rfl, (blk_cell HX17.out 2).trans rfl⟩ (fun hHeld => ?_)
      clear hK K
      refine pure_ (i := 18) (N := some 82) (v := ?_) (a' := ?_) #[true, true, true, true, true, true, true, true, true, true, true, true, true, true, true, true, true, true, true, false, false, false, false, false] rfl rfl (by kernel_rfl) (fun _ _ _ h => h) (Or.inl ⟨by rfl, ?_⟩) ?_ ?_
      rotate_left
      · intro w'
        go_simp
        with_reducible rfl
      rotate_left
      · simp only [Act.put, List.setIfInBounds_toArray, List.set_cons_zero, List.set_cons_succ, i64_w, i32_w]
        rfl
      refine pure_ (i := 19) (N := some 83) (v := ?_) (a' := ?_) #[true, true, true, true, true, true, true, true, true, true, true, true, true, true, true, true, true, true, true, true, false, false, false, false] rfl rfl (by kernel_rfl) (fun _ _ _ h => h) (Or.inl ⟨by rfl, ?_⟩) ?_ ?_
      rotate_left
      · intro w'
        go_simp
        with_reducible rfl
      rotate_left
      · simp only [Act.put, List.setIfInBounds_toArray, List.set_cons_zero, List.set_cons_succ, i64_w, i32_w]
        rfl
      refine one_ (i := 20) (N := none) #[true, true, true, true, true, true, true, true, true, true, true, true, true, true, true, true, true, true, true, true, true, false, false, false] rfl rfl (by kernel_rfl) (by decide) (fun K hK => ?_)
      refine skip_store_field (by rfl) rfl rfl HG17.out 1 (.int .i64 c2) (cs' := #[.int .i64 r2, .int .i64 c2, .slice (some ⟨b, 0, none⟩) L.length cap]) rfl rfl rfl (by kernel_rfl) (by rfl) (by rfl) ?_
      intro w20 hg20 hr20
      have HG20 := Aside0.mk hg20
      have HX20 := Aside0.mk ((hr20.block gx (blk_lt HX17.out) (fun e => HGX.out (Option.some.inj e))).trans HX17.out)
      have HP20 := Aside0.mk hr20
      clear hg20 hr20
      refine hK.out _ _ ⟨(blk_cell HX20.out 0).trans rfl, (blk_cell HX20.out 1).trans rfl, (blk_cell HX20.out 2).trans rfl⟩ (fun hHeld => ?_)
      clear hK K
      refine pure_ (i := 21) (N := some 84) (v := ?_) (a' := ?_) #[true, true, true, true, true, true, true, true, true, true, true, true, true, true, true, true, true, true, true, true, true, true, false, false] rfl rfl (by kernel_rfl) (fun _ _ _ h => h) (Or.inl ⟨by rfl, ?_⟩) ?_ ?_
      rotate_left
      · intro w'
        go_simp
        with_reducible rfl
      rotate_left
      · simp only [Act.put, List.setIfInBounds_toArray, List.set_cons_zero, List.set_cons_succ, i64_w, i32_w]
        rfl
      refine pure_ (i := 22) (N := some 85) (v := ?_) (a' := ?_) #[true, true, true, true, true, true, true, true, true, true, true, true, true, true, true, true, true, true, true, true, true, true, true, false] rfl rfl (by kernel_rfl) (fun _ _ _ h => h) (Or.inl ⟨by rfl, ?_⟩) ?_ ?_
      rotate_left
      · intro w'
        go_simp
        with_reducible rfl
      rotate_left
      · simp only [Act.put, List.setIfInBounds_toArray, List.set_cons_zero, List.set_cons_succ, i64_w, i32_w]
        rfl
      refine one_ (i := 23) (N := none) #[true, true, true, true, true, true, true, true, true, true, true, true, true, true, true, true, true, true, true, true, true, true, true, true] rfl rfl (by kernel_rfl) (by decide) (fun K hK => ?_)
      refine skip_store_field (by rfl) rfl rfl HG20.out 2 (.slice (some ⟨bx, 0, none⟩) n2 capx) (cs' := #[.int .i64 r2, .int .i64 c2, .slice (some ⟨bx, 0, none⟩) n2 capx]) rfl rfl rfl (by kernel_rfl) (by rfl) (by rfl) ?_
      intro w23 hg23 hr23
      have HG23 := Aside0.mk hg23
      have HX23 := Aside0.mk ((hr23.block gx (blk_lt HX20.out) (fun e => HGX.out (Option.some.inj e))).trans HX20.out)
      have HP23 := Aside0.mk hr23
      clear hg23 hr23
      refine hK.out _ _ ⟨(blk_cell HX23.out 0).trans rfl, (blk_cell HX23.out 1).trans rfl, (blk_cell HX23.out 2).trans rfl⟩ (fun hHeld => ?_)
      clear hK K
      refine done_ (by kernel_rfl) ?_
      have hP := grown_trans (grown_trans HP17.out HP20.out) HP23.out
      have HRf := Aside0.mk (HRd.out.grown hP (fun e => HGB.out (Option.some.inj e).symm))
      have hcl : (cpN c c2 L M0 k).length = r2 * c2 := cpN_length HG.out.len HM0.out k (by have := HMRE.out; omega)
      have hGf : RefAt w23 base g bx r2 c2 (cpN c c2 L M0 k) := ⟨⟨capx, by rw [hcl, HN2.out]; exact HG23.out, by rw [hcl, HN2.out]; exact k3, k4⟩, HRf.out, hcl, H1.out, H2.out, H3.out, H4.out, HGB.out, HG.out.bg, by have := HBB.out; have := HG.out.bb; have := HG.out.row.lt; omega⟩
      have HGf := Aside0.mk hGf
      have HWF : Aside0 (w.grownBy w23 (some g)) := ⟨grown_trans (grown_of_none (below_step (below_new HBS.out HK8.out.grown HBB.out) (below_drew (Below.refl _ _)))) hP⟩
      obtain ⟨capf, _, _, hkf⟩ := hGf.kbase (Below.refl _ _)
      have HKf := Aside0.mk hkf
      have HCL := Aside0.mk hcl
      clear hP hGf hkf hcl HX17 HX20 HX23 HG17 HG20 HG23 HP17 HP20 HP23 HGd HXd HRd HR8 HL8 HK8
      obtain ⟨M1, hM1⟩ : ∃ M1, cpN c c2 L M0 k = M1 := ⟨_, rfl⟩
      rw [hM1] at EO HGf HRf HKf HCL
      clear hM1
      go_wp2
      go_loopw [11] (fun v11 wr => ∃ m : Nat, m ≤ r2 ∧ v11 = .int .i64 m ∧ Aside0 (RowAt wr bx (mdN c2 M1 m)) ∧ Aside0 (KBase w23 g bx r2 c2 M1.length capf [] wr)) (fun v11 _ => r2 - (intOf v11).toNat)
      case atStart => exact ⟨0, Nat.zero_le _, rfl, HRf, HKf⟩
      case round =>
        obtain ⟨m, hm, rfl, HR9, HK9⟩ := hrel
        clear HRf HKf
        have zr := HK9.out.c0
        by_cases hlt : m < r2
        · go_wp2_with fail
          have hml : (mdN c2 M1 m).length = M1.length := by rw [mdN_length HCL.out m hm, HCL.out]
          have hml2 : (mdN c2 M1 (m + 1)).length = M1.length := by rw [mdN_length HCL.out (m + 1) hlt, HCL.out]
          refine (rmend_calls (HGf.out.wrote HK9.out.grown HR9.out hml) m hlt).mono ?_
          rintro e w10 ⟨rfl, hR10, hg10⟩
          have HR10 : Aside0 (RowAt w10 bx (mdN c2 M1 (m + 1))) := ⟨hR10⟩
          have HK10 := Aside0.mk (HK9.out.wrote hR10 hg10)
          clear hR10 hg10 zr hml hml2
          go_wp2
          go_roundw
          case rel => exact ⟨m + 1, hlt, by go_num, HR10, HK10⟩
          case measure => simp [intOf]; omega
        · obtain rfl : m = r2 := by omega
          go_wp2
          go_ret
          have hml : (mdN c2 M1 m).length = M1.length := by rw [mdN_length HCL.out m (Nat.le_refl _), HCL.out]
          rw [EO.out]
          exact ⟨rfl, bx, HGf.out.wrote HK9.out.grown HR9.out hml, HBB.out, grown_new HWF.out HK9.out.grown HBB.out⟩
end Go.Proofs.YtcfndcjbgalnpaaDoor.Hand
namespace Go.Proofs.YtcfndcjbgalnpaaDoor.Hand
open Go.RowKit Go.Proofs.YtcfndcjbgalnpaaDoorW.PrintWords Go.Proofs.YtcfndcjbgalnpaaDoorW.PrintLast
theorem mendL_id {l : List C5} (h : RowOk l) : mendL l = l := by
  apply List.ext_getElem?
  intro i
  by_cases hi : i < l.length
  · rw [mendL_get l i hi, mendC_keep (h i hi), List.getD_eq_getElem?_getD, List.getElem?_eq_getElem hi]
    rfl
  · rw [List.getElem?_eq_none (by rw [mendL_length]; omega), List.getElem?_eq_none (by omega)]
theorem splice_self2 {α : Type} (L : List α) (o m : Nat) (h : o + m ≤ L.length) : splice L o ((L.drop o).take m) = L := by
  apply List.ext_getElem?
  intro i
  have hl : ((L.drop o).take m).length = m := part_length L o m h
  by_cases h1 : i < o ∨ o + m ≤ i
  · exact splice_get_out L _ o i (by omega) (by omega)
  · obtain ⟨j, rfl⟩ : ∃ j, i = o + j := ⟨i - o, by omega⟩
    rw [splice_get_in L _ o j (by omega) (by omega), List.getElem?_take_of_lt (by omega), List.getElem?_drop]
theorem mendRow_id {r c : Nat} {L : List C5} (hl : L.length = r * c) {n : Nat} (hn : n < r) (h : RowOk (rowN c L n)) : mendRow c L n = L := by
  have e := place_le (c := c) hn
  unfold mendRow
  rw [mendL_id h, splice_self2 L (n * c) c (by omega)]
theorem mendRow_in {r c : Nat} {L : List C5} (hl : L.length = r * c) {n j : Nat} (hn : n < r) (hj : j < c) : (mendRow c L n)[n * c + j]? = (mendL (rowN c L n))[j]? := by
  have e := place_le (c := c) hn
  have h2 : (mendL (rowN c L n)).length = c := by rw [mendL_length]; exact part_length L _ _ (by omega)
  exact splice_get_in L _ (n * c) j (by rw [show (mendL ((L.drop (n * c)).take c)).length = c from h2]; omega) (by rw [show (mendL ((L.drop (n * c)).take c)).length = c from h2]; omega)
theorem mendRow_out {r c : Nat} {L : List C5} (hl : L.length = r * c) {n i : Nat} (hn : n < r) (hi : i < n * c ∨ n * c + c ≤ i) : (mendRow c L n)[i]? = L[i]? := by
  have e := place_le (c := c) hn
  have h2 : (mendL ((L.drop (n * c)).take c)).length = c := by rw [mendL_length]; exact part_length L _ _ (by omega)
  exact splice_get_out L _ (n * c) i (by omega) (by omega)
theorem mend_comm {r c : Nat} {X M : List C5} (hX : X.length = r * c) {n k : Nat} (hn : n < k) (hk : k < r) (hM : M.length ≤ c) : mendRow c (splice X (k * c) M) n = splice (mendRow c X n) (k * c) M := by
  have e1 := place_le (c := c) hk
  have e2 := place_le (c := c) hn
  have hs : (splice X (k * c) M).length = r * c := by rw [splice_length _ _ _ (by omega), hX]
  have hm : (mendRow c X n).length = r * c := by rw [mendRow_length hX (by omega), hX]
  apply List.ext_getElem?
  intro i
  by_cases h1 : i < n * c ∨ n * c + c ≤ i
  · rw [mendRow_out hs (by omega) h1]
    by_cases h2 : i < k * c ∨ k * c + M.length ≤ i
    · rw [splice_get_out X M _ i (by omega) h2, splice_get_out _ M _ i (by omega) h2, mendRow_out hX (by omega) h1]
    · obtain ⟨j, rfl⟩ : ∃ j, i = k * c + j := ⟨i - k * c, by omega⟩
      rw [splice_get_in X M _ j (by omega) (by omega), splice_get_in _ M _ j (by omega) (by omega)]
  · obtain ⟨j, rfl⟩ : ∃ j, i = n * c + j := ⟨i - n * c, by omega⟩
    rw [mendRow_in hs (by omega) (by omega), splice_get_out _ M _ _ (by omega) (by omega), mendRow_in hX (by omega) (by omega)]
    rw [rowN_ext hs hX (n := n) (m := n) (by omega) (by omega) (fun q hq => splice_get_out X M _ _ (by omega) (by omega))]
theorem mdN_comm {r c : Nat} {X M : List C5} (hX : X.length = r * c) {k : Nat} (hk : k < r) (hM : M.length ≤ c) : ∀ m, m ≤ k → mdN c (splice X (k * c) M) m = splice (mdN c X m) (k * c) M
  | 0, _ => rfl
  | m + 1, h => by
    unfold mdN
    rw [mdN_comm hX hk hM m (by omega), mend_comm (mdN_length hX m (by omega)) (by omega) hk hM]
theorem mdN_res {r c r2 c2 : Nat} {L : List C5} (hl : L.length = r * c) : ∀ k, k ≤ min r r2 → mdN c2 (cpN c c2 L (List.replicate (r2 * c2) (blankC 0)) k) k = resTo c r2 c2 L k
  | 0, _ => rfl
  | k + 1, h => by
    have e1 := place_le (c := c) (show k < r by omega)
    have e3 : ((L.drop (k * c)).take (min c c2)).length = min c c2 := part_length L (k * c) (min c c2) (by omega)
    have hc := cpN_length (c2 := c2) hl (M := List.replicate (r2 * c2) (blankC 0)) (List.length_replicate ..) k (by omega)
    unfold mdN cpN
    rw [mdN_comm hc (by omega) (by omega) k (Nat.le_refl _), mdN_res hl k (by omega)]
    rfl
theorem rres_eq {r c r2 c2 : Nat} {L : List C5} (h : GridOk r c L) (hl : L.length = r * c) : rresG r c r2 c2 L = resTo c r2 c2 L (min r r2) := by
  have hg := h.resize (r2 := r2) (c2 := c2) hl (min r r2) (Nat.le_refl _)
  have hlen := resTo_length (r2 := r2) (c2 := c2) hl (min r r2) (Nat.le_refl _)
  have step : ∀ j, min r r2 + j ≤ r2 → mdN c2 (cpN c c2 L (List.replicate (r2 * c2) (blankC 0)) (min r r2)) (min r r2 + j) = resTo c r2 c2 L (min r r2) := by
    intro j
    induction j with
    | zero => intro _; exact mdN_res hl _ (Nat.le_refl _)
    | succ j ih =>
      intro hj
      rw [← Nat.add_assoc]
      unfold mdN
      rw [ih (by omega), mendRow_id hlen (by omega) (hg.ok _ (by omega))]
  have := step (r2 - min r r2) (by omega)
  rwa [show min r r2 + (r2 - min r r2) = r2 by omega] at this
theorem rerase_eq {r c : Nat} {L : List C5} (h : GridOk r c L) (hl : L.length = r * c) (row p q a2 : Int) (m : Bool) : reraseG r c L row p q a2 m = eraseG r c L row p q a2 m := by
  unfold reraseG eraseG eraseOk
  cases m with
  | false => simp
  | true =>
    by_cases h1 : 0 ≤ row ∧ row < r
    · rw [decide_eq_true h1]
      by_cases h2 : max p 0 < min q c
      · rw [decide_eq_true h2]
        rfl
      · rw [decide_eq_false h2]
        rw [if_pos (show (true && true) = true from rfl), if_neg (by decide), show (min q (c : Int)).toNat - (max p 0).toNat = 0 by omega, List.replicate_zero, splice_nil]
        exact mendRow_id hl (by omega) (h.ok _ (by omega))
    · rw [decide_eq_false h1]
      rfl
theorem movd_get {l : List C5} {D : Int} {x : C5} {m j : Nat} (h : j < m) : (movd l D x m)[j]? = some (movA l D x j) := by
  unfold movd
  rw [List.getElem?_map, List.getElem?_range h]
  rfl
theorem movA_up {L : List C5} {p m k j : Nat} {x : C5} (h : p + m ≤ L.length) (hj : j < m) : some (movA ((L.drop p).take m) (k : Int) x j) = if j + k < m then L[p + (j + k)]? else some x := by
  have hl : ((L.drop p).take m).length = m := part_length L p m h
  unfold movA
  rw [hl]
  by_cases h1 : j + k < m
  · rw [if_pos h1, if_pos ⟨by omega, by omega⟩, show ((j : Int) + (k : Int)).toNat = j + k by omega, List.getD_eq_getElem?_getD, List.getElem?_take_of_lt h1, List.getElem?_drop, List.getElem?_eq_getElem (by omega)]
    rfl
  · rw [if_neg h1, if_neg (by omega)]
theorem movd_up {L : List C5} {p m k : Nat} (x : C5) (h : p + m ≤ L.length) (hk : k ≤ m) : splice L p (movd ((L.drop p).take m) (k : Int) x m) = upL L p m k x := by
  have h1 : ((L.drop (p + k)).take (m - k)).length = m - k := part_length L (p + k) (m - k) (by omega)
  have h2 : (splice L p ((L.drop (p + k)).take (m - k))).length = L.length := splice_length _ _ _ (by omega)
  unfold upL
  apply List.ext_getElem?
  intro i
  have h3 : (movd ((L.drop p).take m) (k : Int) x m).length = m := movd_length _ _ _ _
  have h4 : (List.replicate k x).length = k := List.length_replicate ..
  by_cases hi : i < p ∨ p + m ≤ i
  · rw [splice_get_out _ _ _ i (by omega) (by omega), splice_get_out _ _ _ i (by omega) (by omega), splice_get_out _ _ _ i (by omega) (by omega)]
  · obtain ⟨j, rfl⟩ : ∃ j, i = p + j := ⟨i - p, by omega⟩
    rw [splice_get_in _ _ _ j (by omega) (by omega), movd_get (by omega), movA_up h (by omega)]
    by_cases hj : j + k < m
    · rw [if_pos hj, splice_get_out _ _ _ _ (by omega) (by omega), splice_get_in _ _ _ j (by omega) (by omega), List.getElem?_take_of_lt (by omega), List.getElem?_drop, show p + (j + k) = p + k + j by omega]
    · rw [if_neg hj]
      obtain ⟨q, hq⟩ : ∃ q, p + j = p + (m - k) + q := ⟨j - (m - k), by omega⟩
      rw [hq, splice_get_in _ _ _ q (by omega) (by omega), List.getElem?_replicate, if_pos (by omega)]
theorem movA_down {L : List C5} {p m k j : Nat} {x : C5} (h : p + m ≤ L.length) (hj : j < m) : some (movA ((L.drop p).take m) (-(k : Int)) x j) = if k ≤ j then L[p + (j - k)]? else some x := by
  have hl : ((L.drop p).take m).length = m := part_length L p m h
  unfold movA
  rw [hl]
  by_cases h1 : k ≤ j
  · rw [if_pos h1, if_pos ⟨by omega, by omega⟩, show ((j : Int) + -(k : Int)).toNat = j - k by omega, List.getD_eq_getElem?_getD, List.getElem?_take_of_lt (by omega), List.getElem?_drop, List.getElem?_eq_getElem (by omega)]
    rfl
  · rw [if_neg h1, if_neg (by omega)]
theorem movd_down {L : List C5} {p m k : Nat} (x : C5) (h : p + m ≤ L.length) (hk : k ≤ m) : splice L p (movd ((L.drop p).take m) (-(k : Int)) x m) = downL L p m k x := by
  have h1 : ((L.drop p).take (m - k)).length = m - k := part_length L p (m - k) (by omega)
  have h2 : (splice L (p + k) ((L.drop p).take (m - k))).length = L.length := splice_length _ _ _ (by omega)
  unfold downL
  apply List.ext_getElem?
  intro i
  have h3 : (movd ((L.drop p).take m) (-(k : Int)) x m).length = m := movd_length _ _ _ _
  have h4 : (List.replicate k x).length = k := List.length_replicate ..
  by_cases hi : i < p ∨ p + m ≤ i
  · rw [splice_get_out _ _ _ i (by omega) (by omega), splice_get_out _ _ _ i (by omega) (by omega), splice_get_out _ _ _ i (by omega) (by omega)]
  · obtain ⟨j, rfl⟩ : ∃ j, i = p + j := ⟨i - p, by omega⟩
    rw [splice_get_in _ _ _ j (by omega) (by omega), movd_get (by omega), movA_down h (by omega)]
    by_cases hj : k ≤ j
    · rw [if_pos hj, splice_get_out _ _ _ _ (by omega) (by omega)]
      obtain ⟨q, hq⟩ : ∃ q, p + j = p + k + q := ⟨j - k, by omega⟩
      rw [hq, splice_get_in _ _ _ q (by omega) (by omega), List.getElem?_take_of_lt (by omega), List.getElem?_drop, show p + (j - k) = p + q by omega]
    · rw [if_neg hj, splice_get_in _ _ _ j (by omega) (by omega), List.getElem?_replicate, if_pos (by omega)]
theorem rshift_eq {r c : Nat} {L : List C5} (hl : L.length = r * c) (row col n a2 : Int) (m : Bool) : rshiftG r c L row col n a2 m = shiftG r c L row col n a2 m := by
  unfold rshiftG shiftG
  split
  · rename_i h
    rw [Bool.and_eq_true] at h
    obtain ⟨p1, p2, p3, p4⟩ : 0 ≤ row ∧ row < r ∧ 0 ≤ col ∧ col < c := by simpa [isB] using h.1
    have e := place_le (c := c) (show row.toNat < r by omega)
    congr 1
    unfold moveL
    generalize hp : row.toNat * c + col.toNat = p at *
    generalize hm : c - col.toNat = k at *
    have hpk : p + k ≤ L.length := by omega
    split
    · rw [← movd_down _ hpk (by omega)]
      congr 2
      omega
    · rw [← movd_up _ hpk (by omega)]
      congr 2
      omega
  · rfl
theorem rscroll_eq {r c : Nat} {L : List C5} (hl : L.length = r * c) (top bot n a2 : Int) (m : Bool) : rscrollG r c L top bot n a2 m = scrollG r c L top bot n a2 m := by
  unfold rscrollG scrollG scrollOk
  by_cases h1 : 0 ≤ top ∧ top ≤ bot ∧ bot < r
  · rw [decide_eq_true h1, decide_eq_true (show 0 ≤ top ∧ top < r by omega), decide_eq_true (show 0 ≤ bot ∧ bot < r by omega), decide_eq_true h1.2.1]
    cases m with
    | false => rfl
    | true =>
      rw [if_pos (show (true && true) = true from rfl), if_pos (show (true && true && true && true) = true from rfl)]
      obtain ⟨H, hH⟩ : ∃ H : Nat, bot + 1 - top = H := ⟨(bot + 1 - top).toNat, by omega⟩
      have htH : top.toNat + H ≤ r := by omega
      have hHc : top.toNat * c + H * c ≤ L.length := by
        have := Nat.mul_le_mul_right c htH
        rw [Nat.add_mul] at this
        rw [hl]
        exact this
      rw [hH, Int.toNat_natCast]
      unfold scrollL
      split
      · have hk : (min n (H : Int)).toNat ≤ H := by omega
        have hD : min (max n (-(H : Int))) (H : Int) = ((min n (H : Int)).toNat : Int) := by omega
        rw [hD, ← movd_up _ hHc (Nat.mul_le_mul_right c hk)]
        congr 2
      · have hk : (min (-n) (H : Int)).toNat ≤ H := by omega
        have hD : min (max n (-(H : Int))) (H : Int) = -((min (-n) (H : Int)).toNat : Int) := by omega
        rw [hD, ← movd_down _ hHc (Nat.mul_le_mul_right c hk)]
        congr 2
        rw [Int.neg_mul]
        rfl
  · rw [decide_eq_false h1]
    rw [if_neg (by simp), if_neg]
    intro h
    simp only [Bool.and_eq_true, decide_eq_true_eq] at h
    omega
end Go.Proofs.YtcfndcjbgalnpaaDoor.Hand
namespace Go.Proofs.YtcfndcjbgalnpaaDoor.Hand
open Go.RowKit Go.Proofs.YtcfndcjbgalnpaaDoorW.PrintWords Go.Proofs.YtcfndcjbgalnpaaDoorW.PrintLast
set_option maxRecDepth 100000 in
set_option maxHeartbeats 4000000 in
theorem rat_calls {w : World} {base g b r c : Nat} {L : List C5} (h : RefAt w base g b r c L) (row col : Int) :
    Calls Tryd.prog 30 #[.pointer (some ⟨g, 0, none⟩), .int .i64 row, .int .i64 col] w (fun e w' => e = .returned (atC r c L row col).agg ∧ Below w.heap.size w w') := by
  have HG := Aside0.mk h
  clear h
  cases hi : isB r c row col with
  | false =>
    have ha : atC r c L row col = z5 := by unfold atC; rw [hi]; rfl
    rw [ha]
    clear ha
    go_enter Tryd.func30, Tryd.ntmps30
    go_wp2_with ((with_reducible refine gate_dst (N := 6) rfl ?_); refine box_event ?hg (N := 6) ?hd (cs := #[.int .i32 0, .int .i64 0, .int .i64 0, .int .i64 0, .int .i64 0]) (t := 32) ?hr ?_; (case hd => rfl); (case hg => rfl); (case hr => first | (go_simp; done) | (go_simp; rfl)); intro gb hg w3 hbox hb; have HX := Aside0.mk hbox; have HB3 := Aside0.mk hb; have HGB := Aside0.mk (Nat.le_of_eq hg.symm); clear hbox hb hg)
    refine (there_calls (HG.out.below HB3.out) row col).mono ?_
    rintro e w1 ⟨rfl, rfl⟩
    rw [hi]
    go_wp2_with ((with_reducible refine gate_store (t := 32) (p := 6) (v := .tmp 12) rfl ?_); refine store_box HX.out rfl z5 32 (.tmp 6) (.tmp 12) rfl rfl rfl info_cell rfl rfl ?_; intro w4 HX4 HG4; have HX4 := Aside0.mk HX4; have HG4 := Aside0.mk HG4; clear HX)
    refine bodyPost_ret (results_single rfl (.cell gb 32 _ (0, 0) _ rfl HX4.out Tryd.underlying32 rfl (by kernel_rfl) .nil)) rfl ?_
    exact ⟨rfl, below_new HB3.out HG4.out HGB.out⟩
  | true =>
    obtain ⟨p1, p2, p3, p4⟩ : 0 ≤ row ∧ row < r ∧ 0 ≤ col ∧ col < c := by simpa [isB] using hi
    obtain ⟨n, rfl⟩ := Int.eq_ofNat_of_zero_le p1
    obtain ⟨j, rfl⟩ := Int.eq_ofNat_of_zero_le p3
    have hn : n < r := by omega
    have hj : j < c := by omega
    have hplace := place_lt hn hj
    rw [← HG.out.len] at hplace
    have hsm := HG.out.small
    obtain ⟨o, ho⟩ : ∃ o, n * c = o := ⟨_, rfl⟩
    obtain ⟨p, hp⟩ : ∃ p, o + j = p := ⟨_, rfl⟩
    rw [ho, hp] at hplace
    obtain ⟨x, hx⟩ : ∃ x, L[p]? = some x := ⟨_, List.getElem?_eq_getElem hplace⟩
    have ha : atC r c L (n : Int) (j : Int) = x := by
      unfold atC
      rw [if_pos hi, Int.toNat_natCast, Int.toNat_natCast, List.getD_eq_getElem?_getD, ho, hp, hx]
      rfl
    rw [ha]
    clear ha p1 p2 p3 p4
    have HC5 := Aside0.mk hx
    clear hx
    have hw1 := wrap_mul ho (by omega)
    have hq1 : (o : Int) + (j : Int) = (p : Int) := by omega
    have hq3 : wrap64 (p : Int) = (p : Int) := by unfold wrap64; omega
    have hq2 : IntKind.i64.wrap (p : Int) = (p : Int) := by rw [i64_w]; exact hq3
    have HPQ := Aside0.mk (show o = n * c ∧ o + j = p from ⟨ho.symm, hp⟩)
    clear ho hp
    go_enter Tryd.func30, Tryd.ntmps30
    go_wp2_with ((with_reducible refine gate_dst (N := 6) rfl ?_); refine box_event ?hg (N := 6) ?hd (cs := #[.int .i32 0, .int .i64 0, .int .i64 0, .int .i64 0, .int .i64 0]) (t := 32) ?hr ?_; (case hd => rfl); (case hg => rfl); (case hr => first | (go_simp; done) | (go_simp; rfl)); intro gb hg w3 hbox hb; have HX := Aside0.mk hbox; have HB3 := Aside0.mk hb; have HGB := Aside0.mk (Nat.le_of_eq hg.symm); clear hbox hb hg)
    refine (there_calls (HG.out.below HB3.out) n j).mono ?_
    rintro e w1 ⟨rfl, rfl⟩
    rw [hi]
    go_wp2
    have HBd := Aside0.mk (below_step HB3.out (below_drew (Below.refl w1.heap.size w1)))
    have HRd := Aside0.mk (HG.out.row.below HBd.out)
    obtain ⟨cap, k1, k2, hk⟩ := HG.out.kbase HBd.out
    have hne : gb ≠ b := by have := HG.out.row.lt; have := HGB.out; omega
    have HKd := Aside0.mk (hk.more (k := gb) (o := boxO z5) (blk_below HX.out (below_drew (Below.refl w1.heap.size w1))) hne)
    clear hk HX hne
    refine start_ (n := 15) (S := fun w' => w'.cell? ⟨g, 1, none⟩ = some (.int .i64 (c : Int)) ∧ w'.cell? ⟨g, 2, none⟩ = some (.slice (some ⟨b, 0, none⟩) L.length cap) ∧ w'.cell? ⟨b, p * 5, none⟩ = some (.int .i32 x.r) ∧ w'.cell? ⟨b, p * 5 + 1, none⟩ = some (.int .i64 x.f) ∧ w'.cell? ⟨b, p * 5 + 2, none⟩ = some (.int .i64 x.g) ∧ w'.cell? ⟨b, p * 5 + 3, none⟩ = some (.int .i64 x.b) ∧ w'.cell? ⟨b, p * 5 + 4, none⟩ = some (.int .i64 x.w) ∧ KBase w g b r c L.length cap [(gb, boxO z5)] w' ∧ RowAt w' b L) (ds := [14]) #[false, false, false, false, false, false, false, false, false, false, false, false, false, false, false] (by kernel_rfl) rfl rfl ⟨HKd.out.c1, HKd.out.c2, (by rw [Nat.mul_comm]; exact HRd.out.cell HC5.out 0 (by decide)), (by rw [Nat.mul_comm]; exact HRd.out.cell HC5.out 1 (by decide)), (by rw [Nat.mul_comm]; exact HRd.out.cell HC5.out 2 (by decide)), (by rw [Nat.mul_comm]; exact HRd.out.cell HC5.out 3 (by decide)), (by rw [Nat.mul_comm]; exact HRd.out.cell HC5.out 4 (by decide)), HKd.out, HRd.out⟩ (fun hHeld => ?_)
    refine pure_ (i := 0) (N := some 13) (v := ?_) (a' := ?_) #[true, false, false, false, false, false, false, false, false, false, false, false, false, false, false] rfl rfl (by kernel_rfl) (fun _ _ _ h => h) (Or.inl ⟨by rfl, ?_⟩) ?_ ?_
    rotate_left
    · intro w'
      go_simp
      with_reducible rfl
    rotate_left
    · simp only [Act.put, List.setIfInBounds_toArray, List.set_cons_zero, List.set_cons_succ, i64_w, i32_w]
      rfl
    refine pure_ (i := 1) (N := some 14) (v := ?_) (a' := ?_) #[true, true, false, false, false, false, false, false, false, false, false, false, false, false, false] rfl rfl (by kernel_rfl) (fun _ _ _ h => h) (Or.inl ⟨by rfl, ?_⟩) ?_ ?_
    rotate_left
    · intro w'
      go_simp
      with_reducible rfl
    rotate_left
    · simp only [Act.put, List.setIfInBounds_toArray, List.set_cons_zero, List.set_cons_succ, i64_w, i32_w]
      rfl
    refine pure_ (i := 2) (N := some 15) (v := ?_) (a' := ?_) #[true, true, true, false, false, false, false, false, false, false, false, false, false, false, false] rfl rfl (by kernel_rfl) (fun _ _ _ h => h) (Or.inl ⟨by rfl, ?_⟩) ?_ ?_
    rotate_left
    · intro w'
      go_simp
      with_reducible rfl
    rotate_left
    · simp only [Act.put, List.setIfInBounds_toArray, List.set_cons_zero, List.set_cons_succ, i64_w, i32_w]
      rfl
    refine pure_ (i := 4) (N := some 17) (v := ?_) (a' := ?_) #[true, true, true, false, true, false, false, false, false, false, false, false, false, false, false] rfl rfl (by kernel_rfl) (fun _ _ _ h => h) (Or.inl ⟨by rfl, ?_⟩) ?_ ?_
    rotate_left
    · intro w'
      go_simp
      with_reducible rfl
    rotate_left
    · simp only [Act.put, List.setIfInBounds_toArray, List.set_cons_zero, List.set_cons_succ, i64_w, i32_w]
      rfl
    refine pure_ (i := 5) (N := some 18) (v := ?_) (a' := ?_) #[true, true, true, false, true, true, false, false, false, false, false, false, false, false, false] rfl rfl (by kernel_rfl) (fun _ _ _ h => h) (Or.inl ⟨by rfl, ?_⟩) ?_ ?_
    rotate_left
    · intro w'
      go_simp
      with_reducible rfl
    rotate_left
    · simp only [Act.put, List.setIfInBounds_toArray, List.set_cons_zero, List.set_cons_succ, i64_w, i32_w]
      rfl
    refine pure_ (i := 6) (N := some 19) (v := ?_) (a' := ?_) #[true, true, true, false, true, true, true, false, false, false, false, false, false, false, false] rfl rfl (by kernel_rfl) (fun _ _ _ h => h) (Or.inl ⟨by rfl, ?_⟩) ?_ ?_
    rotate_left
    · intro w'
      go_simp
      with_reducible rfl
    rotate_left
    · simp only [Act.put, List.setIfInBounds_toArray, List.set_cons_zero, List.set_cons_succ, i64_w, i32_w]
      rfl
    refine pure_ (i := 7) (N := some 20) (v := ?_) (a' := ?_) #[true, true, true, false, true, true, true, true, false, false, false, false, false, false, false] rfl rfl (by kernel_rfl) (fun _ _ _ h => h) (Or.inl ⟨by rfl, ?_⟩) ?_ ?_
    rotate_left
    · intro w'
      go_simp
      with_reducible rfl
    rotate_left
    · simp only [Act.put, List.setIfInBounds_toArray, List.set_cons_zero, List.set_cons_succ, i64_w, i32_w]
      rfl
    refine pure_ (i := 10) (N := some 23) (v := ?_) (a' := ?_) #[true, true, true, false, true, true, true, true, false, false, true, false, false, false, false] rfl rfl (by kernel_rfl) (fun _ _ _ h => h) (Or.inl ⟨by rfl, ?_⟩) ?_ ?_
    rotate_left
    · intro w'
      go_simp
      with_reducible rfl
    rotate_left
    · simp only [Act.put, List.setIfInBounds_toArray, List.set_cons_zero, List.set_cons_succ, i64_w, i32_w]
      rfl
    refine take_ (i := 3) (N := some 16) (v := ?_) (a' := ?_) #[true, true, true, true, true, true, true, true, false, false, true, false, false, false, false] rfl rfl (by kernel_rfl) (fun _ _ _ h => h) (Or.inl ⟨by rfl, ?_⟩) hHeld ?_ ?_
    rotate_left
    · rintro w' ⟨s0, s1, s2, s3, s4, s5, s6, s7, s8⟩
      go_simp
      with_reducible rfl
    rotate_left
    · simp only [Act.put, List.setIfInBounds_toArray, List.set_cons_zero, List.set_cons_succ, i64_w, i32_w]
      rfl
    refine take_ (i := 8) (N := some 21) (v := ?_) (a' := ?_) #[true, true, true, true, true, true, true, true, true, false, true, false, false, false, false] rfl rfl (by kernel_rfl) (fun _ _ _ h => h) (Or.inl ⟨by rfl, ?_⟩) hHeld ?_ ?_
    rotate_left
    · rintro w' ⟨s0, s1, s2, s3, s4, s5, s6, s7, s8⟩
      go_simp
      with_reducible rfl
    rotate_left
    · simp only [Act.put, List.setIfInBounds_toArray, List.set_cons_zero, List.set_cons_succ, i64_w, i32_w]
      rfl
    refine pure_ (i := 9) (N := some 22) (v := ?_) (a' := ?_) #[true, true, true, true, true, true, true, true, true, true, true, false, false, false, false] rfl rfl (by kernel_rfl) (fun _ _ _ h => h) (Or.inl ⟨by rfl, ?_⟩) ?_ ?_
    rotate_left
    · intro w'
      go_simp
      with_reducible rfl
    rotate_left
    · simp only [Act.put, List.setIfInBounds_toArray, List.set_cons_zero, List.set_cons_succ, i64_w, i32_w]
      rfl
    refine pure_ (i := 11) (N := some 24) (v := ?_) (a' := ?_) #[true, true, true, true, true, true, true, true, true, true, true, true, false, false, false] rfl rfl (by kernel_rfl) (fun _ _ _ h => h) (Or.inl ⟨by rfl, ?_⟩) ?_ ?_
    rotate_left
    · intro w'
      go_simp
      with_reducible rfl
    rotate_left
    · simp only [Act.put, List.setIfInBounds_toArray, List.set_cons_zero, List.set_cons_succ, i64_w, i32_w]
      rfl
    refine pure_ (i := 12) (N := some 25) (v := ?_) (a' := ?_) #[true, true, true, true, true, true, true, true, true, true, true, true, true, false, false] rfl rfl (by kernel_rfl) (fun _ _ _ h => h) (Or.inl ⟨by rfl, ?_⟩) ?_ ?_
    rotate_left
    · intro w'
      go_simp
      with_reducible rfl
    rotate_left
    · simp only [Act.put, List.setIfInBounds_toArray, List.set_cons_zero, List.set_cons_succ, i64_w, i32_w]
      rfl
    refine take_ (i := 13) (N := some 26) (v := ?_) (a' := ?_) #[true, true, true, true, true, true, true, true, true, true, true, true, true, true, false] rfl rfl (by kernel_rfl) (fun _ _ _ h => h) (Or.inl ⟨by rfl, ?_⟩) hHeld ?_ ?_
    rotate_left
    · rintro w' ⟨s0, s1, s2, s3, s4, s5, s6, s7, s8⟩
      go_simp
      with_reducible rfl
    rotate_left
    · simp only [Act.put, List.setIfInBounds_toArray, List.set_cons_zero, List.set_cons_succ, i64_w, i32_w]
      rfl
    refine last_ (i := 14) (N := none) #[true, true, true, true, true, true, true, true, true, true, true, true, true, true, true] rfl rfl (by kernel_rfl) (by decide) (fun K hK => ?_)
    refine skip_store_box (by rfl) rfl rfl HKd.out.top rfl x info_cell (by rfl) (by rfl) ?_
    intro w14 hX14 hg14
    have HX14 := Aside0.mk hX14
    have HG14 := Aside0.mk hg14
    clear hX14 hg14
    refine hK.out _ _ ?_
    clear hK K
    refine done_ (by kernel_rfl) ?_
    clear hw1 hq1 hq2 hq3
    go_wp2
    refine bodyPost_ret (results_single rfl (.cell gb 32 _ (0, 0) _ rfl HX14.out Tryd.underlying32 rfl (by kernel_rfl) .nil)) rfl ?_
    exact ⟨rfl, below_new HBd.out HG14.out HGB.out⟩
end Go.Proofs.YtcfndcjbgalnpaaDoor.Hand
namespace Go.Proofs.YtcfndcjbgalnpaaDoor.Hand
open Go.RowKit Go.Proofs.YtcfndcjbgalnpaaDoorW.PrintWords Go.Proofs.YtcfndcjbgalnpaaDoorW.PrintLast
set_option maxRecDepth 100000 in
set_option maxHeartbeats 4000000 in
theorem rput_calls {w : World} {base g b r c : Nat} {L : List C5} (h : RefAt w base g b r c L) (row col : Int) (x : C5) (m : Bool) (hm : PD.tikref6_May.f 9 x.r x.f x.g x.b x.w = some m) (hwid : m = true → x.w = 0 ∨ x.w = 1 ∨ x.w = 2) :
    Calls Tryd.prog 44 #[.pointer (some ⟨g, 0, none⟩), .int .i64 row, .int .i64 col, x.agg] w (fun e w' => e = .returned (.bool (putOk r c row col x m)) ∧ RowAt w' b (putG r c L row col x m) ∧ w.grownBy w' (some b)) := by
  have HG := Aside0.mk h
  have HM := Aside0.mk hm
  have HWI := Aside0.mk hwid
  clear h hm hwid
  have nope : putOk r c row col x m = false → ∀ W, Below w.heap.size w W → ∀ e : Ending, e = .returned (.bool false) → (e = .returned (.bool (putOk r c row col x m)) ∧ RowAt W b (putG r c L row col x m) ∧ w.grownBy W (some b)) := by
    intro ho W hb e he
    rw [ho, he]
    refine ⟨rfl, ?_, grown_of_none hb⟩
    unfold putG
    rw [ho, if_neg (by decide)]
    exact HG.out.row.below hb
  have NOPE := Aside0.mk nope
  clear nope
  go_enter Tryd.func44, Tryd.ntmps44
  go_wp2_with ((with_reducible refine gate_dst (N := 7) rfl ?_); refine box_event ?hg (N := 7) ?hd (cs := #[.int .i32 x.r, .int .i64 x.f, .int .i64 x.g, .int .i64 x.b, .int .i64 x.w]) (t := 32) ?hr ?_; (case hd => rfl); (case hg => rfl); (case hr => first | (go_simp; done) | (go_simp; rfl)); intro gb hg w3 hbox hb; have HX := Aside0.mk hbox; have HB3 := Aside0.mk hb; have HGB := Aside0.mk (Nat.le_of_eq hg.symm); clear hbox hb hg)
  refine (there_calls (HG.out.below HB3.out) row col).mono ?_
  rintro e w1 ⟨rfl, rfl⟩
  cases hi : isB r c row col with
  | false =>
    go_wp2_with fail
    go_ret
    exact NOPE.out (by rw [putOk, hi]; rfl) _ HB3.out _ rfl
  | true =>
  have z0 : w1.cell? ⟨gb, 0, none⟩ = some (.int .i32 x.r) := (blk_cell HX.out 0).trans rfl
  have z1 : w1.cell? ⟨gb, 1, none⟩ = some (.int .i64 x.f) := (blk_cell HX.out 1).trans rfl
  have z2 : w1.cell? ⟨gb, 2, none⟩ = some (.int .i64 x.g) := (blk_cell HX.out 2).trans rfl
  have z3 : w1.cell? ⟨gb, 3, none⟩ = some (.int .i64 x.b) := (blk_cell HX.out 3).trans rfl
  have z4 : w1.cell? ⟨gb, 4, none⟩ = some (.int .i64 x.w) := (blk_cell HX.out 4).trans rfl
  go_wp2_with fail
  refine (PD.tikref6_May.calls 9 x.r x.f x.g x.b x.w m w1 HM.out).mono ?_
  rintro e w2 ⟨rfl, hb2⟩
  have HB5 := Aside0.mk (below_step HB3.out hb2)
  have HX2 := Aside0.mk (blk_below HX.out hb2)
  clear hb2 z0 z1 z2 z3 z4
  cases m with
  | false =>
    go_wp2_with fail
    go_ret
    exact NOPE.out (by rw [putOk, hi]; rfl) _ HB5.out _ rfl
  | true =>
  have z4 : w2.cell? ⟨gb, 4, none⟩ = some (.int .i64 x.w) := (blk_cell HX2.out 4).trans rfl
  by_cases hw2 : x.w = 2
  · have hw2' : (x.w == 2) = true := beq_iff_eq.2 hw2
    go_wp2_with fail
    go_ret
    exact NOPE.out (by rw [putOk, hi, bne, hw2']; rfl) _ HB5.out _ rfl
  have hwn : (x.w == 2) = false := beq_eq_false_iff_ne.2 hw2
  obtain ⟨p1, p2, p3, p4⟩ : 0 ≤ row ∧ row < r ∧ 0 ≤ col ∧ col < c := by simpa [isB] using hi
  have ho : putOk r c row col x true = true := by rw [putOk, hi, bne, hwn]; rfl
  obtain ⟨n, rfl⟩ := Int.eq_ofNat_of_zero_le p1
  obtain ⟨j, rfl⟩ := Int.eq_ofNat_of_zero_le p3
  have hn : n < r := by omega
  have hj : j < c := by omega
  have HWC := Aside0.mk (show x.w = 0 ∨ x.w = 1 by rcases HWI.out rfl with h | h | h <;> first | exact .inl h | exact .inr h | exact absurd h hw2)
  have hpg : putG r c L (n : Int) (j : Int) x true = putL c L n j x := by unfold putG; rw [ho, if_pos rfl, Int.toNat_natCast, Int.toNat_natCast]
  have HOK := Aside0.mk ho
  have HPG := Aside0.mk hpg
  clear p1 p2 p3 p4 hw2 ho hpg NOPE HWI hi
  have hle := place_le (c := c) hn
  rw [← HG.out.len] at hle
  have hsm := HG.out.small
  have hpl := part_length L (n * c) c hle
  have hc1 := HG.out.c1
  have HPL : Aside0 (putL c L n j x = splice L (n * c) (mendL (laid ((L.drop (n * c)).take c) j x))) := ⟨rfl⟩
  have HMR : Aside0 (∀ L' : List C5, mendRow c L' n = splice L' (n * c) (mendL ((L'.drop (n * c)).take c))) := ⟨fun _ => rfl⟩
  obtain ⟨o, ho⟩ : ∃ o, n * c = o := ⟨_, rfl⟩
  obtain ⟨p, hp⟩ : ∃ p, o + j = p := ⟨_, rfl⟩
  rw [ho] at hle hpl HPL HMR
  have hq1 : (o : Int) + (j : Int) = (p : Int) := by omega
  have hpL : p < L.length := by omega
  have HLP := Aside0.mk hpL
  have HPE := Aside0.mk hp
  have hc2 := HG.out.c2
  have HJA := Aside0.mk (show j + 1 = c → (j : Int) = (c : Int) - 1 by omega)
  have HJB := Aside0.mk (show ¬ j + 1 = c → ¬ (j : Int) = (c : Int) - 1 by omega)
  have HJD := Aside0.mk (show ¬ j + 1 = c → j + 1 < c by omega)
  have HJE := Aside0.mk (show j + 1 < c → p + 1 < L.length by omega)
  have HJG := Aside0.mk (show j + 1 < c → 0 ≤ (p : Int) + 1 ∧ (p : Int) + 1 < (L.length : Int) by omega)
  have HJF : Aside0 (p < L.length → wrap64 ((p : Int) + 1) = (p : Int) + 1) := ⟨by intro _; unfold wrap64; omega⟩
  have hnb0 : gb ≠ b := by have := HG.out.row.lt; have := HGB.out; omega
  have HW1 := Aside0.mk (wrap_mul ho (by omega))
  have HCQ : Aside0 (wrap64 ((c : Int) - 1) = (c : Int) - 1) := ⟨by unfold wrap64; omega⟩
  have HQ3 : Aside0 (wrap64 (p : Int) = (p : Int)) := ⟨by unfold wrap64; omega⟩
  obtain ⟨cap, k1, k2, hk⟩ := HG.out.kbase HB5.out
  have hnb := hnb0
  have HK2 := Aside0.mk (hk.more (k := gb) HX2.out hnb)
  have HR2 := Aside0.mk (HG.out.row.below HB5.out)
  have zc := hk.c1
  have zd := hk.c2
  have hw1 := HW1.out
  have hq3 := HQ3.out
  have hq2 : IntKind.i64.wrap (p : Int) = (p : Int) := by rw [i64_w]; exact hq3
  have hcq3 := HCQ.out
  have hcq2 : IntKind.i64.wrap ((c : Int) - 1) = (c : Int) - 1 := by rw [i64_w]; exact hcq3
  clear hk HX2 HX hnb hnb0 ho hp HB3
  have fin : ∀ (L' : List C5) (W W' : World), L'.length = L.length → ((L'.drop o).take c) = laid ((L.drop o).take c) j x → (∀ M : List C5, M.length = c → splice L' o M = splice L o M) → w.grownBy W (some b) →
      RowAt W' b (mendRow c L' n) → W.grownBy W' (some b) → RowAt W' b (putL c L n j x) ∧ w.grownBy W' (some b) := by
    intro L' W W' h0 h1 h2 h3 h4 h5
    rw [HMR.out, putL_end h1 h2 hpl, ← HPL.out] at h4
    exact ⟨h4, grown_trans h3 h5⟩
  have FIN := Aside0.mk fin
  clear fin
  have hx01 : x.w = 0 → ¬ x.w = 1 := fun h => by rw [h]; decide
  have hx10 : x.w = 1 → ¬ x.w = 0 := fun h => by rw [h]; decide
  have H01 := Aside0.mk hx01
  have H10 := Aside0.mk hx10
  clear hx01 hx10
  rcases HWC.out with hw | hw
  · have hw0 : (x.w == 0) = true := beq_iff_eq.2 hw
    have hx1 : ¬ x.w = 1 := H01.out hw
    have HX1 := Aside0.mk hx1
    clear hw hx1
    go_wp2
    have HKd := Aside0.mk (HK2.out.next (below_drew (Below.refl _ _)))
    have HRd := Aside0.mk (HR2.out.below (below_drew (Below.refl _ _)))
    clear z4 zc zd
    refine start_ (n := 8) (S := fun w' => w'.cell? ⟨g, 2, none⟩ = some (.slice (some ⟨b, 0, none⟩) L.length cap) ∧ w'.cell? ⟨gb, 0, none⟩ = some (.int .i32 x.r) ∧ w'.cell? ⟨gb, 1, none⟩ = some (.int .i64 x.f) ∧ w'.cell? ⟨gb, 2, none⟩ = some (.int .i64 x.g) ∧ w'.cell? ⟨gb, 3, none⟩ = some (.int .i64 x.b) ∧ w'.cell? ⟨gb, 4, none⟩ = some (.int .i64 x.w) ∧ KBase w g b r c L.length cap [(gb, .cells #[.int .i32 x.r, .int .i64 x.f, .int .i64 x.g, .int .i64 x.b, .int .i64 x.w] 32 (0, 0))] w' ∧ RowAt w' b L) (ds := [7]) #[false, false, false, false, false, false, false, false] (by kernel_rfl) rfl rfl ⟨HKd.out.c2, (blk_cell HKd.out.top 0).trans rfl, (blk_cell HKd.out.top 1).trans rfl, (blk_cell HKd.out.top 2).trans rfl, (blk_cell HKd.out.top 3).trans rfl, (blk_cell HKd.out.top 4).trans rfl, HKd.out, HRd.out⟩ (fun hHeld => ?_)
    refine pure_ (i := 0) (N := some 54) (v := ?_) (a' := ?_) #[true, false, false, false, false, false, false, false] rfl rfl (by kernel_rfl) (fun _ _ _ h => h) (Or.inl ⟨by rfl, ?_⟩) ?_ ?_
    rotate_left
    · intro w'
      go_simp
      with_reducible rfl
    rotate_left
    · simp only [Act.put, List.setIfInBounds_toArray, List.set_cons_zero, List.set_cons_succ, i64_w, i32_w]
      rfl
    refine pure_ (i := 1) (N := some 55) (v := ?_) (a' := ?_) #[true, true, false, false, false, false, false, false] rfl rfl (by kernel_rfl) (fun _ _ _ h => h) (Or.inl ⟨by rfl, ?_⟩) ?_ ?_
    rotate_left
    · intro w'
      go_simp
      with_reducible rfl
    rotate_left
    · simp only [Act.put, List.setIfInBounds_toArray, List.set_cons_zero, List.set_cons_succ, i64_w, i32_w]
      rfl
    refine pure_ (i := 2) (N := some 56) (v := ?_) (a' := ?_) #[true, true, true, false, false, false, false, false] rfl rfl (by kernel_rfl) (fun _ _ _ h => h) (Or.inl ⟨by rfl, ?_⟩) ?_ ?_
    rotate_left
    · intro w'
      go_simp
      with_reducible rfl
    rotate_left
    · simp only [Act.put, List.setIfInBounds_toArray, List.set_cons_zero, List.set_cons_succ, i64_w, i32_w]
      rfl
    refine pure_ (i := 4) (N := some 58) (v := ?_) (a' := ?_) #[true, true, true, false, true, false, false, false] rfl rfl (by kernel_rfl) (fun _ _ _ h => h) (Or.inl ⟨by rfl, ?_⟩) ?_ ?_
    rotate_left
    · intro w'
      go_simp
      with_reducible rfl
    rotate_left
    · simp only [Act.put, List.setIfInBounds_toArray, List.set_cons_zero, List.set_cons_succ, i64_w, i32_w]
      rfl
    refine take_ (i := 3) (N := some 57) (v := ?_) (a' := ?_) #[true, true, true, true, true, false, false, false] rfl rfl (by kernel_rfl) (fun _ _ _ h => h) (Or.inl ⟨by rfl, ?_⟩) hHeld ?_ ?_
    rotate_left
    · rintro w' ⟨s0, s1, s2, s3, s4, s5, s6, s7⟩
      go_simp
      with_reducible rfl
    rotate_left
    · simp only [Act.put, List.setIfInBounds_toArray, List.set_cons_zero, List.set_cons_succ, i64_w, i32_w]
      rfl
    refine take_ (i := 5) (N := some 59) (v := ?_) (a' := ?_) #[true, true, true, true, true, true, false, false] rfl rfl (by kernel_rfl) (fun _ _ _ h => h) (Or.inl ⟨by rfl, ?_⟩) hHeld ?_ ?_
    rotate_left
    · rintro w' ⟨s0, s1, s2, s3, s4, s5, s6, s7⟩
      go_simp
      with_reducible rfl
    rotate_left
    · simp only [Act.put, List.setIfInBounds_toArray, List.set_cons_zero, List.set_cons_succ, i64_w, i32_w]
      rfl
    refine pure_ (i := 6) (N := some 60) (v := ?_) (a' := ?_) #[true, true, true, true, true, true, true, false] rfl rfl (by kernel_rfl) (fun _ _ _ h => h) (Or.inl ⟨by rfl, ?_⟩) ?_ ?_
    rotate_left
    · intro w'
      go_simp
      with_reducible rfl
    rotate_left
    · simp only [Act.put, List.setIfInBounds_toArray, List.set_cons_zero, List.set_cons_succ, i64_w, i32_w]
      rfl
    refine last_ (i := 7) (N := none) #[true, true, true, true, true, true, true, true] rfl rfl (by kernel_rfl) (by decide) (fun K hK => ?_)
    refine skip_store_cell (by rfl) rfl rfl HRd.out (p) HLP.out x info_cell (by rfl) (Nat.mul_comm _ _) (by rfl) ?_
    intro w14 hR14 hg14
    have HK14 := Aside0.mk (HKd.out.wrote hR14 hg14)
    have HR14 := Aside0.mk hR14
    clear hR14 hg14
    refine hK.out _ _ ?_
    clear hK K
    refine done_ (by kernel_rfl) ?_
    have hl' : (L.set p x).length = L.length := by simp
    go_wp2_with fail
    refine (rmend_calls (HG.out.wrote HK14.out.grown HR14.out hl') n hn).mono ?_
    rintro e w10 ⟨rfl, hR10, hg10⟩
    go_wp2
    go_ret
    rw [HOK.out, HPG.out]
    refine ⟨rfl, FIN.out (L.set p x) w14 w10 hl' ?_ (fun M hM => ?_) HK14.out.grown hR10 hg10⟩
    · rw [← HPE.out, part_set, laid, if_neg HX1.out]
    · rw [← HPE.out, splice_set L M o j x (by rw [hM]; exact hj)]
  have hw0 : (x.w == 0) = false := beq_eq_false_iff_ne.2 (H10.out hw)
  have HX1 := Aside0.mk hw
  clear hw
  by_cases hjc : j + 1 = c
  · have e1 : ((j : Int) == (c : Int) - 1) = true := beq_iff_eq.2 (HJA.out hjc)
    have HJC := Aside0.mk hjc
    clear hjc
    go_wp2
    have HKd := Aside0.mk (HK2.out.next (below_drew (Below.refl _ _)))
    have HRd := Aside0.mk (HR2.out.below (below_drew (Below.refl _ _)))
    clear z4 zc zd
    refine start_ (n := 10) (S := fun w' => w'.cell? ⟨g, 2, none⟩ = some (.slice (some ⟨b, 0, none⟩) L.length cap) ∧ w'.cell? ⟨gb, 0, none⟩ = some (.int .i32 x.r) ∧ w'.cell? ⟨gb, 1, none⟩ = some (.int .i64 x.f) ∧ w'.cell? ⟨gb, 2, none⟩ = some (.int .i64 x.g) ∧ w'.cell? ⟨gb, 3, none⟩ = some (.int .i64 x.b) ∧ w'.cell? ⟨gb, 4, none⟩ = some (.int .i64 x.w) ∧ KBase w g b r c L.length cap [(gb, .cells #[.int .i32 x.r, .int .i64 x.f, .int .i64 x.g, .int .i64 x.b, .int .i64 x.w] 32 (0, 0))] w' ∧ RowAt w' b L) (ds := [9]) #[false, false, false, false, false, false, false, false, false, false] (by kernel_rfl) rfl rfl ⟨HKd.out.c2, (blk_cell HKd.out.top 0).trans rfl, (blk_cell HKd.out.top 1).trans rfl, (blk_cell HKd.out.top 2).trans rfl, (blk_cell HKd.out.top 3).trans rfl, (blk_cell HKd.out.top 4).trans rfl, HKd.out, HRd.out⟩ (fun hHeld => ?_)
    refine pure_ (i := 0) (N := some 69) (v := ?_) (a' := ?_) #[true, false, false, false, false, false, false, false, false, false] rfl rfl (by kernel_rfl) (fun _ _ _ h => h) (Or.inl ⟨by rfl, ?_⟩) ?_ ?_
    rotate_left
    · intro w'
      go_simp
      with_reducible rfl
    rotate_left
    · simp only [Act.put, List.setIfInBounds_toArray, List.set_cons_zero, List.set_cons_succ, i64_w, i32_w]
      rfl
    refine pure_ (i := 1) (N := some 70) (v := ?_) (a' := ?_) #[true, true, false, false, false, false, false, false, false, false] rfl rfl (by kernel_rfl) (fun _ _ _ h => h) (Or.inl ⟨by rfl, ?_⟩) ?_ ?_
    rotate_left
    · intro w'
      go_simp
      with_reducible rfl
    rotate_left
    · simp only [Act.put, List.setIfInBounds_toArray, List.set_cons_zero, List.set_cons_succ, i64_w, i32_w]
      rfl
    refine pure_ (i := 2) (N := some 71) (v := ?_) (a' := ?_) #[true, true, true, false, false, false, false, false, false, false] rfl rfl (by kernel_rfl) (fun _ _ _ h => h) (Or.inl ⟨by rfl, ?_⟩) ?_ ?_
    rotate_left
    · intro w'
      go_simp
      with_reducible rfl
    rotate_left
    · simp only [Act.put, List.setIfInBounds_toArray, List.set_cons_zero, List.set_cons_succ, i64_w, i32_w]
      rfl
    refine pure_ (i := 4) (N := some 73) (v := ?_) (a' := ?_) #[true, true, true, false, true, false, false, false, false, false] rfl rfl (by kernel_rfl) (fun _ _ _ h => h) (Or.inl ⟨by rfl, ?_⟩) ?_ ?_
    rotate_left
    · intro w'
      go_simp
      with_reducible rfl
    rotate_left
    · simp only [Act.put, List.setIfInBounds_toArray, List.set_cons_zero, List.set_cons_succ, i64_w, i32_w]
      rfl
    refine pure_ (i := 5) (N := some 74) (v := ?_) (a' := ?_) #[true, true, true, false, true, true, false, false, false, false] rfl rfl (by kernel_rfl) (fun _ _ _ h => h) (Or.inl ⟨by rfl, ?_⟩) ?_ ?_
    rotate_left
    · intro w'
      go_simp
      with_reducible rfl
    rotate_left
    · simp only [Act.put, List.setIfInBounds_toArray, List.set_cons_zero, List.set_cons_succ, i64_w, i32_w]
      rfl
    refine take_ (i := 3) (N := some 72) (v := ?_) (a' := ?_) #[true, true, true, true, true, true, false, false, false, false] rfl rfl (by kernel_rfl) (fun _ _ _ h => h) (Or.inl ⟨by rfl, ?_⟩) hHeld ?_ ?_
    rotate_left
    · rintro w' ⟨s0, s1, s2, s3, s4, s5, s6, s7⟩
      go_simp
      with_reducible rfl
    rotate_left
    · simp only [Act.put, List.setIfInBounds_toArray, List.set_cons_zero, List.set_cons_succ, i64_w, i32_w]
      rfl
    refine take_ (i := 6) (N := some 75) (v := ?_) (a' := ?_) #[true, true, true, true, true, true, true, false, false, false] rfl rfl (by kernel_rfl) (fun _ _ _ h => h) (Or.inl ⟨by rfl, ?_⟩) hHeld ?_ ?_
    rotate_left
    · rintro w' ⟨s0, s1, s2, s3, s4, s5, s6, s7⟩
      go_simp
      with_reducible rfl
    rotate_left
    · simp only [Act.put, List.setIfInBounds_toArray, List.set_cons_zero, List.set_cons_succ, i64_w, i32_w]
      rfl
    refine one_ (i := 7) (N := some 76) #[true, true, true, true, true, true, true, true, false, false] rfl rfl (by kernel_rfl) (by decide) (fun K hK => ?_)
    refine goes_ Tryd.func43 (by kernel_rfl) rfl #[.agg #[.int .i64 x.f, .int .i64 x.g, .int .i64 x.b]] (by rfl) rfl rfl (by simp only [List.map_toArray, List.map_cons, List.map_nil]; rfl) ?_
    refine (PD.tikref6_Blank.calls x.f x.g x.b 32 0 0 x.b 0 _ rfl).mono ?_
    rintro e w6 ⟨rfl, hbw6⟩
    refine ⟨_, rfl, ?_⟩
    have HK6 := Aside0.mk (HKd.out.next hbw6)
    have HR6 := Aside0.mk (HRd.out.below hbw6)
    clear hbw6
    refine hK.out _ _ ⟨HK6.out.c2, (blk_cell HK6.out.top 0).trans rfl, (blk_cell HK6.out.top 1).trans rfl, (blk_cell HK6.out.top 2).trans rfl, (blk_cell HK6.out.top 3).trans rfl, (blk_cell HK6.out.top 4).trans rfl, HK6.out, HR6.out⟩ (fun hHeld => ?_)
    clear hK K
    refine norm_ (a' := ?_) ?_ ?_
    rotate_left
    · show Act.put _ (some 76) _ = _
      simp only [Act.put, List.setIfInBounds_toArray, List.set_cons_zero, List.set_cons_succ, i64_w, i32_w]
      rfl
    refine pure_ (i := 8) (N := some 77) (v := ?_) (a' := ?_) #[true, true, true, true, true, true, true, true, true, false] rfl rfl (by kernel_rfl) (fun _ _ _ h => h) (Or.inl ⟨by rfl, ?_⟩) ?_ ?_
    rotate_left
    · intro w'
      go_simp
      with_reducible rfl
    rotate_left
    · simp only [Act.put, List.setIfInBounds_toArray, List.set_cons_zero, List.set_cons_succ, i64_w, i32_w]
      rfl
    refine last_ (i := 9) (N := none) #[true, true, true, true, true, true, true, true, true, true] rfl rfl (by kernel_rfl) (by decide) (fun K hK => ?_)
    refine skip_store_cell (by rfl) rfl rfl HR6.out (p) HLP.out (blankC x.b) info_cell (by rfl) (Nat.mul_comm _ _) (by rfl) ?_
    intro w14 hR14 hg14
    have HK14 := Aside0.mk (HK6.out.wrote hR14 hg14)
    have HR14 := Aside0.mk hR14
    clear hR14 hg14
    refine hK.out _ _ ?_
    clear hK K
    refine done_ (by kernel_rfl) ?_
    have hl' : (L.set p (blankC x.b)).length = L.length := by simp
    go_wp2_with fail
    refine (rmend_calls (HG.out.wrote HK14.out.grown HR14.out hl') n hn).mono ?_
    rintro e w10 ⟨rfl, hR10, hg10⟩
    go_wp2
    go_ret
    rw [HOK.out, HPG.out]
    refine ⟨rfl, FIN.out (L.set p (blankC x.b)) w14 w10 hl' ?_ (fun M hM => ?_) HK14.out.grown hR10 hg10⟩
    · rw [← HPE.out, part_set, laid, if_pos HX1.out, if_pos (by rw [hpl]; exact HJC.out), List.set_set]
    · rw [← HPE.out, splice_set L M o j _ (by rw [hM]; exact hj)]
  · have e1 : ((j : Int) == (c : Int) - 1) = false := beq_eq_false_iff_ne.2 (HJB.out hjc)
    have HJC := Aside0.mk hjc
    have hj1 : j + 1 < c := HJD.out hjc
    have hpL1 := HJE.out hj1
    have hpI := HJG.out hj1
    have HLP1 : Aside0 (p + 1 < (L.set p x).length) := ⟨by rw [List.length_set]; exact hpL1⟩
    have hp3 := HJF.out hpL
    have hp2 : IntKind.i64.wrap ((p : Int) + 1) = (p : Int) + 1 := by rw [i64_w]; exact hp3
    clear hjc
    go_wp2
    have HKd := Aside0.mk (HK2.out.next (below_drew (Below.refl _ _)))
    have HRd := Aside0.mk (HR2.out.below (below_drew (Below.refl _ _)))
    clear z4 zc zd
    refine start_ (n := 19) (S := fun w' => w'.cell? ⟨g, 2, none⟩ = some (.slice (some ⟨b, 0, none⟩) L.length cap) ∧ w'.cell? ⟨gb, 0, none⟩ = some (.int .i32 x.r) ∧ w'.cell? ⟨gb, 1, none⟩ = some (.int .i64 x.f) ∧ w'.cell? ⟨gb, 2, none⟩ = some (.int .i64 x.g) ∧ w'.cell? ⟨gb, 3, none⟩ = some (.int .i64 x.b) ∧ w'.cell? ⟨gb, 4, none⟩ = some (.int .i64 x.w) ∧ KBase w g b r c L.length cap [(gb, .cells #[.int .i32 x.r, .int .i64 x.f, .int .i64 x.g, .int .i64 x.b, .int .i64 x.w] 32 (0, 0))] w') (ds := []) #[false, false, false, false, false, false, false, false, false, false, false, false, false, false, false, false, false, false, false] (by kernel_rfl) rfl rfl ⟨HKd.out.c2, (blk_cell HKd.out.top 0).trans rfl, (blk_cell HKd.out.top 1).trans rfl, (blk_cell HKd.out.top 2).trans rfl, (blk_cell HKd.out.top 3).trans rfl, (blk_cell HKd.out.top 4).trans rfl, HKd.out⟩ (fun hHeld => ?_)
    refine pure_ (i := 0) (N := some 33) (v := ?_) (a' := ?_) #[true, false, false, false, false, false, false, false, false, false, false, false, false, false, false, false, false, false, false] rfl rfl (by kernel_rfl) (fun _ _ _ h => h) (Or.inl ⟨by rfl, ?_⟩) ?_ ?_
    rotate_left
    · intro w'
      go_simp
      with_reducible rfl
    rotate_left
    · simp only [Act.put, List.setIfInBounds_toArray, List.set_cons_zero, List.set_cons_succ, i64_w, i32_w]
      rfl
    refine pure_ (i := 1) (N := some 34) (v := ?_) (a' := ?_) #[true, true, false, false, false, false, false, false, false, false, false, false, false, false, false, false, false, false, false] rfl rfl (by kernel_rfl) (fun _ _ _ h => h) (Or.inl ⟨by rfl, ?_⟩) ?_ ?_
    rotate_left
    · intro w'
      go_simp
      with_reducible rfl
    rotate_left
    · simp only [Act.put, List.setIfInBounds_toArray, List.set_cons_zero, List.set_cons_succ, i64_w, i32_w]
      rfl
    refine pure_ (i := 2) (N := some 35) (v := ?_) (a' := ?_) #[true, true, true, false, false, false, false, false, false, false, false, false, false, false, false, false, false, false, false] rfl rfl (by kernel_rfl) (fun _ _ _ h => h) (Or.inl ⟨by rfl, ?_⟩) ?_ ?_
    rotate_left
    · intro w'
      go_simp
      with_reducible rfl
    rotate_left
    · simp only [Act.put, List.setIfInBounds_toArray, List.set_cons_zero, List.set_cons_succ, i64_w, i32_w]
      rfl
    refine pure_ (i := 4) (N := some 37) (v := ?_) (a' := ?_) #[true, true, true, false, true, false, false, false, false, false, false, false, false, false, false, false, false, false, false] rfl rfl (by kernel_rfl) (fun _ _ _ h => h) (Or.inl ⟨by rfl, ?_⟩) ?_ ?_
    rotate_left
    · intro w'
      go_simp
      with_reducible rfl
    rotate_left
    · simp only [Act.put, List.setIfInBounds_toArray, List.set_cons_zero, List.set_cons_succ, i64_w, i32_w]
      rfl
    refine pure_ (i := 5) (N := some 38) (v := ?_) (a' := ?_) #[true, true, true, false, true, true, false, false, false, false, false, false, false, false, false, false, false, false, false] rfl rfl (by kernel_rfl) (fun _ _ _ h => h) (Or.inl ⟨by rfl, ?_⟩) ?_ ?_
    rotate_left
    · intro w'
      go_simp
      with_reducible rfl
    rotate_left
    · simp only [Act.put, List.setIfInBounds_toArray, List.set_cons_zero, List.set_cons_succ, i64_w, i32_w]
      rfl
    refine pure_ (i := 6) (N := some 39) (v := ?_) (a' := ?_) #[true, true, true, false, true, true, true, false, false, false, false, false, false, false, false, false, false, false, false] rfl rfl (by kernel_rfl) (fun _ _ _ h => h) (Or.inl ⟨by rfl, ?_⟩) ?_ ?_
    rotate_left
    · intro w'
      go_simp
      with_reducible rfl
    rotate_left
    · simp only [Act.put, List.setIfInBounds_toArray, List.set_cons_zero, List.set_cons_succ, i64_w, i32_w]
      rfl
    refine pure_ (i := 7) (N := some 40) (v := ?_) (a' := ?_) #[true, true, true, false, true, true, true, true, false, false, false, false, false, false, false, false, false, false, false] rfl rfl (by kernel_rfl) (fun _ _ _ h => h) (Or.inl ⟨by rfl, ?_⟩) ?_ ?_
    rotate_left
    · intro w'
      go_simp
      with_reducible rfl
    rotate_left
    · simp only [Act.put, List.setIfInBounds_toArray, List.set_cons_zero, List.set_cons_succ, i64_w, i32_w]
      rfl
    refine pure_ (i := 9) (N := some 42) (v := ?_) (a' := ?_) #[true, true, true, false, true, true, true, true, false, true, false, false, false, false, false, false, false, false, false] rfl rfl (by kernel_rfl) (fun _ _ _ h => h) (Or.inl ⟨by rfl, ?_⟩) ?_ ?_
    rotate_left
    · intro w'
      go_simp
      with_reducible rfl
    rotate_left
    · simp only [Act.put, List.setIfInBounds_toArray, List.set_cons_zero, List.set_cons_succ, i64_w, i32_w]
      rfl
    refine pure_ (i := 10) (N := some 43) (v := ?_) (a' := ?_) #[true, true, true, false, true, true, true, true, false, true, true, false, false, false, false, false, false, false, false] rfl rfl (by kernel_rfl) (fun _ _ _ h => h) (Or.inl ⟨by rfl, ?_⟩) ?_ ?_
    rotate_left
    · intro w'
      go_simp
      with_reducible rfl
    rotate_left
    · simp only [Act.put, List.setIfInBounds_toArray, List.set_cons_zero, List.set_cons_succ, i64_w, i32_w]
      rfl
    refine pure_ (i := 12) (N := some 45) (v := ?_) (a' := ?_) #[true, true, true, false, true, true, true, true, false, true, true, false, true, false, false, false, false, false, false] rfl rfl (by kernel_rfl) (fun _ _ _ h => h) (Or.inl ⟨by rfl, ?_⟩) ?_ ?_
    rotate_left
    · intro w'
      go_simp
      with_reducible rfl
    rotate_left
    · simp only [Act.put, List.setIfInBounds_toArray, List.set_cons_zero, List.set_cons_succ, i64_w, i32_w]
      rfl
    refine take_ (i := 3) (N := some 36) (v := ?_) (a' := ?_) #[true, true, true, true, true, true, true, true, false, true, true, false, true, false, false, false, false, false, false] rfl rfl (by kernel_rfl) (fun _ _ _ h => h) (Or.inl ⟨by rfl, ?_⟩) hHeld ?_ ?_
    rotate_left
    · rintro w' ⟨s0, s1, s2, s3, s4, s5, s6⟩
      go_simp
      with_reducible rfl
    rotate_left
    · simp only [Act.put, List.setIfInBounds_toArray, List.set_cons_zero, List.set_cons_succ, i64_w, i32_w]
      rfl
    refine take_ (i := 8) (N := some 41) (v := ?_) (a' := ?_) #[true, true, true, true, true, true, true, true, true, true, true, false, true, false, false, false, false, false, false] rfl rfl (by kernel_rfl) (fun _ _ _ h => h) (Or.inl ⟨by rfl, ?_⟩) hHeld ?_ ?_
    rotate_left
    · rintro w' ⟨s0, s1, s2, s3, s4, s5, s6⟩
      go_simp
      with_reducible rfl
    rotate_left
    · simp only [Act.put, List.setIfInBounds_toArray, List.set_cons_zero, List.set_cons_succ, i64_w, i32_w]
      rfl
    refine take_ (i := 11) (N := some 44) (v := ?_) (a' := ?_) #[true, true, true, true, true, true, true, true, true, true, true, true, true, false, false, false, false, false, false] rfl rfl (by kernel_rfl) (fun _ _ _ h => h) (Or.inl ⟨by rfl, ?_⟩) hHeld ?_ ?_
    rotate_left
    · rintro w' ⟨s0, s1, s2, s3, s4, s5, s6⟩
      go_simp
      with_reducible rfl
    rotate_left
    · simp only [Act.put, List.setIfInBounds_toArray, List.set_cons_zero, List.set_cons_succ, i64_w, i32_w]
      rfl
    refine pure_ (i := 15) (N := some 48) (v := ?_) (a' := ?_) #[true, true, true, true, true, true, true, true, true, true, true, true, true, false, false, true, false, false, false] rfl rfl (by kernel_rfl) (fun _ _ _ h => h) (Or.inl ⟨by rfl, ?_⟩) ?_ ?_
    rotate_left
    · intro w'
      go_simp
      with_reducible rfl
    rotate_left
    · simp only [Act.put, List.setIfInBounds_toArray, List.set_cons_zero, List.set_cons_succ, i64_w, i32_w]
      rfl
    refine take_ (i := 13) (N := some 46) (v := ?_) (a' := ?_) #[true, true, true, true, true, true, true, true, true, true, true, true, true, true, false, true, false, false, false] rfl rfl (by kernel_rfl) (fun _ _ _ h => h) (Or.inl ⟨by rfl, ?_⟩) hHeld ?_ ?_
    rotate_left
    · rintro w' ⟨s0, s1, s2, s3, s4, s5, s6⟩
      go_simp
      with_reducible rfl
    rotate_left
    · simp only [Act.put, List.setIfInBounds_toArray, List.set_cons_zero, List.set_cons_succ, i64_w, i32_w]
      rfl
    refine pure_ (i := 14) (N := some 47) (v := ?_) (a' := ?_) #[true, true, true, true, true, true, true, true, true, true, true, true, true, true, true, true, false, false, false] rfl rfl (by kernel_rfl) (fun _ _ _ h => h) (Or.inl ⟨by rfl, ?_⟩) ?_ ?_
    rotate_left
    · intro w'
      go_simp
      with_reducible rfl
    rotate_left
    · simp only [Act.put, List.setIfInBounds_toArray, List.set_cons_zero, List.set_cons_succ, i64_w, i32_w]
      rfl
    refine one_ (i := 16) (N := none) #[true, true, true, true, true, true, true, true, true, true, true, true, true, true, true, true, true, false, false] rfl rfl (by kernel_rfl) (by decide) (fun K hK => ?_)
    refine skip_store_cell (by rfl) rfl rfl HRd.out (p) HLP.out x info_cell (by rfl) (Nat.mul_comm _ _) (by rfl) ?_
    intro w13 hR13 hg13
    have HK13 := Aside0.mk (HKd.out.wrote hR13 hg13)
    have HR13 := Aside0.mk hR13
    clear hR13 hg13
    refine hK.out _ _ ⟨HK13.out.c2, (blk_cell HK13.out.top 0).trans rfl, (blk_cell HK13.out.top 1).trans rfl, (blk_cell HK13.out.top 2).trans rfl, (blk_cell HK13.out.top 3).trans rfl, (blk_cell HK13.out.top 4).trans rfl, HK13.out⟩ (fun hHeld => ?_)
    clear hK K
    refine pure_ (i := 17) (N := some 49) (v := ?_) (a' := ?_) #[true, true, true, true, true, true, true, true, true, true, true, true, true, true, true, true, true, true, false] rfl rfl (by kernel_rfl) (fun _ _ _ h => h) (Or.inl ⟨by rfl, ?_⟩) ?_ ?_
    rotate_left
    · intro w'
      go_simp
      with_reducible rfl
    rotate_left
    · simp only [Act.put, List.setIfInBounds_toArray, List.set_cons_zero, List.set_cons_succ, i64_w, i32_w]
      rfl
    refine one_ (i := 18) (N := none) #[true, true, true, true, true, true, true, true, true, true, true, true, true, true, true, true, true, true, true] rfl rfl (by kernel_rfl) (by decide) (fun K hK => ?_)
    refine skip_store_cell (by rfl) rfl rfl HR13.out (p + 1) HLP1.out ⟨0, x.f, x.g, x.b, 2⟩ info_cell (by rfl) (Nat.mul_comm _ _) (by rfl) ?_
    intro w14 hR14 hg14
    have HK14 := Aside0.mk (HK13.out.wrote hR14 hg14)
    have HR14 := Aside0.mk hR14
    clear hR14 hg14
    refine hK.out _ _ ⟨HK14.out.c2, (blk_cell HK14.out.top 0).trans rfl, (blk_cell HK14.out.top 1).trans rfl, (blk_cell HK14.out.top 2).trans rfl, (blk_cell HK14.out.top 3).trans rfl, (blk_cell HK14.out.top 4).trans rfl, HK14.out⟩ (fun hHeld => ?_)
    clear hK K
    refine done_ (by kernel_rfl) ?_
    have hl' : ((L.set p x).set (p + 1) ⟨0, x.f, x.g, x.b, 2⟩).length = L.length := by simp
    go_wp2_with fail
    refine (rmend_calls (HG.out.wrote HK14.out.grown HR14.out hl') n hn).mono ?_
    rintro e w10 ⟨rfl, hR10, hg10⟩
    go_wp2
    go_ret
    rw [HOK.out, HPG.out]
    refine ⟨rfl, FIN.out ((L.set p x).set (p + 1) ⟨0, x.f, x.g, x.b, 2⟩) w14 w10 hl' ?_ (fun M hM => ?_) HK14.out.grown hR10 hg10⟩
    · rw [← HPE.out, Nat.add_assoc, part_set, part_set, laid, if_pos HX1.out, if_neg (by rw [hpl]; exact HJC.out)]
    · rw [← HPE.out, Nat.add_assoc, splice_set _ M o (j + 1) _ (by rw [hM]; exact hj1), splice_set L M o j x (by rw [hM]; exact hj)]
end Go.Proofs.YtcfndcjbgalnpaaDoor.Hand
namespace Go.Proofs.YtcfndcjbgalnpaaDoor.Hand
open Go.RowKit Go.Proofs.YtcfndcjbgalnpaaDoorW.PrintWords Go.Proofs.YtcfndcjbgalnpaaDoorW.PrintLast
structure Both (w0 W : World) (g b x bx r c : Nat) (L : List C5) : Prop where
  B : Below w0.heap.size w0 W
  G : GridAt W w0.heap.size g b r c L
  R : RefAt W w0.heap.size x bx r c L
  ok : GridOk r c L
  gx : g ≠ x
  gbx : g ≠ bx
  bX : b ≠ x
  bbx : b ≠ bx
def KeepsBut (W W' : World) (S : List Nat) : Prop := W.heap.size ≤ W'.heap.size ∧ ∀ k, k < W.heap.size → k ∉ S → W'.heap[k]? = W.heap[k]?
theorem KeepsBut.below {W W' : World} {S : List Nat} (h : Below W.heap.size W W') : KeepsBut W W' S := ⟨h.size, fun k hk _ => h.block k hk⟩
theorem KeepsBut.trans {W W1 W2 : World} {S : List Nat} (h : KeepsBut W W1 S) (h2 : KeepsBut W1 W2 S) : KeepsBut W W2 S := ⟨Nat.le_trans h.1 h2.1, fun k hk hs => (h2.2 k (Nat.lt_of_lt_of_le hk h.1) hs).trans (h.2 k hk hs)⟩
theorem KeepsBut.grown {W W' : World} {S : List Nat} {k : Nat} (h : W.grownBy W' (some k)) (hk : k ∈ S) : KeepsBut W W' S := ⟨h.size, fun i hi hs => h.block i hi (fun e => hs (by rw [Option.some.inj e]; exact hk))⟩
section
variable {w0 W W1 W2 : World} {g b x bx r c : Nat} {L L' : List C5}
theorem Both.below (h : Both w0 W g b x bx r c L) (hb : Below W.heap.size W W1) : Both w0 W1 g b x bx r c L := { h with B := below_step h.B hb, G := h.G.below hb, R := h.R.below hb }
theorem Both.lt (h : Both w0 W g b x bx r c L) : g < W.heap.size ∧ b < W.heap.size ∧ x < W.heap.size ∧ bx < W.heap.size :=
  ⟨h.G.blk.elim fun _ q => blk_lt q.1, h.G.row.lt, h.R.blk.elim fun _ q => blk_lt q.1, h.R.row.lt⟩
theorem sne {a k : Nat} (h : a ≠ k) : some a ≠ some k := fun e => h (Option.some.inj e)
theorem Both.midR (h : Both w0 W g b x bx r c L) (hg1 : W.grownBy W1 (some b)) : RefAt W1 w0.heap.size x bx r c L := h.R.grown hg1 (sne h.bX.symm) (sne h.bbx.symm)
theorem Both.step (h : Both w0 W g b x bx r c L) (hl : L'.length = L.length) (hR1 : RowAt W1 b L') (hg1 : W.grownBy W1 (some b)) (hR2 : RowAt W2 bx L') (hg2 : W1.grownBy W2 (some bx)) (ok' : GridOk r c L') :
    Both w0 W2 g b x bx r c L' ∧ KeepsBut W W2 [g, b, x, bx] := by
  have hB1 := below_grown_by h.B rfl hg1 (fun k hk => by injection hk with hk; subst hk; exact h.G.bb)
  have hB2 := below_grown_by hB1 rfl hg2 (fun k hk => by injection hk with hk; subst hk; exact h.R.bb)
  refine ⟨⟨hB2, (h.G.wrote hg1 hR1 hl).grown hg2 (sne h.gbx) (sne h.bbx), (h.midR hg1).wrote hg2 hR2 hl, ok', h.gx, h.gbx, h.bX, h.bbx⟩, ?_⟩
  exact (KeepsBut.grown hg1 (by simp)).trans (KeepsBut.grown hg2 (by simp))
theorem mid_box {k : Nat} {o : Obj} (hk : W.heap[k]? = some o) {a : Nat} (hg : W.grownBy W1 (some a)) (h : k ≠ a) : W1.heap[k]? = some o := (hg.block k (blk_lt hk) (sne h)).trans hk
end
theorem rresize_any {w : World} {base g b r c : Nat} {L : List C5} (h : RefAt w base g b r c L) (ok : GridOk r c L) (rows cols : Int) :
    Calls Tryd.prog 48 #[.pointer (some ⟨g, 0, none⟩), .int .i64 rows, .int .i64 cols] w (fun e w' => ∃ v : Int, e = .returned (.int .i64 v) ∧ v = (if resOk rows cols = true then 0 else 1) ∧ ∃ b' r' c' L', RefAt w' base g b' r' c' L' ∧ w.grownBy w' (some g) ∧ (b' = b ∨ w.heap.size ≤ b') ∧
      (if resOk rows cols = true then r' = rows.toNat ∧ c' = cols.toNat ∧ L' = resTo c r' c' L (min r r') else r' = r ∧ c' = c ∧ L' = L)) := by
  by_cases hok : 1 ≤ rows ∧ rows ≤ 60 ∧ 1 ≤ cols ∧ cols ≤ 200
  · have e : resOk rows cols = true := decide_eq_true hok
    rw [e]
    obtain ⟨r2, rfl⟩ := Int.eq_ofNat_of_zero_le (show 0 ≤ rows by omega)
    obtain ⟨c2, rfl⟩ := Int.eq_ofNat_of_zero_le (show 0 ≤ cols by omega)
    refine (rresize_yes h r2 c2 (by omega) (by omega) (by omega) (by omega)).mono ?_
    rintro e w1 ⟨rfl, b', hG, hb, hg⟩
    rw [rres_eq ok h.len] at hG
    exact ⟨0, rfl, rfl, b', r2, c2, _, hG, hg, Or.inr hb, by rw [if_pos rfl]; exact ⟨rfl, rfl, rfl⟩⟩
  · have e : resOk rows cols = false := decide_eq_false hok
    rw [e]
    refine (rresize_no rows cols hok).mono ?_
    rintro e w1 ⟨rfl, hb⟩
    exact ⟨1, rfl, rfl, b, r, c, L, h.below hb, grown_of_none hb, Or.inl rfl, by rw [if_neg (by decide)]; exact ⟨rfl, rfl, rfl⟩⟩
section
variable {w0 W W1 W2 : World} {g b x bx r c : Nat} {L : List C5}
theorem Both.resized (h : Both w0 W g b x bx r c L) {rows cols : Int} {b1 r1 c1 b2 r2 c2 : Nat} {L1 L2 : List C5} (hG : GridAt W1 w0.heap.size g b1 r1 c1 L1) (hg1 : W.grownBy W1 (some g)) (hb1 : b1 = b ∨ W.heap.size ≤ b1)
    (hi1 : if resOk rows cols = true then r1 = rows.toNat ∧ c1 = cols.toNat ∧ L1 = resTo c r1 c1 L (min r r1) else r1 = r ∧ c1 = c ∧ L1 = L)
    (hR : RefAt W2 w0.heap.size x b2 r2 c2 L2) (hg2 : W1.grownBy W2 (some x)) (hb2 : b2 = bx ∨ W1.heap.size ≤ b2)
    (hi2 : if resOk rows cols = true then r2 = rows.toNat ∧ c2 = cols.toNat ∧ L2 = resTo c r2 c2 L (min r r2) else r2 = r ∧ c2 = c ∧ L2 = L) :
    Both w0 W2 g b1 x b2 r1 c1 L1 ∧ KeepsBut W W2 [g, b, x, bx] := by
  obtain ⟨l1, l2, l3, l4⟩ := h.lt
  have hB1 := below_grown_by h.B rfl hg1 (fun k hk => by injection hk with hk; subst hk; exact h.G.bg)
  have hB2 := below_grown_by hB1 rfl hg2 (fun k hk => by injection hk with hk; subst hk; exact h.R.bg)
  have hs := hg1.size
  have ok1 := h.ok.resized h.G.len hi1
  have hb1l := hG.row.lt
  have e : r2 = r1 ∧ c2 = c1 ∧ L2 = L1 := by
    split at hi1
    · obtain ⟨rfl, rfl, rfl⟩ := hi1
      rename_i hr
      rw [if_pos hr] at hi2
      obtain ⟨rfl, rfl, rfl⟩ := hi2
      exact ⟨rfl, rfl, rfl⟩
    · obtain ⟨rfl, rfl, rfl⟩ := hi1
      rename_i hr
      rw [if_neg hr] at hi2
      obtain ⟨rfl, rfl, rfl⟩ := hi2
      exact ⟨rfl, rfl, rfl⟩
  obtain ⟨rfl, rfl, rfl⟩ := e
  have n1 := h.gx
  have n2 := h.gbx
  have n3 := h.bX
  have n4 := h.bbx
  have m1 : b1 ≠ x := hb1.elim (fun e => by rw [e]; exact n3) (fun q => by omega)
  have m2 : g ≠ b2 := hb2.elim (fun e => by rw [e]; exact n2) (fun q => by omega)
  have m3 : b1 ≠ b2 := by
    rcases hb1 with rfl | q
    · rcases hb2 with rfl | q2
      · exact n4
      · omega
    · rcases hb2 with rfl | q2 <;> omega
  refine ⟨⟨hB2, hG.grown hg2 (sne n1) (sne m1), hR, ok1, n1, m2, m1, m3⟩, ?_⟩
  exact (KeepsBut.grown hg1 (by simp)).trans (KeepsBut.grown hg2 (by simp))
end
end Go.Proofs.YtcfndcjbgalnpaaDoor.Hand
namespace Go.Proofs.YtcfndcjbgalnpaaDoor.Hand
open Go.RowKit Go.Proofs.YtcfndcjbgalnpaaDoorW.PrintWords Go.Proofs.YtcfndcjbgalnpaaDoorW.PrintLast
theorem wide_of {x : C5} {m : Bool} (hm : PB.cell_May.f 9 x.r x.f x.g x.b x.w = some m) : m = true → x.w = 0 ∨ x.w = 1 ∨ x.w = 2 := by
  intro h
  rw [h] at hm
  rcases (mayC_iff.1 hm).2 with h | h | h
  · exact .inl h.1
  · exact .inr (.inl h.1)
  · exact .inr (.inr h.1)
set_option maxRecDepth 100000 in
set_option maxHeartbeats 8000000 in
theorem does_calls {w0 w : World} {g b x bx r c : Nat} {L : List C5} (hT : TabW w0) (h : Both w0 w g b x bx r c L) (o : O9) :
    Calls Tryd.prog 28 #[.pointer (some ⟨g, 0, none⟩), .pointer (some ⟨x, 0, none⟩), .agg #[.int .i64 o.kd, .int .i64 o.row, .int .i64 o.col, .int .i64 o.n, .int .i32 o.x.r, .int .i64 o.x.f, .int .i64 o.x.g, .int .i64 o.x.b, .int .i64 o.x.w]] w (fun e w' => e = .returned (.bool true) ∧ ∃ b' bx' r' c' L', Both w0 w' g b' x bx' r' c' L' ∧ (b' = b ∨ w.heap.size ≤ b') ∧ (bx' = bx ∨ w.heap.size ≤ bx') ∧ KeepsBut w w' [g, b, x, bx]) := by
  have HT := Aside0.mk hT
  have HH := Aside0.mk h
  obtain ⟨m, hm⟩ := may_some o.x
  obtain ⟨m2, hm2⟩ := look_some o.x.f o.x.g o.x.b
  have HM := Aside0.mk hm
  have HM2 := Aside0.mk hm2
  have HMR : Aside0 (PD.tikref6_May.f 9 o.x.r o.x.f o.x.g o.x.b o.x.w = some m) := ⟨by rw [PureC.cmayR_any 8, ← PureC.cmay_any 8]; exact hm⟩
  have HM2R : Aside0 (PD.tikref6_MayAttr.f o.x.f o.x.g o.x.b = some m2) := ⟨by rw [PureC.mayR_any, ← PureC.may_any]; exact hm2⟩
  have HWI := Aside0.mk (wide_of hm)
  clear hm hm2 hT h
  go_enter Tryd.func28, Tryd.ntmps28
  go_upto_region 1 with ((with_reducible refine gate_dst (N := 5) rfl ?_); refine box_event ?hg (N := 5) ?hd (cs := #[.int .i64 o.kd, .int .i64 o.row, .int .i64 o.col, .int .i64 o.n, .int .i32 o.x.r, .int .i64 o.x.f, .int .i64 o.x.g, .int .i64 o.x.b, .int .i64 o.x.w]) (t := 47) ?hr ?_; (case hd => rfl); (case hg => rfl); (case hr => first | (go_simp; done) | (go_simp; rfl)); intro g5 hg w1 hbox hb; have HX := Aside0.mk hbox; have HB := Aside0.mk hb; have HG5 := Aside0.mk hg; clear hbox hb hg)
  have HO := Aside0.mk (HH.out.below HB.out)
  have HB0 : Aside0 (KeepsBut w w1 [g, b, x, bx]) := ⟨KeepsBut.below HB.out⟩
  obtain ⟨l1, l2, l3, l4⟩ := HH.out.lt
  have hg5 := HG5.out
  have HNG := Aside0.mk (show g5 ≠ g by omega)
  have HNB := Aside0.mk (show g5 ≠ b by omega)
  have HNX := Aside0.mk (show g5 ≠ x by omega)
  have HNBX := Aside0.mk (show g5 ≠ bx by omega)
  clear l1 l2 l3 l4 hg5 HG5 HB HH
  have c0 : w1.cell? ⟨g5, 0, none⟩ = some (.int .i64 o.kd) := (blk_cell HX.out 0).trans rfl
  have c1 : w1.cell? ⟨g5, 1, none⟩ = some (.int .i64 o.row) := (blk_cell HX.out 1).trans rfl
  have c2 : w1.cell? ⟨g5, 2, none⟩ = some (.int .i64 o.col) := (blk_cell HX.out 2).trans rfl
  have c3 : w1.cell? ⟨g5, 3, none⟩ = some (.int .i64 o.n) := (blk_cell HX.out 3).trans rfl
  have c4 : w1.cell? ⟨g5, 4, none⟩ = some (.int .i32 o.x.r) := (blk_cell HX.out 4).trans rfl
  have c5 : w1.cell? ⟨g5, 5, none⟩ = some (.int .i64 o.x.f) := (blk_cell HX.out 5).trans rfl
  have c6 : w1.cell? ⟨g5, 6, none⟩ = some (.int .i64 o.x.g) := (blk_cell HX.out 6).trans rfl
  have c7 : w1.cell? ⟨g5, 7, none⟩ = some (.int .i64 o.x.b) := (blk_cell HX.out 7).trans rfl
  have c8 : w1.cell? ⟨g5, 8, none⟩ = some (.int .i64 o.x.w) := (blk_cell HX.out 8).trans rfl
  by_cases k0 : o.kd = 0
  · rw [k0] at c0
    go_wp2
    clear c0 c1 c2 c3 c4 c5 c6 c7 c8
    have HOd := Aside0.mk (HO.out.below (below_drew (Below.refl _ _)))
    have HXd := Aside0.mk (blk_below HX.out (below_drew (Below.refl _ _)))
    refine start_ (n := 18) (S := fun w' => w'.cell? ⟨g5, 1, none⟩ = some (.int .i64 o.row) ∧ w'.cell? ⟨g5, 2, none⟩ = some (.int .i64 o.col) ∧ w'.cell? ⟨g5, 4, none⟩ = some (.int .i32 o.x.r) ∧ w'.cell? ⟨g5, 5, none⟩ = some (.int .i64 o.x.f) ∧ w'.cell? ⟨g5, 6, none⟩ = some (.int .i64 o.x.g) ∧ w'.cell? ⟨g5, 7, none⟩ = some (.int .i64 o.x.b) ∧ w'.cell? ⟨g5, 8, none⟩ = some (.int .i64 o.x.w)) (ds := []) #[false, false, false, false, false, false, false, false, false, false, false, false, false, false, false, false, false, false] (by kernel_rfl) rfl rfl ⟨(blk_cell HXd.out 1).trans rfl, (blk_cell HXd.out 2).trans rfl, (blk_cell HXd.out 4).trans rfl, (blk_cell HXd.out 5).trans rfl, (blk_cell HXd.out 6).trans rfl, (blk_cell HXd.out 7).trans rfl, (blk_cell HXd.out 8).trans rfl⟩ (fun hHeld => ?_)
    refine pure_ (i := 0) (N := some 11) (v := ?_) (a' := ?_) #[true, false, false, false, false, false, false, false, false, false, false, false, false, false, false, false, false, false] rfl rfl (by kernel_rfl) (fun _ _ _ h => h) (Or.inl ⟨by rfl, ?_⟩) ?_ ?_
    rotate_left
    · intro w'
      go_simp
      with_reducible rfl
    rotate_left
    · simp only [Act.put, List.setIfInBounds_toArray, List.set_cons_zero, List.set_cons_succ, i64_w, i32_w]
      rfl
    refine pure_ (i := 1) (N := some 12) (v := ?_) (a' := ?_) #[true, true, false, false, false, false, false, false, false, false, false, false, false, false, false, false, false, false] rfl rfl (by kernel_rfl) (fun _ _ _ h => h) (Or.inl ⟨by rfl, ?_⟩) ?_ ?_
    rotate_left
    · intro w'
      go_simp
      with_reducible rfl
    rotate_left
    · simp only [Act.put, List.setIfInBounds_toArray, List.set_cons_zero, List.set_cons_succ, i64_w, i32_w]
      rfl
    refine pure_ (i := 3) (N := some 14) (v := ?_) (a' := ?_) #[true, true, false, true, false, false, false, false, false, false, false, false, false, false, false, false, false, false] rfl rfl (by kernel_rfl) (fun _ _ _ h => h) (Or.inl ⟨by rfl, ?_⟩) ?_ ?_
    rotate_left
    · intro w'
      go_simp
      with_reducible rfl
    rotate_left
    · simp only [Act.put, List.setIfInBounds_toArray, List.set_cons_zero, List.set_cons_succ, i64_w, i32_w]
      rfl
    refine pure_ (i := 5) (N := some 16) (v := ?_) (a' := ?_) #[true, true, false, true, false, true, false, false, false, false, false, false, false, false, false, false, false, false] rfl rfl (by kernel_rfl) (fun _ _ _ h => h) (Or.inl ⟨by rfl, ?_⟩) ?_ ?_
    rotate_left
    · intro w'
      go_simp
      with_reducible rfl
    rotate_left
    · simp only [Act.put, List.setIfInBounds_toArray, List.set_cons_zero, List.set_cons_succ, i64_w, i32_w]
      rfl
    refine pure_ (i := 8) (N := some 19) (v := ?_) (a' := ?_) #[true, true, false, true, false, true, false, false, true, false, false, false, false, false, false, false, false, false] rfl rfl (by kernel_rfl) (fun _ _ _ h => h) (Or.inl ⟨by rfl, ?_⟩) ?_ ?_
    rotate_left
    · intro w'
      go_simp
      with_reducible rfl
    rotate_left
    · simp only [Act.put, List.setIfInBounds_toArray, List.set_cons_zero, List.set_cons_succ, i64_w, i32_w]
      rfl
    refine pure_ (i := 9) (N := some 20) (v := ?_) (a' := ?_) #[true, true, false, true, false, true, false, false, true, true, false, false, false, false, false, false, false, false] rfl rfl (by kernel_rfl) (fun _ _ _ h => h) (Or.inl ⟨by rfl, ?_⟩) ?_ ?_
    rotate_left
    · intro w'
      go_simp
      with_reducible rfl
    rotate_left
    · simp only [Act.put, List.setIfInBounds_toArray, List.set_cons_zero, List.set_cons_succ, i64_w, i32_w]
      rfl
    refine pure_ (i := 11) (N := some 22) (v := ?_) (a' := ?_) #[true, true, false, true, false, true, false, false, true, true, false, true, false, false, false, false, false, false] rfl rfl (by kernel_rfl) (fun _ _ _ h => h) (Or.inl ⟨by rfl, ?_⟩) ?_ ?_
    rotate_left
    · intro w'
      go_simp
      with_reducible rfl
    rotate_left
    · simp only [Act.put, List.setIfInBounds_toArray, List.set_cons_zero, List.set_cons_succ, i64_w, i32_w]
      rfl
    refine pure_ (i := 13) (N := some 24) (v := ?_) (a' := ?_) #[true, true, false, true, false, true, false, false, true, true, false, true, false, true, false, false, false, false] rfl rfl (by kernel_rfl) (fun _ _ _ h => h) (Or.inl ⟨by rfl, ?_⟩) ?_ ?_
    rotate_left
    · intro w'
      go_simp
      with_reducible rfl
    rotate_left
    · simp only [Act.put, List.setIfInBounds_toArray, List.set_cons_zero, List.set_cons_succ, i64_w, i32_w]
      rfl
    refine take_ (i := 2) (N := some 13) (v := ?_) (a' := ?_) #[true, true, true, true, false, true, false, false, true, true, false, true, false, true, false, false, false, false] rfl rfl (by kernel_rfl) (fun _ _ _ h => h) (Or.inl ⟨by rfl, ?_⟩) hHeld ?_ ?_
    rotate_left
    · rintro w' ⟨s0, s1, s2, s3, s4, s5, s6⟩
      go_simp
      with_reducible rfl
    rotate_left
    · simp only [Act.put, List.setIfInBounds_toArray, List.set_cons_zero, List.set_cons_succ, i64_w, i32_w]
      rfl
    refine take_ (i := 4) (N := some 15) (v := ?_) (a' := ?_) #[true, true, true, true, true, true, false, false, true, true, false, true, false, true, false, false, false, false] rfl rfl (by kernel_rfl) (fun _ _ _ h => h) (Or.inl ⟨by rfl, ?_⟩) hHeld ?_ ?_
    rotate_left
    · rintro w' ⟨s0, s1, s2, s3, s4, s5, s6⟩
      go_simp
      with_reducible rfl
    rotate_left
    · simp only [Act.put, List.setIfInBounds_toArray, List.set_cons_zero, List.set_cons_succ, i64_w, i32_w]
      rfl
    refine take_ (i := 6) (N := some 17) (v := ?_) (a' := ?_) #[true, true, true, true, true, true, true, false, true, true, false, true, false, true, false, false, false, false] rfl rfl (by kernel_rfl) (fun _ _ _ h => h) (Or.inl ⟨by rfl, ?_⟩) hHeld ?_ ?_
    rotate_left
    · rintro w' ⟨s0, s1, s2, s3, s4, s5, s6⟩
      go_simp
      with_reducible rfl
    rotate_left
    · simp only [Act.put, List.setIfInBounds_toArray, List.set_cons_zero, List.set_cons_succ, i64_w, i32_w]
      rfl
    refine take_ (i := 10) (N := some 21) (v := ?_) (a' := ?_) #[true, true, true, true, true, true, true, false, true, true, true, true, false, true, false, false, false, false] rfl rfl (by kernel_rfl) (fun _ _ _ h => h) (Or.inl ⟨by rfl, ?_⟩) hHeld ?_ ?_
    rotate_left
    · rintro w' ⟨s0, s1, s2, s3, s4, s5, s6⟩
      go_simp
      with_reducible rfl
    rotate_left
    · simp only [Act.put, List.setIfInBounds_toArray, List.set_cons_zero, List.set_cons_succ, i64_w, i32_w]
      rfl
    refine take_ (i := 12) (N := some 23) (v := ?_) (a' := ?_) #[true, true, true, true, true, true, true, false, true, true, true, true, true, true, false, false, false, false] rfl rfl (by kernel_rfl) (fun _ _ _ h => h) (Or.inl ⟨by rfl, ?_⟩) hHeld ?_ ?_
    rotate_left
    · rintro w' ⟨s0, s1, s2, s3, s4, s5, s6⟩
      go_simp
      with_reducible rfl
    rotate_left
    · simp only [Act.put, List.setIfInBounds_toArray, List.set_cons_zero, List.set_cons_succ, i64_w, i32_w]
      rfl
    refine take_ (i := 14) (N := some 25) (v := ?_) (a' := ?_) #[true, true, true, true, true, true, true, false, true, true, true, true, true, true, true, false, false, false] rfl rfl (by kernel_rfl) (fun _ _ _ h => h) (Or.inl ⟨by rfl, ?_⟩) hHeld ?_ ?_
    rotate_left
    · rintro w' ⟨s0, s1, s2, s3, s4, s5, s6⟩
      go_simp
      with_reducible rfl
    rotate_left
    · simp only [Act.put, List.setIfInBounds_toArray, List.set_cons_zero, List.set_cons_succ, i64_w, i32_w]
      rfl
    refine one_ (i := 7) (N := some 18) #[true, true, true, true, true, true, true, true, true, true, true, true, true, true, true, false, false, false] rfl rfl (by kernel_rfl) (by decide) (fun K hK => ?_)
    refine goes_ Tryd.func12 (by kernel_rfl) rfl #[.pointer (some ⟨g, 0, none⟩), .int .i64 o.row, .int .i64 o.col, .agg #[.int .i32 o.x.r, .int .i64 o.x.f, .int .i64 o.x.g, .int .i64 o.x.b, .int .i64 o.x.w]] (by rfl) rfl rfl (by simp only [List.map_toArray, List.map_cons, List.map_nil]; rfl) ?_
    refine (put_any HOd.out.G (tabAt HT.out HOd.out.B) o.row o.col o.x m HM.out).mono ?_
    rintro e w13 ⟨rfl, hR13, hg13⟩
    refine ⟨_, rfl, ?_⟩
    have HR13 := Aside0.mk hR13
    have HG13 := Aside0.mk hg13
    have HX13 := Aside0.mk (mid_box HXd.out hg13 HNB.out)
    clear hR13 hg13
    refine hK.out _ _ ⟨(blk_cell HX13.out 1).trans rfl, (blk_cell HX13.out 2).trans rfl, (blk_cell HX13.out 4).trans rfl, (blk_cell HX13.out 5).trans rfl, (blk_cell HX13.out 6).trans rfl, (blk_cell HX13.out 7).trans rfl, (blk_cell HX13.out 8).trans rfl⟩ (fun hHeld => ?_)
    clear hK K
    refine norm_ (a' := ?_) ?_ ?_
    rotate_left
    · show Act.put _ (some 18) _ = _
      simp only [Act.put, List.setIfInBounds_toArray, List.set_cons_zero, List.set_cons_succ, i64_w, i32_w]
      rfl
    refine one_ (i := 15) (N := some 26) #[true, true, true, true, true, true, true, true, true, true, true, true, true, true, true, true, false, false] rfl rfl (by kernel_rfl) (by decide) (fun K hK => ?_)
    refine goes_ Tryd.func44 (by kernel_rfl) rfl #[.pointer (some ⟨x, 0, none⟩), .int .i64 o.row, .int .i64 o.col, .agg #[.int .i32 o.x.r, .int .i64 o.x.f, .int .i64 o.x.g, .int .i64 o.x.b, .int .i64 o.x.w]] (by rfl) rfl rfl (by simp only [List.map_toArray, List.map_cons, List.map_nil]; rfl) ?_
    refine (rput_calls (HOd.out.midR HG13.out) o.row o.col o.x m HMR.out HWI.out).mono ?_
    rintro e w14 ⟨rfl, hR14, hg14⟩
    refine ⟨_, rfl, ?_⟩
    have HX14 := Aside0.mk (mid_box HX13.out hg14 HNBX.out)
    have HS := Aside0.mk (HOd.out.step (putG_length HOd.out.G.len o.row o.col o.x m) HR13.out HG13.out hR14 hg14 (HOd.out.ok.putG HOd.out.G.len o.row o.col o.x HM.out))
    clear hR14 hg14
    refine hK.out _ _ ⟨(blk_cell HX14.out 1).trans rfl, (blk_cell HX14.out 2).trans rfl, (blk_cell HX14.out 4).trans rfl, (blk_cell HX14.out 5).trans rfl, (blk_cell HX14.out 6).trans rfl, (blk_cell HX14.out 7).trans rfl, (blk_cell HX14.out 8).trans rfl⟩ (fun hHeld => ?_)
    clear hK K
    refine norm_ (a' := ?_) ?_ ?_
    rotate_left
    · show Act.put _ (some 26) _ = _
      simp only [Act.put, List.setIfInBounds_toArray, List.set_cons_zero, List.set_cons_succ, i64_w, i32_w]
      rfl
    refine pure_ (i := 16) (N := some 27) (v := ?_) (a' := ?_) #[true, true, true, true, true, true, true, true, true, true, true, true, true, true, true, true, true, false] rfl rfl (by kernel_rfl) (fun _ _ _ h => h) (Or.inl ⟨by rfl, ?_⟩) ?_ ?_
    rotate_left
    · intro w'
      go_simp
      with_reducible rfl
    rotate_left
    · simp only [Act.put, List.setIfInBounds_toArray, List.set_cons_zero, List.set_cons_succ, i64_w, i32_w]
      rfl
    refine pure_ (i := 17) (N := some 6) (v := ?_) (a' := ?_) #[true, true, true, true, true, true, true, true, true, true, true, true, true, true, true, true, true, true] rfl rfl (by kernel_rfl) (fun _ _ _ h => h) (Or.inl ⟨by rfl, ?_⟩) ?_ ?_
    rotate_left
    · intro w'
      go_simp
      with_reducible rfl
    rotate_left
    · simp only [Act.put, List.setIfInBounds_toArray, List.set_cons_zero, List.set_cons_succ, i64_w, i32_w]
      rfl
    refine done_ (by kernel_rfl) ?_
    go_wp2
    go_ret
    exact ⟨by simp, b, bx, r, c, _, HS.out.1, .inl rfl, .inl rfl, HB0.out.trans ((KeepsBut.below (below_drew (Below.refl _ _))).trans HS.out.2)⟩
  · have kb0 : (o.kd == 0) = false := beq_eq_false_iff_ne.2 k0
    clear k0
    by_cases k1 : o.kd = 1
    · rw [k1] at c0
      go_wp2_with fail
      refine (erase_calls HO.out.G o.row o.col o.n o.x.f o.x.g o.x.b m2 HM2.out).mono ?_
      rintro e w13 ⟨rfl, hR13, hg13⟩
      have HR13 := Aside0.mk hR13
      have HG13 := Aside0.mk hg13
      have HX13 := Aside0.mk (mid_box HX.out hg13 HNB.out)
      clear hR13 hg13
      clear c0 c1 c2 c3 c4 c5 c6 c7 c8
      have c0 : w13.cell? ⟨g5, 0, none⟩ = some (.int .i64 o.kd) := (blk_cell HX13.out 0).trans rfl
      have c1 : w13.cell? ⟨g5, 1, none⟩ = some (.int .i64 o.row) := (blk_cell HX13.out 1).trans rfl
      have c2 : w13.cell? ⟨g5, 2, none⟩ = some (.int .i64 o.col) := (blk_cell HX13.out 2).trans rfl
      have c3 : w13.cell? ⟨g5, 3, none⟩ = some (.int .i64 o.n) := (blk_cell HX13.out 3).trans rfl
      have c4 : w13.cell? ⟨g5, 4, none⟩ = some (.int .i32 o.x.r) := (blk_cell HX13.out 4).trans rfl
      have c5 : w13.cell? ⟨g5, 5, none⟩ = some (.int .i64 o.x.f) := (blk_cell HX13.out 5).trans rfl
      have c6 : w13.cell? ⟨g5, 6, none⟩ = some (.int .i64 o.x.g) := (blk_cell HX13.out 6).trans rfl
      have c7 : w13.cell? ⟨g5, 7, none⟩ = some (.int .i64 o.x.b) := (blk_cell HX13.out 7).trans rfl
      have c8 : w13.cell? ⟨g5, 8, none⟩ = some (.int .i64 o.x.w) := (blk_cell HX13.out 8).trans rfl
      go_wp2_with fail
      refine (rerase_calls (HO.out.midR HG13.out) o.row o.col o.n o.x.f o.x.g o.x.b m2 HM2R.out).mono ?_
      rintro e w14 ⟨rfl, hR14, hg14⟩
      rw [rerase_eq HO.out.ok HO.out.G.len] at hR14
      have hS := HO.out.step (eraseG_length HO.out.G.len o.row o.col o.n o.x.b m2) HR13.out HG13.out hR14 hg14 (HO.out.ok.erase HO.out.G.len o.row o.col o.n o.x.f o.x.g o.x.b HM2.out)
      have HS := Aside0.mk hS
      clear hS hR14 hg14 c0 c1 c2 c3 c4 c5 c6 c7 c8
      go_wp2
      go_ret
      exact ⟨rfl, b, bx, r, c, _, HS.out.1, .inl rfl, .inl rfl, HB0.out.trans HS.out.2⟩
    · have kb1 : (o.kd == 1) = false := beq_eq_false_iff_ne.2 k1
      clear k1
      by_cases k2 : o.kd = 2
      · rw [k2] at c0
        go_wp2_with fail
        refine (shift_calls HO.out.G o.row o.col o.n o.x.f o.x.g o.x.b m2 HM2.out).mono ?_
        rintro e w13 ⟨rfl, hR13, hg13⟩
        have HR13 := Aside0.mk hR13
        have HG13 := Aside0.mk hg13
        have HX13 := Aside0.mk (mid_box HX.out hg13 HNB.out)
        clear hR13 hg13
        clear c0 c1 c2 c3 c4 c5 c6 c7 c8
        have c0 : w13.cell? ⟨g5, 0, none⟩ = some (.int .i64 o.kd) := (blk_cell HX13.out 0).trans rfl
        have c1 : w13.cell? ⟨g5, 1, none⟩ = some (.int .i64 o.row) := (blk_cell HX13.out 1).trans rfl
        have c2 : w13.cell? ⟨g5, 2, none⟩ = some (.int .i64 o.col) := (blk_cell HX13.out 2).trans rfl
        have c3 : w13.cell? ⟨g5, 3, none⟩ = some (.int .i64 o.n) := (blk_cell HX13.out 3).trans rfl
        have c4 : w13.cell? ⟨g5, 4, none⟩ = some (.int .i32 o.x.r) := (blk_cell HX13.out 4).trans rfl
        have c5 : w13.cell? ⟨g5, 5, none⟩ = some (.int .i64 o.x.f) := (blk_cell HX13.out 5).trans rfl
        have c6 : w13.cell? ⟨g5, 6, none⟩ = some (.int .i64 o.x.g) := (blk_cell HX13.out 6).trans rfl
        have c7 : w13.cell? ⟨g5, 7, none⟩ = some (.int .i64 o.x.b) := (blk_cell HX13.out 7).trans rfl
        have c8 : w13.cell? ⟨g5, 8, none⟩ = some (.int .i64 o.x.w) := (blk_cell HX13.out 8).trans rfl
        go_wp2_with fail
        refine (rshift_calls (HO.out.midR HG13.out) o.row o.col o.n o.x.f o.x.g o.x.b m2 HM2R.out).mono ?_
        rintro e w14 ⟨rfl, hR14, hg14⟩
        rw [rshift_eq HO.out.G.len] at hR14
        have hS := HO.out.step (shiftG_length HO.out.G.len o.row o.col o.n o.x.b m2) HR13.out HG13.out hR14 hg14 (HO.out.ok.shift HO.out.G.len o.row o.col o.n o.x.f o.x.g o.x.b HM2.out)
        have HS := Aside0.mk hS
        clear hS hR14 hg14 c0 c1 c2 c3 c4 c5 c6 c7 c8
        go_wp2
        go_ret
        exact ⟨rfl, b, bx, r, c, _, HS.out.1, .inl rfl, .inl rfl, HB0.out.trans HS.out.2⟩
      · have kb2 : (o.kd == 2) = false := beq_eq_false_iff_ne.2 k2
        clear k2
        by_cases k3 : o.kd = 3
        · rw [k3] at c0
          go_wp2_with fail
          refine (scroll_calls HO.out.G o.row o.col o.n o.x.f o.x.g o.x.b m2 HM2.out).mono ?_
          rintro e w13 ⟨rfl, hR13, hg13⟩
          have HR13 := Aside0.mk hR13
          have HG13 := Aside0.mk hg13
          have HX13 := Aside0.mk (mid_box HX.out hg13 HNB.out)
          clear hR13 hg13
          clear c0 c1 c2 c3 c4 c5 c6 c7 c8
          have c0 : w13.cell? ⟨g5, 0, none⟩ = some (.int .i64 o.kd) := (blk_cell HX13.out 0).trans rfl
          have c1 : w13.cell? ⟨g5, 1, none⟩ = some (.int .i64 o.row) := (blk_cell HX13.out 1).trans rfl
          have c2 : w13.cell? ⟨g5, 2, none⟩ = some (.int .i64 o.col) := (blk_cell HX13.out 2).trans rfl
          have c3 : w13.cell? ⟨g5, 3, none⟩ = some (.int .i64 o.n) := (blk_cell HX13.out 3).trans rfl
          have c4 : w13.cell? ⟨g5, 4, none⟩ = some (.int .i32 o.x.r) := (blk_cell HX13.out 4).trans rfl
          have c5 : w13.cell? ⟨g5, 5, none⟩ = some (.int .i64 o.x.f) := (blk_cell HX13.out 5).trans rfl
          have c6 : w13.cell? ⟨g5, 6, none⟩ = some (.int .i64 o.x.g) := (blk_cell HX13.out 6).trans rfl
          have c7 : w13.cell? ⟨g5, 7, none⟩ = some (.int .i64 o.x.b) := (blk_cell HX13.out 7).trans rfl
          have c8 : w13.cell? ⟨g5, 8, none⟩ = some (.int .i64 o.x.w) := (blk_cell HX13.out 8).trans rfl
          go_wp2_with fail
          refine (rscroll_calls (HO.out.midR HG13.out) o.row o.col o.n o.x.f o.x.g o.x.b m2 HM2R.out).mono ?_
          rintro e w14 ⟨rfl, hR14, hg14⟩
          rw [rscroll_eq HO.out.G.len] at hR14
          have hS := HO.out.step (scrollG_length HO.out.G.len o.row o.col o.n o.x.b m2) HR13.out HG13.out hR14 hg14 (HO.out.ok.scroll HO.out.G.len o.row o.col o.n o.x.f o.x.g o.x.b HM2.out)
          have HS := Aside0.mk hS
          clear hS hR14 hg14 c0 c1 c2 c3 c4 c5 c6 c7 c8
          go_wp2
          go_ret
          exact ⟨rfl, b, bx, r, c, _, HS.out.1, .inl rfl, .inl rfl, HB0.out.trans HS.out.2⟩
        · have kb3 : (o.kd == 3) = false := beq_eq_false_iff_ne.2 k3
          clear k3
          by_cases k4 : o.kd = 4
          · rw [k4] at c0
            go_wp2
            clear c0 c1 c2 c3 c4 c5 c6 c7 c8
            have HOd := Aside0.mk (HO.out.below (below_drew (Below.refl _ _)))
            have HXd := Aside0.mk (blk_below HX.out (below_drew (Below.refl _ _)))
            refine start_ (n := 14) (S := fun w' => w'.cell? ⟨g5, 1, none⟩ = some (.int .i64 o.row) ∧ w'.cell? ⟨g5, 2, none⟩ = some (.int .i64 o.col)) (ds := []) #[false, false, false, false, false, false, false, false, false, false, false, false, false, false] (by kernel_rfl) rfl rfl ⟨(blk_cell HXd.out 1).trans rfl, (blk_cell HXd.out 2).trans rfl⟩ (fun hHeld => ?_)
            refine pure_ (i := 0) (N := some 102) (v := ?_) (a' := ?_) #[true, false, false, false, false, false, false, false, false, false, false, false, false, false] rfl rfl (by kernel_rfl) (fun _ _ _ h => h) (Or.inl ⟨by rfl, ?_⟩) ?_ ?_
            rotate_left
            · intro w'
              go_simp
              with_reducible rfl
            rotate_left
            · simp only [Act.put, List.setIfInBounds_toArray, List.set_cons_zero, List.set_cons_succ, i64_w, i32_w]
              rfl
            refine pure_ (i := 1) (N := some 103) (v := ?_) (a' := ?_) #[true, true, false, false, false, false, false, false, false, false, false, false, false, false] rfl rfl (by kernel_rfl) (fun _ _ _ h => h) (Or.inl ⟨by rfl, ?_⟩) ?_ ?_
            rotate_left
            · intro w'
              go_simp
              with_reducible rfl
            rotate_left
            · simp only [Act.put, List.setIfInBounds_toArray, List.set_cons_zero, List.set_cons_succ, i64_w, i32_w]
              rfl
            refine pure_ (i := 3) (N := some 105) (v := ?_) (a' := ?_) #[true, true, false, true, false, false, false, false, false, false, false, false, false, false] rfl rfl (by kernel_rfl) (fun _ _ _ h => h) (Or.inl ⟨by rfl, ?_⟩) ?_ ?_
            rotate_left
            · intro w'
              go_simp
              with_reducible rfl
            rotate_left
            · simp only [Act.put, List.setIfInBounds_toArray, List.set_cons_zero, List.set_cons_succ, i64_w, i32_w]
              rfl
            refine pure_ (i := 6) (N := some 108) (v := ?_) (a' := ?_) #[true, true, false, true, false, false, true, false, false, false, false, false, false, false] rfl rfl (by kernel_rfl) (fun _ _ _ h => h) (Or.inl ⟨by rfl, ?_⟩) ?_ ?_
            rotate_left
            · intro w'
              go_simp
              with_reducible rfl
            rotate_left
            · simp only [Act.put, List.setIfInBounds_toArray, List.set_cons_zero, List.set_cons_succ, i64_w, i32_w]
              rfl
            refine pure_ (i := 7) (N := some 109) (v := ?_) (a' := ?_) #[true, true, false, true, false, false, true, true, false, false, false, false, false, false] rfl rfl (by kernel_rfl) (fun _ _ _ h => h) (Or.inl ⟨by rfl, ?_⟩) ?_ ?_
            rotate_left
            · intro w'
              go_simp
              with_reducible rfl
            rotate_left
            · simp only [Act.put, List.setIfInBounds_toArray, List.set_cons_zero, List.set_cons_succ, i64_w, i32_w]
              rfl
            refine pure_ (i := 9) (N := some 111) (v := ?_) (a' := ?_) #[true, true, false, true, false, false, true, true, false, true, false, false, false, false] rfl rfl (by kernel_rfl) (fun _ _ _ h => h) (Or.inl ⟨by rfl, ?_⟩) ?_ ?_
            rotate_left
            · intro w'
              go_simp
              with_reducible rfl
            rotate_left
            · simp only [Act.put, List.setIfInBounds_toArray, List.set_cons_zero, List.set_cons_succ, i64_w, i32_w]
              rfl
            refine take_ (i := 2) (N := some 104) (v := ?_) (a' := ?_) #[true, true, true, true, false, false, true, true, false, true, false, false, false, false] rfl rfl (by kernel_rfl) (fun _ _ _ h => h) (Or.inl ⟨by rfl, ?_⟩) hHeld ?_ ?_
            rotate_left
            · rintro w' ⟨s0, s1⟩
              go_simp
              with_reducible rfl
            rotate_left
            · simp only [Act.put, List.setIfInBounds_toArray, List.set_cons_zero, List.set_cons_succ, i64_w, i32_w]
              rfl
            refine take_ (i := 4) (N := some 106) (v := ?_) (a' := ?_) #[true, true, true, true, true, false, true, true, false, true, false, false, false, false] rfl rfl (by kernel_rfl) (fun _ _ _ h => h) (Or.inl ⟨by rfl, ?_⟩) hHeld ?_ ?_
            rotate_left
            · rintro w' ⟨s0, s1⟩
              go_simp
              with_reducible rfl
            rotate_left
            · simp only [Act.put, List.setIfInBounds_toArray, List.set_cons_zero, List.set_cons_succ, i64_w, i32_w]
              rfl
            refine take_ (i := 8) (N := some 110) (v := ?_) (a' := ?_) #[true, true, true, true, true, false, true, true, true, true, false, false, false, false] rfl rfl (by kernel_rfl) (fun _ _ _ h => h) (Or.inl ⟨by rfl, ?_⟩) hHeld ?_ ?_
            rotate_left
            · rintro w' ⟨s0, s1⟩
              go_simp
              with_reducible rfl
            rotate_left
            · simp only [Act.put, List.setIfInBounds_toArray, List.set_cons_zero, List.set_cons_succ, i64_w, i32_w]
              rfl
            refine take_ (i := 10) (N := some 112) (v := ?_) (a' := ?_) #[true, true, true, true, true, false, true, true, true, true, true, false, false, false] rfl rfl (by kernel_rfl) (fun _ _ _ h => h) (Or.inl ⟨by rfl, ?_⟩) hHeld ?_ ?_
            rotate_left
            · rintro w' ⟨s0, s1⟩
              go_simp
              with_reducible rfl
            rotate_left
            · simp only [Act.put, List.setIfInBounds_toArray, List.set_cons_zero, List.set_cons_succ, i64_w, i32_w]
              rfl
            refine one_ (i := 5) (N := some 107) #[true, true, true, true, true, true, true, true, true, true, true, false, false, false] rfl rfl (by kernel_rfl) (by decide) (fun K hK => ?_)
            refine goes_ Tryd.func17 (by kernel_rfl) rfl #[.pointer (some ⟨g, 0, none⟩), .int .i64 o.row, .int .i64 o.col] (by rfl) rfl rfl (by simp only [List.map_toArray, List.map_cons, List.map_nil]; rfl) ?_
            refine (resize_any HOd.out.G o.row o.col).mono ?_
            rintro e w13 ⟨v1, rfl, hv1, b1, r1, c1, L1, hG1, hg1, hb1, hi1⟩
            refine ⟨_, rfl, ?_⟩
            have HG1 := Aside0.mk hG1
            have Hg1 := Aside0.mk hg1
            have HB1 := Aside0.mk hb1
            have HI1 := Aside0.mk hi1
            have HV1 := Aside0.mk hv1
            have HX13 := Aside0.mk (mid_box HXd.out hg1 HNG.out)
            clear hG1 hg1 hb1 hi1 hv1
            refine hK.out _ _ ⟨(blk_cell HX13.out 1).trans rfl, (blk_cell HX13.out 2).trans rfl⟩ (fun hHeld => ?_)
            clear hK K
            refine norm_ (a' := ?_) ?_ ?_
            rotate_left
            · show Act.put _ (some 107) _ = _
              simp only [Act.put, List.setIfInBounds_toArray, List.set_cons_zero, List.set_cons_succ, i64_w, i32_w]
              rfl
            refine one_ (i := 11) (N := some 113) #[true, true, true, true, true, true, true, true, true, true, true, true, false, false] rfl rfl (by kernel_rfl) (by decide) (fun K hK => ?_)
            refine goes_ Tryd.func48 (by kernel_rfl) rfl #[.pointer (some ⟨x, 0, none⟩), .int .i64 o.row, .int .i64 o.col] (by rfl) rfl rfl (by simp only [List.map_toArray, List.map_cons, List.map_nil]; rfl) ?_
            refine (rresize_any (HOd.out.R.grown Hg1.out (sne HOd.out.gx.symm) (sne HOd.out.gbx.symm)) HOd.out.ok o.row o.col).mono ?_
            rintro e w14 ⟨v2, rfl, hv2, b2, r2, c2, L2, hG2, hg2, hb2, hi2⟩
            refine ⟨_, rfl, ?_⟩
            have HX14 := Aside0.mk (mid_box HX13.out hg2 HNX.out)
            have hv12 := HV1.out.trans hv2.symm
            have HVE := Aside0.mk hv12
            have HS := Aside0.mk (HOd.out.resized HG1.out Hg1.out HB1.out HI1.out hG2 hg2 hb2 hi2)
            have HB2 := Aside0.mk (hb2.imp_right (fun q => Nat.le_trans Hg1.out.size q))
            clear hG2 hg2 hb2 hi2 hv2 hv12
            refine hK.out _ _ ⟨(blk_cell HX14.out 1).trans rfl, (blk_cell HX14.out 2).trans rfl⟩ (fun hHeld => ?_)
            clear hK K
            refine norm_ (a' := ?_) ?_ ?_
            rotate_left
            · show Act.put _ (some 113) _ = _
              simp only [Act.put, List.setIfInBounds_toArray, List.set_cons_zero, List.set_cons_succ, i64_w, i32_w]
              rfl
            refine pure_ (i := 12) (N := some 114) (v := ?_) (a' := ?_) #[true, true, true, true, true, true, true, true, true, true, true, true, true, false] rfl rfl (by kernel_rfl) (fun _ _ _ h => h) (Or.inl ⟨by rfl, ?_⟩) ?_ ?_
            rotate_left
            · intro w'
              go_simp
              with_reducible rfl
            rotate_left
            · simp only [Act.put, List.setIfInBounds_toArray, List.set_cons_zero, List.set_cons_succ, i64_w, i32_w]
              rfl
            refine pure_ (i := 13) (N := some 6) (v := ?_) (a' := ?_) #[true, true, true, true, true, true, true, true, true, true, true, true, true, true] rfl rfl (by kernel_rfl) (fun _ _ _ h => h) (Or.inl ⟨by rfl, ?_⟩) ?_ ?_
            rotate_left
            · intro w'
              go_simp
              with_reducible rfl
            rotate_left
            · simp only [Act.put, List.setIfInBounds_toArray, List.set_cons_zero, List.set_cons_succ, i64_w, i32_w]
              rfl
            refine done_ (by kernel_rfl) ?_
            go_wp2
            go_ret
            rw [HVE.out]
            refine ⟨by simp, b1, b2, r1, c1, _, HS.out.1, ?_, ?_, HB0.out.trans ((KeepsBut.below (below_drew (Below.refl _ _))).trans HS.out.2)⟩
            · exact HB1.out.imp_right (fun q => Nat.le_trans HB0.out.1 (Nat.le_trans (below_drew (Below.refl w1.heap.size w1)).size q))
            · exact HB2.out.imp_right (fun q => Nat.le_trans HB0.out.1 (Nat.le_trans (below_drew (Below.refl w1.heap.size w1)).size q))
          · have kb4 : (o.kd == 4) = false := beq_eq_false_iff_ne.2 k4
            clear k4
            by_cases k5 : o.kd = 5
            · rw [k5] at c0
              go_wp2_with fail
              refine (gfill_calls HO.out.G (tabAt HT.out HO.out.B) o.x 9 m HM.out).mono ?_
              rintro e w13 ⟨rfl, hR13, hg13⟩
              have HR13 := Aside0.mk hR13
              have HG13 := Aside0.mk hg13
              have HX13 := Aside0.mk (mid_box HX.out hg13 HNB.out)
              clear hR13 hg13
              clear c0 c1 c2 c3 c4 c5 c6 c7 c8
              have c0 : w13.cell? ⟨g5, 0, none⟩ = some (.int .i64 o.kd) := (blk_cell HX13.out 0).trans rfl
              have c1 : w13.cell? ⟨g5, 1, none⟩ = some (.int .i64 o.row) := (blk_cell HX13.out 1).trans rfl
              have c2 : w13.cell? ⟨g5, 2, none⟩ = some (.int .i64 o.col) := (blk_cell HX13.out 2).trans rfl
              have c3 : w13.cell? ⟨g5, 3, none⟩ = some (.int .i64 o.n) := (blk_cell HX13.out 3).trans rfl
              have c4 : w13.cell? ⟨g5, 4, none⟩ = some (.int .i32 o.x.r) := (blk_cell HX13.out 4).trans rfl
              have c5 : w13.cell? ⟨g5, 5, none⟩ = some (.int .i64 o.x.f) := (blk_cell HX13.out 5).trans rfl
              have c6 : w13.cell? ⟨g5, 6, none⟩ = some (.int .i64 o.x.g) := (blk_cell HX13.out 6).trans rfl
              have c7 : w13.cell? ⟨g5, 7, none⟩ = some (.int .i64 o.x.b) := (blk_cell HX13.out 7).trans rfl
              have c8 : w13.cell? ⟨g5, 8, none⟩ = some (.int .i64 o.x.w) := (blk_cell HX13.out 8).trans rfl
              go_wp2_with fail
              refine (rfill_calls (HO.out.midR HG13.out) o.x m HMR.out).mono ?_
              rintro e w14 ⟨rfl, hR14, hg14⟩
              have hS := HO.out.step (fillG_length L o.x m) HR13.out HG13.out hR14 hg14 (HO.out.ok.fill HM.out)
              have HS := Aside0.mk hS
              clear hS hR14 hg14 c0 c1 c2 c3 c4 c5 c6 c7 c8
              go_wp2
              go_ret
              exact ⟨rfl, b, bx, r, c, _, HS.out.1, .inl rfl, .inl rfl, HB0.out.trans HS.out.2⟩
            · have kb5 : (o.kd == 5) = false := beq_eq_false_iff_ne.2 k5
              clear k5
              go_wp2_with fail
              go_ret
              exact ⟨rfl, b, bx, r, c, L, HO.out, .inl rfl, .inl rfl, HB0.out⟩
end Go.Proofs.YtcfndcjbgalnpaaDoor.Hand
namespace Go.Proofs.YtcfndcjbgalnpaaDoor.Hand
open Go.RowKit Go.Proofs.YtcfndcjbgalnpaaDoorW.PrintWords Go.Proofs.YtcfndcjbgalnpaaDoorW.PrintLast
set_option maxHeartbeats 2000000 in
theorem rcells_calls {w : World} {b1 b2 cap1 cap2 : Nat} {L : List C5} (h1 : RowAt w b1 L) (h2 : RowAt w b2 L) (hs : L.length ≤ 12000) :
    Calls Tryd.prog 29 #[.slice (some ⟨b1, 0, none⟩) L.length cap1, .slice (some ⟨b2, 0, none⟩) L.length cap2] w (fun e w' => e = .returned (.bool true) ∧ ∃ m, w' = w.drewN m) := by
  have H1 := Aside0.mk h1
  have H2 := Aside0.mk h2
  obtain ⟨n, hn⟩ : ∃ n, L.length = n := ⟨_, rfl⟩
  have HN := Aside0.mk hn
  rw [hn] at hs ⊢
  clear h1 h2 hn
  go_enter Tryd.func29, Tryd.ntmps29
  go_wp2
  go_loopw [5] (fun v5 wr => ∃ (i m : Nat), i ≤ n ∧ v5 = .int .i64 i ∧ wr = w.drewN m) (fun v5 _ => n - (intOf v5).toNat)
  case atStart => exact ⟨0, 0, Nat.zero_le _, rfl, rfl⟩
  case round =>
    obtain ⟨i, m, hi, rfl, rfl⟩ := hrel
    by_cases hlt : i < n
    · obtain ⟨x, hx⟩ : ∃ x, L[i]? = some x := ⟨_, List.getElem?_eq_getElem (by have := HN.out; omega)⟩
      have hx0 : w.cell? ⟨b1, i * 5, none⟩ = some (.int .i32 x.r) := by rw [Nat.mul_comm]; exact H1.out.cell hx 0 (by omega)
      have hx1 : w.cell? ⟨b1, i * 5 + 1, none⟩ = some (.int .i64 x.f) := by rw [Nat.mul_comm]; exact H1.out.cell hx 1 (by omega)
      have hx2 : w.cell? ⟨b1, i * 5 + 2, none⟩ = some (.int .i64 x.g) := by rw [Nat.mul_comm]; exact H1.out.cell hx 2 (by omega)
      have hx3 : w.cell? ⟨b1, i * 5 + 3, none⟩ = some (.int .i64 x.b) := by rw [Nat.mul_comm]; exact H1.out.cell hx 3 (by omega)
      have hx4 : w.cell? ⟨b1, i * 5 + 4, none⟩ = some (.int .i64 x.w) := by rw [Nat.mul_comm]; exact H1.out.cell hx 4 (by omega)
      have hy0 : w.cell? ⟨b2, i * 5, none⟩ = some (.int .i32 x.r) := by rw [Nat.mul_comm]; exact H2.out.cell hx 0 (by omega)
      have hy1 : w.cell? ⟨b2, i * 5 + 1, none⟩ = some (.int .i64 x.f) := by rw [Nat.mul_comm]; exact H2.out.cell hx 1 (by omega)
      have hy2 : w.cell? ⟨b2, i * 5 + 2, none⟩ = some (.int .i64 x.g) := by rw [Nat.mul_comm]; exact H2.out.cell hx 2 (by omega)
      have hy3 : w.cell? ⟨b2, i * 5 + 3, none⟩ = some (.int .i64 x.b) := by rw [Nat.mul_comm]; exact H2.out.cell hx 3 (by omega)
      have hy4 : w.cell? ⟨b2, i * 5 + 4, none⟩ = some (.int .i64 x.w) := by rw [Nat.mul_comm]; exact H2.out.cell hx 4 (by omega)
      have hq : ∀ W : World, (binOp .neq 32 (.agg #[.int .i32 x.r, .int .i64 x.f, .int .i64 x.g, .int .i64 x.b, .int .i64 x.w]) (.agg #[.int .i32 x.r, .int .i64 x.f, .int .i64 x.g, .int .i64 x.b, .int .i64 x.w])).run Tryd.prog W = .ok (.bool (!same5 x x)) W := neq_cells x x
      rw [show same5 x x = true from same5_iff.2 rfl] at hq
      clear hx
      go_wp2
      go_quiet (fail)
      go_wp2
      refine ⟨⟨i + 1, m + nq, by omega, by go_num, by first | rfl | rw [World.drewN_drewN]⟩, by simp [intOf]; omega⟩
    · obtain rfl : i = n := by omega
      go_wp2
      go_ret
      exact ⟨rfl, m, rfl⟩
section
variable {P : Program} {ops : Array Oper} {Q : Exit → Act → World → Prop} {md : Region.Mode} {S S' : World → Prop} {ds : List Nat}
theorem swap_ : ∀ (fuel : Nat) (l : Array Bool) (a : Act) (w : World), (∀ i, l.getD i true = false → i ∈ ds) → wpAnyLast P md ops Q S' [] fuel l a w → wpAnyLast P md ops Q S ds fuel l a w
  | 0, _, _, _, _, h => h
  | fuel + 1, l, a, w, hl, h => by
    refine ⟨h.1, fun i hi => wpOp_mono (fun a' w' h' => ⟨fun hd => absurd (hl i (mem_ready.1 hi).1) hd, swap_ fuel _ a' w' (fun j hj => ?_) h'.2⟩) (h.2 i hi)⟩
    by_cases hij : i = j
    · subst hij
      exact hl i (mem_ready.1 hi).1
    · rw [getD_set_ne true hij] at hj
      exact hl j hj
theorem swap_b {n fuel : Nat} {l : Array Bool} {a : Act} {w : World} (hn : l.size = n) (hb : ((List.range n).all fun i => l.getD i true || ds.contains i) = true) (h : wpAnyLast P md ops Q S' [] fuel l a w) : wpAnyLast P md ops Q S ds fuel l a w := by
  refine swap_ fuel l a w (fun i hi => ?_) h
  by_cases hlt : i < n
  · have := List.all_eq_true.1 hb i (List.mem_range.2 hlt)
    rw [hi, Bool.false_or] at this
    simpa using this
  · rw [Array.getD_eq_getD_getElem?, Array.getElem?_eq_none (by omega)] at hi
    cases hi
end
end Go.Proofs.YtcfndcjbgalnpaaDoor.Hand
namespace Go.Proofs.YtcfndcjbgalnpaaDoor.Hand
open Go.RowKit Go.Proofs.YtcfndcjbgalnpaaDoorW.PrintWords Go.Proofs.YtcfndcjbgalnpaaDoorW.PrintLast
theorem RowAt.kept {w w' : World} {b : Nat} {L : List C5} (h : RowAt w b L) (h2 : w'.heap[b]? = w.heap[b]?) : RowAt w' b L := by
  obtain ⟨ex, h1⟩ := h.out
  exact ⟨ex, h2.trans h1⟩
theorem GridAt.kept {w w' : World} {base g b r c : Nat} {L : List C5} (h : GridAt w base g b r c L) (h1 : w'.heap[g]? = w.heap[g]?) (h2 : w'.heap[b]? = w.heap[b]?) : GridAt w' base g b r c L := by
  obtain ⟨cap, e, q⟩ := h.blk
  exact { h with blk := ⟨cap, h1.trans e, q⟩, row := h.row.kept h2 }
theorem RefAt.kept {w w' : World} {base g b r c : Nat} {L : List C5} (h : RefAt w base g b r c L) (h1 : w'.heap[g]? = w.heap[g]?) (h2 : w'.heap[b]? = w.heap[b]?) : RefAt w' base g b r c L := by
  obtain ⟨cap, e, q⟩ := h.blk
  exact { h with blk := ⟨cap, h1.trans e, q⟩, row := h.row.kept h2 }
set_option maxRecDepth 100000 in
set_option maxHeartbeats 8000000 in
theorem gridPlays_calls {w : World} (hT : TabW w) (rows cols : Int) (A : Option Addr) (cap : Nat) (l : List O9) (hC : Kd.C kO w A l.length l) :
    Calls Tryd.prog 8 #[.int .i64 rows, .int .i64 cols, .slice A l.length cap] w (fun e w' => e = .returned (.bool true) ∧ Below w.heap.size w w') := by
  have HT := Aside0.mk hT
  have HC := Aside0.mk hC
  clear hT hC
  have last : ∀ W, Below w.heap.size w W → Calls Tryd.prog 9 #[] W (fun e w' => e = .returned (.bool true) ∧ Below w.heap.size w w') := fun W h => (first_calls (tabAt HT.out h)).mono (by rintro e w' ⟨rfl, hb⟩; exact ⟨rfl, below_step h hb⟩)
  have LAST := Aside0.mk last
  clear last
  go_enter Tryd.func8, Tryd.ntmps8
  go_wp2_with fail
  refine (LAST.out w (Below.refl _ _)).mono ?_
  rintro e w1 ⟨rfl, hb1⟩
  have HB1 := Aside0.mk hb1
  clear hb1
  by_cases q1 : (l.length : Int) > 100
  · go_wp2_with fail
    refine (LAST.out w1 HB1.out).mono ?_
    rintro e w2 ⟨rfl, hb2⟩
    go_wp2
    go_ret
    exact ⟨rfl, hb2⟩
  by_cases hr : 1 ≤ rows ∧ rows ≤ 60 ∧ 1 ≤ cols ∧ cols ≤ 200
  case neg =>
    go_wp2_with fail
    refine (new_no rows cols hr).mono ?_
    rintro e w2 ⟨rfl, hb2⟩
    have HB2 := Aside0.mk (below_step HB1.out hb2)
    clear hb2
    go_wp2_with fail
    refine (rnew_no rows cols hr).mono ?_
    rintro e w3 ⟨rfl, hb3⟩
    have HB3 := Aside0.mk (below_step HB2.out hb3)
    clear hb3
    go_wp2_with fail
    refine (LAST.out w3 HB3.out).mono ?_
    rintro e w5 ⟨rfl, hb5⟩
    go_wp2
    go_ret
    exact ⟨rfl, hb5⟩
  obtain ⟨r0, rfl⟩ := Int.eq_ofNat_of_zero_le (show 0 ≤ rows by omega)
  obtain ⟨c0, rfl⟩ := Int.eq_ofNat_of_zero_le (show 0 ≤ cols by omega)
  have hr1 : 1 ≤ r0 := by omega
  have hr2 : r0 ≤ 60 := by omega
  have hc1 : 1 ≤ c0 := by omega
  have hc2 : c0 ≤ 200 := by omega
  go_wp2_with fail
  refine (new_yes r0 c0 hr1 hr2 hc1 hc2).mono ?_
  rintro e w2 ⟨g, b0, rfl, hG2, hb2⟩
  have HB2 := Aside0.mk (below_step HB1.out hb2)
  have HG2 := Aside0.mk (GridAt.lower hG2 HB1.out.size)
  clear hb2 hG2 HB1 hr
  go_wp2_with fail
  refine (rnew_yes r0 c0 hr1 hr2 hc1 hc2).mono ?_
  rintro e w3 ⟨x, x0, rfl, hX3, hb3⟩
  have l1 := HG2.out.blk.elim fun _ q => blk_lt q.1
  have l2 := HG2.out.row.lt
  have l3 := hX3.bg
  have l4 := hX3.bb
  have HO3 := Aside0.mk (show Both w w3 g b0 x x0 r0 c0 (List.replicate (r0 * c0) (blankC 0)) from ⟨below_step HB2.out hb3, HG2.out.below hb3, hX3.lower HB2.out.size, GridOk.rep mayC_blank0 rfl _ _ _, by omega, by omega, by omega, by omega⟩)
  clear hb3 hX3 HB2 HG2 l1 l2 l3 l4
  obtain ⟨L0, hL0⟩ : ∃ L0, List.replicate (r0 * c0) (blankC 0) = L0 := ⟨_, rfl⟩
  rw [hL0] at HO3
  clear hL0
  go_wp2_with fail
  refine (copy_calls HO3.out.G).mono ?_
  rintro e w4 ⟨gc, bc, rfl, hC4, hb4⟩
  have HO4 := Aside0.mk (HO3.out.below hb4)
  have HC4 := Aside0.mk hC4
  have l5 := HO3.out.lt
  have hsz34 := hb4.size
  clear hb4 hC4 HO3
  go_wp2_with fail
  refine (rcopy_calls HO4.out.R).mono ?_
  rintro e w5 ⟨xc, bxc, rfl, hX5, hb5⟩
  have HO5 := Aside0.mk (HO4.out.below hb5)
  have HC5 := Aside0.mk (HC4.out.below hb5)
  have HX5 := Aside0.mk hX5
  obtain ⟨l1, l2, l3, l4⟩ := l5
  have m1 := HC4.out.bg
  have m2 := HC4.out.bb
  have m3 := hX5.bg
  have m4 := hX5.bb
  have hfar : ∀ k ∈ [gc, bc, xc, bxc], k < w5.heap.size ∧ k ∉ [g, b0, x, x0] := by
    have n1 := HC5.out.blk.elim fun _ q => blk_lt q.1
    have n2 := HC5.out.row.lt
    have n3 := HX5.out.blk.elim fun _ q => blk_lt q.1
    have n4 := HX5.out.row.lt
    have n5 := hsz34
    intro k hk
    simp only [List.mem_cons, List.not_mem_nil, or_false] at hk ⊢
    rcases hk with rfl | rfl | rfl | rfl <;> exact ⟨by omega, by omega⟩
  have HF := Aside0.mk hfar
  clear l1 l2 l3 l4 m1 m2 m3 m4 hX5 hb5 HC4 HO4 hfar hsz34
  have hl : l.length ≤ 100 := by omega
  clear q1
  go_wp2
  go_loopw [13] (fun v13 wr => ∃ i : Nat, i ≤ l.length ∧ v13 = .int .i64 i ∧ ∃ b bx r c L, Aside0 (Both w wr g b x bx r c L) ∧ Aside0 (∃ bs1 bs2, GridAt wr bs1 gc bc r0 c0 L0 ∧ RefAt wr bs2 xc bxc r0 c0 L0) ∧ Aside0 (∀ k ∈ [gc, bc, xc, bxc], k < wr.heap.size ∧ k ∉ [g, b, x, bx])) (fun v13 _ => l.length - (intOf v13).toNat)
  case atStart => exact ⟨0, Nat.zero_le _, rfl, b0, x0, r0, c0, L0, HO5, ⟨_, _, HC5.out, HX5.out⟩, HF⟩
  case round =>
    as_aux_lemma =>
      obtain ⟨i, hi1, rfl, b, bx, r, c, L, HO, HCX, HFR⟩ := hrel
      clear HO5 HC5 HX5 HF
      by_cases ha : i < l.length
      · have HLT := Aside0.mk ha
        obtain ⟨o, ho⟩ : ∃ o, l[i]? = some o := ⟨_, List.getElem?_eq_getElem ha⟩
        obtain ⟨ad, rfl, hlc⟩ := at_op9 HC.out ho
        have HLC : Aside0 (∀ W, Below w.heap.size w W → W.cell? (ad.add (i * 9)) = some (.int .i64 o.kd) ∧ W.cell? ⟨(ad.add (i * 9)).block, (ad.add (i * 9)).off + 1, none⟩ = some (.int .i64 o.row) ∧ W.cell? ⟨(ad.add (i * 9)).block, (ad.add (i * 9)).off + 2, none⟩ = some (.int .i64 o.col) ∧ W.cell? ⟨(ad.add (i * 9)).block, (ad.add (i * 9)).off + 3, none⟩ = some (.int .i64 o.n) ∧ W.cell? ⟨(ad.add (i * 9)).block, (ad.add (i * 9)).off + 4, none⟩ = some (.int .i32 o.x.r) ∧ W.cell? ⟨(ad.add (i * 9)).block, (ad.add (i * 9)).off + 5, none⟩ = some (.int .i64 o.x.f) ∧ W.cell? ⟨(ad.add (i * 9)).block, (ad.add (i * 9)).off + 6, none⟩ = some (.int .i64 o.x.g) ∧ W.cell? ⟨(ad.add (i * 9)).block, (ad.add (i * 9)).off + 7, none⟩ = some (.int .i64 o.x.b) ∧ W.cell? ⟨(ad.add (i * 9)).block, (ad.add (i * 9)).off + 8, none⟩ = some (.int .i64 o.x.w)) := ⟨fun W hb => by
          obtain ⟨ad', e, h⟩ := at_op9 (Kd.C_below HC.out hb) ho
          obtain rfl := Option.some.inj e
          exact h⟩
        have LCW : Aside0 (∀ {W}, Below w.heap.size w W → W.cell? (ad.add (i * 9)) = some (.int .i64 o.kd) ∧ W.cell? ⟨(ad.add (i * 9)).block, (ad.add (i * 9)).off + 1, none⟩ = some (.int .i64 o.row) ∧ W.cell? ⟨(ad.add (i * 9)).block, (ad.add (i * 9)).off + 2, none⟩ = some (.int .i64 o.col) ∧ W.cell? ⟨(ad.add (i * 9)).block, (ad.add (i * 9)).off + 3, none⟩ = some (.int .i64 o.n) ∧ W.cell? ⟨(ad.add (i * 9)).block, (ad.add (i * 9)).off + 4, none⟩ = some (.int .i32 o.x.r) ∧ W.cell? ⟨(ad.add (i * 9)).block, (ad.add (i * 9)).off + 5, none⟩ = some (.int .i64 o.x.f) ∧ W.cell? ⟨(ad.add (i * 9)).block, (ad.add (i * 9)).off + 6, none⟩ = some (.int .i64 o.x.g) ∧ W.cell? ⟨(ad.add (i * 9)).block, (ad.add (i * 9)).off + 7, none⟩ = some (.int .i64 o.x.b) ∧ W.cell? ⟨(ad.add (i * 9)).block, (ad.add (i * 9)).off + 8, none⟩ = some (.int .i64 o.x.w)) := ⟨fun hb => HLC.out _ hb⟩
        clear ho hlc HLC
        go_wp2
        have HOd := Aside0.mk (HO.out.below (below_drew (Below.refl _ _)))
        refine start_ (n := 63) (S := fun w' => w'.cell? (ad.add (i * 9)) = some (.int .i64 o.kd) ∧ w'.cell? ⟨(ad.add (i * 9)).block, (ad.add (i * 9)).off + 1, none⟩ = some (.int .i64 o.row) ∧ w'.cell? ⟨(ad.add (i * 9)).block, (ad.add (i * 9)).off + 2, none⟩ = some (.int .i64 o.col) ∧ w'.cell? ⟨(ad.add (i * 9)).block, (ad.add (i * 9)).off + 3, none⟩ = some (.int .i64 o.n) ∧ w'.cell? ⟨(ad.add (i * 9)).block, (ad.add (i * 9)).off + 4, none⟩ = some (.int .i32 o.x.r) ∧ w'.cell? ⟨(ad.add (i * 9)).block, (ad.add (i * 9)).off + 5, none⟩ = some (.int .i64 o.x.f) ∧ w'.cell? ⟨(ad.add (i * 9)).block, (ad.add (i * 9)).off + 6, none⟩ = some (.int .i64 o.x.g) ∧ w'.cell? ⟨(ad.add (i * 9)).block, (ad.add (i * 9)).off + 7, none⟩ = some (.int .i64 o.x.b) ∧ w'.cell? ⟨(ad.add (i * 9)).block, (ad.add (i * 9)).off + 8, none⟩ = some (.int .i64 o.x.w)) (ds := [6, 7, 8, 9, 10, 11, 12, 13, 14, 15, 16, 17, 18, 19, 20, 21, 22, 23, 24, 25, 26, 27, 28, 29, 30, 31, 32, 33, 34, 35, 36, 37, 38, 39, 40, 41, 42, 43, 44, 45, 46, 47, 48, 49, 50, 51, 52, 53, 54, 55, 56, 57, 58, 59, 60, 61, 62]) #[false, false, false, false, false, false, false, false, false, false, false, false, false, false, false, false, false, false, false, false, false, false, false, false, false, false, false, false, false, false, false, false, false, false, false, false, false, false, false, false, false, false, false, false, false, false, false, false, false, false, false, false, false, false, false, false, false, false, false, false, false, false, false] (by kernel_rfl) rfl rfl ⟨(LCW.out HOd.out.B).1, (LCW.out HOd.out.B).2.1, (LCW.out HOd.out.B).2.2.1, (LCW.out HOd.out.B).2.2.2.1, (LCW.out HOd.out.B).2.2.2.2.1, (LCW.out HOd.out.B).2.2.2.2.2.1, (LCW.out HOd.out.B).2.2.2.2.2.2.1, (LCW.out HOd.out.B).2.2.2.2.2.2.2.1, (LCW.out HOd.out.B).2.2.2.2.2.2.2.2⟩ (fun hHeld => ?_)
        refine pure_ (i := 0) (N := some 55) (v := ?_) (a' := ?_) #[true, false, false, false, false, false, false, false, false, false, false, false, false, false, false, false, false, false, false, false, false, false, false, false, false, false, false, false, false, false, false, false, false, false, false, false, false, false, false, false, false, false, false, false, false, false, false, false, false, false, false, false, false, false, false, false, false, false, false, false, false, false, false] rfl rfl (by kernel_rfl) (fun _ _ _ h => h) (Or.inl ⟨by rfl, ?_⟩) ?_ ?_
        rotate_left
        · intro w'
          go_simp
          with_reducible rfl
        rotate_left
        · simp only [Act.put, List.setIfInBounds_toArray, List.set_cons_zero, List.set_cons_succ, i64_w, i32_w]
          rfl
        refine pure_ (i := 1) (N := some 56) (v := ?_) (a' := ?_) #[true, true, false, false, false, false, false, false, false, false, false, false, false, false, false, false, false, false, false, false, false, false, false, false, false, false, false, false, false, false, false, false, false, false, false, false, false, false, false, false, false, false, false, false, false, false, false, false, false, false, false, false, false, false, false, false, false, false, false, false, false, false, false] rfl rfl (by kernel_rfl) (fun _ _ _ h => h) (Or.inl ⟨by rfl, ?_⟩) ?_ ?_
        rotate_left
        · intro w'
          go_simp
          with_reducible rfl
        rotate_left
        · simp only [Act.put, List.setIfInBounds_toArray, List.set_cons_zero, List.set_cons_succ, i64_w, i32_w]
          rfl
        refine pure_ (i := 2) (N := some 57) (v := ?_) (a' := ?_) #[true, true, true, false, false, false, false, false, false, false, false, false, false, false, false, false, false, false, false, false, false, false, false, false, false, false, false, false, false, false, false, false, false, false, false, false, false, false, false, false, false, false, false, false, false, false, false, false, false, false, false, false, false, false, false, false, false, false, false, false, false, false, false] rfl rfl (by kernel_rfl) (fun _ _ _ h => h) (Or.inl ⟨by rfl, ?_⟩) ?_ ?_
        rotate_left
        · intro w'
          go_simp
          with_reducible rfl
        rotate_left
        · simp only [Act.put, List.setIfInBounds_toArray, List.set_cons_zero, List.set_cons_succ, i64_w, i32_w]
          rfl
        refine pure_ (i := 3) (N := some 58) (v := ?_) (a' := ?_) #[true, true, true, true, false, false, false, false, false, false, false, false, false, false, false, false, false, false, false, false, false, false, false, false, false, false, false, false, false, false, false, false, false, false, false, false, false, false, false, false, false, false, false, false, false, false, false, false, false, false, false, false, false, false, false, false, false, false, false, false, false, false, false] rfl rfl (by kernel_rfl) (fun _ _ _ h => h) (Or.inl ⟨by rfl, ?_⟩) ?_ ?_
        rotate_left
        · intro w'
          go_simp
          with_reducible rfl
        rotate_left
        · simp only [Act.put, List.setIfInBounds_toArray, List.set_cons_zero, List.set_cons_succ, i64_w, i32_w]
          rfl
        refine pure_ (i := 4) (N := some 59) (v := ?_) (a' := ?_) #[true, true, true, true, true, false, false, false, false, false, false, false, false, false, false, false, false, false, false, false, false, false, false, false, false, false, false, false, false, false, false, false, false, false, false, false, false, false, false, false, false, false, false, false, false, false, false, false, false, false, false, false, false, false, false, false, false, false, false, false, false, false, false] rfl rfl (by kernel_rfl) (fun _ _ _ h => h) (Or.inl ⟨by rfl, ?_⟩) ?_ ?_
        rotate_left
        · intro w'
          go_simp
          with_reducible rfl
        rotate_left
        · simp only [Act.put, List.setIfInBounds_toArray, List.set_cons_zero, List.set_cons_succ, i64_w, i32_w]
          rfl
        refine take_ (i := 5) (N := some 60) (v := ?_) (a' := ?_) #[true, true, true, true, true, true, false, false, false, false, false, false, false, false, false, false, false, false, false, false, false, false, false, false, false, false, false, false, false, false, false, false, false, false, false, false, false, false, false, false, false, false, false, false, false, false, false, false, false, false, false, false, false, false, false, false, false, false, false, false, false, false, false] rfl rfl (by kernel_rfl) (fun _ _ _ h => h) (Or.inl ⟨by rfl, ?_⟩) hHeld ?_ ?_
        rotate_left
        · rintro w' ⟨s0, s1, s2, s3, s4, s5, s6, s7, s8⟩
          go_simp
          with_reducible rfl
        rotate_left
        · simp only [Act.put, List.setIfInBounds_toArray, List.set_cons_zero, List.set_cons_succ, i64_w, i32_w]
          rfl
        refine last_ (i := 6) (N := some 61) #[true, true, true, true, true, true, true, false, false, false, false, false, false, false, false, false, false, false, false, false, false, false, false, false, false, false, false, false, false, false, false, false, false, false, false, false, false, false, false, false, false, false, false, false, false, false, false, false, false, false, false, false, false, false, false, false, false, false, false, false, false, false, false] rfl rfl (by kernel_rfl) (by decide) (fun K hK => ?_)
        refine goes_ Tryd.func28 (by kernel_rfl) rfl #[.pointer (some ⟨g, 0, none⟩), .pointer (some ⟨x, 0, none⟩), .agg #[.int .i64 o.kd, .int .i64 o.row, .int .i64 o.col, .int .i64 o.n, .int .i32 o.x.r, .int .i64 o.x.f, .int .i64 o.x.g, .int .i64 o.x.b, .int .i64 o.x.w]] (by rfl) rfl rfl (by simp only [List.map_toArray, List.map_cons, List.map_nil]; rfl) ?_
        refine (does_calls HT.out HOd.out o).mono ?_
        rintro e w4 ⟨rfl, b4, x4, r4, c4, L4, hB4, hb4, hx4, hK4⟩
        refine ⟨_, rfl, ?_⟩
        have HO4 := Aside0.mk hB4
        have HB4 := Aside0.mk hb4
        have HX4 := Aside0.mk hx4
        have HKB4 := Aside0.mk hK4
        clear hB4 hb4 hx4 hK4
        refine hK.out _ _ ?_
        clear hK K
        refine norm_ (a' := ?_) ?_ ?_
        rotate_left
        · show Act.put _ (some 61) _ = _
          simp only [Act.put, List.setIfInBounds_toArray, List.set_cons_zero, List.set_cons_succ, i64_w, i32_w]
          rfl
        obtain ⟨capx, hx1, hx2, hx3, hx4, hx5⟩ := HO4.out.R.cells
        have XCW : Aside0 (∀ {W}, Below w4.heap.size w4 W → W.cell? ⟨x, 0, none⟩ = some (.int .i64 (r4 : Int)) ∧ W.cell? ⟨x, 1, none⟩ = some (.int .i64 (c4 : Int)) ∧ W.cell? ⟨x, 2, none⟩ = some (.slice (some ⟨x4, 0, none⟩) L4.length capx)) := ⟨fun {W} hb => by
          obtain ⟨cp, q1, q2⟩ := HO4.out.R.blk
          have q3 := blk_below q1 hb
          have e : cp = capx := by
            have := (blk_cell q1 2).symm.trans hx5
            injection this with this
            injection this
          subst e
          exact ⟨(blk_cell q3 0).trans rfl, (blk_cell q3 1).trans rfl, (blk_cell q3 2).trans rfl⟩⟩
        clear hx1 hx2 hx3 hx4 hx5
        have HBR := Aside0.mk (Below.refl w4.heap.size w4)
        have hq : ∀ W : World, (binOp .neq 32 (atC r4 c4 L4 o.row o.col).agg (atC r4 c4 L4 o.row o.col).agg).run Tryd.prog W = .ok (.bool (!same5 (atC r4 c4 L4 o.row o.col) (atC r4 c4 L4 o.row o.col))) W := fun W => neq_cells _ _ W
        rw [show same5 (atC r4 c4 L4 o.row o.col) (atC r4 c4 L4 o.row o.col) = true from same5_iff.2 rfl] at hq
        refine swap_b (S' := fun w' => w'.cell? ⟨x, 0, none⟩ = some (.int .i64 (r4 : Int)) ∧ w'.cell? ⟨x, 1, none⟩ = some (.int .i64 (c4 : Int)) ∧ w'.cell? ⟨x, 2, none⟩ = some (.slice (some ⟨x4, 0, none⟩) L4.length capx) ∧ w'.cell? (ad.add (i * 9)) = some (.int .i64 o.kd) ∧ w'.cell? ⟨(ad.add (i * 9)).block, (ad.add (i * 9)).off + 1, none⟩ = some (.int .i64 o.row) ∧ w'.cell? ⟨(ad.add (i * 9)).block, (ad.add (i * 9)).off + 2, none⟩ = some (.int .i64 o.col) ∧ w'.cell? ⟨(ad.add (i * 9)).block, (ad.add (i * 9)).off + 3, none⟩ = some (.int .i64 o.n) ∧ w'.cell? ⟨(ad.add (i * 9)).block, (ad.add (i * 9)).off + 4, none⟩ = some (.int .i32 o.x.r) ∧ w'.cell? ⟨(ad.add (i * 9)).block, (ad.add (i * 9)).off + 5, none⟩ = some (.int .i64 o.x.f) ∧ w'.cell? ⟨(ad.add (i * 9)).block, (ad.add (i * 9)).off + 6, none⟩ = some (.int .i64 o.x.g) ∧ w'.cell? ⟨(ad.add (i * 9)).block, (ad.add (i * 9)).off + 7, none⟩ = some (.int .i64 o.x.b) ∧ w'.cell? ⟨(ad.add (i * 9)).block, (ad.add (i * 9)).off + 8, none⟩ = some (.int .i64 o.x.w)) rfl (by kernel_rfl) ?_
        have hHeld : (fun w' : World => w'.cell? ⟨x, 0, none⟩ = some (.int .i64 (r4 : Int)) ∧ w'.cell? ⟨x, 1, none⟩ = some (.int .i64 (c4 : Int)) ∧ w'.cell? ⟨x, 2, none⟩ = some (.slice (some ⟨x4, 0, none⟩) L4.length capx) ∧ w'.cell? (ad.add (i * 9)) = some (.int .i64 o.kd) ∧ w'.cell? ⟨(ad.add (i * 9)).block, (ad.add (i * 9)).off + 1, none⟩ = some (.int .i64 o.row) ∧ w'.cell? ⟨(ad.add (i * 9)).block, (ad.add (i * 9)).off + 2, none⟩ = some (.int .i64 o.col) ∧ w'.cell? ⟨(ad.add (i * 9)).block, (ad.add (i * 9)).off + 3, none⟩ = some (.int .i64 o.n) ∧ w'.cell? ⟨(ad.add (i * 9)).block, (ad.add (i * 9)).off + 4, none⟩ = some (.int .i32 o.x.r) ∧ w'.cell? ⟨(ad.add (i * 9)).block, (ad.add (i * 9)).off + 5, none⟩ = some (.int .i64 o.x.f) ∧ w'.cell? ⟨(ad.add (i * 9)).block, (ad.add (i * 9)).off + 6, none⟩ = some (.int .i64 o.x.g) ∧ w'.cell? ⟨(ad.add (i * 9)).block, (ad.add (i * 9)).off + 7, none⟩ = some (.int .i64 o.x.b) ∧ w'.cell? ⟨(ad.add (i * 9)).block, (ad.add (i * 9)).off + 8, none⟩ = some (.int .i64 o.x.w)) w4 := ⟨(XCW.out HBR.out).1, (XCW.out HBR.out).2.1, (XCW.out HBR.out).2.2, (LCW.out (below_step HO4.out.B HBR.out)).1, (LCW.out (below_step HO4.out.B HBR.out)).2.1, (LCW.out (below_step HO4.out.B HBR.out)).2.2.1, (LCW.out (below_step HO4.out.B HBR.out)).2.2.2.1, (LCW.out (below_step HO4.out.B HBR.out)).2.2.2.2.1, (LCW.out (below_step HO4.out.B HBR.out)).2.2.2.2.2.1, (LCW.out (below_step HO4.out.B HBR.out)).2.2.2.2.2.2.1, (LCW.out (below_step HO4.out.B HBR.out)).2.2.2.2.2.2.2.1, (LCW.out (below_step HO4.out.B HBR.out)).2.2.2.2.2.2.2.2⟩
        as_aux_lemma =>
          refine pure_ (i := 7) (N := some 62) (v := ?_) (a' := ?_) #[true, true, true, true, true, true, true, true, false, false, false, false, false, false, false, false, false, false, false, false, false, false, false, false, false, false, false, false, false, false, false, false, false, false, false, false, false, false, false, false, false, false, false, false, false, false, false, false, false, false, false, false, false, false, false, false, false, false, false, false, false, false, false] rfl rfl (by kernel_rfl) (fun _ _ _ h => h) (Or.inl ⟨by rfl, ?_⟩) ?_ ?_
          rotate_left
          · intro w'
            go_simp
            with_reducible rfl
          rotate_left
          · simp only [Act.put, List.setIfInBounds_toArray, List.set_cons_zero, List.set_cons_succ, i64_w, i32_w]
            rfl
          refine pure_ (i := 8) (N := some 63) (v := ?_) (a' := ?_) #[true, true, true, true, true, true, true, true, true, false, false, false, false, false, false, false, false, false, false, false, false, false, false, false, false, false, false, false, false, false, false, false, false, false, false, false, false, false, false, false, false, false, false, false, false, false, false, false, false, false, false, false, false, false, false, false, false, false, false, false, false, false, false] rfl rfl (by kernel_rfl) (fun _ _ _ h => h) (Or.inl ⟨by rfl, ?_⟩) ?_ ?_
          rotate_left
          · intro w'
            go_simp
            with_reducible rfl
          rotate_left
          · simp only [Act.put, List.setIfInBounds_toArray, List.set_cons_zero, List.set_cons_succ, i64_w, i32_w]
            rfl
          refine pure_ (i := 9) (N := some 64) (v := ?_) (a' := ?_) #[true, true, true, true, true, true, true, true, true, true, false, false, false, false, false, false, false, false, false, false, false, false, false, false, false, false, false, false, false, false, false, false, false, false, false, false, false, false, false, false, false, false, false, false, false, false, false, false, false, false, false, false, false, false, false, false, false, false, false, false, false, false, false] rfl rfl (by kernel_rfl) (fun _ _ _ h => h) (Or.inl ⟨by rfl, ?_⟩) ?_ ?_
          rotate_left
          · intro w'
            go_simp
            with_reducible rfl
          rotate_left
          · simp only [Act.put, List.setIfInBounds_toArray, List.set_cons_zero, List.set_cons_succ, i64_w, i32_w]
            rfl
          refine pure_ (i := 11) (N := some 66) (v := ?_) (a' := ?_) #[true, true, true, true, true, true, true, true, true, true, false, true, false, false, false, false, false, false, false, false, false, false, false, false, false, false, false, false, false, false, false, false, false, false, false, false, false, false, false, false, false, false, false, false, false, false, false, false, false, false, false, false, false, false, false, false, false, false, false, false, false, false, false] rfl rfl (by kernel_rfl) (fun _ _ _ h => h) (Or.inl ⟨by rfl, ?_⟩) ?_ ?_
          rotate_left
          · intro w'
            go_simp
            with_reducible rfl
          rotate_left
          · simp only [Act.put, List.setIfInBounds_toArray, List.set_cons_zero, List.set_cons_succ, i64_w, i32_w]
            rfl
          refine pure_ (i := 12) (N := some 67) (v := ?_) (a' := ?_) #[true, true, true, true, true, true, true, true, true, true, false, true, true, false, false, false, false, false, false, false, false, false, false, false, false, false, false, false, false, false, false, false, false, false, false, false, false, false, false, false, false, false, false, false, false, false, false, false, false, false, false, false, false, false, false, false, false, false, false, false, false, false, false] rfl rfl (by kernel_rfl) (fun _ _ _ h => h) (Or.inl ⟨by rfl, ?_⟩) ?_ ?_
          rotate_left
          · intro w'
            go_simp
            with_reducible rfl
          rotate_left
          · simp only [Act.put, List.setIfInBounds_toArray, List.set_cons_zero, List.set_cons_succ, i64_w, i32_w]
            rfl
          refine pure_ (i := 13) (N := some 68) (v := ?_) (a' := ?_) #[true, true, true, true, true, true, true, true, true, true, false, true, true, true, false, false, false, false, false, false, false, false, false, false, false, false, false, false, false, false, false, false, false, false, false, false, false, false, false, false, false, false, false, false, false, false, false, false, false, false, false, false, false, false, false, false, false, false, false, false, false, false, false] rfl rfl (by kernel_rfl) (fun _ _ _ h => h) (Or.inl ⟨by rfl, ?_⟩) ?_ ?_
          rotate_left
          · intro w'
            go_simp
            with_reducible rfl
          rotate_left
          · simp only [Act.put, List.setIfInBounds_toArray, List.set_cons_zero, List.set_cons_succ, i64_w, i32_w]
            rfl
          refine take_ (i := 14) (N := some 69) (v := ?_) (a' := ?_) #[true, true, true, true, true, true, true, true, true, true, false, true, true, true, true, false, false, false, false, false, false, false, false, false, false, false, false, false, false, false, false, false, false, false, false, false, false, false, false, false, false, false, false, false, false, false, false, false, false, false, false, false, false, false, false, false, false, false, false, false, false, false, false] rfl rfl (by kernel_rfl) (fun _ _ _ h => h) (Or.inl ⟨by rfl, ?_⟩) hHeld ?_ ?_
          rotate_left
          · rintro w' ⟨s0, s1, s2, s3, s4, s5, s6, s7, s8, s9, s10, s11⟩
            go_simp
            with_reducible rfl
          rotate_left
          · simp only [Act.put, List.setIfInBounds_toArray, List.set_cons_zero, List.set_cons_succ, i64_w, i32_w]
            rfl
          refine one_ (i := 10) (N := some 65) #[true, true, true, true, true, true, true, true, true, true, true, true, true, true, true, false, false, false, false, false, false, false, false, false, false, false, false, false, false, false, false, false, false, false, false, false, false, false, false, false, false, false, false, false, false, false, false, false, false, false, false, false, false, false, false, false, false, false, false, false, false, false, false] rfl rfl (by kernel_rfl) (by decide) (fun K hK => ?_)
          refine goes_ Tryd.func18 (by kernel_rfl) rfl #[.pointer (some ⟨g, 0, none⟩)] (by rfl) rfl rfl (by simp only [List.map_toArray, List.map_cons, List.map_nil]; rfl) ?_
          refine (rows_calls (HO4.out.G.below (Below.refl _ _))).mono ?_
          rintro e w5 ⟨rfl, rfl⟩
          refine ⟨_, rfl, ?_⟩
          refine hK.out _ _ ⟨(XCW.out HBR.out).1, (XCW.out HBR.out).2.1, (XCW.out HBR.out).2.2, (LCW.out (below_step HO4.out.B HBR.out)).1, (LCW.out (below_step HO4.out.B HBR.out)).2.1, (LCW.out (below_step HO4.out.B HBR.out)).2.2.1, (LCW.out (below_step HO4.out.B HBR.out)).2.2.2.1, (LCW.out (below_step HO4.out.B HBR.out)).2.2.2.2.1, (LCW.out (below_step HO4.out.B HBR.out)).2.2.2.2.2.1, (LCW.out (below_step HO4.out.B HBR.out)).2.2.2.2.2.2.1, (LCW.out (below_step HO4.out.B HBR.out)).2.2.2.2.2.2.2.1, (LCW.out (below_step HO4.out.B HBR.out)).2.2.2.2.2.2.2.2⟩ (fun hHeld => ?_)
          clear hK K
          refine norm_ (a' := ?_) ?_ ?_
          rotate_left
          · show Act.put _ (some 65) _ = _
            simp only [Act.put, List.setIfInBounds_toArray, List.set_cons_zero, List.set_cons_succ, i64_w, i32_w]
            rfl
          refine pure_ (i := 15) (N := some 70) (v := ?_) (a' := ?_) #[true, true, true, true, true, true, true, true, true, true, true, true, true, true, true, true, false, false, false, false, false, false, false, false, false, false, false, false, false, false, false, false, false, false, false, false, false, false, false, false, false, false, false, false, false, false, false, false, false, false, false, false, false, false, false, false, false, false, false, false, false, false, false] rfl rfl (by kernel_rfl) (fun _ _ _ h => h) (Or.inl ⟨by rfl, ?_⟩) ?_ ?_
          rotate_left
          · intro w'
            go_simp
            with_reducible rfl
          rotate_left
          · simp only [Act.put, List.setIfInBounds_toArray, List.set_cons_zero, List.set_cons_succ, i64_w, i32_w]
            rfl
          refine pure_ (i := 16) (N := some 71) (v := ?_) (a' := ?_) #[true, true, true, true, true, true, true, true, true, true, true, true, true, true, true, true, true, false, false, false, false, false, false, false, false, false, false, false, false, false, false, false, false, false, false, false, false, false, false, false, false, false, false, false, false, false, false, false, false, false, false, false, false, false, false, false, false, false, false, false, false, false, false] rfl rfl (by kernel_rfl) (fun _ _ _ h => h) (Or.inl ⟨by rfl, ?_⟩) ?_ ?_
          rotate_left
          · intro w'
            go_simp
            with_reducible rfl
          rotate_left
          · simp only [Act.put, List.setIfInBounds_toArray, List.set_cons_zero, List.set_cons_succ, i64_w, i32_w]
            rfl
          refine pure_ (i := 17) (N := some 72) (v := ?_) (a' := ?_) #[true, true, true, true, true, true, true, true, true, true, true, true, true, true, true, true, true, true, false, false, false, false, false, false, false, false, false, false, false, false, false, false, false, false, false, false, false, false, false, false, false, false, false, false, false, false, false, false, false, false, false, false, false, false, false, false, false, false, false, false, false, false, false] rfl rfl (by kernel_rfl) (fun _ _ _ h => h) (Or.inl ⟨by rfl, ?_⟩) ?_ ?_
          rotate_left
          · intro w'
            go_simp
            with_reducible rfl
          rotate_left
          · simp only [Act.put, List.setIfInBounds_toArray, List.set_cons_zero, List.set_cons_succ, i64_w, i32_w]
            rfl
          refine pure_ (i := 18) (N := some 73) (v := ?_) (a' := ?_) #[true, true, true, true, true, true, true, true, true, true, true, true, true, true, true, true, true, true, true, false, false, false, false, false, false, false, false, false, false, false, false, false, false, false, false, false, false, false, false, false, false, false, false, false, false, false, false, false, false, false, false, false, false, false, false, false, false, false, false, false, false, false, false] rfl rfl (by kernel_rfl) (fun _ _ _ h => h) (Or.inl ⟨by rfl, ?_⟩) ?_ ?_
          rotate_left
          · intro w'
            go_simp
            with_reducible rfl
          rotate_left
          · simp only [Act.put, List.setIfInBounds_toArray, List.set_cons_zero, List.set_cons_succ, i64_w, i32_w]
            rfl
          refine pure_ (i := 20) (N := some 75) (v := ?_) (a' := ?_) #[true, true, true, true, true, true, true, true, true, true, true, true, true, true, true, true, true, true, true, false, true, false, false, false, false, false, false, false, false, false, false, false, false, false, false, false, false, false, false, false, false, false, false, false, false, false, false, false, false, false, false, false, false, false, false, false, false, false, false, false, false, false, false] rfl rfl (by kernel_rfl) (fun _ _ _ h => h) (Or.inl ⟨by rfl, ?_⟩) ?_ ?_
          rotate_left
          · intro w'
            go_simp
            with_reducible rfl
          rotate_left
          · simp only [Act.put, List.setIfInBounds_toArray, List.set_cons_zero, List.set_cons_succ, i64_w, i32_w]
            rfl
          refine pure_ (i := 21) (N := some 76) (v := ?_) (a' := ?_) #[true, true, true, true, true, true, true, true, true, true, true, true, true, true, true, true, true, true, true, false, true, true, false, false, false, false, false, false, false, false, false, false, false, false, false, false, false, false, false, false, false, false, false, false, false, false, false, false, false, false, false, false, false, false, false, false, false, false, false, false, false, false, false] rfl rfl (by kernel_rfl) (fun _ _ _ h => h) (Or.inl ⟨by rfl, ?_⟩) ?_ ?_
          rotate_left
          · intro w'
            go_simp
            with_reducible rfl
          rotate_left
          · simp only [Act.put, List.setIfInBounds_toArray, List.set_cons_zero, List.set_cons_succ, i64_w, i32_w]
            rfl
          refine pure_ (i := 22) (N := some 77) (v := ?_) (a' := ?_) #[true, true, true, true, true, true, true, true, true, true, true, true, true, true, true, true, true, true, true, false, true, true, true, false, false, false, false, false, false, false, false, false, false, false, false, false, false, false, false, false, false, false, false, false, false, false, false, false, false, false, false, false, false, false, false, false, false, false, false, false, false, false, false] rfl rfl (by kernel_rfl) (fun _ _ _ h => h) (Or.inl ⟨by rfl, ?_⟩) ?_ ?_
          rotate_left
          · intro w'
            go_simp
            with_reducible rfl
          rotate_left
          · simp only [Act.put, List.setIfInBounds_toArray, List.set_cons_zero, List.set_cons_succ, i64_w, i32_w]
            rfl
          refine take_ (i := 23) (N := some 78) (v := ?_) (a' := ?_) #[true, true, true, true, true, true, true, true, true, true, true, true, true, true, true, true, true, true, true, false, true, true, true, true, false, false, false, false, false, false, false, false, false, false, false, false, false, false, false, false, false, false, false, false, false, false, false, false, false, false, false, false, false, false, false, false, false, false, false, false, false, false, false] rfl rfl (by kernel_rfl) (fun _ _ _ h => h) (Or.inl ⟨by rfl, ?_⟩) hHeld ?_ ?_
          rotate_left
          · rintro w' ⟨s0, s1, s2, s3, s4, s5, s6, s7, s8, s9, s10, s11⟩
            go_simp
            with_reducible rfl
          rotate_left
          · simp only [Act.put, List.setIfInBounds_toArray, List.set_cons_zero, List.set_cons_succ, i64_w, i32_w]
            rfl
          refine one_ (i := 19) (N := some 74) #[true, true, true, true, true, true, true, true, true, true, true, true, true, true, true, true, true, true, true, true, true, true, true, true, false, false, false, false, false, false, false, false, false, false, false, false, false, false, false, false, false, false, false, false, false, false, false, false, false, false, false, false, false, false, false, false, false, false, false, false, false, false, false] rfl rfl (by kernel_rfl) (by decide) (fun K hK => ?_)
          refine goes_ Tryd.func19 (by kernel_rfl) rfl #[.pointer (some ⟨g, 0, none⟩)] (by rfl) rfl rfl (by simp only [List.map_toArray, List.map_cons, List.map_nil]; rfl) ?_
          refine (cols_calls (HO4.out.G.below (Below.refl _ _))).mono ?_
          rintro e w6 ⟨rfl, rfl⟩
          refine ⟨_, rfl, ?_⟩
          refine hK.out _ _ ⟨(XCW.out HBR.out).1, (XCW.out HBR.out).2.1, (XCW.out HBR.out).2.2, (LCW.out (below_step HO4.out.B HBR.out)).1, (LCW.out (below_step HO4.out.B HBR.out)).2.1, (LCW.out (below_step HO4.out.B HBR.out)).2.2.1, (LCW.out (below_step HO4.out.B HBR.out)).2.2.2.1, (LCW.out (below_step HO4.out.B HBR.out)).2.2.2.2.1, (LCW.out (below_step HO4.out.B HBR.out)).2.2.2.2.2.1, (LCW.out (below_step HO4.out.B HBR.out)).2.2.2.2.2.2.1, (LCW.out (below_step HO4.out.B HBR.out)).2.2.2.2.2.2.2.1, (LCW.out (below_step HO4.out.B HBR.out)).2.2.2.2.2.2.2.2⟩ (fun hHeld => ?_)
          clear hK K
          refine norm_ (a' := ?_) ?_ ?_
          rotate_left
          · show Act.put _ (some 74) _ = _
            simp only [Act.put, List.setIfInBounds_toArray, List.set_cons_zero, List.set_cons_succ, i64_w, i32_w]
            rfl
          refine pure_ (i := 24) (N := some 79) (v := ?_) (a' := ?_) #[true, true, true, true, true, true, true, true, true, true, true, true, true, true, true, true, true, true, true, true, true, true, true, true, true, false, false, false, false, false, false, false, false, false, false, false, false, false, false, false, false, false, false, false, false, false, false, false, false, false, false, false, false, false, false, false, false, false, false, false, false, false, false] rfl rfl (by kernel_rfl) (fun _ _ _ h => h) (Or.inl ⟨by rfl, ?_⟩) ?_ ?_
          rotate_left
          · intro w'
            go_simp
            with_reducible rfl
          rotate_left
          · simp only [Act.put, List.setIfInBounds_toArray, List.set_cons_zero, List.set_cons_succ, i64_w, i32_w]
            rfl
          refine pure_ (i := 25) (N := some 80) (v := ?_) (a' := ?_) #[true, true, true, true, true, true, true, true, true, true, true, true, true, true, true, true, true, true, true, true, true, true, true, true, true, true, false, false, false, false, false, false, false, false, false, false, false, false, false, false, false, false, false, false, false, false, false, false, false, false, false, false, false, false, false, false, false, false, false, false, false, false, false] rfl rfl (by kernel_rfl) (fun _ _ _ h => h) (Or.inl ⟨by rfl, ?_⟩) ?_ ?_
          rotate_left
          · intro w'
            go_simp
            with_reducible rfl
          rotate_left
          · simp only [Act.put, List.setIfInBounds_toArray, List.set_cons_zero, List.set_cons_succ, i64_w, i32_w]
            rfl
          refine pure_ (i := 26) (N := some 81) (v := ?_) (a' := ?_) #[true, true, true, true, true, true, true, true, true, true, true, true, true, true, true, true, true, true, true, true, true, true, true, true, true, true, true, false, false, false, false, false, false, false, false, false, false, false, false, false, false, false, false, false, false, false, false, false, false, false, false, false, false, false, false, false, false, false, false, false, false, false, false] rfl rfl (by kernel_rfl) (fun _ _ _ h => h) (Or.inl ⟨by rfl, ?_⟩) ?_ ?_
          rotate_left
          · intro w'
            go_simp
            with_reducible rfl
          rotate_left
          · simp only [Act.put, List.setIfInBounds_toArray, List.set_cons_zero, List.set_cons_succ, i64_w, i32_w]
            rfl
          refine pure_ (i := 27) (N := some 82) (v := ?_) (a' := ?_) #[true, true, true, true, true, true, true, true, true, true, true, true, true, true, true, true, true, true, true, true, true, true, true, true, true, true, true, true, false, false, false, false, false, false, false, false, false, false, false, false, false, false, false, false, false, false, false, false, false, false, false, false, false, false, false, false, false, false, false, false, false, false, false] rfl rfl (by kernel_rfl) (fun _ _ _ h => h) (Or.inl ⟨by rfl, ?_⟩) ?_ ?_
          rotate_left
          · intro w'
            go_simp
            with_reducible rfl
          rotate_left
          · simp only [Act.put, List.setIfInBounds_toArray, List.set_cons_zero, List.set_cons_succ, i64_w, i32_w]
            rfl
          refine pure_ (i := 29) (N := some 84) (v := ?_) (a' := ?_) #[true, true, true, true, true, true, true, true, true, true, true, true, true, true, true, true, true, true, true, true, true, true, true, true, true, true, true, true, false, true, false, false, false, false, false, false, false, false, false, false, false, false, false, false, false, false, false, false, false, false, false, false, false, false, false, false, false, false, false, false, false, false, false] rfl rfl (by kernel_rfl) (fun _ _ _ h => h) (Or.inl ⟨by rfl, ?_⟩) ?_ ?_
          rotate_left
          · intro w'
            go_simp
            with_reducible rfl
          rotate_left
          · simp only [Act.put, List.setIfInBounds_toArray, List.set_cons_zero, List.set_cons_succ, i64_w, i32_w]
            rfl
          refine pure_ (i := 30) (N := some 85) (v := ?_) (a' := ?_) #[true, true, true, true, true, true, true, true, true, true, true, true, true, true, true, true, true, true, true, true, true, true, true, true, true, true, true, true, false, true, true, false, false, false, false, false, false, false, false, false, false, false, false, false, false, false, false, false, false, false, false, false, false, false, false, false, false, false, false, false, false, false, false] rfl rfl (by kernel_rfl) (fun _ _ _ h => h) (Or.inl ⟨by rfl, ?_⟩) ?_ ?_
          rotate_left
          · intro w'
            go_simp
            with_reducible rfl
          rotate_left
          · simp only [Act.put, List.setIfInBounds_toArray, List.set_cons_zero, List.set_cons_succ, i64_w, i32_w]
            rfl
          refine pure_ (i := 31) (N := some 86) (v := ?_) (a' := ?_) #[true, true, true, true, true, true, true, true, true, true, true, true, true, true, true, true, true, true, true, true, true, true, true, true, true, true, true, true, false, true, true, true, false, false, false, false, false, false, false, false, false, false, false, false, false, false, false, false, false, false, false, false, false, false, false, false, false, false, false, false, false, false, false] rfl rfl (by kernel_rfl) (fun _ _ _ h => h) (Or.inl ⟨by rfl, ?_⟩) ?_ ?_
          rotate_left
          · intro w'
            go_simp
            with_reducible rfl
          rotate_left
          · simp only [Act.put, List.setIfInBounds_toArray, List.set_cons_zero, List.set_cons_succ, i64_w, i32_w]
            rfl
          refine take_ (i := 32) (N := some 87) (v := ?_) (a' := ?_) #[true, true, true, true, true, true, true, true, true, true, true, true, true, true, true, true, true, true, true, true, true, true, true, true, true, true, true, true, false, true, true, true, true, false, false, false, false, false, false, false, false, false, false, false, false, false, false, false, false, false, false, false, false, false, false, false, false, false, false, false, false, false, false] rfl rfl (by kernel_rfl) (fun _ _ _ h => h) (Or.inl ⟨by rfl, ?_⟩) hHeld ?_ ?_
          rotate_left
          · rintro w' ⟨s0, s1, s2, s3, s4, s5, s6, s7, s8, s9, s10, s11⟩
            go_simp
            with_reducible rfl
          rotate_left
          · simp only [Act.put, List.setIfInBounds_toArray, List.set_cons_zero, List.set_cons_succ, i64_w, i32_w]
            rfl
          refine one_ (i := 28) (N := some 83) #[true, true, true, true, true, true, true, true, true, true, true, true, true, true, true, true, true, true, true, true, true, true, true, true, true, true, true, true, true, true, true, true, true, false, false, false, false, false, false, false, false, false, false, false, false, false, false, false, false, false, false, false, false, false, false, false, false, false, false, false, false, false, false] rfl rfl (by kernel_rfl) (by decide) (fun K hK => ?_)
          refine goes_ Tryd.func24 (by kernel_rfl) rfl #[.pointer (some ⟨g, 0, none⟩)] (by rfl) rfl rfl (by simp only [List.map_toArray, List.map_cons, List.map_nil]; rfl) ?_
          refine (cells_calls HO4.out.G).mono ?_
          rintro e w7 ⟨b7, cap7, rfl, k71, k72, k73, hR7, hb7⟩
          refine ⟨_, rfl, ?_⟩
          have HB7 := Aside0.mk hb7
          have HR7 := Aside0.mk hR7
          clear hb7 hR7 k71 k72 k73
          refine hK.out _ _ ⟨(XCW.out HB7.out).1, (XCW.out HB7.out).2.1, (XCW.out HB7.out).2.2, (LCW.out (below_step HO4.out.B HB7.out)).1, (LCW.out (below_step HO4.out.B HB7.out)).2.1, (LCW.out (below_step HO4.out.B HB7.out)).2.2.1, (LCW.out (below_step HO4.out.B HB7.out)).2.2.2.1, (LCW.out (below_step HO4.out.B HB7.out)).2.2.2.2.1, (LCW.out (below_step HO4.out.B HB7.out)).2.2.2.2.2.1, (LCW.out (below_step HO4.out.B HB7.out)).2.2.2.2.2.2.1, (LCW.out (below_step HO4.out.B HB7.out)).2.2.2.2.2.2.2.1, (LCW.out (below_step HO4.out.B HB7.out)).2.2.2.2.2.2.2.2⟩ (fun hHeld => ?_)
          clear hK K
          refine norm_ (a' := ?_) ?_ ?_
          rotate_left
          · show Act.put _ (some 83) _ = _
            simp only [Act.put, List.setIfInBounds_toArray, List.set_cons_zero, List.set_cons_succ, i64_w, i32_w]
            rfl
          refine one_ (i := 33) (N := some 88) #[true, true, true, true, true, true, true, true, true, true, true, true, true, true, true, true, true, true, true, true, true, true, true, true, true, true, true, true, true, true, true, true, true, true, false, false, false, false, false, false, false, false, false, false, false, false, false, false, false, false, false, false, false, false, false, false, false, false, false, false, false, false, false] rfl rfl (by kernel_rfl) (by decide) (fun K hK => ?_)
          refine goes_ Tryd.func29 (by kernel_rfl) rfl #[.slice (some ⟨b7, 0, none⟩) L4.length cap7, .slice (some ⟨x4, 0, none⟩) L4.length capx] (by rfl) rfl rfl (by simp only [List.map_toArray, List.map_cons, List.map_nil]; rfl) ?_
          refine (rcells_calls HR7.out (HO4.out.R.row.below HB7.out) HO4.out.G.small).mono ?_
          rintro e w8 ⟨rfl, m8, rfl⟩
          refine ⟨_, rfl, ?_⟩
          have HB8 := Aside0.mk (below_step HB7.out (below_drawn w7 m8))
          generalize w7.drewN m8 = w8 at *
          refine hK.out _ _ ⟨(XCW.out HB8.out).1, (XCW.out HB8.out).2.1, (XCW.out HB8.out).2.2, (LCW.out (below_step HO4.out.B HB8.out)).1, (LCW.out (below_step HO4.out.B HB8.out)).2.1, (LCW.out (below_step HO4.out.B HB8.out)).2.2.1, (LCW.out (below_step HO4.out.B HB8.out)).2.2.2.1, (LCW.out (below_step HO4.out.B HB8.out)).2.2.2.2.1, (LCW.out (below_step HO4.out.B HB8.out)).2.2.2.2.2.1, (LCW.out (below_step HO4.out.B HB8.out)).2.2.2.2.2.2.1, (LCW.out (below_step HO4.out.B HB8.out)).2.2.2.2.2.2.2.1, (LCW.out (below_step HO4.out.B HB8.out)).2.2.2.2.2.2.2.2⟩ (fun hHeld => ?_)
          clear hK K
          refine norm_ (a' := ?_) ?_ ?_
          rotate_left
          · show Act.put _ (some 88) _ = _
            simp only [Act.put, List.setIfInBounds_toArray, List.set_cons_zero, List.set_cons_succ, i64_w, i32_w]
            rfl
          refine pure_ (i := 34) (N := some 89) (v := ?_) (a' := ?_) #[true, true, true, true, true, true, true, true, true, true, true, true, true, true, true, true, true, true, true, true, true, true, true, true, true, true, true, true, true, true, true, true, true, true, true, false, false, false, false, false, false, false, false, false, false, false, false, false, false, false, false, false, false, false, false, false, false, false, false, false, false, false, false] rfl rfl (by kernel_rfl) (fun _ _ _ h => h) (Or.inl ⟨by rfl, ?_⟩) ?_ ?_
          rotate_left
          · intro w'
            go_simp
            with_reducible rfl
          rotate_left
          · simp only [Act.put, List.setIfInBounds_toArray, List.set_cons_zero, List.set_cons_succ, i64_w, i32_w]
            rfl
          refine pure_ (i := 35) (N := some 90) (v := ?_) (a' := ?_) #[true, true, true, true, true, true, true, true, true, true, true, true, true, true, true, true, true, true, true, true, true, true, true, true, true, true, true, true, true, true, true, true, true, true, true, true, false, false, false, false, false, false, false, false, false, false, false, false, false, false, false, false, false, false, false, false, false, false, false, false, false, false, false] rfl rfl (by kernel_rfl) (fun _ _ _ h => h) (Or.inl ⟨by rfl, ?_⟩) ?_ ?_
          rotate_left
          · intro w'
            go_simp
            with_reducible rfl
          rotate_left
          · simp only [Act.put, List.setIfInBounds_toArray, List.set_cons_zero, List.set_cons_succ, i64_w, i32_w]
            rfl
          refine pure_ (i := 36) (N := some 91) (v := ?_) (a' := ?_) #[true, true, true, true, true, true, true, true, true, true, true, true, true, true, true, true, true, true, true, true, true, true, true, true, true, true, true, true, true, true, true, true, true, true, true, true, true, false, false, false, false, false, false, false, false, false, false, false, false, false, false, false, false, false, false, false, false, false, false, false, false, false, false] rfl rfl (by kernel_rfl) (fun _ _ _ h => h) (Or.inl ⟨by rfl, ?_⟩) ?_ ?_
          rotate_left
          · intro w'
            go_simp
            with_reducible rfl
          rotate_left
          · simp only [Act.put, List.setIfInBounds_toArray, List.set_cons_zero, List.set_cons_succ, i64_w, i32_w]
            rfl
          refine pure_ (i := 37) (N := some 92) (v := ?_) (a' := ?_) #[true, true, true, true, true, true, true, true, true, true, true, true, true, true, true, true, true, true, true, true, true, true, true, true, true, true, true, true, true, true, true, true, true, true, true, true, true, true, false, false, false, false, false, false, false, false, false, false, false, false, false, false, false, false, false, false, false, false, false, false, false, false, false] rfl rfl (by kernel_rfl) (fun _ _ _ h => h) (Or.inl ⟨by rfl, ?_⟩) ?_ ?_
          rotate_left
          · intro w'
            go_simp
            with_reducible rfl
          rotate_left
          · simp only [Act.put, List.setIfInBounds_toArray, List.set_cons_zero, List.set_cons_succ, i64_w, i32_w]
            rfl
          refine pure_ (i := 38) (N := some 93) (v := ?_) (a' := ?_) #[true, true, true, true, true, true, true, true, true, true, true, true, true, true, true, true, true, true, true, true, true, true, true, true, true, true, true, true, true, true, true, true, true, true, true, true, true, true, true, false, false, false, false, false, false, false, false, false, false, false, false, false, false, false, false, false, false, false, false, false, false, false, false] rfl rfl (by kernel_rfl) (fun _ _ _ h => h) (Or.inl ⟨by rfl, ?_⟩) ?_ ?_
          rotate_left
          · intro w'
            go_simp
            with_reducible rfl
          rotate_left
          · simp only [Act.put, List.setIfInBounds_toArray, List.set_cons_zero, List.set_cons_succ, i64_w, i32_w]
            rfl
          refine pure_ (i := 39) (N := some 94) (v := ?_) (a' := ?_) #[true, true, true, true, true, true, true, true, true, true, true, true, true, true, true, true, true, true, true, true, true, true, true, true, true, true, true, true, true, true, true, true, true, true, true, true, true, true, true, true, false, false, false, false, false, false, false, false, false, false, false, false, false, false, false, false, false, false, false, false, false, false, false] rfl rfl (by kernel_rfl) (fun _ _ _ h => h) (Or.inl ⟨by rfl, ?_⟩) ?_ ?_
          rotate_left
          · intro w'
            go_simp
            with_reducible rfl
          rotate_left
          · simp only [Act.put, List.setIfInBounds_toArray, List.set_cons_zero, List.set_cons_succ, i64_w, i32_w]
            rfl
          refine pure_ (i := 40) (N := some 95) (v := ?_) (a' := ?_) #[true, true, true, true, true, true, true, true, true, true, true, true, true, true, true, true, true, true, true, true, true, true, true, true, true, true, true, true, true, true, true, true, true, true, true, true, true, true, true, true, true, false, false, false, false, false, false, false, false, false, false, false, false, false, false, false, false, false, false, false, false, false, false] rfl rfl (by kernel_rfl) (fun _ _ _ h => h) (Or.inl ⟨by rfl, ?_⟩) ?_ ?_
          rotate_left
          · intro w'
            go_simp
            with_reducible rfl
          rotate_left
          · simp only [Act.put, List.setIfInBounds_toArray, List.set_cons_zero, List.set_cons_succ, i64_w, i32_w]
            rfl
          refine pure_ (i := 41) (N := some 96) (v := ?_) (a' := ?_) #[true, true, true, true, true, true, true, true, true, true, true, true, true, true, true, true, true, true, true, true, true, true, true, true, true, true, true, true, true, true, true, true, true, true, true, true, true, true, true, true, true, true, false, false, false, false, false, false, false, false, false, false, false, false, false, false, false, false, false, false, false, false, false] rfl rfl (by kernel_rfl) (fun _ _ _ h => h) (Or.inl ⟨by rfl, ?_⟩) ?_ ?_
          rotate_left
          · intro w'
            go_simp
            with_reducible rfl
          rotate_left
          · simp only [Act.put, List.setIfInBounds_toArray, List.set_cons_zero, List.set_cons_succ, i64_w, i32_w]
            rfl
          refine pure_ (i := 43) (N := some 98) (v := ?_) (a' := ?_) #[true, true, true, true, true, true, true, true, true, true, true, true, true, true, true, true, true, true, true, true, true, true, true, true, true, true, true, true, true, true, true, true, true, true, true, true, true, true, true, true, true, true, false, true, false, false, false, false, false, false, false, false, false, false, false, false, false, false, false, false, false, false, false] rfl rfl (by kernel_rfl) (fun _ _ _ h => h) (Or.inl ⟨by rfl, ?_⟩) ?_ ?_
          rotate_left
          · intro w'
            go_simp
            with_reducible rfl
          rotate_left
          · simp only [Act.put, List.setIfInBounds_toArray, List.set_cons_zero, List.set_cons_succ, i64_w, i32_w]
            rfl
          refine pure_ (i := 44) (N := some 99) (v := ?_) (a' := ?_) #[true, true, true, true, true, true, true, true, true, true, true, true, true, true, true, true, true, true, true, true, true, true, true, true, true, true, true, true, true, true, true, true, true, true, true, true, true, true, true, true, true, true, false, true, true, false, false, false, false, false, false, false, false, false, false, false, false, false, false, false, false, false, false] rfl rfl (by kernel_rfl) (fun _ _ _ h => h) (Or.inl ⟨by rfl, ?_⟩) ?_ ?_
          rotate_left
          · intro w'
            go_simp
            with_reducible rfl
          rotate_left
          · simp only [Act.put, List.setIfInBounds_toArray, List.set_cons_zero, List.set_cons_succ, i64_w, i32_w]
            rfl
          refine pure_ (i := 45) (N := some 100) (v := ?_) (a' := ?_) #[true, true, true, true, true, true, true, true, true, true, true, true, true, true, true, true, true, true, true, true, true, true, true, true, true, true, true, true, true, true, true, true, true, true, true, true, true, true, true, true, true, true, false, true, true, true, false, false, false, false, false, false, false, false, false, false, false, false, false, false, false, false, false] rfl rfl (by kernel_rfl) (fun _ _ _ h => h) (Or.inl ⟨by rfl, ?_⟩) ?_ ?_
          rotate_left
          · intro w'
            go_simp
            with_reducible rfl
          rotate_left
          · simp only [Act.put, List.setIfInBounds_toArray, List.set_cons_zero, List.set_cons_succ, i64_w, i32_w]
            rfl
          refine pure_ (i := 46) (N := some 101) (v := ?_) (a' := ?_) #[true, true, true, true, true, true, true, true, true, true, true, true, true, true, true, true, true, true, true, true, true, true, true, true, true, true, true, true, true, true, true, true, true, true, true, true, true, true, true, true, true, true, false, true, true, true, true, false, false, false, false, false, false, false, false, false, false, false, false, false, false, false, false] rfl rfl (by kernel_rfl) (fun _ _ _ h => h) (Or.inl ⟨by rfl, ?_⟩) ?_ ?_
          rotate_left
          · intro w'
            go_simp
            with_reducible rfl
          rotate_left
          · simp only [Act.put, List.setIfInBounds_toArray, List.set_cons_zero, List.set_cons_succ, i64_w, i32_w]
            rfl
          refine pure_ (i := 49) (N := some 104) (v := ?_) (a' := ?_) #[true, true, true, true, true, true, true, true, true, true, true, true, true, true, true, true, true, true, true, true, true, true, true, true, true, true, true, true, true, true, true, true, true, true, true, true, true, true, true, true, true, true, false, true, true, true, true, false, false, true, false, false, false, false, false, false, false, false, false, false, false, false, false] rfl rfl (by kernel_rfl) (fun _ _ _ h => h) (Or.inl ⟨by rfl, ?_⟩) ?_ ?_
          rotate_left
          · intro w'
            go_simp
            with_reducible rfl
          rotate_left
          · simp only [Act.put, List.setIfInBounds_toArray, List.set_cons_zero, List.set_cons_succ, i64_w, i32_w]
            rfl
          refine pure_ (i := 50) (N := some 105) (v := ?_) (a' := ?_) #[true, true, true, true, true, true, true, true, true, true, true, true, true, true, true, true, true, true, true, true, true, true, true, true, true, true, true, true, true, true, true, true, true, true, true, true, true, true, true, true, true, true, false, true, true, true, true, false, false, true, true, false, false, false, false, false, false, false, false, false, false, false, false] rfl rfl (by kernel_rfl) (fun _ _ _ h => h) (Or.inl ⟨by rfl, ?_⟩) ?_ ?_
          rotate_left
          · intro w'
            go_simp
            with_reducible rfl
          rotate_left
          · simp only [Act.put, List.setIfInBounds_toArray, List.set_cons_zero, List.set_cons_succ, i64_w, i32_w]
            rfl
          refine pure_ (i := 51) (N := some 106) (v := ?_) (a' := ?_) #[true, true, true, true, true, true, true, true, true, true, true, true, true, true, true, true, true, true, true, true, true, true, true, true, true, true, true, true, true, true, true, true, true, true, true, true, true, true, true, true, true, true, false, true, true, true, true, false, false, true, true, true, false, false, false, false, false, false, false, false, false, false, false] rfl rfl (by kernel_rfl) (fun _ _ _ h => h) (Or.inl ⟨by rfl, ?_⟩) ?_ ?_
          rotate_left
          · intro w'
            go_simp
            with_reducible rfl
          rotate_left
          · simp only [Act.put, List.setIfInBounds_toArray, List.set_cons_zero, List.set_cons_succ, i64_w, i32_w]
            rfl
          refine pure_ (i := 52) (N := some 107) (v := ?_) (a' := ?_) #[true, true, true, true, true, true, true, true, true, true, true, true, true, true, true, true, true, true, true, true, true, true, true, true, true, true, true, true, true, true, true, true, true, true, true, true, true, true, true, true, true, true, false, true, true, true, true, false, false, true, true, true, true, false, false, false, false, false, false, false, false, false, false] rfl rfl (by kernel_rfl) (fun _ _ _ h => h) (Or.inl ⟨by rfl, ?_⟩) ?_ ?_
          rotate_left
          · intro w'
            go_simp
            with_reducible rfl
          rotate_left
          · simp only [Act.put, List.setIfInBounds_toArray, List.set_cons_zero, List.set_cons_succ, i64_w, i32_w]
            rfl
          refine pure_ (i := 53) (N := some 108) (v := ?_) (a' := ?_) #[true, true, true, true, true, true, true, true, true, true, true, true, true, true, true, true, true, true, true, true, true, true, true, true, true, true, true, true, true, true, true, true, true, true, true, true, true, true, true, true, true, true, false, true, true, true, true, false, false, true, true, true, true, true, false, false, false, false, false, false, false, false, false] rfl rfl (by kernel_rfl) (fun _ _ _ h => h) (Or.inl ⟨by rfl, ?_⟩) ?_ ?_
          rotate_left
          · intro w'
            go_simp
            with_reducible rfl
          rotate_left
          · simp only [Act.put, List.setIfInBounds_toArray, List.set_cons_zero, List.set_cons_succ, i64_w, i32_w]
            rfl
          refine pure_ (i := 55) (N := some 110) (v := ?_) (a' := ?_) #[true, true, true, true, true, true, true, true, true, true, true, true, true, true, true, true, true, true, true, true, true, true, true, true, true, true, true, true, true, true, true, true, true, true, true, true, true, true, true, true, true, true, false, true, true, true, true, false, false, true, true, true, true, true, false, true, false, false, false, false, false, false, false] rfl rfl (by kernel_rfl) (fun _ _ _ h => h) (Or.inl ⟨by rfl, ?_⟩) ?_ ?_
          rotate_left
          · intro w'
            go_simp
            with_reducible rfl
          rotate_left
          · simp only [Act.put, List.setIfInBounds_toArray, List.set_cons_zero, List.set_cons_succ, i64_w, i32_w]
            rfl
          refine pure_ (i := 56) (N := some 111) (v := ?_) (a' := ?_) #[true, true, true, true, true, true, true, true, true, true, true, true, true, true, true, true, true, true, true, true, true, true, true, true, true, true, true, true, true, true, true, true, true, true, true, true, true, true, true, true, true, true, false, true, true, true, true, false, false, true, true, true, true, true, false, true, true, false, false, false, false, false, false] rfl rfl (by kernel_rfl) (fun _ _ _ h => h) (Or.inl ⟨by rfl, ?_⟩) ?_ ?_
          rotate_left
          · intro w'
            go_simp
            with_reducible rfl
          rotate_left
          · simp only [Act.put, List.setIfInBounds_toArray, List.set_cons_zero, List.set_cons_succ, i64_w, i32_w]
            rfl
          refine pure_ (i := 57) (N := some 112) (v := ?_) (a' := ?_) #[true, true, true, true, true, true, true, true, true, true, true, true, true, true, true, true, true, true, true, true, true, true, true, true, true, true, true, true, true, true, true, true, true, true, true, true, true, true, true, true, true, true, false, true, true, true, true, false, false, true, true, true, true, true, false, true, true, true, false, false, false, false, false] rfl rfl (by kernel_rfl) (fun _ _ _ h => h) (Or.inl ⟨by rfl, ?_⟩) ?_ ?_
          rotate_left
          · intro w'
            go_simp
            with_reducible rfl
          rotate_left
          · simp only [Act.put, List.setIfInBounds_toArray, List.set_cons_zero, List.set_cons_succ, i64_w, i32_w]
            rfl
          refine pure_ (i := 58) (N := some 113) (v := ?_) (a' := ?_) #[true, true, true, true, true, true, true, true, true, true, true, true, true, true, true, true, true, true, true, true, true, true, true, true, true, true, true, true, true, true, true, true, true, true, true, true, true, true, true, true, true, true, false, true, true, true, true, false, false, true, true, true, true, true, false, true, true, true, true, false, false, false, false] rfl rfl (by kernel_rfl) (fun _ _ _ h => h) (Or.inl ⟨by rfl, ?_⟩) ?_ ?_
          rotate_left
          · intro w'
            go_simp
            with_reducible rfl
          rotate_left
          · simp only [Act.put, List.setIfInBounds_toArray, List.set_cons_zero, List.set_cons_succ, i64_w, i32_w]
            rfl
          refine take_ (i := 42) (N := some 97) (v := ?_) (a' := ?_) #[true, true, true, true, true, true, true, true, true, true, true, true, true, true, true, true, true, true, true, true, true, true, true, true, true, true, true, true, true, true, true, true, true, true, true, true, true, true, true, true, true, true, true, true, true, true, true, false, false, true, true, true, true, true, false, true, true, true, true, false, false, false, false] rfl rfl (by kernel_rfl) (fun _ _ _ h => h) (Or.inl ⟨by rfl, ?_⟩) hHeld ?_ ?_
          rotate_left
          · rintro w' ⟨s0, s1, s2, s3, s4, s5, s6, s7, s8, s9, s10, s11⟩
            go_simp
            with_reducible rfl
          rotate_left
          · simp only [Act.put, List.setIfInBounds_toArray, List.set_cons_zero, List.set_cons_succ, i64_w, i32_w]
            rfl
          refine take_ (i := 47) (N := some 102) (v := ?_) (a' := ?_) #[true, true, true, true, true, true, true, true, true, true, true, true, true, true, true, true, true, true, true, true, true, true, true, true, true, true, true, true, true, true, true, true, true, true, true, true, true, true, true, true, true, true, true, true, true, true, true, true, false, true, true, true, true, true, false, true, true, true, true, false, false, false, false] rfl rfl (by kernel_rfl) (fun _ _ _ h => h) (Or.inl ⟨by rfl, ?_⟩) hHeld ?_ ?_
          rotate_left
          · rintro w' ⟨s0, s1, s2, s3, s4, s5, s6, s7, s8, s9, s10, s11⟩
            go_simp
            with_reducible rfl
          rotate_left
          · simp only [Act.put, List.setIfInBounds_toArray, List.set_cons_zero, List.set_cons_succ, i64_w, i32_w]
            rfl
          refine take_ (i := 54) (N := some 109) (v := ?_) (a' := ?_) #[true, true, true, true, true, true, true, true, true, true, true, true, true, true, true, true, true, true, true, true, true, true, true, true, true, true, true, true, true, true, true, true, true, true, true, true, true, true, true, true, true, true, true, true, true, true, true, true, false, true, true, true, true, true, true, true, true, true, true, false, false, false, false] rfl rfl (by kernel_rfl) (fun _ _ _ h => h) (Or.inl ⟨by rfl, ?_⟩) hHeld ?_ ?_
          rotate_left
          · rintro w' ⟨s0, s1, s2, s3, s4, s5, s6, s7, s8, s9, s10, s11⟩
            go_simp
            with_reducible rfl
          rotate_left
          · simp only [Act.put, List.setIfInBounds_toArray, List.set_cons_zero, List.set_cons_succ, i64_w, i32_w]
            rfl
          refine take_ (i := 59) (N := some 114) (v := ?_) (a' := ?_) #[true, true, true, true, true, true, true, true, true, true, true, true, true, true, true, true, true, true, true, true, true, true, true, true, true, true, true, true, true, true, true, true, true, true, true, true, true, true, true, true, true, true, true, true, true, true, true, true, false, true, true, true, true, true, true, true, true, true, true, true, false, false, false] rfl rfl (by kernel_rfl) (fun _ _ _ h => h) (Or.inl ⟨by rfl, ?_⟩) hHeld ?_ ?_
          rotate_left
          · rintro w' ⟨s0, s1, s2, s3, s4, s5, s6, s7, s8, s9, s10, s11⟩
            go_simp
            with_reducible rfl
          rotate_left
          · simp only [Act.put, List.setIfInBounds_toArray, List.set_cons_zero, List.set_cons_succ, i64_w, i32_w]
            rfl
          refine one_ (i := 48) (N := some 103) #[true, true, true, true, true, true, true, true, true, true, true, true, true, true, true, true, true, true, true, true, true, true, true, true, true, true, true, true, true, true, true, true, true, true, true, true, true, true, true, true, true, true, true, true, true, true, true, true, true, true, true, true, true, true, true, true, true, true, true, true, false, false, false] rfl rfl (by kernel_rfl) (by decide) (fun K hK => ?_)
          refine goes_ Tryd.func13 (by kernel_rfl) rfl #[.pointer (some ⟨g, 0, none⟩), .int .i64 o.row, .int .i64 o.col] (by rfl) rfl rfl (by simp only [List.map_toArray, List.map_cons, List.map_nil]; rfl) ?_
          refine (at_calls (HO4.out.G.below HB8.out) o.row o.col).mono ?_
          rintro e w9 ⟨rfl, hb9⟩
          refine ⟨_, rfl, ?_⟩
          have HB9 := Aside0.mk (below_step HB8.out hb9)
          clear hb9
          refine hK.out _ _ ⟨(XCW.out HB9.out).1, (XCW.out HB9.out).2.1, (XCW.out HB9.out).2.2, (LCW.out (below_step HO4.out.B HB9.out)).1, (LCW.out (below_step HO4.out.B HB9.out)).2.1, (LCW.out (below_step HO4.out.B HB9.out)).2.2.1, (LCW.out (below_step HO4.out.B HB9.out)).2.2.2.1, (LCW.out (below_step HO4.out.B HB9.out)).2.2.2.2.1, (LCW.out (below_step HO4.out.B HB9.out)).2.2.2.2.2.1, (LCW.out (below_step HO4.out.B HB9.out)).2.2.2.2.2.2.1, (LCW.out (below_step HO4.out.B HB9.out)).2.2.2.2.2.2.2.1, (LCW.out (below_step HO4.out.B HB9.out)).2.2.2.2.2.2.2.2⟩ (fun hHeld => ?_)
          clear hK K
          refine norm_ (a' := ?_) ?_ ?_
          rotate_left
          · show Act.put _ (some 103) _ = _
            simp only [Act.put, List.setIfInBounds_toArray, List.set_cons_zero, List.set_cons_succ, i64_w, i32_w]
            rfl
          refine one_ (i := 60) (N := some 115) #[true, true, true, true, true, true, true, true, true, true, true, true, true, true, true, true, true, true, true, true, true, true, true, true, true, true, true, true, true, true, true, true, true, true, true, true, true, true, true, true, true, true, true, true, true, true, true, true, true, true, true, true, true, true, true, true, true, true, true, true, true, false, false] rfl rfl (by kernel_rfl) (by decide) (fun K hK => ?_)
          refine goes_ Tryd.func30 (by kernel_rfl) rfl #[.pointer (some ⟨x, 0, none⟩), .int .i64 o.row, .int .i64 o.col] (by rfl) rfl rfl (by simp only [List.map_toArray, List.map_cons, List.map_nil]; rfl) ?_
          refine (rat_calls (HO4.out.R.below HB9.out) o.row o.col).mono ?_
          rintro e w10 ⟨rfl, hb10⟩
          refine ⟨_, rfl, ?_⟩
          have HB10 := Aside0.mk (below_step HB9.out hb10)
          clear hb10
          refine hK.out _ _ ⟨(XCW.out HB10.out).1, (XCW.out HB10.out).2.1, (XCW.out HB10.out).2.2, (LCW.out (below_step HO4.out.B HB10.out)).1, (LCW.out (below_step HO4.out.B HB10.out)).2.1, (LCW.out (below_step HO4.out.B HB10.out)).2.2.1, (LCW.out (below_step HO4.out.B HB10.out)).2.2.2.1, (LCW.out (below_step HO4.out.B HB10.out)).2.2.2.2.1, (LCW.out (below_step HO4.out.B HB10.out)).2.2.2.2.2.1, (LCW.out (below_step HO4.out.B HB10.out)).2.2.2.2.2.2.1, (LCW.out (below_step HO4.out.B HB10.out)).2.2.2.2.2.2.2.1, (LCW.out (below_step HO4.out.B HB10.out)).2.2.2.2.2.2.2.2⟩ (fun hHeld => ?_)
          clear hK K
          refine norm_ (a' := ?_) ?_ ?_
          rotate_left
          · show Act.put _ (some 115) _ = _
            simp only [Act.put, List.setIfInBounds_toArray, List.set_cons_zero, List.set_cons_succ, i64_w, i32_w]
            rfl
          refine pure_ (i := 61) (N := some 116) (v := ?_) (a' := ?_) #[true, true, true, true, true, true, true, true, true, true, true, true, true, true, true, true, true, true, true, true, true, true, true, true, true, true, true, true, true, true, true, true, true, true, true, true, true, true, true, true, true, true, true, true, true, true, true, true, true, true, true, true, true, true, true, true, true, true, true, true, true, true, false] rfl rfl (by kernel_rfl) (fun _ _ _ h => h) (Or.inl ⟨by rfl, ?_⟩) ?_ ?_
          rotate_left
          · intro w'
            go_simp
            with_reducible rfl
          rotate_left
          · simp only [Act.put, List.setIfInBounds_toArray, List.set_cons_zero, List.set_cons_succ, i64_w, i32_w]
            rfl
          refine pure_ (i := 62) (N := some 117) (v := ?_) (a' := ?_) #[true, true, true, true, true, true, true, true, true, true, true, true, true, true, true, true, true, true, true, true, true, true, true, true, true, true, true, true, true, true, true, true, true, true, true, true, true, true, true, true, true, true, true, true, true, true, true, true, true, true, true, true, true, true, true, true, true, true, true, true, true, true, true] rfl rfl (by kernel_rfl) (fun _ _ _ h => h) (Or.inl ⟨by rfl, ?_⟩) ?_ ?_
          rotate_left
          · intro w'
            go_simp
            with_reducible rfl
          rotate_left
          · simp only [Act.put, List.setIfInBounds_toArray, List.set_cons_zero, List.set_cons_succ, i64_w, i32_w]
            rfl
          refine done_ (by kernel_rfl) ?_
          clear hq hHeld
          have hbd := below_drew (Below.refl wr.heap.size wr)
          have hk : KeepsBut wr w10 [g, b, x, bx] := (KeepsBut.below hbd).trans (HKB4.out.trans (KeepsBut.below HB10.out))
          have hsd := hbd.size
          have hb4 := HB4.out
          have hx4 := HX4.out
          have HCX2 : Aside0 (∃ bs1 bs2, GridAt w10 bs1 gc bc r0 c0 L0 ∧ RefAt w10 bs2 xc bxc r0 c0 L0) := ⟨by
            obtain ⟨bs1, bs2, hg, hx⟩ := HCX.out
            have f := fun k (hm : k ∈ [gc, bc, xc, bxc]) => hk.2 k (HFR.out k hm).1 (HFR.out k hm).2
            exact ⟨bs1, bs2, hg.kept (f gc (by simp)) (f bc (by simp)), hx.kept (f xc (by simp)) (f bxc (by simp))⟩⟩
          have HFR2 : Aside0 (∀ k ∈ [gc, bc, xc, bxc], k < w10.heap.size ∧ k ∉ [g, b4, x, x4]) := ⟨fun k hm => by
            obtain ⟨h1, h2⟩ := HFR.out k hm
            have := hk.1
            simp only [List.mem_cons, List.not_mem_nil, or_false] at h2 ⊢
            exact ⟨by omega, by omega⟩⟩
          clear hbd hk hsd hb4 hx4
          go_wp2
          go_roundw
          case rel => exact ⟨i + 1, HLT.out, by go_num, b4, x4, r4, c4, L4, ⟨HO4.out.below HB10.out⟩, HCX2, HFR2⟩
          case measure => simp [intOf]; omega
      · obtain rfl : i = l.length := by omega
        go_wp2
        have HOe := Aside0.mk (HO.out.below (below_drew (Below.refl wr.heap.size wr)))
        obtain ⟨bs1, bs2, hg, hx⟩ := HCX.out
        have HGc := Aside0.mk (hg.below (below_drew (Below.refl wr.heap.size wr)))
        have HXc := Aside0.mk (hx.below (below_drew (Below.refl wr.heap.size wr)))
        obtain ⟨capc, e, _⟩ := HXc.out.blk
        have CLW : Aside0 (∀ {W}, Below wr.drew.heap.size wr.drew W → W.cell? ⟨xc, 2, none⟩ = some (.slice (some ⟨bxc, 0, none⟩) L0.length capc)) := ⟨fun hb => (blk_cell (blk_below e hb) 2).trans rfl⟩
        clear hg hx e
        as_aux_lemma =>
          refine start_ (n := 15) (S := fun w' => w'.cell? ⟨xc, 2, none⟩ = some (.slice (some ⟨bxc, 0, none⟩) L0.length capc)) (ds := []) #[false, false, false, false, false, false, false, false, false, false, false, false, false, false, false] (by kernel_rfl) rfl rfl ((CLW.out (Below.refl _ _))) (fun hHeld => ?_)
          refine one_ (i := 0) (N := some 118) #[true, false, false, false, false, false, false, false, false, false, false, false, false, false, false] rfl rfl (by kernel_rfl) (by decide) (fun K hK => ?_)
          refine goes_ Tryd.func9 (by kernel_rfl) rfl #[] (by rfl) rfl rfl (by simp only [List.map_toArray, List.map_nil]) ?_
          refine (first_calls (tabAt HT.out HOe.out.B)).mono ?_
          rintro e w20 ⟨rfl, hb20⟩
          refine ⟨_, rfl, ?_⟩
          have HB20 := Aside0.mk hb20
          clear hb20
          refine hK.out _ _ ((CLW.out HB20.out)) (fun hHeld => ?_)
          clear hK K
          refine norm_ (a' := ?_) ?_ ?_
          rotate_left
          · show Act.put _ (some 118) _ = _
            simp only [Act.put, List.setIfInBounds_toArray, List.set_cons_zero, List.set_cons_succ, i64_w, i32_w]
            rfl
          refine pure_ (i := 1) (N := some 119) (v := ?_) (a' := ?_) #[true, true, false, false, false, false, false, false, false, false, false, false, false, false, false] rfl rfl (by kernel_rfl) (fun _ _ _ h => h) (Or.inl ⟨by rfl, ?_⟩) ?_ ?_
          rotate_left
          · intro w'
            go_simp
            with_reducible rfl
          rotate_left
          · simp only [Act.put, List.setIfInBounds_toArray, List.set_cons_zero, List.set_cons_succ, i64_w, i32_w]
            rfl
          refine pure_ (i := 2) (N := some 120) (v := ?_) (a' := ?_) #[true, true, true, false, false, false, false, false, false, false, false, false, false, false, false] rfl rfl (by kernel_rfl) (fun _ _ _ h => h) (Or.inl ⟨by rfl, ?_⟩) ?_ ?_
          rotate_left
          · intro w'
            go_simp
            with_reducible rfl
          rotate_left
          · simp only [Act.put, List.setIfInBounds_toArray, List.set_cons_zero, List.set_cons_succ, i64_w, i32_w]
            rfl
          refine pure_ (i := 3) (N := some 121) (v := ?_) (a' := ?_) #[true, true, true, true, false, false, false, false, false, false, false, false, false, false, false] rfl rfl (by kernel_rfl) (fun _ _ _ h => h) (Or.inl ⟨by rfl, ?_⟩) ?_ ?_
          rotate_left
          · intro w'
            go_simp
            with_reducible rfl
          rotate_left
          · simp only [Act.put, List.setIfInBounds_toArray, List.set_cons_zero, List.set_cons_succ, i64_w, i32_w]
            rfl
          refine pure_ (i := 4) (N := some 122) (v := ?_) (a' := ?_) #[true, true, true, true, true, false, false, false, false, false, false, false, false, false, false] rfl rfl (by kernel_rfl) (fun _ _ _ h => h) (Or.inl ⟨by rfl, ?_⟩) ?_ ?_
          rotate_left
          · intro w'
            go_simp
            with_reducible rfl
          rotate_left
          · simp only [Act.put, List.setIfInBounds_toArray, List.set_cons_zero, List.set_cons_succ, i64_w, i32_w]
            rfl
          refine pure_ (i := 5) (N := some 123) (v := ?_) (a' := ?_) #[true, true, true, true, true, true, false, false, false, false, false, false, false, false, false] rfl rfl (by kernel_rfl) (fun _ _ _ h => h) (Or.inl ⟨by rfl, ?_⟩) ?_ ?_
          rotate_left
          · intro w'
            go_simp
            with_reducible rfl
          rotate_left
          · simp only [Act.put, List.setIfInBounds_toArray, List.set_cons_zero, List.set_cons_succ, i64_w, i32_w]
            rfl
          refine pure_ (i := 6) (N := some 124) (v := ?_) (a' := ?_) #[true, true, true, true, true, true, true, false, false, false, false, false, false, false, false] rfl rfl (by kernel_rfl) (fun _ _ _ h => h) (Or.inl ⟨by rfl, ?_⟩) ?_ ?_
          rotate_left
          · intro w'
            go_simp
            with_reducible rfl
          rotate_left
          · simp only [Act.put, List.setIfInBounds_toArray, List.set_cons_zero, List.set_cons_succ, i64_w, i32_w]
            rfl
          refine pure_ (i := 8) (N := some 126) (v := ?_) (a' := ?_) #[true, true, true, true, true, true, true, false, true, false, false, false, false, false, false] rfl rfl (by kernel_rfl) (fun _ _ _ h => h) (Or.inl ⟨by rfl, ?_⟩) ?_ ?_
          rotate_left
          · intro w'
            go_simp
            with_reducible rfl
          rotate_left
          · simp only [Act.put, List.setIfInBounds_toArray, List.set_cons_zero, List.set_cons_succ, i64_w, i32_w]
            rfl
          refine pure_ (i := 9) (N := some 127) (v := ?_) (a' := ?_) #[true, true, true, true, true, true, true, false, true, true, false, false, false, false, false] rfl rfl (by kernel_rfl) (fun _ _ _ h => h) (Or.inl ⟨by rfl, ?_⟩) ?_ ?_
          rotate_left
          · intro w'
            go_simp
            with_reducible rfl
          rotate_left
          · simp only [Act.put, List.setIfInBounds_toArray, List.set_cons_zero, List.set_cons_succ, i64_w, i32_w]
            rfl
          refine pure_ (i := 10) (N := some 128) (v := ?_) (a' := ?_) #[true, true, true, true, true, true, true, false, true, true, true, false, false, false, false] rfl rfl (by kernel_rfl) (fun _ _ _ h => h) (Or.inl ⟨by rfl, ?_⟩) ?_ ?_
          rotate_left
          · intro w'
            go_simp
            with_reducible rfl
          rotate_left
          · simp only [Act.put, List.setIfInBounds_toArray, List.set_cons_zero, List.set_cons_succ, i64_w, i32_w]
            rfl
          refine take_ (i := 11) (N := some 129) (v := ?_) (a' := ?_) #[true, true, true, true, true, true, true, false, true, true, true, true, false, false, false] rfl rfl (by kernel_rfl) (fun _ _ _ h => h) (Or.inl ⟨by rfl, ?_⟩) hHeld ?_ ?_
          rotate_left
          · intro w' s0
            go_simp
            with_reducible rfl
          rotate_left
          · simp only [Act.put, List.setIfInBounds_toArray, List.set_cons_zero, List.set_cons_succ, i64_w, i32_w]
            rfl
          refine one_ (i := 7) (N := some 125) #[true, true, true, true, true, true, true, true, true, true, true, true, false, false, false] rfl rfl (by kernel_rfl) (by decide) (fun K hK => ?_)
          refine goes_ Tryd.func24 (by kernel_rfl) rfl #[.pointer (some ⟨gc, 0, none⟩)] (by rfl) rfl rfl (by simp only [List.map_toArray, List.map_cons, List.map_nil]; rfl) ?_
          refine (cells_calls (HGc.out.below HB20.out)).mono ?_
          rintro e w21 ⟨b21, cap21, rfl, k71, k72, k73, hR21, hb21⟩
          refine ⟨_, rfl, ?_⟩
          have HB21 := Aside0.mk (below_step HB20.out hb21)
          have HR21 := Aside0.mk hR21
          clear hb21 hR21 k71 k72 k73
          refine hK.out _ _ ((CLW.out HB21.out)) (fun hHeld => ?_)
          clear hK K
          refine norm_ (a' := ?_) ?_ ?_
          rotate_left
          · show Act.put _ (some 125) _ = _
            simp only [Act.put, List.setIfInBounds_toArray, List.set_cons_zero, List.set_cons_succ, i64_w, i32_w]
            rfl
          refine one_ (i := 12) (N := some 130) #[true, true, true, true, true, true, true, true, true, true, true, true, true, false, false] rfl rfl (by kernel_rfl) (by decide) (fun K hK => ?_)
          refine goes_ Tryd.func29 (by kernel_rfl) rfl #[.slice (some ⟨b21, 0, none⟩) L0.length cap21, .slice (some ⟨bxc, 0, none⟩) L0.length capc] (by rfl) rfl rfl (by simp only [List.map_toArray, List.map_cons, List.map_nil]; rfl) ?_
          refine (rcells_calls HR21.out (HXc.out.row.below HB21.out) HGc.out.small).mono ?_
          rintro e w22 ⟨rfl, m22, rfl⟩
          refine ⟨_, rfl, ?_⟩
          have HB22 := Aside0.mk (below_step HB21.out (below_drawn w21 m22))
          generalize w21.drewN m22 = w22 at *
          refine hK.out _ _ ((CLW.out HB22.out)) (fun hHeld => ?_)
          clear hK K
          refine norm_ (a' := ?_) ?_ ?_
          rotate_left
          · show Act.put _ (some 130) _ = _
            simp only [Act.put, List.setIfInBounds_toArray, List.set_cons_zero, List.set_cons_succ, i64_w, i32_w]
            rfl
          refine pure_ (i := 13) (N := some 131) (v := ?_) (a' := ?_) #[true, true, true, true, true, true, true, true, true, true, true, true, true, true, false] rfl rfl (by kernel_rfl) (fun _ _ _ h => h) (Or.inl ⟨by rfl, ?_⟩) ?_ ?_
          rotate_left
          · intro w'
            go_simp
            with_reducible rfl
          rotate_left
          · simp only [Act.put, List.setIfInBounds_toArray, List.set_cons_zero, List.set_cons_succ, i64_w, i32_w]
            rfl
          refine pure_ (i := 14) (N := some 6) (v := ?_) (a' := ?_) #[true, true, true, true, true, true, true, true, true, true, true, true, true, true, true] rfl rfl (by kernel_rfl) (fun _ _ _ h => h) (Or.inl ⟨by rfl, ?_⟩) ?_ ?_
          rotate_left
          · intro w'
            go_simp
            with_reducible rfl
          rotate_left
          · simp only [Act.put, List.setIfInBounds_toArray, List.set_cons_zero, List.set_cons_succ, i64_w, i32_w]
            rfl
          refine done_ (by kernel_rfl) ?_
          go_wp2
          go_ret
          exact ⟨rfl, below_step HOe.out.B HB22.out⟩
end Go.Proofs.YtcfndcjbgalnpaaDoor.Hand
namespace Go.Proofs.YtcfndcjbgalnpaaDoor.RowGridPlays
open Go.ChangeShapes Go.WideShapes Go.ChangeAt Go.RowKit
open Go.ChangeMaps (open_string shut_string)
open Go.Proofs.YtcfndcjbgalnpaaDoorW.PrintWords Go.Proofs.YtcfndcjbgalnpaaDoor.Opens
open Go.Proofs.YtcfndcjbgalnpaaDoor.Hand
set_option linter.unusedVariables false
set_option linter.unusedSimpArgs false
theorem ownK : ownKnob Tryd.prog.godebug = none := by kernel_rfl
theorem laidOut : laidOutB Tryd.prog = true := by kernel_rfl
theorem o47 : Opens Tryd.prog 47 kO (fun o => (Lit.int .i64 o.kd).wf = true ∧ (Lit.int .i64 o.row).wf = true ∧ (Lit.int .i64 o.col).wf = true ∧ (Lit.int .i64 o.n).wf = true ∧ (Lit.int .i32 o.x.r).wf = true ∧ ((Lit.int .i64 o.x.f).wf = true ∧ (Lit.int .i64 o.x.g).wf = true ∧ (Lit.int .i64 o.x.b).wf = true) ∧ (Lit.int .i64 o.x.w).wf = true) := o_map (f := fun o : O9 => (o.kd, o.row, o.col, o.n, o.x.r, (o.x.f, o.x.g, o.x.b), o.x.w)) (o_struct Tryd.underlying47 (by kernel_rfl) (f_cons rfl (by kernel_rfl) (o_int Tryd.underlying3) (f_cons rfl (by kernel_rfl) (o_int Tryd.underlying3) (f_cons rfl (by kernel_rfl) (o_int Tryd.underlying3) (f_cons rfl (by kernel_rfl) (o_int Tryd.underlying3) (f_last rfl (by kernel_rfl) (o_struct Tryd.underlying32 (by kernel_rfl) (f_cons rfl (by kernel_rfl) (o_int Tryd.underlying21) (f_cons rfl (by kernel_rfl) (o_struct Tryd.underlying23 (by kernel_rfl) (f_cons rfl (by kernel_rfl) (o_int Tryd.underlying3) (f_cons rfl (by kernel_rfl) (o_int Tryd.underlying3) (f_last rfl (by kernel_rfl) (o_int Tryd.underlying3))))) (f_last rfl (by kernel_rfl) (o_int Tryd.underlying3))))))))))) (fun p => ⟨p.1, p.2.1, p.2.2.1, p.2.2.2.1, ⟨p.2.2.2.2.1, p.2.2.2.2.2.1.1, p.2.2.2.2.2.1.2.1, p.2.2.2.2.2.1.2.2, p.2.2.2.2.2.2⟩⟩) (fun _ => rfl)
abbrev laid2 : List (String × DataW Unit) := [("tickertape/cell.wide", Rows.laid_tickertape_cell_wide), ("tickertape/cell.none", Rows.laid_tickertape_cell_none)]
set_option maxRecDepth 100000 in
theorem door_met (os : Os) (args : Array Value) : laidMetH Tryd.prog laid2 ((World.doorLaid Tryd.prog 400 os).forCall (fun _ _ => 0) ⟨#[], args, []⟩).memory :=
  laidMetH_of_parts3 (fuel := 8) (laidMet_of_run' 8 (by kernel_rfl) (by kernel_rfl)) (by kernel_rfl) (by kernel_rfl)
set_option maxRecDepth 100000 in
theorem lifted (os : Os) (started : os.Started) (H : Type) (enc : TypeId × Value → H) :
    ReturnsInHanded {} Tryd.checked os 8 .any (fun w args => (Rows.gridPlaysSpec.pre enc Tryd.prog Tryd.f8 [] false w args ∧ laidMetH Tryd.prog laid2 w) ∧ sizedMet enc Tryd.prog Tryd.f8 (OpenSpec.ofChange Rows.gridPlaysSpec) false w args)
      (Rows.gridPlaysSpec.post enc Tryd.prog Tryd.f8 false true false false) := by
  refine returnsInHanded_of_change_and (C := Tryd.checked) (X := fun w _ => laidMetH Tryd.prog laid2 w) (fun _ _ _ hh h => h.of_heap hh) ownK started (by kernel_rfl) Tryd.func8
    (ChangeSpec.witness_shaped (enc := enc) (C := Tryd.checked) (os := os) (X := fun w _ => laidMetH Tryd.prog laid2 w) false (World.doorLaid Tryd.prog 400 os) #[.int .i64 0, .int .i64 0, .slice none 0 0] 8 rfl (World.shaped_of_RefB (by kernel_rfl) (by kernel_rfl)) (by kernel_rfl) (by kernel_rfl) (by kernel_rfl) (door_met os _)) ?_
  intro W base args ds gs before hval0 hW _ hsz0 hT _
  have hsz : (DataW.weightsEach Tryd.prog (Tryd.f8.params.toList ++ Rows.gridPlaysSpec.plain.varTypes Tryd.prog) (ds ++ gs)).all (· ≤ reachBytes) = true := hsz0
  have hval : ∀ (j : Nat) t v, Tryd.f8.params[j]? = some t → args[j]? = some v → Value.okWide Tryd.prog W .any base t v := hval0
  have hW' := hW
  obtain ⟨p, q, hA0, hV, rfl, hfz, hnd⟩ := hW
  have hA : DataW.TrodAll enc Tryd.prog W 0 (fun _ => true) true Tryd.f8.params.toList args.toList ds p := hA0
  rw [Tryd.params8] at hA hval hsz
  obtain ⟨v0, vs0, d0, ds0, p0, q0, hargs, rfl, rfl, h0, r0⟩ := trodAll_cons hA
  obtain ⟨v1, vs1, d1, ds1, p1, q1, rfl, rfl, rfl, h1, r1⟩ := trodAll_cons r0
  obtain ⟨v2, vs2, d2, ds2, p2, q2, rfl, rfl, rfl, h2, r2⟩ := trodAll_cons r1
  obtain ⟨rfl, rfl, rfl⟩ := trodAll_nil r2
  obtain rfl : args = #[v0, v1, v2] := by cases args; simp_all
  obtain ⟨rfl, rfl⟩ := trodVars_none hV
  obtain ⟨a0, rfl, rfl, rfl, w0⟩ := open_int Tryd.underlying3 (hval 0 3 v0 rfl rfl) h0
  obtain ⟨a1, rfl, rfl, rfl, w1⟩ := open_int Tryd.underlying3 (hval 1 3 v1 rfl rfl) h1
  have k2 := h2
  have lt2 : ∀ x ∈ p2, x.block < W.heap.size := by obtain ⟨m, hm⟩ := k2; exact DataW.trod_lt m _ _ _ hm
  obtain ⟨l2, ⟨A2, c2, e2, hc2, hC2⟩, q2⟩ := open_arg (o_slice Tryd.underlying45 (by kernel_rfl) o47) h2
  obtain ⟨_, _, _, z2⟩ := okWide_slice Tryd.underlying45 (hval 2 45 v2 rfl rfl)
  obtain rfl : v2 = .slice A2 l2.length c2 := by subst z2; simpa [Value.cells] using e2
  have y2 := sized_any hsz (j := 2) (t := 45) rfl rfl Tryd.underlying45 h2
  clear hA0 hval0
  refine (gridPlays_calls (tabW_of hT) a0 a1 A2 c2 l2 hC2).mono fun e W' ⟨he, bel⟩ => ?_
  subst he
  exact ⟨_, rfl, _, _, _, [], _, [], hW', trodAll_mk1 (shut_bool Tryd.underlying4 _), (trodAll_cons_mk (shut_int Tryd.underlying3 w0) (trodAll_cons_mk (shut_int Tryd.underlying3 w1) (trodAll_cons_mk (Below.trod laidOut (by kernel_rfl) (of_decide_eq_true (by kernel_rfl)) k2 bel lt2) trodAll_mk0))), rfl, bel.frame _, fun h => by cases h⟩
theorem over : Rows.gridPlaysRow.holds Tryd.pinned (OpenSpec.ofChange Rows.gridPlaysSpec) :=
  OpenClaim.holds_of_wide 8 Tryd.f8 rfl rfl rfl rfl rfl rfl rfl ⟨rfl, rfl, rfl, rfl, rfl⟩ rfl rfl rfl rfl rfl (by kernel_rfl) Tryd.func8 (by kernel_rfl)
    (of_decide_eq_true (by kernel_rfl)) (by unfold Func.isWrapper; first | (rw [if_pos (by decide +kernel)]; kernel_rfl) | (rw [if_neg (by decide +kernel)]; exact ⟨rfl, rfl⟩))
    (fun os started H enc _ => lifted os started H enc)
theorem card : Rows.GridPlaysCardSaid :=
  Claim7.holds_tied_plain_at .later [] [.widerDeep, .widerDeep] true (true, "ca0710d70087c425407d5f24a5c1d77675f1fa9d97279af84f4c8bf68714d07d") false
    over (fun _ h => by cases h) (by kernel_rfl) (fun _ h => by cases h) gridPlays_row_tie rfl ⟨rfl, rfl⟩ (by kernel_rfl) rfl
    (fun f fn hf hfn => by
      obtain rfl : f = 8 := Option.some.inj ((show Tryd.prog.funcNamed "tickertape/tiklaw7.GridPlays" = some 8 by kernel_rfl).symm.trans hf) |>.symm
      obtain rfl : fn = Tryd.f8 := (Option.some.inj (Tryd.func8.symm.trans hfn)).symm
      exact ⟨by kernel_rfl, fun j t ht => by
        rw [Tryd.params8] at ht
        have hm : t ∈ [3, 3, 45] := by simpa using Array.mem_of_getElem? ht
        have hall : ([3, 3, 45].all fun u => !Tryd.prog.wantsStandIn u) = true := by kernel_rfl
        exact (show Tryd.prog.wantsStandIn t = false by simpa using List.all_eq_true.1 hall t hm)⟩)
    (by kernel_rfl)
#print axioms card
end Go.Proofs.YtcfndcjbgalnpaaDoor.RowGridPlays
namespace Go.Proofs.YtcfndcjbgalnpaaDoor
theorem gridPlays_holds : Rows.GridPlaysCardSaid := RowGridPlays.card
end Go.Proofs.YtcfndcjbgalnpaaDoor
