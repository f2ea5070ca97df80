/-
  The sum of bytes is linear, and no change of one byte leaves it. No program.
-/
import Derived.Test.YtabljieejnhefaaPureW4
namespace Go.Proofs.Ytabljieejnhefaa.Hand
open Go.RowKit Go.Proofs.YtabljieejnhefaaW.PrintWords Go.Proofs.YtabljieejnhefaaW.PrintLast Go.Proofs.YtabljieejnhefaaW.PrintMore Go.Proofs.Ytabljieejnhefaa.PA Go.Proofs.Ytabljieejnhefaa.PB

theorem crcB_xor (a b : BitVec 32) : crcB (a ^^^ b) = crcB a ^^^ crcB b := by
  unfold crcB
  rw [BitVec.ushiftRight_xor_distrib, BitVec.getLsbD_xor]
  cases a.getLsbD 0 <;> cases b.getLsbD 0 <;> simp
  · ac_rfl
  · ac_rfl
  · have e : a >>> 1 ^^^ poly ^^^ (b >>> 1 ^^^ poly) = a >>> 1 ^^^ b >>> 1 ^^^ (poly ^^^ poly) := by ac_rfl
    rw [e, BitVec.xor_self, BitVec.xor_zero]
theorem itB_xor : ∀ (d : Nat) (a b : BitVec 32), itB d (a ^^^ b) = itB d a ^^^ itB d b
  | 0, _, _ => rfl
  | d + 1, a, b => by show itB d (crcB (a ^^^ b)) = itB d (crcB a) ^^^ itB d (crcB b); rw [crcB_xor, itB_xor]
theorem crcB_zero (s : BitVec 32) (h : crcB s = 0#32) : s = 0#32 := by
  have hb : s.getLsbD 0 = false := by
    have h31 : (crcB s).getLsbD 31 = false := by rw [h]; rfl
    unfold crcB at h31
    cases q : s.getLsbD 0 with
    | false => rfl
    | true =>
      rw [q] at h31
      simp [BitVec.getLsbD_xor, BitVec.getLsbD_ushiftRight, poly] at h31
  apply BitVec.eq_of_getLsbD_eq
  intro i hi
  cases i with
  | zero => rw [hb]; rfl
  | succ i =>
    have : (crcB s).getLsbD i = false := by rw [h]; simp
    unfold crcB at this
    rw [hb] at this
    simp [BitVec.getLsbD_xor, BitVec.getLsbD_ushiftRight] at this
    rw [Nat.add_comm 1 i] at this
    rw [this]; simp
theorem crcB_inj (a b : BitVec 32) (h : crcB a = crcB b) : a = b := by
  have : crcB (a ^^^ b) = 0#32 := by rw [crcB_xor, h, BitVec.xor_self]
  have := crcB_zero _ this
  exact BitVec.xor_eq_zero_iff.1 this
theorem itB_inj : ∀ (d : Nat) (a b : BitVec 32), itB d a = itB d b → a = b
  | 0, _, _, h => h
  | d + 1, a, b, h => crcB_inj _ _ (itB_inj d _ _ h)
theorem crcL_inj : ∀ (l : List Int) (a b : BitVec 32), crcL l a = crcL l b → a = b
  | [], _, _, h => h
  | x :: l, a, b, h => by
    have := itB_inj 8 _ _ (crcL_inj l _ _ h)
    have e : (a ^^^ BitVec.ofNat 32 x.toNat) ^^^ BitVec.ofNat 32 x.toNat = (b ^^^ BitVec.ofNat 32 x.toNat) ^^^ BitVec.ofNat 32 x.toNat := by rw [this]
    simpa [BitVec.xor_assoc] using e
theorem crcL_set (l : List Int) (i : Nat) (y : Int) (s : BitVec 32) (hi : i < l.length) (hy : BitVec.ofNat 32 y.toNat ≠ BitVec.ofNat 32 (rd l (i : Int)).toNat) : crcL (l.set i y) s ≠ crcL l s := by
  induction l generalizing i s with
  | nil => simp at hi
  | cons x l ih =>
    cases i with
    | zero =>
      intro h
      have := itB_inj 8 _ _ (crcL_inj l _ _ h)
      apply hy
      have e : s ^^^ (s ^^^ BitVec.ofNat 32 y.toNat) = s ^^^ (s ^^^ BitVec.ofNat 32 x.toNat) := by rw [this]
      rw [← BitVec.xor_assoc, ← BitVec.xor_assoc] at e
      simpa [rd] using e
    | succ i =>
      exact ih i _ (by simpa using hi) (by simpa [rd] using hy)
/-- Byte by byte, the join of three. -/
def z3 : List Int → List Int → List Int → List Int
  | a :: xs, b :: ys, c :: zs => Go.bits .xor .u8 (Go.bits .xor .u8 a b) c :: z3 xs ys zs
  | _, _, _ => []
theorem xor3 (a b c : Int) (ha : 0 ≤ a ∧ a < 256) (hb : 0 ≤ b ∧ b < 256) (hc : 0 ≤ c ∧ c < 256) :
    (0 ≤ Go.bits .xor .u8 (Go.bits .xor .u8 a b) c ∧ Go.bits .xor .u8 (Go.bits .xor .u8 a b) c < 256) ∧
    BitVec.ofNat 32 (Go.bits .xor .u8 (Go.bits .xor .u8 a b) c).toNat = (BitVec.ofNat 32 a.toNat ^^^ BitVec.ofNat 32 b.toNat) ^^^ BitVec.ofNat 32 c.toNat := by
  have h1 : a.toNat ^^^ b.toNat < 2 ^ 8 := Nat.xor_lt_two_pow (by omega) (by omega)
  have h2 : (a.toNat ^^^ b.toNat) ^^^ c.toNat < 2 ^ 8 := Nat.xor_lt_two_pow h1 (by omega)
  rw [u8_xor a b ha.1 ha.2 hb.1 hb.2, u8_xor _ c (by omega) (by omega) hc.1 hc.2, Int.toNat_natCast, Int.toNat_natCast]
  refine ⟨by omega, ?_⟩
  apply BitVec.eq_of_toNat_eq
  rw [BitVec.toNat_xor, BitVec.toNat_xor]
  simp only [BitVec.toNat_ofNat]
  rw [Nat.mod_eq_of_lt (by omega), Nat.mod_eq_of_lt (by omega), Nat.mod_eq_of_lt (by omega), Nat.mod_eq_of_lt (by omega)]
theorem crcL_z3 : ∀ (xs ys zs : List Int) (s t u : BitVec 32), Bytes255 xs → Bytes255 ys → Bytes255 zs → ys.length = xs.length → zs.length = xs.length →
    crcL (z3 xs ys zs) ((s ^^^ t) ^^^ u) = (crcL xs s ^^^ crcL ys t) ^^^ crcL zs u
  | [], [], [], s, t, u, _, _, _, _, _ => rfl
  | a :: xs, b :: ys, c :: zs, s, t, u, ha, hb, hc, h1, h2 => by
    have e := (xor3 a b c (ha a (by simp)) (hb b (by simp)) (hc c (by simp))).2
    show crcL (z3 xs ys zs) (itB 8 (((s ^^^ t) ^^^ u) ^^^ BitVec.ofNat 32 (Go.bits .xor .u8 (Go.bits .xor .u8 a b) c).toNat)) = _
    rw [e, show ((s ^^^ t) ^^^ u) ^^^ ((BitVec.ofNat 32 a.toNat ^^^ BitVec.ofNat 32 b.toNat) ^^^ BitVec.ofNat 32 c.toNat) = ((s ^^^ BitVec.ofNat 32 a.toNat) ^^^ (t ^^^ BitVec.ofNat 32 b.toNat)) ^^^ (u ^^^ BitVec.ofNat 32 c.toNat) by ac_rfl, itB_xor, itB_xor]
    exact crcL_z3 xs ys zs _ _ _ (fun x hx => ha x (by simp [hx])) (fun x hx => hb x (by simp [hx])) (fun x hx => hc x (by simp [hx])) (by simpa using h1) (by simpa using h2)
  | [], _ :: _, _, _, _, _, _, _, _, h1, _ => by simp at h1
  | [], [], _ :: _, _, _, _, _, _, _, _, h2 => by simp at h2
  | _ :: _, [], _, _, _, _, _, _, _, h1, _ => by simp at h1
  | _ :: _, _ :: _, [], _, _, _, _, _, _, _, h2 => by simp at h2
theorem z3_length : ∀ (xs ys zs : List Int), ys.length = xs.length → zs.length = xs.length → (z3 xs ys zs).length = xs.length
  | [], [], [], _, _ => rfl
  | _ :: xs, _ :: ys, _ :: zs, h1, h2 => by simp [z3, z3_length xs ys zs (by simpa using h1) (by simpa using h2)]
  | [], _ :: _, _, h1, _ => by simp at h1
  | [], [], _ :: _, _, h2 => by simp at h2
  | _ :: _, [], _, h1, _ => by simp at h1
  | _ :: _, _ :: _, [], _, h2 => by simp at h2
theorem z3_bytes : ∀ (xs ys zs : List Int), Bytes255 xs → Bytes255 ys → Bytes255 zs → Bytes255 (z3 xs ys zs)
  | a :: xs, b :: ys, c :: zs, ha, hb, hc => by
    intro x hx
    rcases List.mem_cons.1 hx with rfl | hx
    · exact (xor3 a b c (ha a (by simp)) (hb b (by simp)) (hc c (by simp))).1
    · exact z3_bytes xs ys zs (fun x hx => ha x (by simp [hx])) (fun x hx => hb x (by simp [hx])) (fun x hx => hc x (by simp [hx])) x hx
  | [], _, _, _, _, _ => by simp [z3, Bytes255]
  | _ :: _, [], _, _, _, _ => by simp [z3, Bytes255]
  | _ :: _, _ :: _, [], _, _, _ => by simp [z3, Bytes255]
theorem crcV_z3 (xs ys zs : List Int) (ha : Bytes255 xs) (hb : Bytes255 ys) (hc : Bytes255 zs) (h1 : ys.length = xs.length) (h2 : zs.length = xs.length) :
    crcV (z3 xs ys zs) = Go.bits .xor .u32 (Go.bits .xor .u32 (crcV xs) (crcV ys)) (crcV zs) := by
  unfold crcV
  rw [nB_xor, nB_xor]
  have := crcL_z3 xs ys zs 0xffffffff#32 0xffffffff#32 0xffffffff#32 ha hb hc h1 h2
  rw [show ((0xffffffff#32 ^^^ 0xffffffff#32) ^^^ 0xffffffff#32 : BitVec 32) = 0xffffffff#32 from rfl] at this
  rw [this]
  congr 1
  generalize crcL xs _ = x; generalize crcL ys _ = y; generalize crcL zs _ = z
  have e : (x ^^^ 0xffffffff#32 ^^^ (y ^^^ 0xffffffff#32) ^^^ (z ^^^ 0xffffffff#32)) = (x ^^^ y ^^^ z ^^^ 0xffffffff#32) ^^^ (0xffffffff#32 ^^^ 0xffffffff#32) := by ac_rfl
  rw [e, BitVec.xor_self, BitVec.xor_zero]
theorem nB_inj (a b : BitVec 32) (h : nB a = nB b) : a = b := by
  unfold nB at h
  exact BitVec.eq_of_toNat_eq (by omega)
theorem crcV_set (l : List Int) (i : Nat) (y : Int) (hi : i < l.length) (hy : BitVec.ofNat 32 y.toNat ≠ BitVec.ofNat 32 (rd l (i : Int)).toNat) : crcV (l.set i y) ≠ crcV l := by
  intro h
  have h := nB_inj _ _ h
  refine crcL_set l i y 0xffffffff#32 hi hy ?_
  have e : (crcL (l.set i y) 0xffffffff#32 ^^^ 0xffffffff#32) ^^^ 0xffffffff#32 = (crcL l 0xffffffff#32 ^^^ 0xffffffff#32) ^^^ 0xffffffff#32 := by rw [h]
  rwa [BitVec.xor_assoc, BitVec.xor_assoc, BitVec.xor_self, BitVec.xor_zero, BitVec.xor_zero] at e
theorem set_drop (X : List Int) (i : Nat) (v : Int) (r : List Int) (hi : i < X.length) : (X.set i v).take (i + 1) ++ r = X.take i ++ v :: r := by
  rw [List.take_add_one, List.take_set_of_le (by omega)]
  simp [hi]
theorem sums_loop (x0 x1 x2 : List Int) (x3 x4 : Int) (h1 : x1.length = x0.length) (h2 : x2.length = x0.length) (hl : x0.length ≤ 2000) : ∀ (m k i : Nat) (X : List Int), i + m = x0.length → X.length = x0.length →
    tiklaw2_WireSums.l0 (k + m + 1) x0 x1 x2 x3 x4 X (i : Int) = tiklaw2_WireSums.l0 (k + 1) x0 x1 x2 x3 x4 (X.take i ++ z3 (x0.drop i) (x1.drop i) (x2.drop i)) (x0.length : Int) := by
  intro m
  induction m with
  | zero =>
    intro k i X h hX
    rw [List.drop_of_length_le (by omega), List.drop_of_length_le (by omega), List.drop_of_length_le (by omega), List.take_of_length_le (by omega)]
    rw [show k + 0 + 1 = k + 1 by omega, show (i : Int) = (x0.length : Int) by omega]
    simp [z3]
  | succ m ih =>
    intro k i X h hX
    have w : wrap64 ((i : Int) + 1) = ((i + 1 : Nat) : Int) := by rw [IntWalk.wrap64_in _ (by omega)]; omega
    rw [show k + (m + 1) + 1 = (k + m + 1) + 1 by omega]
    rw [tiklaw2_WireSums.l0]
    refine (if_pos (by omega)).trans ((if_pos (by omega)).trans ((if_pos (by omega)).trans ((if_pos (by omega)).trans ((if_pos (by omega)).trans ?_))))
    rw [w, Int.toNat_natCast, ih k (i + 1) _ (by omega) (by simpa using hX)]
    rw [set_drop _ _ _ _ (by omega), rd_cons x0 i (by omega), rd_cons x1 i (by omega), rd_cons x2 i (by omega)]
    rfl
theorem xor_ne (a b : Int) (ha : 0 ≤ a ∧ a < 256) (hb : 0 < b ∧ b < 256) :
    (0 ≤ Go.bits .xor .u8 a b ∧ Go.bits .xor .u8 a b < 256) ∧ BitVec.ofNat 32 (Go.bits .xor .u8 a b).toNat ≠ BitVec.ofNat 32 a.toNat := by
  have h1 : a.toNat ^^^ b.toNat < 2 ^ 8 := Nat.xor_lt_two_pow (by omega) (by omega)
  rw [u8_xor a b ha.1 ha.2 (by omega) hb.2, Int.toNat_natCast]
  refine ⟨by omega, fun h => ?_⟩
  have h := congrArg BitVec.toNat h
  simp only [BitVec.toNat_ofNat] at h
  rw [Nat.mod_eq_of_lt (by omega), Nat.mod_eq_of_lt (by omega)] at h
  have e : a.toNat ^^^ (a.toNat ^^^ b.toNat) = a.toNat ^^^ a.toNat := by rw [h]
  rw [← Nat.xor_assoc, Nat.xor_self, Nat.zero_xor] at e
  omega
theorem copy_any (l : List Int) (h : l.length < 140737488355328) : tikref_CopyBytes.f l = some l := by
  unfold tikref_CopyBytes.f
  rw [Option.bind_some, if_pos (by simpa using h)]; rfl
theorem sums_j0t (k : Nat) (l0 l1 l2 : List Int) (a3 a4 : Int) : tiklaw2_WireSums.j0 (k + 1) l0 l1 l2 a3 a4 true = some true := rfl
theorem sums_end (k : Nat) (hk : 20001 ≤ k) (l0 l1 l2 : List Int) (a3 a4 : Int) (b0 : Bytes255 l0) (b1 : Bytes255 l1) (b2 : Bytes255 l2) (h1 : l1.length = l0.length) (h2 : l2.length = l0.length) (hl : l0.length ≤ 2000) (hp : 1 ≤ l0.length) (h3 : 0 ≤ a3) (h4 : 0 < a4 ∧ a4 < 256) :
    tiklaw2_WireSums.l0 (k + 1) l0 l1 l2 a3 a4 (z3 l0 l1 l2) (l0.length : Int) = some true := by
  rw [tiklaw2_WireSums.l0]
  have hn1 : ¬ ((l0.length : Int) < (l0.length : Int)) := by omega
  have hz := z3_length l0 l1 l2 h1 h2
  have t0 : ¬ ((l0.length : Int) = 0) := by omega
  have t1 : 0 ≤ Int.tmod a3 (l0.length : Int) := Int.tmod_nonneg _ h3
  have t2 : Int.tmod a3 (l0.length : Int) < (l0.length : Int) := Int.tmod_lt_of_pos _ (by omega)
  obtain ⟨i, hi⟩ : ∃ i : Nat, Int.tmod a3 (l0.length : Int) = (i : Int) := ⟨(Int.tmod a3 (l0.length : Int)).toNat, by omega⟩
  rw [hi] at t1 t2
  have hx := rd_255 b0 (i : Int)
  have hx2 := xor_ne (rd l0 (i : Int)) a4 hx h4
  have hb : Bytes255 (l0.set i (Go.bits .xor .u8 (rd l0 (i : Int)) a4)) := by
    intro x hx'
    rcases List.mem_or_eq_of_mem_set hx' with h | h
    · exact b0 x h
    · rw [h]; exact hx2.1
  have c0 := wireCrc_any k l0 (by omega) b0 (by omega)
  have c1 := wireCrc_any k l1 (by omega) b1 (by omega)
  have c2 := wireCrc_any k l2 (by omega) b2 (by omega)
  have c3 := wireCrc_any k (z3 l0 l1 l2) (by omega) (z3_bytes l0 l1 l2 b0 b1 b2) (by omega)
  have c4 := wireCrc_any k _ (by rw [List.length_set]; omega) hb (by rw [List.length_set]; omega)
  have cx := crcV_z3 l0 l1 l2 b0 b1 b2 h1 h2
  have cn := crcV_set l0 i _ (by omega) hx2.2
  have e1 : tiklaw2_first.f = some true := rfl
  refine (if_neg hn1).trans ?_
  simp only [copy_any l0 (by omega), Option.bind_some, e1, hi, Int.toNat_natCast, c0, c1, c2, c3, c4]
  refine (if_neg t0).trans ((if_pos t1).trans ((if_pos t2).trans ((if_pos trivial).trans ((if_pos cx).trans ?_))))
  rw [bne_iff_ne.2 cn]
theorem sums_any (l0 l1 l2 : List Int) (a3 a4 : Int) (b0 : Bytes255 l0) (b1 : Bytes255 l1) (b2 : Bytes255 l2) (h4 : 0 ≤ a4 ∧ a4 < 256) : tiklaw2_WireSums.f 40000 l0 l1 l2 a3 a4 = some true := by
  have e1 : tiklaw2_first.f = some true := rfl
  unfold tiklaw2_WireSums.f
  rw [e1, Option.bind_some]
  refine (if_pos rfl).trans ?_
  by_cases q1 : (l0.length : Int) < 1
  · exact (if_pos q1).trans (sums_j0t 39999 _ _ _ _ _)
  refine (if_neg q1).trans ?_
  by_cases q2 : (l0.length : Int) > 2000
  · exact (if_pos q2).trans (sums_j0t 39999 _ _ _ _ _)
  refine (if_neg q2).trans ?_
  by_cases q3 : ¬ (l1.length : Int) = (l0.length : Int)
  · exact (if_neg q3).trans (sums_j0t 39999 _ _ _ _ _)
  have q3 := Decidable.not_not.1 q3
  refine (if_pos q3).trans ?_
  by_cases q4 : ¬ (l2.length : Int) = (l0.length : Int)
  · exact (if_neg q4).trans (sums_j0t 39999 _ _ _ _ _)
  have q4 := Decidable.not_not.1 q4
  refine (if_pos q4).trans ?_
  by_cases q5 : a3 < 0
  · exact (if_pos q5).trans (sums_j0t 39999 _ _ _ _ _)
  refine (if_neg q5).trans ?_
  by_cases q6 : a4 = 0
  · rw [q6]; exact sums_j0t 39999 _ _ _ _ _
  have q7 : (a4 == 0) = false := by simpa using q6
  rw [q7]
  obtain ⟨m, hm⟩ : ∃ m, 39999 = (m + 20001) + l0.length + 1 := ⟨39999 - (20001 + l0.length + 1), by omega⟩
  rw [show (40000 : Nat) = 39999 + 1 from rfl, tiklaw2_WireSums.j0]
  refine (if_neg (by simp)).trans ((if_pos (by omega)).trans ((if_pos (by omega)).trans ?_))
  rw [hm]
  have := sums_loop l0 l1 l2 a3 a4 (by omega) (by omega) (by omega) l0.length (m + 20001) 0 (List.replicate ((l0.length : Int)).toNat 0) (by omega) (by simp)
  refine this.trans ?_
  have := sums_end (m + 20001) (by omega) l0 l1 l2 a3 a4 b0 b1 b2 (by omega) (by omega) (by omega) (by omega) (by omega) (by omega)
  simpa using this
end Go.Proofs.Ytabljieejnhefaa.Hand
