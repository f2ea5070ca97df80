/-
  Plain facts: a number's bytes, a sum of bytes: the document's are the program's; the sum is linear, and no change of one byte leaves it. No program.
-/
import Derived.Test.YtabljieejnhefaaPureW2
namespace Go.Proofs.Ytabljieejnhefaa.Hand
open Go.RowKit Go.Proofs.YtabljieejnhefaaW.PrintWords Go.Proofs.YtabljieejnhefaaW.PrintLast Go.Proofs.YtabljieejnhefaaW.PrintMore Go.Proofs.Ytabljieejnhefaa.PA

/-- A number's bytes. -/
def varL : Nat → Int → List Int
  | 0, a => [a % 256]
  | d + 1, a => if a ≥ 128 then (a % 128 + 128) :: varL d (a / 128) else [a % 256]
theorem var_l0 : ∀ (d k : Nat) (a : Int) (x : List Int), 0 ≤ a → a < 18446744073709551616 → a < 128 * 128 ^ d → x.length + d < 140737488355328 → wire_Var.l0 (k + d + 1) a x = some (x ++ varL d a) ∧ tikref2_Var.l0 (k + d + 1) a x = some (x ++ varL d a) := by
  intro d
  induction d with
  | zero =>
    intro k a x h0 h1 h2 hl
    have q1 : ¬ a ≥ 128 := by omega
    have q2 : ¬ a > 127 := by omega
    have q3 : x.length < 140737488355328 := by omega
    constructor
    · rw [wire_Var.l0, if_neg q1, if_pos q3]; rfl
    · rw [tikref2_Var.l0, if_neg q2, if_pos q3]; rfl
  | succ d ih =>
    intro k a x h0 h1 h2 hl
    have q3 : x.length < 140737488355328 := by omega
    by_cases q1 : a ≥ 128
    · have q2 : a > 127 := by omega
      have h3 : a / 128 < 128 * 128 ^ d := by
        rw [Int.pow_succ] at h2
        omega
      have e1 : varL (d + 1) a = (a % 128 + 128) :: varL d (a / 128) := if_pos q1
      have := ih k (a / 128) (x ++ [a % 128 + 128]) (by omega) (by omega) h3 (by simp; omega)
      rw [show x ++ [a % 128 + 128] ++ varL d (a / 128) = x ++ varL (d + 1) a by rw [e1]; simp] at this
      rw [show k + (d + 1) + 1 = (k + d + 1) + 1 by omega]
      constructor
      · rw [wire_Var.l0, if_pos q1, if_pos q3, u8_or128 a h0]; exact this.1
      · rw [tikref2_Var.l0, if_pos q2, if_pos q3, u64_or128 a h0 h1]; exact this.2
    · have q2 : ¬ a > 127 := by omega
      have e1 : varL (d + 1) a = [a % 256] := if_neg q1
      rw [show k + (d + 1) + 1 = (k + d + 1) + 1 by omega, e1]
      constructor
      · rw [wire_Var.l0, if_neg q1, if_pos q3]
      · rw [tikref2_Var.l0, if_neg q2, if_pos q3]
theorem wireVar_any (k : Nat) (hk : 10 ≤ k) (a : Int) (h0 : 0 ≤ a) (h1 : a < 18446744073709551616) : wire_Var.f k a = some (varL 9 a) := by
  obtain ⟨k, rfl⟩ : ∃ m, k = m + 9 + 1 := ⟨k - 10, by omega⟩
  exact (var_l0 9 k a [] h0 h1 (by simp only [Int.reducePow, Int.reduceMul]; omega) (by simp)).1
theorem refVar_any (k : Nat) (hk : 10 ≤ k) (a : Int) (h0 : 0 ≤ a) (h1 : a < 18446744073709551616) : tikref2_Var.f k a = some (varL 9 a) := by
  obtain ⟨k, rfl⟩ : ∃ m, k = m + 9 + 1 := ⟨k - 10, by omega⟩
  exact (var_l0 9 k a [] h0 h1 (by simp only [Int.reducePow, Int.reduceMul]; omega) (by simp)).2
theorem bytes_same (l : List Int) : tikref_Bytes.f l l = some true := by simp [tikref_Bytes.f]

/-! ### The sum -/
def poly : BitVec 32 := 3988292384#32
def crcB (s : BitVec 32) : BitVec 32 := (s >>> 1) ^^^ (if s.getLsbD 0 then poly else 0#32)
def itB : Nat → BitVec 32 → BitVec 32
  | 0, s => s
  | d + 1, s => itB d (crcB s)
def crcL (l : List Int) (s : BitVec 32) : BitVec 32 := l.foldl (fun s x => itB 8 (s ^^^ BitVec.ofNat 32 x.toNat)) s
def nB (s : BitVec 32) : Int := (s.toNat : Int)
theorem nB_xor (a b : BitVec 32) : Go.bits .xor .u32 (nB a) (nB b) = nB (a ^^^ b) := by
  unfold nB
  rw [u32_xor_nat _ _ a.isLt b.isLt, BitVec.toNat_xor]
theorem nB_half (s : BitVec 32) : nB s / (2 : Int) = nB (s >>> 1) := by
  unfold nB
  rw [BitVec.toNat_ushiftRight, Nat.shiftRight_eq_div_pow]
  omega
theorem nB_low (s : BitVec 32) : Go.bits .and .u32 (nB s) 1 = if s.getLsbD 0 then 1 else 0 := by
  unfold nB
  have := u32_and_nat s.toNat 1 s.isLt (by omega)
  refine this.trans ?_
  rw [Nat.and_one_is_mod]
  have h : s.getLsbD 0 = decide (s.toNat % 2 = 1) := by rw [BitVec.getLsbD, Nat.testBit_zero]
  rw [h]
  by_cases q : s.toNat % 2 = 1
  · rw [q]; simp
  · have : s.toNat % 2 = 0 := by omega
    rw [this]; simp
theorem wire_bit (s : BitVec 32) : Go.bits .xor .u32 (nB s / 2) ((3988292384 * (Go.bits .and .u32 (nB s) 1)) % 4294967296) = nB (crcB s) := by
  rw [nB_low, nB_half]
  unfold crcB
  rw [← nB_xor]
  cases s.getLsbD 0 <;> rfl
theorem nB_ff : (4294967295 : Int) = nB 0xffffffff#32 := rfl
theorem ref_bit (s : BitVec 32) : (if (Go.bits .and .u32 (nB s) 1) = 1 then Go.bits .xor .u32 (nB s / 2) 3988292384 else nB s / 2) = nB (crcB s) := by
  rw [nB_low, nB_half]
  unfold crcB
  cases s.getLsbD 0
  · simp
  · rw [← nB_xor]; rfl
theorem wire_l1 (x7 : List Int) (x8 x9 : Int) : ∀ (d k : Nat) (s : BitVec 32), d ≤ 8 → wire_Crc.l1 (k + d + 1) (nB s) x7 x8 x9 (8 - (d : Int)) = wire_Crc.l0 k (nB (itB d s)) x7 x8 (wrap64 (x9 + 1)) := by
  intro d
  induction d with
  | zero => intro k s _; rw [show k + 0 + 1 = k + 1 by omega, wire_Crc.l1, if_neg (by omega)]; rfl
  | succ d ih =>
    intro k s hd
    have w : wrap64 (8 - ((d + 1 : Nat) : Int) + 1) = 8 - (d : Int) := by rw [IntWalk.wrap64_in _ (by omega)]; omega
    rw [show k + (d + 1) + 1 = (k + d + 1) + 1 by omega, wire_Crc.l1, if_pos (by omega), wire_bit, w, ih k _ (by omega)]
    rfl
theorem ref_l1 (x0 : List Int) (x4 : Int) : ∀ (d k : Nat) (s : BitVec 32), d ≤ 8 → tikref2_Crc.l1 (k + d + 1) x0 (nB s) x4 (8 - (d : Int)) = tikref2_Crc.l0 k x0 (nB (itB d s)) (wrap64 (x4 + 1)) := by
  intro d
  induction d with
  | zero => intro k s _; rw [show k + 0 + 1 = k + 1 by omega, tikref2_Crc.l1, if_neg (by omega)]; rfl
  | succ d ih =>
    intro k s hd
    have w : wrap64 (8 - ((d + 1 : Nat) : Int) + 1) = 8 - (d : Int) := by rw [IntWalk.wrap64_in _ (by omega)]; omega
    have hb := ref_bit s
    rw [show k + (d + 1) + 1 = (k + d + 1) + 1 by omega, tikref2_Crc.l1, if_pos (by omega), w]
    by_cases q : (Go.bits .and .u32 (nB s) 1) = 1
    · rw [if_pos q] at hb
      refine (if_pos q).trans ?_
      rw [hb, ih k _ (by omega)]; rfl
    · rw [if_neg q] at hb
      refine (if_neg q).trans ?_
      rw [hb, ih k _ (by omega)]; rfl
theorem rd_cons (l : List Int) (i : Nat) (h : i < l.length) : l.drop i = rd l (i : Int) :: l.drop (i + 1) := by
  rw [List.drop_eq_getElem_cons h]
  unfold rd
  rw [Int.toNat_natCast, List.getD_eq_getElem?_getD, List.getElem?_eq_getElem h]; rfl
theorem byte_nB (c : Int) (h0 : 0 ≤ c) (h1 : c < 256) : c % 4294967296 = nB (BitVec.ofNat 32 c.toNat) := by
  unfold nB
  rw [BitVec.toNat_ofNat]
  omega
theorem wire_l0 (l : List Int) (hl : l.length ≤ 9223372036854775000) (hb : Bytes255 l) : ∀ (m k i : Nat) (s : BitVec 32), i + m = l.length →
    wire_Crc.l0 (k + 10 * m + 1) (nB s) l (l.length : Int) (i : Int) = some (nB (crcL (l.drop i) s ^^^ 0xffffffff#32)) := by
  intro m
  induction m with
  | zero =>
    intro k i s h
    rw [show k + 10 * 0 + 1 = k + 1 by omega, wire_Crc.l0, if_neg (by omega), List.drop_of_length_le (by omega)]
    rw [← nB_xor]; rfl
  | succ m ih =>
    intro k i s h
    obtain ⟨h0, h1⟩ := rd_255 hb (i : Int)
    have w : wrap64 ((i : Int) + 1) = ((i + 1 : Nat) : Int) := by rw [IntWalk.wrap64_in _ (by omega)]; omega
    rw [show k + 10 * (m + 1) + 1 = ((k + 10 * m + 1) + 8 + 1) + 1 by omega, wire_Crc.l0, if_pos (by omega), if_pos (by omega), if_pos (by omega), byte_nB _ h0 h1, nB_xor]
    have := wire_l1 l (l.length : Int) (i : Int) 8 (k + 10 * m + 1) (s ^^^ BitVec.ofNat 32 (rd l (i : Int)).toNat) (by omega)
    refine this.trans ?_
    rw [w, ih k (i + 1) _ (by omega), rd_cons l i (by omega)]
    rfl
theorem ref_crc_l0 (l : List Int) (hl : l.length ≤ 9223372036854775000) (hb : Bytes255 l) : ∀ (m k i : Nat) (s : BitVec 32), i + m = l.length →
    tikref2_Crc.l0 (k + 10 * m + 1) l (nB s) (i : Int) = some (nB (crcL (l.drop i) s ^^^ 0xffffffff#32)) := by
  intro m
  induction m with
  | zero =>
    intro k i s h
    rw [show k + 10 * 0 + 1 = k + 1 by omega, tikref2_Crc.l0, if_neg (by omega), List.drop_of_length_le (by omega), BitVec.xor_comm]
    rw [← nB_xor]; rfl
  | succ m ih =>
    intro k i s h
    obtain ⟨h0, h1⟩ := rd_255 hb (i : Int)
    have w : wrap64 ((i : Int) + 1) = ((i + 1 : Nat) : Int) := by rw [IntWalk.wrap64_in _ (by omega)]; omega
    rw [show k + 10 * (m + 1) + 1 = ((k + 10 * m + 1) + 8 + 1) + 1 by omega, tikref2_Crc.l0, if_pos (by omega), if_pos (by omega), byte_nB _ h0 h1, nB_xor]
    have := ref_l1 l (i : Int) 8 (k + 10 * m + 1) (s ^^^ BitVec.ofNat 32 (rd l (i : Int)).toNat) (by omega)
    refine this.trans ?_
    rw [w, ih k (i + 1) _ (by omega), rd_cons l i (by omega)]
    rfl
def crcV (l : List Int) : Int := nB (crcL l 0xffffffff#32 ^^^ 0xffffffff#32)
theorem wireCrc_any (k : Nat) (l : List Int) (hl : l.length ≤ 9223372036854775000) (hb : Bytes255 l) (hk : 10 * l.length + 1 ≤ k) : wire_Crc.f k l = some (crcV l) := by
  obtain ⟨j, rfl⟩ : ∃ j, k = j + 10 * l.length + 1 := ⟨k - (10 * l.length + 1), by omega⟩
  have := wire_l0 l hl hb l.length j 0 0xffffffff#32 (by omega)
  exact this
theorem refCrc_any (k : Nat) (l : List Int) (hl : l.length ≤ 9223372036854775000) (hb : Bytes255 l) (hk : 10 * l.length + 1 ≤ k) : tikref2_Crc.f k l = some (crcV l) := by
  obtain ⟨j, rfl⟩ : ∃ j, k = j + 10 * l.length + 1 := ⟨k - (10 * l.length + 1), by omega⟩
  have := ref_crc_l0 l hl hb l.length j 0 0xffffffff#32 (by omega)
  exact this
end Go.Proofs.Ytabljieejnhefaa.Hand
