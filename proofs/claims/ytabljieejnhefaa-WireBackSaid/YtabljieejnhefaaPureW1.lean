/-
  Plain facts: bits, numbers as text, their reading. No program.
-/
import Derived.Test.YtabljieejnhefaaWire10
import Derived.Laws.BitsAllLaws
namespace Go.Proofs.Ytabljieejnhefaa.Hand
open Go.RowKit Go.Proofs.YtabljieejnhefaaW.PrintWords Go.Proofs.YtabljieejnhefaaW.PrintLast Go.Proofs.YtabljieejnhefaaW.PrintMore Go.Proofs.Ytabljieejnhefaa.PA

theorem andNot128 (c : Int) (h0 : 0 ≤ c) (h1 : c < 256) : Go.bits .andNot .u8 c 128 = c % 128 := by
  rw [u8_andNot c 128 h0 h1 (by omega) (by omega)]
  rw [show (255 - (128 : Int).toNat) = 2 ^ 7 - 1 from rfl, Nat.and_two_pow_sub_one_eq_mod]
  omega
theorem and127 (c : Int) (h0 : 0 ≤ c) (h1 : c < 18446744073709551616) : Go.bits .and .u64 c 127 = c % 128 := by
  rw [u64_and c 127 h0 h1 (by omega) (by omega)]
  rw [show ((127 : Int).toNat) = 2 ^ 7 - 1 from rfl, Nat.and_two_pow_sub_one_eq_mod]
  omega
theorem or_high (n m s : Nat) (hn : n < 2 ^ s) : n ||| (m * 2 ^ s) = n + m * 2 ^ s := by
  have := Nat.shiftLeft_add_eq_or_of_lt hn m
  rw [Nat.shiftLeft_eq] at this
  rw [Nat.or_comm, ← this, Nat.add_comm]
theorem u8_or128 (a : Int) (h0 : 0 ≤ a) : Go.bits .or .u8 (a % 256) 128 = a % 128 + 128 := by
  rw [u8_or (a % 256) 128 (by omega) (by omega) (by omega) (by omega)]
  have h : (a % 256).toNat ||| 128 = (a % 256).toNat % 128 + 128 := by
    have h1 : (a % 256).toNat < 256 := by omega
    generalize (a % 256).toNat = x at *
    have : ∀ y : Fin 256, y.val ||| 128 = y.val % 128 + 128 := by decide +kernel
    exact this ⟨x, h1⟩
  have h2 : (128 : Int).toNat = 128 := rfl
  rw [h2, h]
  omega
theorem u64_or128 (a : Int) (h0 : 0 ≤ a) (h1 : a < 18446744073709551616) : Go.bits .or .u64 (Go.bits .and .u64 a 127) 128 % 256 = a % 128 + 128 := by
  rw [and127 a h0 h1, u64_or (a % 128) 128 (by omega) (by omega) (by omega) (by omega)]
  have h2 : (128 : Int).toNat = 1 * 2 ^ 7 := rfl
  rw [h2, or_high _ 1 7 (by omega)]
  omega
/-- A step of the reading, as a sum. -/
theorem vbound (n c : Int) (i : Nat) (hn : n < 2 ^ (7 * i)) (hc0 : 0 ≤ c) (hc : c < 128) (hi : i ≤ 9) (h9 : i = 9 → c ≤ 1) : c * 2 ^ (7 * i) < 18446744073709551616 ∧ n + c * 2 ^ (7 * i) < 18446744073709551616 ∧ 0 ≤ c * 2 ^ (7 * i) := by
  have : i = 0 ∨ i = 1 ∨ i = 2 ∨ i = 3 ∨ i = 4 ∨ i = 5 ∨ i = 6 ∨ i = 7 ∨ i = 8 ∨ i = 9 := by omega
  rcases this with rfl | rfl | rfl | rfl | rfl | rfl | rfl | rfl | rfl | rfl
  all_goals
    first | (have := h9 rfl) | skip
    simp only [Nat.reduceMul, Int.reducePow] at hn ⊢
    omega
theorem vstep_eq (n c : Int) (i : Nat) (hn0 : 0 ≤ n) (hn : n < 2 ^ (7 * i)) (hc0 : 0 ≤ c) (hc : c < 256) (hi : i ≤ 9) (h9 : i = 9 → c ≤ 1) : vstep n c i = n + (c % 128) * 2 ^ (7 * i) := by
  unfold vstep
  rw [andNot128 c hc0 hc]
  have hb := vbound n (c % 128) i hn (by omega) (by omega) hi (fun h => by have := h9 h; omega)
  have hd : 0 ≤ c % 128 ∧ c % 128 ≤ 18446744073709551615 := by omega
  clear hc0 hc h9
  generalize c % 128 = d at *
  rw [IntWalk.u64_in d hd]
  have hp : (2 : Int) ^ (7 * i) = ((2 ^ (7 * i) : Nat) : Int) := by simp
  rw [hp] at hn hb ⊢
  generalize hq : 2 ^ (7 * i) = q at *
  have e1 : (d * (q : Int)).toNat = d.toNat * q := by rw [Int.toNat_mul hd.1 (Int.natCast_nonneg _), Int.toNat_natCast]
  have e2 := or_high n.toNat d.toNat (7 * i)
  rw [hq] at e2
  have e3 := e2 (by omega)
  have e4 : ((d.toNat * q : Nat) : Int) = d * q := by rw [← e1]; exact Int.toNat_of_nonneg hb.2.2
  generalize d * (q : Int) = m at *
  rw [IntWalk.u64_in m (by omega), u64_or n m hn0 (by omega) (by omega) (by omega), e1, e3, Int.natCast_add, e4]
  omega
theorem vref_eq (n c : Int) (i : Nat) (hc0 : 0 ≤ c) (hc : c < 256) (hi : i ≤ 9) :
    Go.bits .or .u64 n (shl .u64 (Go.bits .and .u64 (IntKind.u64.wrap c) 127) (IntKind.u64.wrap (wrap64 (7 * (i : Int))))) = vstep n c i := by
  have hw : IntKind.u64.wrap c = c := IntWalk.u64_in _ (by omega)
  have hw2 : wrap64 (7 * (i : Int)) = 7 * i := IntWalk.wrap64_in _ (by omega)
  have hw3 : IntKind.u64.wrap (7 * (i : Int)) = 7 * i := IntWalk.u64_in _ (by omega)
  unfold vstep shl
  rw [hw, hw2, hw3, and127 c hc0 (by omega), andNot128 c hc0 hc, IntWalk.u64_in (c % 128) (by omega)]
  have : min (7 * (i : Int)).toNat IntKind.u64.bits = 7 * i := by
    have : IntKind.u64.bits = 64 := rfl
    rw [this]; omega
  rw [this]
def Bytes255 (l : List Int) : Prop := ∀ x ∈ l, 0 ≤ x ∧ x < 256
theorem rd_255 {l : List Int} (h : Bytes255 l) (i : Int) : 0 ≤ rd l i ∧ rd l i < 256 := by
  unfold rd
  rw [List.getD_eq_getElem?_getD]
  rcases Nat.lt_or_ge i.toNat l.length with h1 | h1
  · rw [List.getElem?_eq_getElem h1]; exact h _ (List.getElem_mem h1)
  · rw [List.getElem?_eq_none h1]; simp
end Go.Proofs.Ytabljieejnhefaa.Hand
