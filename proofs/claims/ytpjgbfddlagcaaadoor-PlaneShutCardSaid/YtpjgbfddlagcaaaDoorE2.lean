/- A part of the proof: contracts of the functions that the statement reaches. -/
import Derived.Test.YtpjgbfddlagcaaaDoorE1
namespace Go.Ev
open Go.Proofs
set_option maxRecDepth 100000
set_option linter.unusedSimpArgs false
set_option linter.unusedVariables false
/-! Sets of ports as bits. -/
def tB (x : Int) : BitVec 32 := BitVec.ofInt 32 x
theorem tB_nat (b : BitVec 32) : tB (b.toNat : Int) = b := by
  unfold tB
  rw [BitVec.ofInt_natCast, BitVec.ofNat_toNat, BitVec.setWidth_eq]
theorem wrapB (b : BitVec 32) : IntKind.u32.wrap (b.toNat : Int) = (b.toNat : Int) := by
  have := b.isLt
  simp [IntKind.wrap, IntKind.signed, IntKind.bits]
  omega
theorem and_B (a b : Int) : bAnd .u32 a b = ((tB a &&& tB b).toNat : Int) := wrapB _
theorem or_B (a b : Int) : bOr .u32 a b = ((tB a ||| tB b).toNat : Int) := wrapB _
theorem andNot_B (a b : Int) : bAndNot .u32 a b = ((tB a &&& ~~~ tB b).toNat : Int) := wrapB _
theorem tB_and (a b : Int) : tB (bAnd .u32 a b) = tB a &&& tB b := by rw [and_B, tB_nat]
theorem tB_or (a b : Int) : tB (bOr .u32 a b) = tB a ||| tB b := by rw [or_B, tB_nat]
theorem tB_andNot (a b : Int) : tB (bAndNot .u32 a b) = tB a &&& ~~~ tB b := by rw [andNot_B, tB_nat]
theorem natB (b c : BitVec 32) : ((b.toNat : Int) = (c.toNat : Int)) ↔ b = c := by
  constructor
  · intro h
    exact BitVec.eq_of_toNat_eq (by omega)
  · rintro rfl; rfl
theorem zB (b : BitVec 32) : ((b.toNat : Int) = 0) ↔ b = 0#32 := natB b 0#32
theorem and_zero (a b : Int) : (bAnd .u32 a b = 0) ↔ tB a &&& tB b = 0#32 := by rw [and_B]; exact zB _
theorem bitB : ∀ k : Fin 16, bitP ((k.val + 1 : Nat) : Int) = (2 ^ k.val : Nat) ∧ tB (bitP ((k.val + 1 : Nat) : Int)) = BitVec.twoPow 32 k.val := by decide +kernel
theorem twoN : ∀ k : Fin 16, (((BitVec.twoPow 32 k.val).toNat : Nat) : Int) = ((2 ^ k.val : Nat) : Int) := by decide +kernel
theorem bit_ex {p : Int} (h1 : 1 ≤ p) (h2 : p ≤ 16) : ∃ k : Fin 16, p = ((k.val + 1 : Nat) : Int) := ⟨⟨(p - 1).toNat, by omega⟩, by simp; omega⟩
theorem bit_out {p : Int} (h : p < 1 ∨ 16 < p) : bitP p = 0 := by unfold bitP; rw [if_pos h]
theorem with0 (p : Int) : withP 0 p = bitP p := by
  unfold withP
  rw [or_B]
  by_cases h : p < 1 ∨ 16 < p
  · rw [bit_out h]; rfl
  · obtain ⟨k, rfl⟩ := bit_ex (p := p) (by omega) (by omega)
    have h1 := (bitB k).2
    have h0 : tB 0 = 0#32 := rfl
    rw [h0, BitVec.zero_or, h1, (bitB k).1]
    exact twoN k
theorem and_two (b : BitVec 32) (k : Nat) : b &&& BitVec.twoPow 32 k = if b.getLsbD k then BitVec.twoPow 32 k else 0#32 := BitVec.and_twoPow b k
theorem and_bit (a : Int) (k : Fin 16) : bAnd .u32 a (bitP ((k.val + 1 : Nat) : Int)) = if (tB a).getLsbD k.val then (2 ^ k.val : Nat) else 0 := by
  rw [and_B, (bitB k).2, and_two]
  have := k.isLt
  have hp : 2 ^ k.val < 2 ^ 32 := Nat.pow_lt_pow_right (by decide) (by omega)
  split
  · simp only [BitVec.toNat_twoPow]; rw [Nat.mod_eq_of_lt hp]
  · rfl
end Go.Ev
