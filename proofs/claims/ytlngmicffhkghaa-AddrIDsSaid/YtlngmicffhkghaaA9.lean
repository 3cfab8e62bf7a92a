/- A part of the proof: contracts of the functions that the statement reaches. -/
import Derived.Test.YtlngmicffhkghaaA7
import Derived.Test.YtlngmicffhkghaaA8
namespace Go.Ev
open Go.Proofs
set_option maxRecDepth 100000
set_option linter.unusedSimpArgs false
set_option linter.unusedVariables false
set_option maxHeartbeats 4000000
theorem w64 (x : Int) : IntKind.u64.wrap x = x % 18446744073709551616 := by simp [IntKind.wrap, IntKind.signed, IntKind.bits]
theorem w8 (x : Int) : IntKind.u8.wrap x = x % 256 := by simp [IntKind.wrap, IntKind.signed, IntKind.bits]
theorem or_nat (p A B : Nat) (hB : B < 2 ^ p) (hs : 2 ^ p * A + B < 2 ^ 64) : bOr .u64 (((2 ^ p * A : Nat) : Int)) (B : Int) = ((2 ^ p * A + B : Nat) : Int) := by
  have e1 : (BitVec.ofInt IntKind.u64.bits ((2 ^ p * A : Nat) : Int)).toNat = 2 ^ p * A := by
    show (BitVec.ofInt 64 _).toNat = _
    rw [BitVec.toNat_ofInt]; omega
  have e2 : (BitVec.ofInt IntKind.u64.bits (B : Int)).toNat = B := by
    show (BitVec.ofInt 64 _).toNat = _
    rw [BitVec.toNat_ofInt]; omega
  unfold bOr
  rw [BitVec.toNat_or, e1, e2, ← Nat.two_pow_add_eq_or_of_lt hB, w64]
  omega
theorem or8 (a b : Int) (h0 : 0 ≤ a) (h1 : a < 1099511627776) (h2 : 0 ≤ b) (h3 : b ≤ 255) : bOr .u64 (shL .u64 a 8) b = 256 * a + b := by
  have e : shL .u64 a 8 = ((2 ^ 8 * a.toNat : Nat) : Int) := by
    unfold shL
    rw [show (2 : Int) ^ (min (8 : Int).toNat IntKind.u64.bits) = 256 from by decide, w64]
    omega
  have := or_nat 8 a.toNat b.toNat (by omega) (by omega)
  rw [e]
  rw [show b = ((b.toNat : Nat) : Int) by omega]
  rw [this]; omega
theorem ub_id (x : Int) (h0 : 0 ≤ x) (h1 : x ≤ 255) : ((UInt8.ofNat x.toNat).toNat : Int) = x := by
  rw [UInt8.toNat_ofNat']; omega
section
variable {m0 m1 m2 m3 m4 m5 : Int} (l0 : 0 ≤ m0) (u0 : m0 ≤ 255) (l1 : 0 ≤ m1) (u1 : m1 ≤ 255) (l2 : 0 ≤ m2) (u2 : m2 ≤ 255) (l3 : 0 ≤ m3) (u3 : m3 ≤ 255) (l4 : 0 ≤ m4) (u4 : m4 ≤ 255) (l5 : 0 ≤ m5) (u5 : m5 ≤ 255)
include l0 u0 l1 u1 l2 u2 l3 u3 l4 u4 l5 u5
theorem intM_eq : intM m0 m1 m2 m3 m4 m5 = 1099511627776 * m0 + 4294967296 * m1 + 16777216 * m2 + 65536 * m3 + 256 * m4 + m5 := by
  have b0 : byteAt (macS m0 m1 m2 m3 m4 m5) 0 = m0 := (show byteAt _ 0 = ((UInt8.ofNat m0.toNat).toNat : Int) from rfl).trans (ub_id m0 l0 u0)
  have b1 : byteAt (macS m0 m1 m2 m3 m4 m5) 1 = m1 := (show byteAt _ 1 = ((UInt8.ofNat m1.toNat).toNat : Int) from rfl).trans (ub_id m1 l1 u1)
  have b2 : byteAt (macS m0 m1 m2 m3 m4 m5) 2 = m2 := (show byteAt _ 2 = ((UInt8.ofNat m2.toNat).toNat : Int) from rfl).trans (ub_id m2 l2 u2)
  have b3 : byteAt (macS m0 m1 m2 m3 m4 m5) 3 = m3 := (show byteAt _ 3 = ((UInt8.ofNat m3.toNat).toNat : Int) from rfl).trans (ub_id m3 l3 u3)
  have b4 : byteAt (macS m0 m1 m2 m3 m4 m5) 4 = m4 := (show byteAt _ 4 = ((UInt8.ofNat m4.toNat).toNat : Int) from rfl).trans (ub_id m4 l4 u4)
  have b5 : byteAt (macS m0 m1 m2 m3 m4 m5) 5 = m5 := (show byteAt _ 5 = ((UInt8.ofNat m5.toNat).toNat : Int) from rfl).trans (ub_id m5 l5 u5)
  have z : ∀ x : Int, 0 ≤ x → x ≤ 255 → IntKind.u64.wrap x = x := fun x h0 h1 => wr_u64 h0 (by omega)
  have s1 : intS (macS m0 m1 m2 m3 m4 m5) 1 = m0 := by
    show bOr .u64 (shL .u64 0 8) (IntKind.u64.wrap (byteAt _ 0)) = _
    rw [b0, z _ l0 u0, or8 0 m0 (by omega) (by omega) l0 u0]; omega
  have s2 : intS (macS m0 m1 m2 m3 m4 m5) 2 = 256 * m0 + m1 := by
    show bOr .u64 (shL .u64 (intS _ 1) 8) (IntKind.u64.wrap (byteAt _ 1)) = _
    rw [b1, s1, z _ l1 u1, or8 _ m1 (by omega) (by omega) l1 u1]
  have s3 : intS (macS m0 m1 m2 m3 m4 m5) 3 = 256 * (256 * m0 + m1) + m2 := by
    show bOr .u64 (shL .u64 (intS _ 2) 8) (IntKind.u64.wrap (byteAt _ 2)) = _
    rw [b2, s2, z _ l2 u2, or8 _ m2 (by omega) (by omega) l2 u2]
  have s4 : intS (macS m0 m1 m2 m3 m4 m5) 4 = 256 * (256 * (256 * m0 + m1) + m2) + m3 := by
    show bOr .u64 (shL .u64 (intS _ 3) 8) (IntKind.u64.wrap (byteAt _ 3)) = _
    rw [b3, s3, z _ l3 u3, or8 _ m3 (by omega) (by omega) l3 u3]
  have s5 : intS (macS m0 m1 m2 m3 m4 m5) 5 = 256 * (256 * (256 * (256 * m0 + m1) + m2) + m3) + m4 := by
    show bOr .u64 (shL .u64 (intS _ 4) 8) (IntKind.u64.wrap (byteAt _ 4)) = _
    rw [b4, s4, z _ l4 u4, or8 _ m4 (by omega) (by omega) l4 u4]
  show bOr .u64 (shL .u64 (intS _ 5) 8) (IntKind.u64.wrap (byteAt _ 5)) = _
  rw [b5, s5, z _ l5 u5, or8 _ m5 (by omega) (by omega) l5 u5]; omega
theorem refInt_eq : refInt m0 m1 m2 m3 m4 m5 = 1099511627776 * m0 + 4294967296 * m1 + 16777216 * m2 + 65536 * m3 + 256 * m4 + m5 := by
  simp only [refInt, w64]; omega
end
theorem fb (n : Int) (h : 0 ≤ n) (k : Nat) (hk : k ≤ 64) : fbI n (k : Int) = n / 2 ^ k % 256 := by
  unfold fbI shR
  rw [w8, Int.toNat_natCast, Nat.min_eq_left (by exact hk)]
  rw [Int.fdiv_eq_ediv_of_nonneg _ (Int.pow_nonneg (by decide))]
theorem ub8 (x : Int) : ubI (x % 256) = x % 256 := ub_id _ (by omega) (by omega)
theorem fromC_eq (n : Int) (h : 0 ≤ n) : fromC n = ⟨n / 1099511627776 % 256, n / 4294967296 % 256, n / 16777216 % 256, n / 65536 % 256, n / 256 % 256, n % 256⟩ := by
  have f : ∀ k : Nat, k ≤ 64 → ubI (fbI n (k : Int)) = n / 2 ^ k % 256 := fun k hk => by rw [fb n h k hk, ub8]
  have a5 := f 40 (by omega); have a4 := f 32 (by omega); have a3 := f 24 (by omega); have a2 := f 16 (by omega); have a1 := f 8 (by omega); have a0 := f 0 (by omega)
  unfold fromC
  have b0 : ubI (fbI n 0) = n % 256 := by rw [show (0 : Int) = ((0 : Nat) : Int) from rfl, a0]; simp
  rw [show (40 : Int) = ((40 : Nat) : Int) from rfl, show (32 : Int) = ((32 : Nat) : Int) from rfl, show (24 : Int) = ((24 : Nat) : Int) from rfl, show (16 : Int) = ((16 : Nat) : Int) from rfl, show (8 : Int) = ((8 : Nat) : Int) from rfl, b0, a5, a4, a3, a2, a1]
  rfl
theorem fromR_eq (n : Int) (h : 0 ≤ n) (hu : n ≤ 18446744073709551615) : fromR n = fromC n := by
  rw [fromC_eq n h]
  have td : ∀ x : Int, 0 ≤ x → Int.tdiv x 256 = x / 256 := fun x hx => Int.tdiv_eq_ediv_of_nonneg hx
  have tm : ∀ x : Int, 0 ≤ x → Int.tmod x 256 = x % 256 := fun x hx => Int.tmod_eq_emod_of_nonneg hx
  have r1 : rf n 1 = n / 256 := by show IntKind.u64.wrap (Int.tdiv n 256) = _; rw [td n h, w64]; omega
  have r2 : rf n 2 = n / 65536 := by show IntKind.u64.wrap (Int.tdiv (rf n 1) 256) = _; rw [r1, td _ (by omega), w64]; omega
  have r3 : rf n 3 = n / 16777216 := by show IntKind.u64.wrap (Int.tdiv (rf n 2) 256) = _; rw [r2, td _ (by omega), w64]; omega
  have r4 : rf n 4 = n / 4294967296 := by show IntKind.u64.wrap (Int.tdiv (rf n 3) 256) = _; rw [r3, td _ (by omega), w64]; omega
  have r5 : rf n 5 = n / 1099511627776 := by show IntKind.u64.wrap (Int.tdiv (rf n 4) 256) = _; rw [r4, td _ (by omega), w64]; omega
  have q : ∀ k x, rf n k = x → 0 ≤ x → rb n k = x % 256 := fun k x hx h0 => by unfold rb; rw [hx, tm x h0, w8]; omega
  unfold fromR
  rw [q 5 _ r5 (by omega), q 4 _ r4 (by omega), q 3 _ r3 (by omega), q 2 _ r2 (by omega), q 1 _ r1 (by omega), q 0 n rfl h]
theorem group_eq : ∀ b : Fin 256, (bAnd .u8 ((b.val : Nat) : Int) 1 == 1) = (Int.tmod ((b.val : Nat) : Int) 2 == 1) := by decide +kernel
theorem hexEq : ∀ b : Fin 256, byteAt hexS (shR .u8 ((b.val : Nat) : Int) 4).toNat = dig (IntKind.u8.wrap (Int.tdiv ((b.val : Nat) : Int) 16)) ∧ byteAt hexS (bAnd .u8 ((b.val : Nat) : Int) 15).toNat = dig (Int.tmod ((b.val : Nat) : Int) 16) := by decide +kernel
theorem backEq : ∀ b : Fin 256, dok (ubI (dig (IntKind.u8.wrap (Int.tdiv ((b.val : Nat) : Int) 16)))) = true ∧ dok (ubI (dig (Int.tmod ((b.val : Nat) : Int) 16))) = true ∧
    bOr .u8 (shL .u8 (dv (ubI (dig (IntKind.u8.wrap (Int.tdiv ((b.val : Nat) : Int) 16))))) 4) (dv (ubI (dig (Int.tmod ((b.val : Nat) : Int) 16)))) = ((b.val : Nat) : Int) := by decide +kernel
theorem fin256 (x : Int) (h0 : 0 ≤ x) (h1 : x ≤ 255) : ∃ b : Fin 256, x = ((b.val : Nat) : Int) := ⟨⟨x.toNat, by omega⟩, by simp; omega⟩
end Go.Ev
