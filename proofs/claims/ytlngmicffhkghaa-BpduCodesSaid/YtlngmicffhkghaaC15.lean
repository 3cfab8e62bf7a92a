/- A part of the proof: contracts of the functions that the statement reaches. -/
import Derived.Test.YtlngmicffhkghaaC14
namespace Go.Ev
open Go.Proofs
set_option maxRecDepth 100000
set_option linter.unusedSimpArgs false
set_option linter.unusedVariables false
set_option maxHeartbeats 4000000
theorem data_size (A : ByteArray) : A.data.size = A.size := rfl
theorem byteAt_lo (A B : ByteArray) (i : Nat) (h : i < A.size) : byteAt (A ++ B) i = byteAt A i := by
  unfold byteAt
  rw [ByteArray.data_append, Array.getElem?_append_left (by rw [data_size]; exact h)]
theorem byteAt_hi (A B : ByteArray) (a i : Nat) (ha : A.size = a) (h : a ≤ i) : byteAt (A ++ B) i = byteAt B (i - a) := by
  unfold byteAt
  rw [ByteArray.data_append, Array.getElem?_append_right (by rw [data_size]; omega), data_size, ha]
theorem numB_hi (A B : ByteArray) (a o k : Nat) (ha : A.size = a) (h : a ≤ o) : numB (A ++ B) o k = numB B (o - a) k := by
  induction k with
  | zero => rfl
  | succ k ih => simp only [numB]; rw [ih, byteAt_hi A B a (o + k) ha (by omega), show o + k - a = o - a + k by omega]
theorem ub_rng (x : Int) (h0 : 0 ≤ x) (h1 : x < 256) : ((UInt8.ofNat x.toNat).toNat : Int) = x := by
  have : x.toNat < 256 := by omega
  simp [UInt8.toNat_ofNat', Nat.mod_eq_of_lt this]; omega
theorem byteAt_bb (n : Int) (B : ByteArray) : ∀ k i, i < k → byteAt (bb n k ++ B) i = n / 256 ^ (k - 1 - i) % 256
  | 0, i, h => by omega
  | k + 1, i, h => by
    rw [bb, ByteArray.append_assoc]
    cases i with
    | zero =>
      rw [byteAt_lo _ _ 0 (by show 0 < 1; omega)]
      have hm : 0 ≤ n / 256 ^ k % 256 := Int.emod_nonneg _ (by omega)
      have hl : n / 256 ^ k % 256 < 256 := Int.emod_lt_of_pos _ (by omega)
      show ((UInt8.ofNat (n / 256 ^ k % 256).toNat).toNat : Int) = _
      rw [ub_rng _ hm hl]; rfl
    | succ i =>
      rw [byteAt_hi _ _ 1 (i + 1) rfl (by omega), byteAt_bb n B k (i + 1 - 1) (by omega)]
      congr 3
      omega
theorem numB_pre (n : Int) (B : ByteArray) (k : Nat) (h0 : 0 ≤ n) : ∀ j, j ≤ k → numB (bb n k ++ B) 0 j = n % 256 ^ k / 256 ^ (k - j)
  | 0, _ => by
    have hp : (0 : Int) < 256 ^ k := by exact_mod_cast Nat.pow_pos (n := k) (by omega : 0 < 256)
    simp only [numB, Nat.sub_zero]
    exact (Int.ediv_eq_zero_of_lt (Int.emod_nonneg _ (by omega)) (Int.emod_lt_of_pos _ hp)).symm
  | j + 1, hj => by
    have ih := numB_pre n B k h0 j (by omega)
    have hb := byteAt_bb n B k (0 + j) (by omega)
    simp only [numB]
    rw [ih, hb, Nat.zero_add]
    obtain ⟨d, rfl⟩ : ∃ d, k = j + 1 + d := ⟨k - (j + 1), by omega⟩
    have e1 : j + 1 + d - j = d + 1 := by omega
    have e2 : j + 1 + d - (j + 1) = d := by omega
    have e3 : j + 1 + d - 1 - j = d := by omega
    rw [e1, e2, e3]
    have hd : (0 : Int) < 256 ^ d := by exact_mod_cast Nat.pow_pos (n := d) (by omega : 0 < 256)
    have hk : (256 : Int) ^ (j + 1 + d) = 256 ^ d * 256 ^ (j + 1) := by rw [Nat.add_comm, Int.pow_add]
    have hk1 : (256 : Int) ^ (d + 1) = 256 ^ d * 256 := Int.pow_succ ..
    have hj1 : (256 : Int) ^ (j + 1) = 256 * 256 ^ j := by rw [Int.pow_succ, Int.mul_comm]
    -- the number's part, seen from its place d on
    have hm : n % 256 ^ (j + 1 + d) / 256 ^ d = n / 256 ^ d % 256 ^ (j + 1) := by
      rw [hk]
      obtain ⟨N, rfl⟩ := Int.eq_ofNat_of_zero_le h0
      exact_mod_cast Nat.mod_mul_right_div_self N (256 ^ d) (256 ^ (j + 1))
    rw [hm, hk1, ← Int.ediv_ediv_of_nonneg (by omega), hm]
    have : n / 256 ^ d % 256 = n / 256 ^ d % 256 ^ (j + 1) % 256 := by
      rw [hj1, Int.emod_emod_of_dvd _ (Int.dvd_mul_right ..)]
    rw [this]
    omega
theorem numB_bb (n : Int) (B : ByteArray) (k : Nat) (h0 : 0 ≤ n) (h1 : n < 256 ^ k) : numB (bb n k ++ B) 0 k = n := by
  rw [numB_pre n B k h0 k (Nat.le_refl _), Nat.sub_self, Int.pow_zero, Int.ediv_one, Int.emod_eq_of_lt h0 h1]
end Go.Ev
