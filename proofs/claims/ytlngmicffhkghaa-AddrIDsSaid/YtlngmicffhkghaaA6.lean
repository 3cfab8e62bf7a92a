/- A part of the proof: contracts of the functions that the statement reaches. -/
import Derived.Test.YtlngmicffhkghaaA5
namespace Go.Ev
open Go.Proofs
set_option maxRecDepth 100000
set_option linter.unusedSimpArgs false
set_option linter.unusedVariables false
set_option maxHeartbeats 4000000
def badK (b : Int) : Bool := (List.range 16).all fun k => !(dig (k : Int) == b)
theorem byteFacts : ∀ b : Fin 256, (dok ((b.val : Nat) : Int) = true → low ((b.val : Nat) : Int) = dig (dv ((b.val : Nat) : Int)) ∧ 0 ≤ dv ((b.val : Nat) : Int) ∧ dv ((b.val : Nat) : Int) < 16) ∧
    (dok ((b.val : Nat) : Int) = false → low ((b.val : Nat) : Int) ≠ 48 ∧ badK (low ((b.val : Nat) : Int)) = true) ∧ ((low ((b.val : Nat) : Int) = 58) ↔ ((b.val : Nat) : Int) = 58) ∧ 0 ≤ low ((b.val : Nat) : Int) ∧ low ((b.val : Nat) : Int) ≤ 255 := by decide +kernel
theorem digB : ∀ b : Fin 256, 0 ≤ dig ((b.val : Nat) : Int) ∧ dig ((b.val : Nat) : Int) ≤ 255 := by decide +kernel
theorem nib1 : ∀ h l : Fin 16, accK (dig ((h.val : Nat) : Int)) (dig ((l.val : Nat) : Int)) 16 = 16 * ((h.val : Nat) : Int) + ((l.val : Nat) : Int) ∧
    bOr .u8 (shL .u8 ((h.val : Nat) : Int) 4) ((l.val : Nat) : Int) = 16 * ((h.val : Nat) : Int) + ((l.val : Nat) : Int) ∧ IntKind.u8.wrap (Int.tdiv (16 * ((h.val : Nat) : Int) + ((l.val : Nat) : Int)) 16) = ((h.val : Nat) : Int) ∧ Int.tmod (16 * ((h.val : Nat) : Int) + ((l.val : Nat) : Int)) 16 = ((l.val : Nat) : Int) := by decide +kernel
theorem nib2 : ∀ l : Fin 16, accK (-1) (dig ((l.val : Nat) : Int)) 16 = ((l.val : Nat) : Int) ∧ accK (dig ((l.val : Nat) : Int)) (-1) 16 = 16 * ((l.val : Nat) : Int) := by decide +kernel
theorem nib3 : accK (-1) (-1) 16 = 0 := by decide +kernel
theorem nib4 : badK (-1) = true := by decide +kernel
theorem badK_iff {b : Int} (h : badK b = true) (k : Nat) (hk : k < 16) : (dig (k : Int) == b) = false := by
  unfold badK at h
  rw [List.all_eq_true] at h
  simpa using h k (List.mem_range.2 hk)
theorem accK_congr {a b a' b' : Int} : ∀ n, n ≤ 16 → (∀ k, k < 16 → (dig ((k : Nat) : Int) == a) = (dig ((k : Nat) : Int) == a')) → (∀ k, k < 16 → (dig ((k : Nat) : Int) == b) = (dig ((k : Nat) : Int) == b')) → accK a b n = accK a' b' n
  | 0, _, _, _ => rfl
  | n + 1, hn, h1, h2 => by
    have ih := accK_congr n (by omega) h1 h2
    simp only [accK, h1 n (by omega), h2 n (by omega), ih]
theorem acc_bad1 {a b : Int} (h : badK a = true) : accK a b 16 = accK (-1) b 16 :=
  accK_congr 16 (Nat.le_refl _) (fun k hk => by rw [badK_iff h k hk, badK_iff nib4 k hk]) fun _ _ => rfl
theorem acc_bad2 {a b : Int} (h : badK b = true) : accK a b 16 = accK a (-1) 16 :=
  accK_congr 16 (Nat.le_refl _) (fun _ _ => rfl) fun k hk => by rw [badK_iff h k hk, badK_iff nib4 k hk]
theorem dig0 : dig 0 = 48 := by decide
/-- One pair of bytes. -/
theorem nibble (bx by_ : UInt8) (x y : Int) (hx : x = (bx.toNat : Int)) (hy : y = (by_.toNat : Int)) (m : Int) (hm : m = accK (low x) (low y) 16) :
    (dok x = true → dok y = true → m = bOr .u8 (shL .u8 (dv x) 4) (dv y) ∧ dig (IntKind.u8.wrap (Int.tdiv m 16)) = low x ∧ dig (Int.tmod m 16) = low y) ∧
    ((dok x = false ∨ dok y = false) → ¬ (dig (IntKind.u8.wrap (Int.tdiv m 16)) = low x ∧ dig (Int.tmod m 16) = low y)) ∧
    (0 ≤ dig (IntKind.u8.wrap (Int.tdiv m 16)) ∧ dig (IntKind.u8.wrap (Int.tdiv m 16)) ≤ 255 ∧ 0 ≤ dig (Int.tmod m 16) ∧ dig (Int.tmod m 16) ≤ 255) := by
  have fx := byteFacts ⟨bx.toNat, UInt8.toNat_lt bx⟩
  have fy := byteFacts ⟨by_.toNat, UInt8.toNat_lt by_⟩
  simp only [← hx] at fx
  simp only [← hy] at fy
  obtain ⟨fx1, fx2, _, _, _⟩ := fx
  obtain ⟨fy1, fy2, _, _, _⟩ := fy
  have nat16 : ∀ z : Int, 0 ≤ z → z < 16 → ∃ h : Fin 16, z = ((h.val : Nat) : Int) := fun z h0 h1 => ⟨⟨z.toNat, by omega⟩, by simp; omega⟩
  have db : ∀ h : Fin 16, 0 ≤ dig ((h.val : Nat) : Int) ∧ dig ((h.val : Nat) : Int) ≤ 255 := fun h => digB ⟨h.val, by omega⟩
  have z16 : ((0 : Fin 16).val : Int) = 0 := rfl
  -- the value: 16 h + l
  have key : ∃ h l : Fin 16, m = 16 * ((h.val : Nat) : Int) + ((l.val : Nat) : Int) ∧ (dok x = true → dv x = ((h.val : Nat) : Int) ∧ low x = dig ((h.val : Nat) : Int)) ∧ (dok y = true → dv y = ((l.val : Nat) : Int) ∧ low y = dig ((l.val : Nat) : Int)) ∧
      (dok x = false → ((h.val : Nat) : Int) = 0) ∧ (dok y = false → ((l.val : Nat) : Int) = 0) := by
    cases ex : dok x with
    | true =>
      obtain ⟨a1, a2, a3⟩ := fx1 ex
      obtain ⟨h, hh⟩ := nat16 _ a2 a3
      rw [hh] at a1
      cases ey : dok y with
      | true =>
        obtain ⟨b1, b2, b3⟩ := fy1 ey
        obtain ⟨l, hl⟩ := nat16 _ b2 b3
        rw [hl] at b1
        exact ⟨h, l, by rw [hm, a1, b1]; exact (nib1 h l).1, fun _ => ⟨hh, a1⟩, fun _ => ⟨hl, b1⟩, fun h => (by cases h), fun h => (by cases h)⟩
      | false =>
        obtain ⟨b1, b2⟩ := fy2 ey
        exact ⟨h, 0, by rw [hm, a1, acc_bad2 b2, (nib2 h).2]; simp, fun _ => ⟨hh, a1⟩, fun h => (by cases h), fun h => (by cases h), fun _ => rfl⟩
    | false =>
      obtain ⟨a1, a2⟩ := fx2 ex
      cases ey : dok y with
      | true =>
        obtain ⟨b1, b2, b3⟩ := fy1 ey
        obtain ⟨l, hl⟩ := nat16 _ b2 b3
        rw [hl] at b1
        exact ⟨0, l, by rw [hm, b1, acc_bad1 a2, (nib2 l).1]; simp, fun h => (by cases h), fun _ => ⟨hl, b1⟩, fun _ => rfl, fun h => (by cases h)⟩
      | false =>
        obtain ⟨b1, b2⟩ := fy2 ey
        exact ⟨0, 0, by rw [hm, acc_bad1 a2, acc_bad2 b2, nib3]; simp, fun h => (by cases h), fun h => (by cases h), fun _ => rfl, fun _ => rfl⟩
  obtain ⟨h, l, hm2, k1, k2, k3, k4⟩ := key
  obtain ⟨_, n2, n3, n4⟩ := nib1 h l
  rw [hm2, n3, n4]
  refine ⟨fun ex ey => ?_, fun hor => ?_, (db h).1, (db h).2, (db l).1, (db l).2⟩
  · obtain ⟨a1, a2⟩ := k1 ex
    obtain ⟨b1, b2⟩ := k2 ey
    exact ⟨by rw [a1, b1]; exact n2.symm, a2.symm, b2.symm⟩
  · rintro ⟨p1, p2⟩
    rcases hor with ex | ey
    · rw [k3 ex, dig0] at p1; exact (fx2 ex).1 p1.symm
    · rw [k4 ey, dig0] at p2; exact (fy2 ey).1 p2.symm
theorem ofNat_inj {x y : Int} (h1 : 0 ≤ x) (h2 : x ≤ 255) (h3 : 0 ≤ y) (h4 : y ≤ 255) : (UInt8.ofNat x.toNat = UInt8.ofNat y.toNat) ↔ x = y := by
  constructor
  · intro h
    have h' := congrArg UInt8.toNat h
    simp only [UInt8.toNat_ofNat'] at h'
    omega
  · rintro rfl; rfl
end Go.Ev
