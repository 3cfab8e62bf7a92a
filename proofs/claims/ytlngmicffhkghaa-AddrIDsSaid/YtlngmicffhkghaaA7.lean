/- A part of the proof: contracts of the functions that the statement reaches. -/
import Derived.Test.YtlngmicffhkghaaA6
namespace Go.Ev
open Go.Proofs
set_option maxRecDepth 100000
set_option linter.unusedSimpArgs false
set_option linter.unusedVariables false
set_option maxHeartbeats 4000000
theorem list17 {α : Type} (l : List α) (h : l.length = 17) : ∃ x0 x1 x2 x3 x4 x5 x6 x7 x8 x9 x10 x11 x12 x13 x14 x15 x16, l = [x0, x1, x2, x3, x4, x5, x6, x7, x8, x9, x10, x11, x12, x13, x14, x15, x16] := by
  match l, h with
  | [x0, x1, x2, x3, x4, x5, x6, x7, x8, x9, x10, x11, x12, x13, x14, x15, x16], _ => exact ⟨_, _, _, _, _, _, _, _, _, _, _, _, _, _, _, _, _, rfl⟩
theorem mk_inj (l l' : List UInt8) : ((⟨l.toArray⟩ : ByteArray) = ⟨l'.toArray⟩) ↔ l = l' := by simp
theorem parse_eq (s : ByteArray) : parseC s = parseR s := by
  unfold parseC parseR
  by_cases h1 : 17 < s.size
  · rw [if_pos h1, if_pos h1]
  rw [if_neg h1, if_neg h1]
  by_cases h2 : s.size < 17
  · rw [if_pos h2, if_pos h2]
  rw [if_neg h2, if_neg h2]
  have hs : s.size = 17 := by omega
  obtain ⟨x0, x1, x2, x3, x4, x5, x6, x7, x8, x9, x10, x11, x12, x13, x14, x15, x16, hL⟩ := list17 s.toList (by rw [tl_len]; exact hs)
  have e0 : byteAt s 0 = (x0.toNat : Int) := by
    obtain ⟨b, hb, e⟩ := tl_get s 0 (by omega)
    rw [hL] at hb; simp at hb; subst hb; exact e
  have f0 := byteFacts ⟨x0.toNat, UInt8.toNat_lt x0⟩
  simp only [← e0] at f0
  have e1 : byteAt s 1 = (x1.toNat : Int) := by
    obtain ⟨b, hb, e⟩ := tl_get s 1 (by omega)
    rw [hL] at hb; simp at hb; subst hb; exact e
  have f1 := byteFacts ⟨x1.toNat, UInt8.toNat_lt x1⟩
  simp only [← e1] at f1
  have e2 : byteAt s 2 = (x2.toNat : Int) := by
    obtain ⟨b, hb, e⟩ := tl_get s 2 (by omega)
    rw [hL] at hb; simp at hb; subst hb; exact e
  have f2 := byteFacts ⟨x2.toNat, UInt8.toNat_lt x2⟩
  simp only [← e2] at f2
  have e3 : byteAt s 3 = (x3.toNat : Int) := by
    obtain ⟨b, hb, e⟩ := tl_get s 3 (by omega)
    rw [hL] at hb; simp at hb; subst hb; exact e
  have f3 := byteFacts ⟨x3.toNat, UInt8.toNat_lt x3⟩
  simp only [← e3] at f3
  have e4 : byteAt s 4 = (x4.toNat : Int) := by
    obtain ⟨b, hb, e⟩ := tl_get s 4 (by omega)
    rw [hL] at hb; simp at hb; subst hb; exact e
  have f4 := byteFacts ⟨x4.toNat, UInt8.toNat_lt x4⟩
  simp only [← e4] at f4
  have e5 : byteAt s 5 = (x5.toNat : Int) := by
    obtain ⟨b, hb, e⟩ := tl_get s 5 (by omega)
    rw [hL] at hb; simp at hb; subst hb; exact e
  have f5 := byteFacts ⟨x5.toNat, UInt8.toNat_lt x5⟩
  simp only [← e5] at f5
  have e6 : byteAt s 6 = (x6.toNat : Int) := by
    obtain ⟨b, hb, e⟩ := tl_get s 6 (by omega)
    rw [hL] at hb; simp at hb; subst hb; exact e
  have f6 := byteFacts ⟨x6.toNat, UInt8.toNat_lt x6⟩
  simp only [← e6] at f6
  have e7 : byteAt s 7 = (x7.toNat : Int) := by
    obtain ⟨b, hb, e⟩ := tl_get s 7 (by omega)
    rw [hL] at hb; simp at hb; subst hb; exact e
  have f7 := byteFacts ⟨x7.toNat, UInt8.toNat_lt x7⟩
  simp only [← e7] at f7
  have e8 : byteAt s 8 = (x8.toNat : Int) := by
    obtain ⟨b, hb, e⟩ := tl_get s 8 (by omega)
    rw [hL] at hb; simp at hb; subst hb; exact e
  have f8 := byteFacts ⟨x8.toNat, UInt8.toNat_lt x8⟩
  simp only [← e8] at f8
  have e9 : byteAt s 9 = (x9.toNat : Int) := by
    obtain ⟨b, hb, e⟩ := tl_get s 9 (by omega)
    rw [hL] at hb; simp at hb; subst hb; exact e
  have f9 := byteFacts ⟨x9.toNat, UInt8.toNat_lt x9⟩
  simp only [← e9] at f9
  have e10 : byteAt s 10 = (x10.toNat : Int) := by
    obtain ⟨b, hb, e⟩ := tl_get s 10 (by omega)
    rw [hL] at hb; simp at hb; subst hb; exact e
  have f10 := byteFacts ⟨x10.toNat, UInt8.toNat_lt x10⟩
  simp only [← e10] at f10
  have e11 : byteAt s 11 = (x11.toNat : Int) := by
    obtain ⟨b, hb, e⟩ := tl_get s 11 (by omega)
    rw [hL] at hb; simp at hb; subst hb; exact e
  have f11 := byteFacts ⟨x11.toNat, UInt8.toNat_lt x11⟩
  simp only [← e11] at f11
  have e12 : byteAt s 12 = (x12.toNat : Int) := by
    obtain ⟨b, hb, e⟩ := tl_get s 12 (by omega)
    rw [hL] at hb; simp at hb; subst hb; exact e
  have f12 := byteFacts ⟨x12.toNat, UInt8.toNat_lt x12⟩
  simp only [← e12] at f12
  have e13 : byteAt s 13 = (x13.toNat : Int) := by
    obtain ⟨b, hb, e⟩ := tl_get s 13 (by omega)
    rw [hL] at hb; simp at hb; subst hb; exact e
  have f13 := byteFacts ⟨x13.toNat, UInt8.toNat_lt x13⟩
  simp only [← e13] at f13
  have e14 : byteAt s 14 = (x14.toNat : Int) := by
    obtain ⟨b, hb, e⟩ := tl_get s 14 (by omega)
    rw [hL] at hb; simp at hb; subst hb; exact e
  have f14 := byteFacts ⟨x14.toNat, UInt8.toNat_lt x14⟩
  simp only [← e14] at f14
  have e15 : byteAt s 15 = (x15.toNat : Int) := by
    obtain ⟨b, hb, e⟩ := tl_get s 15 (by omega)
    rw [hL] at hb; simp at hb; subst hb; exact e
  have f15 := byteFacts ⟨x15.toNat, UInt8.toNat_lt x15⟩
  simp only [← e15] at f15
  have e16 : byteAt s 16 = (x16.toNat : Int) := by
    obtain ⟨b, hb, e⟩ := tl_get s 16 (by omega)
    rw [hL] at hb; simp at hb; subst hb; exact e
  have f16 := byteFacts ⟨x16.toNat, UInt8.toNat_lt x16⟩
  simp only [← e16] at f16
  obtain ⟨p0, q0, b0, b0', d0, d0'⟩ := nibble x0 x1 _ _ e0 e1 (mR s 0) rfl
  obtain ⟨p1, q1, b1, b1', d1, d1'⟩ := nibble x3 x4 _ _ e3 e4 (mR s 1) rfl
  obtain ⟨p2, q2, b2, b2', d2, d2'⟩ := nibble x6 x7 _ _ e6 e7 (mR s 2) rfl
  obtain ⟨p3, q3, b3, b3', d3, d3'⟩ := nibble x9 x10 _ _ e9 e10 (mR s 3) rfl
  obtain ⟨p4, q4, b4, b4', d4, d4'⟩ := nibble x12 x13 _ _ e12 e13 (mR s 4) rfl
  obtain ⟨p5, q5, b5, b5', d5, d5'⟩ := nibble x15 x16 _ _ e15 e16 (mR s 5) rfl
  have hstr : strEq (showR (mR s 0) (mR s 1) (mR s 2) (mR s 3) (mR s 4) (mR s 5)) (lowS s) = true ↔ (dig (IntKind.u8.wrap (Int.tdiv (mR s 0) 16)) = low (byteAt s 0) ∧ dig (Int.tmod (mR s 0) 16) = low (byteAt s 1) ∧ 58 = low (byteAt s 2) ∧ dig (IntKind.u8.wrap (Int.tdiv (mR s 1) 16)) = low (byteAt s 3) ∧ dig (Int.tmod (mR s 1) 16) = low (byteAt s 4) ∧ 58 = low (byteAt s 5) ∧ dig (IntKind.u8.wrap (Int.tdiv (mR s 2) 16)) = low (byteAt s 6) ∧ dig (Int.tmod (mR s 2) 16) = low (byteAt s 7) ∧ 58 = low (byteAt s 8) ∧ dig (IntKind.u8.wrap (Int.tdiv (mR s 3) 16)) = low (byteAt s 9) ∧ dig (Int.tmod (mR s 3) 16) = low (byteAt s 10) ∧ 58 = low (byteAt s 11) ∧ dig (IntKind.u8.wrap (Int.tdiv (mR s 4) 16)) = low (byteAt s 12) ∧ dig (Int.tmod (mR s 4) 16) = low (byteAt s 13) ∧ 58 = low (byteAt s 14) ∧ dig (IntKind.u8.wrap (Int.tdiv (mR s 5) 16)) = low (byteAt s 15) ∧ dig (Int.tmod (mR s 5) 16) = low (byteAt s 16)) := by
    rw [strEq_iff]
    unfold showR lowS
    rw [hL, mk_inj]
    simp only [List.map_cons, List.map_nil, List.cons.injEq, and_true, ← e0, ← e1, ← e2, ← e3, ← e4, ← e5, ← e6, ← e7, ← e8, ← e9, ← e10, ← e11, ← e12, ← e13, ← e14, ← e15, ← e16]
    rw [ofNat_inj b0 b0' f0.2.2.2.1 f0.2.2.2.2,
      ofNat_inj d0 d0' f1.2.2.2.1 f1.2.2.2.2,
      ofNat_inj (x := (58 : Int)) (by decide) (by decide) f2.2.2.2.1 f2.2.2.2.2,
      ofNat_inj b1 b1' f3.2.2.2.1 f3.2.2.2.2,
      ofNat_inj d1 d1' f4.2.2.2.1 f4.2.2.2.2,
      ofNat_inj (x := (58 : Int)) (by decide) (by decide) f5.2.2.2.1 f5.2.2.2.2,
      ofNat_inj b2 b2' f6.2.2.2.1 f6.2.2.2.2,
      ofNat_inj d2 d2' f7.2.2.2.1 f7.2.2.2.2,
      ofNat_inj (x := (58 : Int)) (by decide) (by decide) f8.2.2.2.1 f8.2.2.2.2,
      ofNat_inj b3 b3' f9.2.2.2.1 f9.2.2.2.2,
      ofNat_inj d3 d3' f10.2.2.2.1 f10.2.2.2.2,
      ofNat_inj (x := (58 : Int)) (by decide) (by decide) f11.2.2.2.1 f11.2.2.2.2,
      ofNat_inj b4 b4' f12.2.2.2.1 f12.2.2.2.2,
      ofNat_inj d4 d4' f13.2.2.2.1 f13.2.2.2.2,
      ofNat_inj (x := (58 : Int)) (by decide) (by decide) f14.2.2.2.1 f14.2.2.2.2,
      ofNat_inj b5 b5' f15.2.2.2.1 f15.2.2.2.2,
      ofNat_inj d5 d5' f16.2.2.2.1 f16.2.2.2.2]
  simp only [okI, valI, Nat.reduceMul, Nat.reduceAdd, Nat.reduceSub, beq_self_eq_true, Bool.true_or, Bool.and_true, Nat.reduceBEq, Bool.false_or]
  cases c0 : dok (byteAt s 0) with
  | false =>
    have hf : strEq (showR (mR s 0) (mR s 1) (mR s 2) (mR s 3) (mR s 4) (mR s 5)) (lowS s) = false := by
      cases hh : strEq (showR (mR s 0) (mR s 1) (mR s 2) (mR s 3) (mR s 4) (mR s 5)) (lowS s) with
      | false => rfl
      | true =>
        exfalso
        obtain ⟨w0, w1, w2, w3, w4, w5, w6, w7, w8, w9, w10, w11, w12, w13, w14, w15, w16⟩ := hstr.1 hh
        exact q0 (.inl c0) ⟨w0, w1⟩
    simp [hf]
  | true =>
    cases c1 : dok (byteAt s 1) with
    | false =>
      have hf : strEq (showR (mR s 0) (mR s 1) (mR s 2) (mR s 3) (mR s 4) (mR s 5)) (lowS s) = false := by
        cases hh : strEq (showR (mR s 0) (mR s 1) (mR s 2) (mR s 3) (mR s 4) (mR s 5)) (lowS s) with
        | false => rfl
        | true =>
          exfalso
          obtain ⟨w0, w1, w2, w3, w4, w5, w6, w7, w8, w9, w10, w11, w12, w13, w14, w15, w16⟩ := hstr.1 hh
          exact q0 (.inr c1) ⟨w0, w1⟩
      simp [hf]
    | true =>
      cases c2 : dok (byteAt s 3) with
      | false =>
        have hf : strEq (showR (mR s 0) (mR s 1) (mR s 2) (mR s 3) (mR s 4) (mR s 5)) (lowS s) = false := by
          cases hh : strEq (showR (mR s 0) (mR s 1) (mR s 2) (mR s 3) (mR s 4) (mR s 5)) (lowS s) with
          | false => rfl
          | true =>
            exfalso
            obtain ⟨w0, w1, w2, w3, w4, w5, w6, w7, w8, w9, w10, w11, w12, w13, w14, w15, w16⟩ := hstr.1 hh
            exact q1 (.inl c2) ⟨w3, w4⟩
        simp [hf]
      | true =>
        cases c3 : dok (byteAt s 4) with
        | false =>
          have hf : strEq (showR (mR s 0) (mR s 1) (mR s 2) (mR s 3) (mR s 4) (mR s 5)) (lowS s) = false := by
            cases hh : strEq (showR (mR s 0) (mR s 1) (mR s 2) (mR s 3) (mR s 4) (mR s 5)) (lowS s) with
            | false => rfl
            | true =>
              exfalso
              obtain ⟨w0, w1, w2, w3, w4, w5, w6, w7, w8, w9, w10, w11, w12, w13, w14, w15, w16⟩ := hstr.1 hh
              exact q1 (.inr c3) ⟨w3, w4⟩
          simp [hf]
        | true =>
          cases c4 : (byteAt s 2 == 58) with
          | false =>
            have hf : strEq (showR (mR s 0) (mR s 1) (mR s 2) (mR s 3) (mR s 4) (mR s 5)) (lowS s) = false := by
              cases hh : strEq (showR (mR s 0) (mR s 1) (mR s 2) (mR s 3) (mR s 4) (mR s 5)) (lowS s) with
              | false => rfl
              | true =>
                exfalso
                obtain ⟨w0, w1, w2, w3, w4, w5, w6, w7, w8, w9, w10, w11, w12, w13, w14, w15, w16⟩ := hstr.1 hh
                have := f2.2.2.1.1 w2.symm
                rw [this] at c4; simp at c4
            simp [hf]
          | true =>
            cases c5 : dok (byteAt s 6) with
            | false =>
              have hf : strEq (showR (mR s 0) (mR s 1) (mR s 2) (mR s 3) (mR s 4) (mR s 5)) (lowS s) = false := by
                cases hh : strEq (showR (mR s 0) (mR s 1) (mR s 2) (mR s 3) (mR s 4) (mR s 5)) (lowS s) with
                | false => rfl
                | true =>
                  exfalso
                  obtain ⟨w0, w1, w2, w3, w4, w5, w6, w7, w8, w9, w10, w11, w12, w13, w14, w15, w16⟩ := hstr.1 hh
                  exact q2 (.inl c5) ⟨w6, w7⟩
              simp [hf]
            | true =>
              cases c6 : dok (byteAt s 7) with
              | false =>
                have hf : strEq (showR (mR s 0) (mR s 1) (mR s 2) (mR s 3) (mR s 4) (mR s 5)) (lowS s) = false := by
                  cases hh : strEq (showR (mR s 0) (mR s 1) (mR s 2) (mR s 3) (mR s 4) (mR s 5)) (lowS s) with
                  | false => rfl
                  | true =>
                    exfalso
                    obtain ⟨w0, w1, w2, w3, w4, w5, w6, w7, w8, w9, w10, w11, w12, w13, w14, w15, w16⟩ := hstr.1 hh
                    exact q2 (.inr c6) ⟨w6, w7⟩
                simp [hf]
              | true =>
                cases c7 : (byteAt s 5 == 58) with
                | false =>
                  have hf : strEq (showR (mR s 0) (mR s 1) (mR s 2) (mR s 3) (mR s 4) (mR s 5)) (lowS s) = false := by
                    cases hh : strEq (showR (mR s 0) (mR s 1) (mR s 2) (mR s 3) (mR s 4) (mR s 5)) (lowS s) with
                    | false => rfl
                    | true =>
                      exfalso
                      obtain ⟨w0, w1, w2, w3, w4, w5, w6, w7, w8, w9, w10, w11, w12, w13, w14, w15, w16⟩ := hstr.1 hh
                      have := f5.2.2.1.1 w5.symm
                      rw [this] at c7; simp at c7
                  simp [hf]
                | true =>
                  cases c8 : dok (byteAt s 9) with
                  | false =>
                    have hf : strEq (showR (mR s 0) (mR s 1) (mR s 2) (mR s 3) (mR s 4) (mR s 5)) (lowS s) = false := by
                      cases hh : strEq (showR (mR s 0) (mR s 1) (mR s 2) (mR s 3) (mR s 4) (mR s 5)) (lowS s) with
                      | false => rfl
                      | true =>
                        exfalso
                        obtain ⟨w0, w1, w2, w3, w4, w5, w6, w7, w8, w9, w10, w11, w12, w13, w14, w15, w16⟩ := hstr.1 hh
                        exact q3 (.inl c8) ⟨w9, w10⟩
                    simp [hf]
                  | true =>
                    cases c9 : dok (byteAt s 10) with
                    | false =>
                      have hf : strEq (showR (mR s 0) (mR s 1) (mR s 2) (mR s 3) (mR s 4) (mR s 5)) (lowS s) = false := by
                        cases hh : strEq (showR (mR s 0) (mR s 1) (mR s 2) (mR s 3) (mR s 4) (mR s 5)) (lowS s) with
                        | false => rfl
                        | true =>
                          exfalso
                          obtain ⟨w0, w1, w2, w3, w4, w5, w6, w7, w8, w9, w10, w11, w12, w13, w14, w15, w16⟩ := hstr.1 hh
                          exact q3 (.inr c9) ⟨w9, w10⟩
                      simp [hf]
                    | true =>
                      cases c10 : (byteAt s 8 == 58) with
                      | false =>
                        have hf : strEq (showR (mR s 0) (mR s 1) (mR s 2) (mR s 3) (mR s 4) (mR s 5)) (lowS s) = false := by
                          cases hh : strEq (showR (mR s 0) (mR s 1) (mR s 2) (mR s 3) (mR s 4) (mR s 5)) (lowS s) with
                          | false => rfl
                          | true =>
                            exfalso
                            obtain ⟨w0, w1, w2, w3, w4, w5, w6, w7, w8, w9, w10, w11, w12, w13, w14, w15, w16⟩ := hstr.1 hh
                            have := f8.2.2.1.1 w8.symm
                            rw [this] at c10; simp at c10
                        simp [hf]
                      | true =>
                        cases c11 : dok (byteAt s 12) with
                        | false =>
                          have hf : strEq (showR (mR s 0) (mR s 1) (mR s 2) (mR s 3) (mR s 4) (mR s 5)) (lowS s) = false := by
                            cases hh : strEq (showR (mR s 0) (mR s 1) (mR s 2) (mR s 3) (mR s 4) (mR s 5)) (lowS s) with
                            | false => rfl
                            | true =>
                              exfalso
                              obtain ⟨w0, w1, w2, w3, w4, w5, w6, w7, w8, w9, w10, w11, w12, w13, w14, w15, w16⟩ := hstr.1 hh
                              exact q4 (.inl c11) ⟨w12, w13⟩
                          simp [hf]
                        | true =>
                          cases c12 : dok (byteAt s 13) with
                          | false =>
                            have hf : strEq (showR (mR s 0) (mR s 1) (mR s 2) (mR s 3) (mR s 4) (mR s 5)) (lowS s) = false := by
                              cases hh : strEq (showR (mR s 0) (mR s 1) (mR s 2) (mR s 3) (mR s 4) (mR s 5)) (lowS s) with
                              | false => rfl
                              | true =>
                                exfalso
                                obtain ⟨w0, w1, w2, w3, w4, w5, w6, w7, w8, w9, w10, w11, w12, w13, w14, w15, w16⟩ := hstr.1 hh
                                exact q4 (.inr c12) ⟨w12, w13⟩
                            simp [hf]
                          | true =>
                            cases c13 : (byteAt s 11 == 58) with
                            | false =>
                              have hf : strEq (showR (mR s 0) (mR s 1) (mR s 2) (mR s 3) (mR s 4) (mR s 5)) (lowS s) = false := by
                                cases hh : strEq (showR (mR s 0) (mR s 1) (mR s 2) (mR s 3) (mR s 4) (mR s 5)) (lowS s) with
                                | false => rfl
                                | true =>
                                  exfalso
                                  obtain ⟨w0, w1, w2, w3, w4, w5, w6, w7, w8, w9, w10, w11, w12, w13, w14, w15, w16⟩ := hstr.1 hh
                                  have := f11.2.2.1.1 w11.symm
                                  rw [this] at c13; simp at c13
                              simp [hf]
                            | true =>
                              cases c14 : dok (byteAt s 15) with
                              | false =>
                                have hf : strEq (showR (mR s 0) (mR s 1) (mR s 2) (mR s 3) (mR s 4) (mR s 5)) (lowS s) = false := by
                                  cases hh : strEq (showR (mR s 0) (mR s 1) (mR s 2) (mR s 3) (mR s 4) (mR s 5)) (lowS s) with
                                  | false => rfl
                                  | true =>
                                    exfalso
                                    obtain ⟨w0, w1, w2, w3, w4, w5, w6, w7, w8, w9, w10, w11, w12, w13, w14, w15, w16⟩ := hstr.1 hh
                                    exact q5 (.inl c14) ⟨w15, w16⟩
                                simp [hf]
                              | true =>
                                cases c15 : dok (byteAt s 16) with
                                | false =>
                                  have hf : strEq (showR (mR s 0) (mR s 1) (mR s 2) (mR s 3) (mR s 4) (mR s 5)) (lowS s) = false := by
                                    cases hh : strEq (showR (mR s 0) (mR s 1) (mR s 2) (mR s 3) (mR s 4) (mR s 5)) (lowS s) with
                                    | false => rfl
                                    | true =>
                                      exfalso
                                      obtain ⟨w0, w1, w2, w3, w4, w5, w6, w7, w8, w9, w10, w11, w12, w13, w14, w15, w16⟩ := hstr.1 hh
                                      exact q5 (.inr c15) ⟨w15, w16⟩
                                  simp [hf]
                                | true =>
                                  cases c16 : (byteAt s 14 == 58) with
                                  | false =>
                                    have hf : strEq (showR (mR s 0) (mR s 1) (mR s 2) (mR s 3) (mR s 4) (mR s 5)) (lowS s) = false := by
                                      cases hh : strEq (showR (mR s 0) (mR s 1) (mR s 2) (mR s 3) (mR s 4) (mR s 5)) (lowS s) with
                                      | false => rfl
                                      | true =>
                                        exfalso
                                        obtain ⟨w0, w1, w2, w3, w4, w5, w6, w7, w8, w9, w10, w11, w12, w13, w14, w15, w16⟩ := hstr.1 hh
                                        have := f14.2.2.1.1 w14.symm
                                        rw [this] at c16; simp at c16
                                    simp [hf]
                                  | true =>
                                    have ht : strEq (showR (mR s 0) (mR s 1) (mR s 2) (mR s 3) (mR s 4) (mR s 5)) (lowS s) = true := hstr.2 ⟨(p0 c0 c1).2.1, (p0 c0 c1).2.2, (f2.2.2.1.2 (by simpa using c4)).symm, (p1 c2 c3).2.1, (p1 c2 c3).2.2, (f5.2.2.1.2 (by simpa using c7)).symm, (p2 c5 c6).2.1, (p2 c5 c6).2.2, (f8.2.2.1.2 (by simpa using c10)).symm, (p3 c8 c9).2.1, (p3 c8 c9).2.2, (f11.2.2.1.2 (by simpa using c13)).symm, (p4 c11 c12).2.1, (p4 c11 c12).2.2, (f14.2.2.1.2 (by simpa using c16)).symm, (p5 c14 c15).2.1, (p5 c14 c15).2.2⟩
                                    rw [ht]
                                    simp only [Bool.and_self, if_true]
                                    rw [← (p0 c0 c1).1, ← (p1 c2 c3).1, ← (p2 c5 c6).1, ← (p3 c8 c9).1, ← (p4 c11 c12).1, ← (p5 c14 c15).1]
theorem law5 (s : ByteArray) : Fun Try.prog 5 [.s (.raw (.string s))] (.s (.raw (.bool true))) := by
  have g17 := f17 s
  have g18 := f18 s
  rw [parse_eq s] at g17
  generalize parseR s = r at g17 g18
  refine fun_of rfl fun X => ?_
  refine callK_inline (rs := [.tmp 2]) (n := 27) Try.func5 rfl rfl rfl (by kernel_rfl) (by kernel_rfl) (by simp only [List.length_cons, List.length_nil]; decide) ?_
  repeat' first
    | with_reducible rfl
    | simp only [encM, beq_self_eq_true, e_nil, e_cons, e_gd, e_gdt, e_gdf, e_g0, e_g1, e_op, e_step, e_ret, e_put, e_junk, e_skip, e_reg, e_draw, e_seq, e_cond, e_block, e_exit, e_r, e_label, e_loop, q_sn, q_sr, q_se, q_bn, q_br, q_be, q_rr, q_rn, e_res0, e_res1, e_res2, e_b, d_nil, d_cons, d_op, d_step, d_ret, d_put, d_junk, d_inf, d_fin, g_not, g_and, argsTM, stepE, stBuiltin, stBox, stAlloc, stLoad, stStore, stField, stExtract, stBin, stUn, stConv, stNilCheck, stFieldV, stIndex, stIndexAddr, stLen, stMin, stMax, stBuild, fillI, stBuildSlice, setRows, stMakeSlice, stAppend, srcR, segR, rdCells, stSlice, bnd, stArr, stCopy, stConv2, isIntV, cutR, byteRows, rowByte, binStr, Option.map_some, Option.map_none, eq_self, canTL, canT, canH, canL, patL, gcH, gcT, gcI, get_gcT, mapC, pullS, pullI, pushS, push1, pushI, pushC, pullHW, roC, ix, List.map_map, Function.comp_def, List.zip_cons_cons, List.zip_nil_left, List.zip_nil_right, List.range'_zero, List.range'_succ, rd, get, put, IV.cells, ofValue, seg, spl, ldIV, binInt, eqI, cellsEq, leafEq, resI, flat, isT, upd, up1, nextM, cR, ptrC, nAl, isAl, List.length_cons, List.length_nil, List.length_append, List.length_replicate, List.length_set, Nat.reduceAdd, Nat.reduceMul, Nat.reduceEqDiff, Nat.reduceLeDiff, Nat.zero_add, Nat.add_zero, ne_eq, reduceCtorEq, not_false_eq_true, not_true_eq_false, reduceIte, true_and, and_true, and_false, false_and, and_self, List.nil_append, List.cons_append, List.append_nil, List.getElem?_cons_zero, List.getElem?_cons_succ, List.drop_succ_cons, List.drop_zero, List.take_succ_cons, List.take_zero, List.set_cons_zero, List.set_cons_succ, List.getElem?_toArray, Option.bind_some, Bool.false_eq_true, Nat.add_one_ne_zero, Nat.succ_ne_self, List.map_cons, List.map_nil, Bool.not_true, Bool.not_false, List.replicate_succ, List.replicate_zero, List.mem_cons, List.not_mem_nil, or_false, false_or, or_true, true_or, forall_const, false_implies, implies_true, true_implies, Int.reduceToNat, Int.reduceLE, Int.reduceLT, Int.cast_ofNat_Int, bne, Int.reduceEq, Int.reduceNe, Int.reduceNeg, Int.reduceAdd, Int.reduceSub, Int.reduceMul, beq_self_eq_true, Int.reduceBEq, Int.reduceBNe, Bool.true_and, Bool.false_and, Bool.and_true, Bool.and_false, Bool.true_or, Bool.false_or, Bool.or_true, Bool.or_false, Nat.reduceLT, Nat.reduceSub, Nat.zero_min, Nat.min_zero, Nat.min_self, List.flatMap_cons, List.flatMap_nil, Int.toNat_natCast, strEq_self, Bool.not_eq_true', decide_true, decide_false, wl_u8_0, wl_u8_1, wl_u8_2, wl_u8_3, wl_u8_4, wl_u8_5, wl_u8_6, wl_u8_7, wl_u8_8, wl_u8_9, wl_u8_10, wl_u8_11, wl_u8_12, wl_u8_13, wl_u8_14, wl_u8_15, wl_u8_16, wl_u16_0, wl_u16_1, wl_u16_2, wl_u16_3, wl_u16_4, wl_u16_5, wl_u16_6, wl_u16_7, wl_u16_8, wl_u16_9, wl_u16_10, wl_u16_11, wl_u16_12, wl_u16_13, wl_u16_14, wl_u16_15, wl_u16_16, wl_u32_0, wl_u32_1, wl_u32_2, wl_u32_3, wl_u32_4, wl_u32_5, wl_u32_6, wl_u32_7, wl_u32_8, wl_u32_9, wl_u32_10, wl_u32_11, wl_u32_12, wl_u32_13, wl_u32_14, wl_u32_15, wl_u32_16, wl_u64_0, wl_u64_1, wl_u64_2, wl_u64_3, wl_u64_4, wl_u64_5, wl_u64_6, wl_u64_7, wl_u64_8, wl_u64_9, wl_u64_10, wl_u64_11, wl_u64_12, wl_u64_13, wl_u64_14, wl_u64_15, wl_u64_16, wl_i32_0, wl_i32_1, wl_i32_2, wl_i32_3, wl_i32_4, wl_i32_5, wl_i32_6, wl_i32_7, wl_i32_8, wl_i32_9, wl_i32_10, wl_i32_11, wl_i32_12, wl_i32_13, wl_i32_14, wl_i32_15, wl_i32_16, wl_i64_0, wl_i64_1, wl_i64_2, wl_i64_3, wl_i64_4, wl_i64_5, wl_i64_6, wl_i64_7, wl_i64_8, wl_i64_9, wl_i64_10, wl_i64_11, wl_i64_12, wl_i64_13, wl_i64_14, wl_i64_15, wl_i64_16, ty_ag_49, ty_ag_50, ty_eg_50, ty_lv_50, ty_sz_49, ty_sz_50, ty_ze_49, ty_ze_50]
    | with_reducible refine gdb_split (fun h => ?_) (fun h => ?_)
    | (with_reducible refine drawK_id ?_); refine drawK_auto hmix (by kernel_rfl) ?_
    | (with_reducible refine draw_fin ?_ ?_); · kernel_rfl
    | (with_reducible refine draw_id ?_); kernel_rfl
    | (with_reducible refine callK_id (f := 16) ?_); refine callK_fun (f16) rfl rfl ?_
    | (with_reducible refine callK_id (f := 17) ?_); refine callK_fun (g17) rfl rfl ?_
    | (with_reducible refine callK_id (f := 18) ?_); refine callK_fun (g18) rfl rfl ?_
    | (with_reducible refine And.intro ?_ ?_; · omega)
end Go.Ev
