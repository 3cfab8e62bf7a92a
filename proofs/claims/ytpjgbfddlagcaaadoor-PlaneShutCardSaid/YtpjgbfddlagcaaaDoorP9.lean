/- A part of the proof: contracts of the functions that the statement reaches. -/
import Derived.Test.YtpjgbfddlagcaaaDoorP8
namespace Go.Ev
open Go.Proofs
open Srt Go.RowKit
set_option linter.unusedSimpArgs false
set_option linter.unusedVariables false
theorem mem_upN {h : Int → Bool} {x : Int} : ∀ {n : Nat}, x ∈ upN h n → 1 ≤ x ∧ x ≤ n ∧ h x = true
  | 0, hx => by simp [upN] at hx
  | n + 1, hx => by
    simp only [upN, List.mem_append] at hx
    rcases hx with hx | hx
    · have := mem_upN hx; exact ⟨this.1, by omega, this.2.2⟩
    · split at hx
      · rename_i hh
        simp only [List.mem_singleton] at hx
        subst hx
        exact ⟨by omega, by omega, hh⟩
      · simp at hx
theorem mem_sentC {v u : Int} {f : FRM} {l : List Int} {e : Int × FRM} (h : e ∈ sentC v u f l) : e.1 ∈ l ∧ e.2.x = f.x ∧ e.2.s = f.s := by
  simp only [sentC, List.mem_filterMap] at h
  obtain ⟨p, hp, h2⟩ := h
  split at h2
  · rename_i hg
    simp only [Option.some.injEq] at h2
    subst h2
    refine ⟨hp, ?_⟩
    simp only [formR] at hg ⊢
    split
    · simp only [formF]
      split <;> exact ⟨rfl, rfl⟩
    · rename_i hne
      rw [if_neg hne] at hg
      simp at hg
  · simp at h2
theorem has_with (s q : Int) {p : Int} (h1 : 1 ≤ p) (h2 : p ≤ 16) : hasP (withP s q) p = (hasP s p || (q == p)) := by
  have h0 := has_of q h1 h2
  rw [with0] at h0
  obtain ⟨k, rfl⟩ := bit_ex h1 h2
  rw [has_bit] at h0
  unfold withP
  rw [has_bit, has_bit, tB_or, BitVec.getLsbD_or, h0]
theorem has_zero (p : Int) : hasP 0 p = false := by
  unfold hasP
  have : bAnd .u32 0 (bitP p) = 0 := by
    rw [and_zero]
    have : tB 0 = 0#32 := rfl
    rw [this]; exact BitVec.zero_and
  rw [this]; rfl
theorem has_openN {p : Int} (h1 : 1 ≤ p) (h2 : p ≤ 16) : ∀ (l : List PRT) (k : Nat) (s : Int), hasP (openN k s l) p = true → hasP s p = true ∨ ∃ (i : Nat) (y : PRT), l[i]? = some y ∧ p = ((k + i + 1 : Nat) : Int) ∧ onP y = true ∧ (y.st == 2) = true
  | [], k, s, h => .inl h
  | y :: l, k, s, h => by
    rw [openN] at h
    rcases has_openN h1 h2 l (k + 1) _ h with h | ⟨i, z, hz, hp, ho, hs⟩
    · split at h
      · rename_i hy
        rw [has_with s _ h1 h2, Bool.or_eq_true] at h
        rcases h with h | h
        · exact .inl h
        · simp only [Bool.and_eq_true] at hy
          exact .inr ⟨0, y, rfl, by simpa using (of_decide_eq_true (by simpa using h : decide (((k + 1 : Nat) : Int) = p) = true)).symm, hy.1, hy.2⟩
      · exact .inl h
    · exact .inr ⟨i + 1, z, by simpa using hz, by rw [hp]; congr 1; omega, ho, hs⟩
theorem has_openC {p : Int} (h1 : 1 ≤ p) (h2 : p ≤ 16) {l : List PRT} (h : hasP (openC l) p = true) : p ≤ l.length ∧ ∃ y, l[(p - 1).toNat]? = some y ∧ onP y = true ∧ (y.st == 2) = true := by
  rcases has_openN h1 h2 l 0 0 h with h | ⟨i, y, hy, hp, ho, hs⟩
  · rw [has_zero] at h; cases h
  · have hlt := (List.getElem?_eq_some_iff.1 hy).1
    exact ⟨by omega, y, by rw [show (p - 1).toNat = i by omega]; exact hy, ho, hs⟩
theorem want_true {Lv : List VEN} {Ls : List SEN} {Lf : List EN} {fr vid : Int} {m : M6} {o p : Int} (h : wantP Lv Ls Lf fr vid m o p = true) : p ≠ fr ∧ hasP o p = true := by
  unfold wantP at h
  split at h
  · cases h
  · split at h
    · cases h
    · simp only at h
      have key : ∀ b c : Bool, (b && ((p != fr) && hasP o p)) = true → p ≠ fr ∧ hasP o p = true := fun b c hb => by
        simp only [Bool.and_eq_true, bne_iff_ne, ne_eq] at hb
        exact ⟨hb.2.1, hb.2.2⟩
      split at h
      · rw [Bool.and_eq_true] at h
        exact key _ true h.1
      · split at h
        · rw [Bool.and_eq_true] at h
          exact key _ true h.1
        · exact key _ true h
theorem passT_sent {Lv : List VEN} {Ls : List SEN} {n : Int} {cf : Nat} {Lf : List EN} {l : List PRT} {fr : Int} {f : FRM} {p : PRT} {vid : Int} {e : Int × FRM} (h : e ∈ (passT Lv Ls n cf Lf l fr f p vid).2.sent) :
    (p.st == 1) = false ∧ e ∈ sentC (rowE (lookV Lv vid)).1 (rowE (lookV Lv vid)).2 f (upN (hasP (toC Lv Ls n cf Lf l fr f vid)) 16) := by
  unfold passT at h
  cases h1 : (p.st == 1) with
  | true => rw [h1] at h; simp only [if_true] at h; exact absurd h (List.not_mem_nil)
  | false => rw [h1] at h; simp only [Bool.false_eq_true, if_false] at h; exact ⟨rfl, h⟩
/-- What Pass sends on. -/
theorem sent_ok {Lv : List VEN} {Ls : List SEN} {n : Int} {cf : Nat} {Lf : List EN} {l : List PRT} {fr : Int} {f : FRM} {e : Int × FRM} (h : e ∈ (passC Lv Ls n cf Lf l fr f).2.sent) :
    1 ≤ e.1 ∧ e.1 ≤ l.length ∧ e.1 ≠ fr ∧ (∃ y, l[(e.1 - 1).toNat]? = some y ∧ onP y = true ∧ (y.st == 2) = true) ∧ e.2.x = f.x ∧ e.2.s = f.s ∧ ∃ p, l[(fr - 1).toNat]? = some p ∧ (p.st == 0) = false ∧ (p.st == 1) = false := by
  unfold passC at h
  by_cases hr : fr < 1 ∨ (l.length : Int) < fr
  · rw [if_pos hr] at h; cases h
  rw [if_neg hr] at h
  cases hp : l[(fr - 1).toNat]? with
  | none => rw [hp] at h; cases h
  | some p =>
    rw [hp] at h
    simp only at h
    by_cases hc : (!onP p || p.st == 0) = true
    · rw [if_pos hc] at h; cases h
    rw [if_neg hc] at h
    by_cases h3 : resS f.d.m0 f.d.m1 f.d.m2 f.d.m3 f.d.m4 f.d.m5 = true
    · rw [if_pos h3] at h; cases h
    rw [if_neg h3] at h
    by_cases h4 : (ingC Lv p.pv p.ac p.fi fr f).2 = 0
    · rw [if_pos h4] at h
      obtain ⟨h1, hm0⟩ := passT_sent h
      obtain ⟨hm, hx, hs⟩ := mem_sentC hm0
      obtain ⟨a1, a2, a3⟩ := mem_upN hm
      unfold toC at a3
      rw [want_eq _ _ _ _ _ _ _ a1 (by omega)] at a3
      obtain ⟨b1, b2⟩ := want_true a3
      obtain ⟨c1, c2⟩ := has_openC a1 (by omega) b2
      refine ⟨a1, c1, b1, c2, hx, hs, p, rfl, ?_, h1⟩
      simp only [Bool.or_eq_true, Bool.not_eq_true', not_or] at hc
      simpa using hc.2
    · rw [if_neg h4] at h; cases h
end Go.Ev
