/- A part of the proof: contracts of the functions that the statement reaches. -/
import Derived.Test.YtpjgbfddlagcaaaG2
import Derived.Test.YtpjgbfddlagcaaaEvS
namespace Go.Ev
open Go.Proofs
set_option maxRecDepth 100000
set_option linter.unusedSimpArgs false
set_option linter.unusedVariables false
set_option maxHeartbeats 4000000
open Srt
def lsK : List Leaf := [.int .u16, .int .u8, .int .u8, .int .u8, .int .u8, .int .u8, .int .u8]
theorem ty_lk : leavesOf Try.prog 60 43 = some lsK := by kernel_rfl
theorem sh_k (l : List SV) : shapeB Try.prog 43 (.a l) = true := by unfold shapeB; rw [show aggT Try.prog 43 = some true by kernel_rfl]
theorem kEq (a b : KEY) : cellsEq lsK (kC a) (kC b) = some (decide (a = b)) := by
  obtain ⟨av, a0, a1, a2, a3, a4, a5⟩ := a
  obtain ⟨bv, b0, b1, b2, b3, b4, b5⟩ := b
  simp [cellsEq, leafEq, lsK, kC, Bool.and_assoc, Bool.decide_and]
  rfl
theorem hitK (k : KEY) : cellsEq lsK (IV.a (kC k)).cells (IV.a (kC k)).cells = some true := by
  show cellsEq lsK (kC k) (kC k) = _
  rw [kEq]; simp
theorem rows_pull (f : SV → SV) (g : IV → IV) (own : Bool) (sz : Nat) (els : List (List SV)) : mapC f g (.rows own sz els) = .rows own sz (els.map fun r => r.map f) := rfl
theorem genD_id {P : Program} {X : Ctx} {o : Oper} {tm : TM} {H : Heap} {kd : List Nat → IV → List (Nat × Chunk) → Prop} (h : genD P X o tm H kd) : genD P X o tm H kd := h
theorem genK_id {P : Program} {X : Ctx} {o : Oper} {tm : TM} {H : Heap} {k : TM → Heap → Prop} (h : genK P X o k tm H) : genK P X o k tm H := h
theorem iter_pull (f : SV → SV) (g : IV → IV) (x : SV) (a : Nat) (b : List Nat) (c : Nat) : mapC f g (.iter x a b c) = .iter (f x) a b c := rfl
theorem set_same {α : Type} : ∀ {l : List α} {c : Nat} {x : α}, l[c]? = some x → l.set c x = l
  | [], _, _, h => by simp at h
  | y :: l, 0, x, h => by simp at h; simp [h]
  | y :: l, c + 1, x, h => by simp at h; simp [set_same h]
theorem kC_pull (σ : List Nat) (k : KEY) : (kC k).map (pullS σ) = kC k := rfl
theorem kC_push (σ : List Nat) (k : KEY) : (kC k).map (pushS σ) = kC k := rfl
theorem rows_push (σ : List Nat) (sz : Nat) (els : List (List SV)) : pushC σ (.rows true sz els) = .rows true sz (els.map fun r => r.map (pushS σ)) := rfl
theorem kC_len (k : KEY) : (kC k).length = 7 := rfl
theorem kC_exp (v a0 a1 a2 a3 a4 a5 : Int) : [SV.raw (.int .u16 v), .raw (.int .u8 a0), .raw (.int .u8 a1), .raw (.int .u8 a2), .raw (.int .u8 a3), .raw (.int .u8 a4), .raw (.int .u8 a5)] = kC ⟨v, ⟨a0, a1, a2, a3, a4, a5⟩⟩ := rfl
theorem kC_d1 (k : KEY) : (List.drop 1 (kC k)).length = 6 := rfl
theorem kC_d6 (k : KEY) : List.drop 6 (List.drop 1 (kC k)) = [] := rfl
theorem kC_mac (k : KEY) : List.take 6 (List.drop 1 (kC k)) = [.raw (.int .u8 k.m.m0), .raw (.int .u8 k.m.m1), .raw (.int .u8 k.m.m2), .raw (.int .u8 k.m.m3), .raw (.int .u8 k.m.m4), .raw (.int .u8 k.m.m5)] := rfl
theorem f_tt : (true == true) = true := rfl
theorem f_tf : (true == false) = false := rfl
theorem f_ft : (false == true) = false := rfl
theorem f_ff : (false == false) = true := rfl
def KOK (k : KEY) : Prop := (0 ≤ k.m.m0 ∧ k.m.m0 ≤ 255) ∧ (0 ≤ k.m.m1 ∧ k.m.m1 ≤ 255) ∧ (0 ≤ k.m.m2 ∧ k.m.m2 ≤ 255) ∧ (0 ≤ k.m.m3 ∧ k.m.m3 ≤ 255) ∧ (0 ≤ k.m.m4 ∧ k.m.m4 ≤ 255) ∧ (0 ≤ k.m.m5 ∧ k.m.m5 ≤ 255)
theorem kI_eq {k : KEY} (h : KOK k) : kI k = 1099511627776 * k.m.m0 + 4294967296 * k.m.m1 + 16777216 * k.m.m2 + 65536 * k.m.m3 + 256 * k.m.m4 + k.m.m5 := by
  obtain ⟨⟨a0, b0⟩, ⟨a1, b1⟩, ⟨a2, b2⟩, ⟨a3, b3⟩, ⟨a4, b4⟩, ⟨a5, b5⟩⟩ := h
  exact intM_eq a0 b0 a1 b1 a2 b2 a3 b3 a4 b4 a5 b5
theorem kI_inj {a b : KEY} (ha : KOK a) (hb : KOK b) (hv : a.v = b.v) (h : kI a = kI b) : a = b := by
  rw [kI_eq ha, kI_eq hb] at h
  obtain ⟨av, a0, a1, a2, a3, a4, a5⟩ := a
  obtain ⟨bv, b0, b1, b2, b3, b4, b5⟩ := b
  simp only [KOK] at ha hb h hv
  obtain rfl := hv
  obtain rfl : a0 = b0 := by omega
  obtain rfl : a1 = b1 := by omega
  obtain rfl : a2 = b2 := by omega
  obtain rfl : a3 = b3 := by omega
  obtain rfl : a4 = b4 := by omega
  obtain rfl : a5 = b5 := by omega
  rfl
theorem cmpK_val (a b : KEY) : cmpK a b = if a.v < b.v then -1 else if b.v < a.v then 1 else if kI a < kI b then -1 else if kI b < kI a then 1 else 0 := by
  simp only [cmpK, orI, cmpI]
  repeat' split
  all_goals first | rfl | omega
theorem cmpK_lt (a b : KEY) : cmpK a b < 0 ↔ a.v < b.v ∨ a.v = b.v ∧ kI a < kI b := by
  rw [cmpK_val]
  repeat' split
  all_goals omega
theorem cmpK_le (a b : KEY) : cmpK a b ≤ 0 ↔ a.v < b.v ∨ a.v = b.v ∧ kI a ≤ kI b := by
  rw [cmpK_val]
  repeat' split
  all_goals omega
def ltK (a b : KEY) : Bool := decide (cmpK a b < 0)
theorem koK : KO ltK KOK where
  irrefl a := by simp only [ltK, decide_eq_false_iff_not, cmpK_lt]; omega
  trans a b c h1 h2 := by simp only [ltK, decide_eq_true_eq, cmpK_lt] at *; omega
  tri a b ha hb h1 h2 := by
    simp only [ltK, decide_eq_false_iff_not, cmpK_lt] at h1 h2
    exact kI_inj ha hb (by omega) (by omega)
theorem kI_ref {k : KEY} (h : KOK k) : refInt k.m.m0 k.m.m1 k.m.m2 k.m.m3 k.m.m4 k.m.m5 = kI k := by
  rw [kI_eq h]
  obtain ⟨⟨a0, b0⟩, ⟨a1, b1⟩, ⟨a2, b2⟩, ⟨a3, b3⟩, ⟨a4, b4⟩, ⟨a5, b5⟩⟩ := h
  exact refInt_eq a0 b0 a1 b1 a2 b2 a3 b3 a4 b4 a5 b5
theorem odd_u8 {m : Int} (h0 : 0 ≤ m) (h1 : m ≤ 255) : (Int.tmod m 2 == 0) = !(bAnd .u8 m 1 == 1) := by
  obtain ⟨n, rfl⟩ : ∃ n : Nat, m = (n : Int) := ⟨m.toNat, by omega⟩
  have : ∀ n : Fin 256, (Int.tmod ((n.val : Nat) : Int) 2 == 0) = !(bAnd .u8 ((n.val : Nat) : Int) 1 == 1) := by decide +kernel
  exact this ⟨n, by omega⟩
theorem m_chain (a b : M6) : (a.m0 == b.m0 && (a.m1 == b.m1 && (a.m2 == b.m2 && (a.m3 == b.m3 && (a.m4 == b.m4 && (a.m5 == b.m5)))))) = decide (a = b) := by
  obtain ⟨a0, a1, a2, a3, a4, a5⟩ := a
  obtain ⟨b0, b1, b2, b3, b4, b5⟩ := b
  simp [Bool.decide_and]
  rfl
def badV (v : Int) : Bool := decide (v < 1) || decide (4094 < v)
end Go.Ev
