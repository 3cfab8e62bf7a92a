/- A part of the proof: contracts of the functions that the statement reaches. -/
import Derived.Test.YtpjgbfddlagcaaaDoorG2
import Derived.Test.YtpjgbfddlagcaaaDoorEvS
namespace Go.Ev
open Go.Proofs
set_option maxRecDepth 100000
set_option linter.unusedSimpArgs false
set_option linter.unusedVariables false
set_option maxHeartbeats 4000000
open Srt
def lsK : List Leaf := [.int .u16, .int .u8, .int .u8, .int .u8, .int .u8, .int .u8, .int .u8]
theorem ty_lk : leavesOf Tryd.prog 60 63 = some lsK := by kernel_rfl
theorem sh_k (l : List SV) : shapeB Tryd.prog 63 (.a l) = true := by unfold shapeB; rw [show aggT Tryd.prog 63 = some true by kernel_rfl]
theorem kEq (a b : KEY) : cellsEq lsK (kC a) (kC b) = some (decide (a = b)) := by
  obtain ⟨av, a0, a1, a2, a3, a4, a5⟩ := a
  obtain ⟨bv, b0, b1, b2, b3, b4, b5⟩ := b
  simp [cellsEq, leafEq, lsK, kC, Bool.and_assoc, Bool.decide_and]
  rfl
theorem hitK (k : KEY) : cellsEq lsK (IV.a (kC k)).cells (IV.a (kC k)).cells = some true := by
  show cellsEq lsK (kC k) (kC k) = _
  rw [kEq]; simp
theorem rows_pull (f : SV → SV) (g : IV → IV) (own : Bool) (sz : Nat) (els : List (List SV)) : mapC f g (.rows own sz els) = .rows own sz (els.map fun r => r.map f) := rfl
theorem genD_id {P : Program} {X : Ctx} {o : Oper} {tm : TM} {H : Heap} {kd : List Nat → IV → List (Nat × Chunk) → Prop} (h : genD P X o tm H kd) : genD P X o tm H kd := h
theorem genK_id {P : Program} {X : Ctx} {o : Oper} {tm : TM} {H : Heap} {k : TM → Heap → Prop} (h : genK P X o k tm H) : genK P X o k tm H := h
theorem iter_pull (f : SV → SV) (g : IV → IV) (x : SV) (a : Nat) (b : List Nat) (c : Nat) : mapC f g (.iter x a b c) = .iter (f x) a b c := rfl
theorem kC_pull (σ : List Nat) (k : KEY) : (kC k).map (pullS σ) = kC k := rfl
theorem kC_push (σ : List Nat) (k : KEY) : (kC k).map (pushS σ) = kC k := rfl
theorem kC_len (k : KEY) : (kC k).length = 7 := rfl
def KOK (k : KEY) : Prop := (0 ≤ k.m.m0 ∧ k.m.m0 ≤ 255) ∧ (0 ≤ k.m.m1 ∧ k.m.m1 ≤ 255) ∧ (0 ≤ k.m.m2 ∧ k.m.m2 ≤ 255) ∧ (0 ≤ k.m.m3 ∧ k.m.m3 ≤ 255) ∧ (0 ≤ k.m.m4 ∧ k.m.m4 ≤ 255) ∧ (0 ≤ k.m.m5 ∧ k.m.m5 ≤ 255)
theorem kI_eq {k : KEY} (h : KOK k) : kI k = 1099511627776 * k.m.m0 + 4294967296 * k.m.m1 + 16777216 * k.m.m2 + 65536 * k.m.m3 + 256 * k.m.m4 + k.m.m5 := by
  obtain ⟨⟨a0, b0⟩, ⟨a1, b1⟩, ⟨a2, b2⟩, ⟨a3, b3⟩, ⟨a4, b4⟩, ⟨a5, b5⟩⟩ := h
  exact intM_eq a0 b0 a1 b1 a2 b2 a3 b3 a4 b4 a5 b5
theorem kI_inj {a b : KEY} (ha : KOK a) (hb : KOK b) (hv : a.v = b.v) (h : kI a = kI b) : a = b := by
  rw [kI_eq ha, kI_eq hb] at h
  obtain ⟨av, a0, a1, a2, a3, a4, a5⟩ := a
  obtain ⟨bv, b0, b1, b2, b3, b4, b5⟩ := b
  simp only [KOK] at ha hb h hv
  obtain rfl := hv
  obtain rfl : a0 = b0 := by omega
  obtain rfl : a1 = b1 := by omega
  obtain rfl : a2 = b2 := by omega
  obtain rfl : a3 = b3 := by omega
  obtain rfl : a4 = b4 := by omega
  obtain rfl : a5 = b5 := by omega
  rfl
theorem cmpK_val (a b : KEY) : cmpK a b = if a.v < b.v then -1 else if b.v < a.v then 1 else if kI a < kI b then -1 else if kI b < kI a then 1 else 0 := by
  simp only [cmpK, orI, cmpI]
  repeat' split
  all_goals first | rfl | omega
theorem cmpK_lt (a b : KEY) : cmpK a b < 0 ↔ a.v < b.v ∨ a.v = b.v ∧ kI a < kI b := by
  rw [cmpK_val]
  repeat' split
  all_goals omega
theorem cmpK_le (a b : KEY) : cmpK a b ≤ 0 ↔ a.v < b.v ∨ a.v = b.v ∧ kI a ≤ kI b := by
  rw [cmpK_val]
  repeat' split
  all_goals omega
def badV (v : Int) : Bool := decide (v < 1) || decide (4094 < v)
end Go.Ev
