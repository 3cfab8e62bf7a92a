/- A part of the proof: contracts of the functions that the statement reaches. -/
import Derived.Test.YtnmobamjinponaaG9
import Derived.Test.YtnmobamjinponaaJtE
import Derived.Test.YtnmobamjinponaaEvS
namespace Go.Ev
open Go.Proofs
set_option maxRecDepth 100000
set_option linter.unusedSimpArgs false
set_option linter.unusedVariables false
set_option maxHeartbeats 4000000
open Go.RowKit Go.Sort
def KOK (k : KEY) : Prop := (0 ≤ k.m.m0 ∧ k.m.m0 ≤ 255) ∧ (0 ≤ k.m.m1 ∧ k.m.m1 ≤ 255) ∧ (0 ≤ k.m.m2 ∧ k.m.m2 ≤ 255) ∧ (0 ≤ k.m.m3 ∧ k.m.m3 ≤ 255) ∧ (0 ≤ k.m.m4 ∧ k.m.m4 ≤ 255) ∧ (0 ≤ k.m.m5 ∧ k.m.m5 ≤ 255)
theorem kI_eq {k : KEY} (h : KOK k) : kI k = 1099511627776 * k.m.m0 + 4294967296 * k.m.m1 + 16777216 * k.m.m2 + 65536 * k.m.m3 + 256 * k.m.m4 + k.m.m5 := by
  obtain ⟨⟨a0, b0⟩, ⟨a1, b1⟩, ⟨a2, b2⟩, ⟨a3, b3⟩, ⟨a4, b4⟩, ⟨a5, b5⟩⟩ := h
  exact intM_eq a0 b0 a1 b1 a2 b2 a3 b3 a4 b4 a5 b5
theorem kI_inj {a b : KEY} (ha : KOK a) (hb : KOK b) (hv : a.v = b.v) (h : kI a = kI b) : a = b := by
  rw [kI_eq ha, kI_eq hb] at h
  obtain ⟨av, a0, a1, a2, a3, a4, a5⟩ := a
  obtain ⟨bv, b0, b1, b2, b3, b4, b5⟩ := b
  simp only [KOK] at ha hb h hv
  obtain rfl := hv
  obtain rfl : a0 = b0 := by omega
  obtain rfl : a1 = b1 := by omega
  obtain rfl : a2 = b2 := by omega
  obtain rfl : a3 = b3 := by omega
  obtain rfl : a4 = b4 := by omega
  obtain rfl : a5 = b5 := by omega
  rfl
theorem cmpK_val (a b : KEY) : cmpK a b = if a.v < b.v then -1 else if b.v < a.v then 1 else if kI a < kI b then -1 else if kI b < kI a then 1 else 0 := by
  simp only [cmpK, orI, cmpI]
  repeat' split
  all_goals first | rfl | omega
theorem cmpK_lt (a b : KEY) : cmpK a b < 0 ↔ a.v < b.v ∨ a.v = b.v ∧ kI a < kI b := by
  rw [cmpK_val]
  repeat' split
  all_goals omega
theorem cmpK_le (a b : KEY) : cmpK a b ≤ 0 ↔ a.v < b.v ∨ a.v = b.v ∧ kI a ≤ kI b := by
  rw [cmpK_val]
  repeat' split
  all_goals omega
def cfE (a b : EN) : Int := cmpK a.k b.k
def encE (e : EN) : List Value := [.int .u16 e.k.v, .int .u8 e.k.m.m0, .int .u8 e.k.m.m1, .int .u8 e.k.m.m2, .int .u8 e.k.m.m3, .int .u8 e.k.m.m4, .int .u8 e.k.m.m5, .int .i64 e.p, .int .i64 e.g]
theorem encE_eR (e : EN) : encS encE e = eR e := rfl
theorem swoE : SWO (ltOf cfE) where
  irrefl x := by simp only [ltOf, cfE, decide_eq_false_iff_not, cmpK_lt]; omega
  trans x y z h1 h2 := by
    simp only [ltOf, cfE, decide_eq_true_eq, cmpK_lt] at *; omega
  ntrans x y z h1 h2 := by
    simp only [ltOf, cfE, decide_eq_false_iff_not, cmpK_lt] at *; omega
theorem leK_iff (a b : EN) : leK a b = true ↔ (a.k.v < b.k.v ∨ a.k.v = b.k.v ∧ kI a.k ≤ kI b.k) := by simp only [leK, decide_eq_true_eq, cmpK_le]
theorem nk_eq {L : List EN} (hn : NDk L) {a b : EN} (ha : a ∈ L) (hb : b ∈ L) (h : a.k = b.k) : a = b := by
  obtain ⟨l1, l2, rfl, h0⟩ := mem_split hn ha
  rcases List.mem_append.1 hb with h1 | h1
  · exact absurd h.symm (h0 b (by simp [h1]))
  · rcases List.mem_cons.1 h1 with rfl | h1
    · rfl
    · exact absurd h.symm (h0 b (by simp [h1]))
theorem sort_ok (L : List EN) (hn : NDk L) (hv : ∀ e ∈ L, KOK e.k) (hb : L.length ≤ 100000) : SortOK L := by
  intro X k H c M hc hp hk
  have aE : ∀ w, (isAgg (Try.sortE_ren.t 24)).run Try.prog w = .ok true w := fun w => Try.isAgg88 w
  have zE : ∀ w, (Go.sizeOf (Try.sortE_ren.t 24)).run Try.prog w = .ok 9 w := fun w => Try.sizeOf88 w
  have := sort_call (X := X) (H := H) (c := c) (d := M) (kk := k) Try.sortE 9 (by decide) aE zE encE (fun _ => rfl) (fun x v hv => by simp [encE] at hv; rcases hv with rfl | rfl | rfl | rfl | rfl | rfl | rfl | rfl | rfl <;> rfl) cfE swoE 67 (fun a b => f67 a b) (by kernel_rfl)
    (by rw [show M.map (encS encE) = M.map eR from rfl]; exact hc) (by rw [hp.length_eq]; omega) (fun d' hd hs => by
      have e : d' = srt L := by
        refine List.Perm.eq_of_pairwise (le := fun a b => leK a b = true) (fun a b ha hb h1 h2 => ?_) ?_ ?_ ((hd.trans hp).trans (List.mergeSort_perm L leK).symm)
        · have ha' : a ∈ L := (hd.trans hp).mem_iff.1 ha
          have hb' : b ∈ L := (List.mergeSort_perm L leK).mem_iff.1 hb
          rw [leK_iff] at h1 h2
          exact nk_eq hn ha' hb' (kI_inj (hv a ha') (hv b hb') (by omega) (by omega))
        · rw [List.pairwise_iff_getElem]
          intro i j hi hj hij
          have := hs i j hj hij
          simp only [ltOf, cfE, decide_eq_false_iff_not, cmpK_lt] at this
          rw [leK_iff]; omega
        · refine List.pairwise_mergeSort (fun a b c h1 h2 => ?_) (fun a b => ?_) L
          · rw [leK_iff] at *; omega
          · rw [Bool.or_eq_true, leK_iff, leK_iff]; omega
      rw [e]
      exact hk)
  exact this
end Go.Ev
