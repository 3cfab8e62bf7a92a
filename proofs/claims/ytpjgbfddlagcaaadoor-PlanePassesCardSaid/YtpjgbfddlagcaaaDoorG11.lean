/- A part of the proof: contracts of the functions that the statement reaches. -/
import Derived.Test.YtpjgbfddlagcaaaDoorG9
import Derived.Test.YtpjgbfddlagcaaaDoorJtE
import Derived.Test.YtpjgbfddlagcaaaDoorEvS
namespace Go.Ev
open Go.Proofs
set_option maxRecDepth 100000
set_option linter.unusedSimpArgs false
set_option linter.unusedVariables false
set_option maxHeartbeats 4000000
open Go.RowKit Go.Sort
def cfE (a b : EN) : Int := cmpK a.k b.k
def encE (e : EN) : List Value := [.int .u16 e.k.v, .int .u8 e.k.m.m0, .int .u8 e.k.m.m1, .int .u8 e.k.m.m2, .int .u8 e.k.m.m3, .int .u8 e.k.m.m4, .int .u8 e.k.m.m5, .int .i64 e.p, .int .i64 e.g]
theorem swoE : SWO (ltOf cfE) where
  irrefl x := by simp only [ltOf, cfE, decide_eq_false_iff_not, cmpK_lt]; omega
  trans x y z h1 h2 := by
    simp only [ltOf, cfE, decide_eq_true_eq, cmpK_lt] at *; omega
  ntrans x y z h1 h2 := by
    simp only [ltOf, cfE, decide_eq_false_iff_not, cmpK_lt] at *; omega
theorem leK_iff (a b : EN) : leK a b = true ↔ (a.k.v < b.k.v ∨ a.k.v = b.k.v ∧ kI a.k ≤ kI b.k) := by simp only [leK, decide_eq_true_eq, cmpK_le]
theorem nk_eq {L : List EN} (hn : NDk L) {a b : EN} (ha : a ∈ L) (hb : b ∈ L) (h : a.k = b.k) : a = b := by
  obtain ⟨l1, l2, rfl, h0⟩ := mem_split hn ha
  rcases List.mem_append.1 hb with h1 | h1
  · exact absurd h.symm (h0 b (by simp [h1]))
  · rcases List.mem_cons.1 h1 with rfl | h1
    · rfl
    · exact absurd h.symm (h0 b (by simp [h1]))
theorem sort_ok (L : List EN) (hn : NDk L) (hv : ∀ e ∈ L, KOK e.k) (hb : L.length ≤ 100000) : SortOK L := by
  intro X k H c M hc hp hk
  have aE : ∀ w, (isAgg (Tryd.sortE_ren.t 24)).run Tryd.prog w = .ok true w := fun w => Tryd.isAgg67 w
  have zE : ∀ w, (Go.sizeOf (Tryd.sortE_ren.t 24)).run Tryd.prog w = .ok 9 w := fun w => Tryd.sizeOf67 w
  have := sort_call (X := X) (H := H) (c := c) (d := M) (kk := k) Tryd.sortE 9 (by decide) aE zE encE (fun _ => rfl) (fun x v hv => by simp [encE] at hv; rcases hv with rfl | rfl | rfl | rfl | rfl | rfl | rfl | rfl | rfl <;> rfl) cfE swoE 39 (fun a b => f67 a b) (by kernel_rfl)
    (by rw [show M.map (encS encE) = M.map eR from rfl]; exact hc) (by rw [hp.length_eq]; omega) (fun d' hd hs => by
      have e : d' = srt L := by
        refine List.Perm.eq_of_pairwise (le := fun a b => leK a b = true) (fun a b ha hb h1 h2 => ?_) ?_ ?_ ((hd.trans hp).trans (List.mergeSort_perm L leK).symm)
        · have ha' : a ∈ L := (hd.trans hp).mem_iff.1 ha
          have hb' : b ∈ L := (List.mergeSort_perm L leK).mem_iff.1 hb
          rw [leK_iff] at h1 h2
          exact nk_eq hn ha' hb' (kI_inj (hv a ha') (hv b hb') (by omega) (by omega))
        · rw [List.pairwise_iff_getElem]
          intro i j hi hj hij
          have := hs i j hj hij
          simp only [ltOf, cfE, decide_eq_false_iff_not, cmpK_lt] at this
          rw [leK_iff]; omega
        · refine List.pairwise_mergeSort (fun a b c h1 h2 => ?_) (fun a b => ?_) L
          · rw [leK_iff] at *; omega
          · rw [Bool.or_eq_true, leK_iff, leK_iff]; omega
      rw [e]
      exact hk)
  exact this
end Go.Ev
