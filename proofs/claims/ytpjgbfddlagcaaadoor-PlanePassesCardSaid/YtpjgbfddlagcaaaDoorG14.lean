/- A part of the proof: contracts of the functions that the statement reaches. -/
import Derived.Test.YtpjgbfddlagcaaaDoorG11
namespace Go.Ev
open Go.Proofs
set_option maxRecDepth 100000
set_option linter.unusedSimpArgs false
set_option linter.unusedVariables false
def grpB (k : KEY) : Bool := bAnd .u8 k.m.m0 1 == 1
/-- What is true of every learnt table: of room n, kept for l ticks. -/
structure OKF (n l : Int) (clock : Nat) (L : List EN) : Prop where
  k : NDk L
  s : NDs L
  c : ∀ e ∈ L, e.s < clock
  v : ∀ e ∈ L, KOK e.k
  len : (L.length : Int) ≤ n
  g : ∀ e ∈ L, 0 ≤ e.g ∧ e.g < l
  u : ∀ e ∈ L, grpB e.k = false
theorem OKF.sub {n l : Int} {clock : Nat} {L L' : List EN} (h : OKF n l clock L) (hs : L'.Sublist L) : OKF n l clock L' :=
  ⟨(List.Sublist.map (fun e : EN => e.k) hs).nodup h.k, (List.Sublist.map (fun e : EN => e.s) hs).nodup h.s, fun e he => h.c e (hs.subset he), fun e he => h.v e (hs.subset he), by have := hs.length_le; have := h.len; omega, fun e he => h.g e (hs.subset he), fun e he => h.u e (hs.subset he)⟩
theorem OKF.add {n l : Int} {clock : Nat} {L : List EN} (h : OKF n l clock L) {k : KEY} {p : Int} (hk : KOK k) (hu : grpB k = false) (hl : 1 ≤ l) (h0 : ∀ e ∈ L, e.k ≠ k) (hr : (L.length : Int) < n) : OKF n l (clock + 1) (L ++ [⟨k, p, 0, clock⟩]) := by
  refine ⟨?_, ?_, ?_, ?_, ?_, ?_, ?_⟩
  · unfold NDk
    rw [List.map_append, List.nodup_append]
    exact ⟨h.k, by simp, fun a ha b hb e => by
      obtain ⟨x, hx, rfl⟩ := List.mem_map.1 ha
      simp at hb
      exact h0 x hx (e.trans hb)⟩
  · unfold NDs
    rw [List.map_append, List.nodup_append]
    exact ⟨h.s, by simp, fun a ha b hb e => by
      obtain ⟨x, hx, rfl⟩ := List.mem_map.1 ha
      simp at hb
      have := h.c x hx
      omega⟩
  · intro e he
    rcases List.mem_append.1 he with he | he
    · have := h.c e he; omega
    · simp at he; subst he; simp
  · intro e he
    rcases List.mem_append.1 he with he | he
    · exact h.v e he
    · simp at he; subst he; exact hk
  · simp; omega
  · intro e he
    rcases List.mem_append.1 he with he | he
    · exact h.g e he
    · simp at he; subst he; exact ⟨Int.le_refl 0, by show (0 : Int) < l; omega⟩
  · intro e he
    rcases List.mem_append.1 he with he | he
    · exact h.u e he
    · simp at he; subst he; exact hu
theorem OKF.re {n l : Int} {clock : Nat} {l1 l2 : List EN} {e : EN} (h : OKF n l clock (l1 ++ e :: l2)) {p : Int} (hl : 1 ≤ l) : OKF n l clock (l1 ++ ⟨e.k, p, 0, e.s⟩ :: l2) := by
  have hm : ∀ x ∈ l1 ++ (⟨e.k, p, 0, e.s⟩ : EN) :: l2, x = ⟨e.k, p, 0, e.s⟩ ∨ x ∈ l1 ++ e :: l2 := fun x hx => by
    rcases List.mem_append.1 hx with h | h
    · exact .inr (by simp [h])
    · rcases List.mem_cons.1 h with h | h
      · exact .inl h
      · exact .inr (by simp [h])
  have he : e ∈ l1 ++ e :: l2 := by simp
  refine ⟨by have := h.k; unfold NDk at *; simpa using this, by have := h.s; unfold NDs at *; simpa using this, ?_, ?_, by have := h.len; simpa using this, ?_, ?_⟩
  · intro x hx
    rcases hm x hx with rfl | h2
    · exact h.c e he
    · exact h.c x h2
  · intro x hx
    rcases hm x hx with rfl | h2
    · exact h.v e he
    · exact h.v x h2
  · intro x hx
    rcases hm x hx with rfl | h2
    · exact ⟨Int.le_refl 0, by show (0 : Int) < l; omega⟩
    · exact h.g x h2
  · intro x hx
    rcases hm x hx with rfl | h2
    · exact h.u e he
    · exact h.u x h2
theorem look_app {L : List EN} {k : KEY} {p g : Int} {s : Nat} (h0 : ∀ e ∈ L, e.k ≠ k) : look (L ++ [⟨k, p, g, s⟩]) k = some ⟨k, p, g, s⟩ := by
  unfold look
  rw [List.find?_append, List.find?_eq_none.2 (fun x hx => by simp [h0 x hx])]
  simp
theorem look_mid {l1 l2 : List EN} {e : EN} (h0 : ∀ x ∈ l1 ++ l2, x.k ≠ e.k) : look (l1 ++ e :: l2) e.k = some e := by
  unfold look
  rw [List.find?_append, List.find?_eq_none.2 (fun x hx => by simp [h0 x (by simp [hx])])]
  simp
theorem srt_mem {L : List EN} {e : EN} : e ∈ srt L ↔ e ∈ L := (List.mergeSort_perm L leK).mem_iff
/-- Learning keeps all this; and what was learnt is there. -/
theorem learn_ok {n l : Int} {clock : Nat} {L : List EN} (h : OKF n l clock L) (hn : 1 ≤ n) (hl : 1 ≤ l) {k : KEY} (hk : KOK k) {p : Int} (hp : 1 ≤ p) (hp2 : p ≤ 16) :
    OKF n l (learnK n clock L k p).1.1 (learnK n clock L k p).1.2 ∧ (grpB k = true → look (learnK n clock L k p).1.2 k = none) ∧ (grpB k = false → ∃ s, look (learnK n clock L k p).1.2 k = some ⟨k, p, 0, s⟩) := by
  cases hg : grpB k with
  | true =>
    have hb : goodB k p = false := by
      unfold grpB at hg
      simp [goodB, hg]
    have hL : learnK n clock L k p = ((clock, L), zEN, false) := by simp [learnK, hb]
    rw [hL]
    refine ⟨h, fun _ => look_none fun x hx e => ?_, (fun h => by cases h)⟩
    have := h.u x hx
    rw [e, hg] at this
    cases this
  | false =>
    have hb : goodB k p = true := by
      unfold grpB at hg
      simp [goodB, hg, hp, hp2]
    rcases look_cases L h.k k with ⟨h1, h0⟩ | ⟨l1, e, l2, rfl, rfl, h1, h0⟩
    · cases hf : fullB n L k with
      | false =>
        have hL : learnK n clock L k p = ((clock + 1, L ++ [⟨k, p, 0, clock⟩]), zEN, false) := by simp only [learnK, hb, hf, if_true, Bool.false_eq_true, if_false, put_miss clock L k p 0 h1]
        rw [hL]
        have hr : (L.length : Int) < n := by
          simp only [fullB, h1, Option.isSome_none, Bool.not_false, Bool.true_and, decide_eq_false_iff_not] at hf
          omega
        exact ⟨h.add hk hg hl h0 hr, (fun h => by cases h), fun _ => ⟨clock, look_app h0⟩⟩
      | true =>
        have hlen : 1 ≤ L.length := by
          simp only [fullB, Bool.and_eq_true, decide_eq_true_eq] at hf
          omega
        obtain ⟨e, hee⟩ : ∃ e, minL (srt L) = e := ⟨_, rfl⟩
        have hmem : e ∈ L := by
          rw [← hee]
          exact srt_mem.1 (minL_mem (srt L) (by rw [srt_len]; exact hlen))
        obtain ⟨l1, l2, rfl, h3⟩ := mem_split h.k hmem
        have h4 : ∀ x ∈ l1 ++ l2, x.k ≠ k := fun x hx => h0 x (by rcases List.mem_append.1 hx with h | h <;> simp [h])
        have hL : learnK n clock (l1 ++ e :: l2) k p = ((clock + 1, (l1 ++ l2) ++ [⟨k, p, 0, clock⟩]), e, true) := by simp only [learnK, hb, hf, if_true, hee, del_hit l1 e l2 h3, put_miss clock _ k p 0 (look_none h4)]
        rw [hL]
        have hlen2 := h.len
        have hs : (l1 ++ l2).Sublist (l1 ++ e :: l2) := List.Sublist.append_left (List.sublist_cons_self e l2) l1
        refine ⟨(h.sub hs).add hk hg hl h4 ?_, (fun h => by cases h), fun _ => ⟨clock, look_app h4⟩⟩
        simp at hlen2 ⊢; omega
    · have hf : fullB n (l1 ++ e :: l2) e.k = false := by simp [fullB, h1]
      have hL : learnK n clock (l1 ++ e :: l2) e.k p = ((clock, l1 ++ ⟨e.k, p, 0, e.s⟩ :: l2), zEN, false) := by simp only [learnK, hb, hf, if_true, Bool.false_eq_true, if_false, put_hit clock l1 e l2 p 0 h1 h0]
      rw [hL]
      exact ⟨h.re hl, (fun h => by cases h), fun _ => ⟨e.s, look_mid (e := ⟨e.k, p, 0, e.s⟩) h0⟩⟩
end Go.Ev
