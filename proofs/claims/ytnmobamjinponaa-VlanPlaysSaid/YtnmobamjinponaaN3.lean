/- A part of the proof: contracts of the functions that the statement reaches. -/
import Derived.Test.YtnmobamjinponaaN2
namespace Go.Ev
open Go.Proofs Srt
set_option maxRecDepth 100000
set_option linter.unusedSimpArgs false
set_option linter.unusedVariables false
def zV (e : VEN) : VEN := ⟨e.v, e.m, e.u, 0⟩
/-- A table's entries and the document's list stand for the same. -/
structure STV (L R : List VEN) : Prop where
  k : NDkV L
  len : L.length ≤ 16
  rs : Sorted VEN.v ltV R
  rp : R.Perm (L.map zV)
theorem STV.lenR {L R : List VEN} (h : STV L R) : R.length = L.length := by simpa using h.rp.length_eq
theorem STV.mem {L R : List VEN} (h : STV L R) {x : VEN} (hx : x ∈ R) : ∃ e ∈ L, x = zV e := by
  obtain ⟨e, he, rfl⟩ := List.mem_map.1 (h.rp.mem_iff.1 hx)
  exact ⟨e, he, rfl⟩
theorem STV.init : STV [] [] := ⟨List.nodup_nil, by simp, List.Pairwise.nil, by simp⟩
theorem STV.look {L R : List VEN} (h : STV L R) (k : Int) : (atI VEN.v R k = -1 ∧ lookV L k = none ∧ ∀ x ∈ R, x.v ≠ k) ∨
    ∃ (j : Nat) (e : VEN) (l1 l2 : List VEN), atI VEN.v R k = (j : Int) ∧ j < R.length ∧ lookV L k = some e ∧ R[j]? = some (zV e) ∧ L = l1 ++ e :: l2 ∧ e.v = k ∧ ∀ x ∈ l1 ++ l2, x.v ≠ k := by
  rcases at_cases koV h.rs k with ⟨h1, h0⟩ | ⟨R1, x, R2, rfl, rfl, h1, h0⟩
  · refine .inl ⟨h1, lookV_none fun y hy he => ?_, h0⟩
    exact h0 (zV y) (h.rp.mem_iff.2 (List.mem_map.2 ⟨y, hy, rfl⟩)) he
  · obtain ⟨e, he, rfl⟩ := h.mem (x := x) (by simp)
    obtain ⟨l1, l2, rfl, h3⟩ := mem_splitV h.k he
    exact .inr ⟨R1.length, e, l1, l2, h1, by simp, lookV_mid h3, by simp, rfl, rfl, h3⟩
theorem nkV_eq {L : List VEN} (hn : NDkV L) {a b : VEN} (ha : a ∈ L) (hb : b ∈ L) (h : a.v = b.v) : a = b := by
  obtain ⟨l1, l2, rfl, h0⟩ := mem_splitV hn ha
  rcases List.mem_append.1 hb with hb | hb
  · exact absurd h.symm (h0 b (by simp [hb]))
  · rcases List.mem_cons.1 hb with hb | hb
    · exact hb.symm
    · exact absurd h.symm (h0 b (by simp [hb]))
theorem srtV_z {L : List VEN} (hn : NDkV L) : Sorted VEN.v ltV ((srtV L).map zV) := by
  unfold Sorted
  rw [List.pairwise_map]
  have hp := srtV_asc L
  rw [List.pairwise_map] at hp
  have hnd : (srtV L).Nodup := by
    have : ((srtV L).map (fun e : VEN => e.v)).Nodup := ((srtV_perm L).map (fun e : VEN => e.v)).nodup_iff.2 (show (L.map (fun e : VEN => e.v)).Nodup from hn)
    exact List.Pairwise.of_map (fun e : VEN => e.v) (fun a b h e => h (by rw [e])) this
  refine List.Pairwise.imp_of_mem (fun {a b} ha hb hab => ?_) (hp.and hnd)
  obtain ⟨h1, h2⟩ := hab
  show ltV a.v b.v = true
  rcases Int.lt_or_eq_of_le h1 with h3 | h3
  · exact decide_eq_true h3
  · exact absurd (nkV_eq hn (srtV_mem.1 ha) (srtV_mem.1 hb) h3) h2
theorem STV.rows {L R : List VEN} (h : STV L R) : (srtV L).map eV = R.map eV := by
  have : (srtV L).map zV = R := unique koV (srtV_z h.k) h.rs (((srtV_perm L).map zV).trans h.rp.symm)
  rw [← this, List.map_map]; rfl
theorem getElem_split {E : Type} {R : List E} {i : Nat} {x : E} (h : R[i]? = some x) : R = R.take i ++ x :: R.drop (i + 1) := by
  obtain ⟨hl, rfl⟩ := List.getElem?_eq_some_iff.1 h
  conv => lhs; rw [← List.take_append_drop i R]
  rw [List.drop_eq_getElem_cons hl]
theorem STV.rest {l1 l2 R : List VEN} {e : VEN} (h : STV (l1 ++ e :: l2) R) {j : Nat} (hj : R[j]? = some (zV e)) : (R.take j ++ R.drop (j + 1)).Perm ((l1 ++ l2).map zV) := by
  have hsp := getElem_split hj
  have h1 := h.rp
  rw [hsp, List.map_append, List.map_cons] at h1
  have h2 := (List.perm_middle (l₁ := R.take j) (a := zV e) (l₂ := R.drop (j + 1))).symm.trans (h1.trans List.perm_middle)
  rw [List.map_append]
  exact (List.perm_cons (zV e)).1 h2
/-- An entry in the place of one of the same key. -/
theorem STV.old {l1 l2 R : List VEN} {e : VEN} (h : STV (l1 ++ e :: l2) R) {j : Nat} (hj : R[j]? = some (zV e)) (m u : Int) :
    STV (l1 ++ ⟨e.v, m, u, e.s⟩ :: l2) (R.set j ⟨e.v, m, u, 0⟩) := by
  have hsp := getElem_split hj
  have hjl := (List.getElem?_eq_some_iff.1 hj).1
  have hset : R.set j ⟨e.v, m, u, 0⟩ = R.take j ++ ⟨e.v, m, u, 0⟩ :: R.drop (j + 1) := by
    rw [List.set_eq_take_append_cons_drop, if_pos hjl]
  have hp0 := h.rest hj
  refine ⟨by have := h.k; unfold NDkV at *; simpa using this, by have := h.len; simpa using this, ?_, ?_⟩
  · rw [hset]
    have := h.rs
    rw [hsp] at this
    exact sorted_set (e := zV e) rfl this
  · rw [hset]
    refine List.perm_middle.trans ?_
    rw [List.map_append, List.map_cons]
    refine List.Perm.trans ?_ List.perm_middle.symm
    rw [← List.map_append]
    exact List.Perm.cons _ hp0
/-- A new entry. -/
theorem STV.new {L R : List VEN} (h : STV L R) {v : Int} (m u : Int) (s : Nat) (h0 : ∀ x ∈ R, x.v ≠ v) (hl : L.length < 16) : STV (L ++ [⟨v, m, u, s⟩]) (insV R ⟨v, m, u, 0⟩) := by
  have h0L : ∀ x ∈ L, x.v ≠ v := fun x hx => h0 (zV x) (h.rp.mem_iff.2 (List.mem_map.2 ⟨x, hx, rfl⟩))
  refine ⟨?_, by simp; omega, ins_sorted koV h.rs (fun _ _ => trivial) trivial h0, ?_⟩
  · unfold NDkV
    rw [List.map_append, List.nodup_append]
    exact ⟨h.k, by simp, fun a ha b hb e => by
      obtain ⟨x, hx, rfl⟩ := List.mem_map.1 ha
      simp at hb
      exact h0L x hx (e.trans hb)⟩
  · refine (ins_perm _ _).trans ((List.Perm.cons _ h.rp).trans ?_)
    rw [List.map_append]
    exact (List.perm_append_comm (l₁ := [(⟨v, m, u, 0⟩ : VEN)]) (l₂ := L.map zV))
/-- An entry goes. -/
theorem STV.drop {l1 l2 R : List VEN} {e : VEN} (h : STV (l1 ++ e :: l2) R) {j : Nat} (hj : R[j]? = some (zV e)) : STV (l1 ++ l2) (cutE R j) := by
  have hsp := getElem_split hj
  have hs : (l1 ++ l2).Sublist (l1 ++ e :: l2) := List.Sublist.append_left (List.sublist_cons_self e l2) l1
  refine ⟨(List.Sublist.map (fun e : VEN => e.v) hs).nodup h.k, by have := hs.length_le; have := h.len; omega, ?_, h.rest hj⟩
  have := h.rs
  rw [hsp] at this
  exact sorted_del this
end Go.Ev
