/- A part of the proof: contracts of the functions that the statement reaches. -/
import Derived.Test.YtnmobamjinponaaS5
namespace Go.Ev
open Go.Proofs Srt
set_option maxRecDepth 100000
set_option linter.unusedSimpArgs false
set_option linter.unusedVariables false
def zS (e : SEN) : SEN := ⟨e.k, e.q, 0⟩
structure STS (clock : Nat) (L R : List SEN) : Prop where
  k : NDkS L
  s : NDsS L
  c : ∀ e ∈ L, e.s < clock
  v : ∀ e ∈ L, KOK e.k
  len : L.length ≤ 16
  rs : Sorted SEN.k ltK R
  rp : R.Perm (L.map zS)
theorem STS.lenR {clock : Nat} {L R : List SEN} (h : STS clock L R) : R.length = L.length := by simpa using h.rp.length_eq
theorem STS.mem {clock : Nat} {L R : List SEN} (h : STS clock L R) {x : SEN} (hx : x ∈ R) : ∃ e ∈ L, x = zS e := by
  obtain ⟨e, he, rfl⟩ := List.mem_map.1 (h.rp.mem_iff.1 hx)
  exact ⟨e, he, rfl⟩
theorem STS.rv {clock : Nat} {L R : List SEN} (h : STS clock L R) : ∀ x ∈ R, KOK x.k := fun x hx => by
  obtain ⟨e, he, rfl⟩ := h.mem hx
  exact h.v e he
theorem STS.init : STS 0 [] [] := ⟨List.nodup_nil, List.nodup_nil, by simp, by simp, by simp, List.Pairwise.nil, by simp⟩
theorem STS.look {clock : Nat} {L R : List SEN} (h : STS clock L R) (k : KEY) : (atI SEN.k R k = -1 ∧ lookS L k = none ∧ ∀ x ∈ R, x.k ≠ k) ∨
    ∃ (j : Nat) (e : SEN) (l1 l2 : List SEN), atI SEN.k R k = (j : Int) ∧ j < R.length ∧ lookS L k = some e ∧ R[j]? = some (zS e) ∧ L = l1 ++ e :: l2 ∧ e.k = k ∧ ∀ x ∈ l1 ++ l2, x.k ≠ k := by
  rcases at_cases koK h.rs k with ⟨h1, h0⟩ | ⟨R1, x, R2, rfl, rfl, h1, h0⟩
  · refine .inl ⟨h1, lookS_none fun y hy he => ?_, h0⟩
    exact h0 (zS y) (h.rp.mem_iff.2 (List.mem_map.2 ⟨y, hy, rfl⟩)) he
  · obtain ⟨e, he, rfl⟩ := h.mem (x := x) (by simp)
    obtain ⟨l1, l2, rfl, h3⟩ := mem_splitS h.k he
    exact .inr ⟨R1.length, e, l1, l2, h1, by simp, lookS_mid h3, by simp, rfl, rfl, h3⟩
theorem srtS_z {L : List SEN} (hn : NDkS L) (hv : ∀ e ∈ L, KOK e.k) : Sorted SEN.k ltK ((srtS L).map zS) := by
  have hp : (srtS L).Pairwise fun a b => leS a b = true := List.pairwise_mergeSort (fun a b c h1 h2 => by rw [leS_iff] at *; omega) (fun a b => by
    rw [Bool.or_eq_true, leS_iff, leS_iff]; omega) L
  unfold Sorted
  rw [List.pairwise_map]
  have hnd : (srtS L).Nodup := by
    have : ((srtS L).map (fun e : SEN => e.k)).Nodup := ((List.mergeSort_perm L leS).map (fun e : SEN => e.k)).nodup_iff.2 (show (L.map (fun e : SEN => e.k)).Nodup from hn)
    exact List.Pairwise.of_map (fun e : SEN => e.k) (fun a b h e => h (by rw [e])) this
  refine List.Pairwise.imp_of_mem (fun {a b} ha hb hab => ?_) (hp.and hnd)
  obtain ⟨h1, h2⟩ := hab
  show ltK a.k b.k = true
  rw [leS_iff] at h1
  simp only [ltK, decide_eq_true_eq, cmpK_lt]
  rcases h1 with h1 | ⟨h1, h3⟩
  · exact .inl h1
  · refine .inr ⟨h1, ?_⟩
    rcases Int.lt_or_eq_of_le h3 with h4 | h4
    · exact h4
    · exact absurd (nkS_eq hn (srtS_mem.1 ha) (srtS_mem.1 hb) (kI_inj (hv a (srtS_mem.1 ha)) (hv b (srtS_mem.1 hb)) h1 h4)) h2
theorem STS.rows {clock : Nat} {L R : List SEN} (h : STS clock L R) : (srtS L).map eS = R.map eS := by
  have : (srtS L).map zS = R := unique koK (srtS_z h.k h.v) h.rs (((List.mergeSort_perm L leS).map zS).trans h.rp.symm)
  rw [← this, List.map_map]; rfl
theorem set_mid {E : Type} {l1 l2 : List E} {x y : E} : (l1 ++ x :: l2).set l1.length y = l1 ++ y :: l2 := by simp
theorem getElem_split {E : Type} {R : List E} {i : Nat} {x : E} (h : R[i]? = some x) : R = R.take i ++ x :: R.drop (i + 1) := by
  obtain ⟨hl, rfl⟩ := List.getElem?_eq_some_iff.1 h
  conv => lhs; rw [← List.take_append_drop i R]
  rw [List.drop_eq_getElem_cons hl]
/-- An entry in the place of one of the same key. -/
theorem STS.old {clock : Nat} {l1 l2 R : List SEN} {e : SEN} (h : STS clock (l1 ++ e :: l2) R) {j : Nat} (hj : R[j]? = some (zS e)) (q : Int) :
    STS clock (l1 ++ ⟨e.k, q, e.s⟩ :: l2) (R.set j ⟨e.k, q, 0⟩) := by
  have hsp := getElem_split hj
  have hjl := (List.getElem?_eq_some_iff.1 hj).1
  have hset : R.set j ⟨e.k, q, 0⟩ = R.take j ++ ⟨e.k, q, 0⟩ :: R.drop (j + 1) := by
    rw [List.set_eq_take_append_cons_drop, if_pos hjl]
  have hp0 : (R.take j ++ R.drop (j + 1)).Perm ((l1 ++ l2).map zS) := by
    have h1 := h.rp
    rw [hsp, List.map_append, List.map_cons] at h1
    have h2 := (List.perm_middle (l₁ := R.take j) (a := zS e) (l₂ := R.drop (j + 1))).symm.trans (h1.trans List.perm_middle)
    rw [List.map_append]
    exact (List.perm_cons (zS e)).1 h2
  have hm : ∀ x ∈ l1 ++ (⟨e.k, q, e.s⟩ : SEN) :: l2, x = ⟨e.k, q, e.s⟩ ∨ x ∈ l1 ++ e :: l2 := fun x hx => by
    rcases List.mem_append.1 hx with h | h
    · exact .inr (by simp [h])
    · rcases List.mem_cons.1 h with h | h
      · exact .inl h
      · exact .inr (by simp [h])
  have he : e ∈ l1 ++ e :: l2 := by simp
  refine ⟨by have := h.k; unfold NDkS at *; simpa using this, by have := h.s; unfold NDsS at *; simpa using this, ?_, ?_, by have := h.len; simpa using this, ?_, ?_⟩
  · intro x hx
    rcases hm x hx with rfl | h2
    · exact h.c e he
    · exact h.c x h2
  · intro x hx
    rcases hm x hx with rfl | h2
    · exact h.v e he
    · exact h.v x h2
  · rw [hset]
    have := h.rs
    rw [hsp] at this
    exact sorted_set (e := zS e) rfl this
  · rw [hset]
    refine List.perm_middle.trans ?_
    rw [List.map_append, List.map_cons]
    refine List.Perm.trans ?_ List.perm_middle.symm
    rw [← List.map_append]
    exact List.Perm.cons _ hp0
/-- A new entry. -/
theorem STS.new {clock : Nat} {L R : List SEN} (h : STS clock L R) {k : KEY} (hk : KOK k) (q : Int) (h0 : ∀ x ∈ R, x.k ≠ k) (hl : L.length < 16) :
    STS (clock + 1) (L ++ [⟨k, q, clock⟩]) (insS R ⟨k, q, 0⟩) := by
  have h0L : ∀ x ∈ L, x.k ≠ k := fun x hx => h0 (zS x) (h.rp.mem_iff.2 (List.mem_map.2 ⟨x, hx, rfl⟩))
  refine ⟨?_, ?_, ?_, ?_, by simp; omega, ins_sorted koK h.rs h.rv hk h0, ?_⟩
  · unfold NDkS
    rw [List.map_append, List.nodup_append]
    exact ⟨h.k, by simp, fun a ha b hb e => by
      obtain ⟨x, hx, rfl⟩ := List.mem_map.1 ha
      simp at hb
      exact h0L x hx (e.trans hb)⟩
  · unfold NDsS
    rw [List.map_append, List.nodup_append]
    exact ⟨h.s, by simp, fun a ha b hb e => by
      obtain ⟨x, hx, rfl⟩ := List.mem_map.1 ha
      simp at hb
      have := h.c x hx
      omega⟩
  · intro e he
    rcases List.mem_append.1 he with he | he
    · have := h.c e he; omega
    · simp at he; subst he; simp
  · intro e he
    rcases List.mem_append.1 he with he | he
    · exact h.v e he
    · simp at he; subst he; exact hk
  · refine (ins_perm _ _).trans ((List.Perm.cons _ h.rp).trans ?_)
    rw [List.map_append]
    exact (List.perm_append_comm (l₁ := [(⟨k, q, 0⟩ : SEN)]) (l₂ := L.map zS))
/-- An entry goes. -/
theorem STS.drop {clock : Nat} {l1 l2 R : List SEN} {e : SEN} (h : STS clock (l1 ++ e :: l2) R) {j : Nat} (hj : R[j]? = some (zS e)) : STS clock (l1 ++ l2) (cutE R j) := by
  have hsp := getElem_split hj
  have hp0 : (R.take j ++ R.drop (j + 1)).Perm ((l1 ++ l2).map zS) := by
    have h1 := h.rp
    rw [hsp, List.map_append, List.map_cons] at h1
    have h2 := (List.perm_middle (l₁ := R.take j) (a := zS e) (l₂ := R.drop (j + 1))).symm.trans (h1.trans List.perm_middle)
    rw [List.map_append]
    exact (List.perm_cons (zS e)).1 h2
  have hs : (l1 ++ l2).Sublist (l1 ++ e :: l2) := List.Sublist.append_left (List.sublist_cons_self e l2) l1
  refine ⟨(List.Sublist.map (fun e : SEN => e.k) hs).nodup h.k, (List.Sublist.map (fun e : SEN => e.s) hs).nodup h.s, fun x hx => h.c x (hs.subset hx), fun x hx => h.v x (hs.subset hx), by have := hs.length_le; have := h.len; omega, ?_, hp0⟩
  have := h.rs
  rw [hsp] at this
  exact sorted_del this
end Go.Ev
