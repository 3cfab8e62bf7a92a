/- A part of the proof: contracts of the functions that the statement reaches. -/
import Derived.Test.YtpjgbfddlagcaaaDoorE3
namespace Go.Ev
open Go.Proofs Srt
set_option maxRecDepth 100000
set_option linter.unusedSimpArgs false
set_option linter.unusedVariables false
/-- What is true of the tables. -/
structure EGT (cv : Nat) (Lv : List VEN) (cs : Nat) (Ls : List SEN) (cf : Nat) (Lf : List EN) : Prop where
  v : NDkV Lv
  m : ∀ e ∈ Lv, 0 ≤ e.m ∧ e.m < 65536
  s : NDkS Ls
  f : OKF 64 1000 cf Lf
theorem EGT.init : EGT 0 [] 0 [] 0 [] := ⟨List.nodup_nil, by simp, List.nodup_nil, ⟨List.nodup_nil, List.nodup_nil, by simp, by simp, by simp, by simp, by simp⟩⟩
theorem EGT.setV {cv : Nat} {Lv : List VEN} {cs : Nat} {Ls : List SEN} {cf : Nat} {Lf : List EN} (h : EGT cv Lv cs Ls cf Lf) (v m u : Int) (m0 : 0 ≤ m) :
    EGT (Go.Ev.setV cv Lv v m u).2.1 (Go.Ev.setV cv Lv v m u).2.2 cs Ls cf Lf := by
  unfold Go.Ev.setV
  by_cases hg : goodV v m u = 0
  · rw [if_pos hg]
    have hm : m < 65536 := by
      by_cases h1 : m < 65536
      · exact h1
      · exfalso
        have : decide (m < 65536) = false := decide_eq_false h1
        unfold goodV at hg
        rw [this] at hg
        split at hg <;> simp at hg
    split
    · exact h
    · rename_i hc
      rcases lookV_cases Lv h.v v with ⟨h1, h0⟩ | ⟨l1, e, l2, rfl, rfl, h1, h0⟩
      · rw [putV_miss cv Lv v m u h1]
        refine ⟨?_, ?_, h.s, h.f⟩
        · unfold NDkV
          rw [List.map_append, List.nodup_append]
          exact ⟨h.v, by simp, fun a ha b hb e => by
            obtain ⟨x, hx, rfl⟩ := List.mem_map.1 ha
            simp at hb
            exact h0 x hx (e.trans hb)⟩
        · intro e he
          rcases List.mem_append.1 he with he | he
          · exact h.m e he
          · simp at he; subst he; exact ⟨m0, hm⟩
      · rw [putV_hit cv l1 e l2 m u h1 h0]
        refine ⟨by have := h.v; unfold NDkV at *; simpa using this, ?_, h.s, h.f⟩
        intro x hx
        rcases List.mem_append.1 hx with hx | hx
        · exact h.m x (by simp [hx])
        · rcases List.mem_cons.1 hx with rfl | hx
          · exact ⟨m0, hm⟩
          · exact h.m x (by simp [hx])
  · rw [if_neg hg]; exact h
theorem EGT.setS {cv : Nat} {Lv : List VEN} {cs : Nat} {Ls : List SEN} {cf : Nat} {Lf : List EN} (h : EGT cv Lv cs Ls cf Lf) (k : KEY) (q : Int) :
    EGT cv Lv (Go.Ev.setS cs Ls k q).2.1 (Go.Ev.setS cs Ls k q).2.2 cf Lf := by
  unfold Go.Ev.setS
  split
  · split
    · exact h
    · rcases lookS_cases Ls h.s k with ⟨h1, h0⟩ | ⟨l1, e, l2, rfl, rfl, h1, h0⟩
      · rw [putS_miss cs Ls k q h1]
        refine ⟨h.v, h.m, ?_, h.f⟩
        unfold NDkS
        rw [List.map_append, List.nodup_append]
        exact ⟨h.s, by simp, fun a ha b hb e => by
          obtain ⟨x, hx, rfl⟩ := List.mem_map.1 ha
          simp at hb
          exact h0 x hx (e.trans hb)⟩
      · rw [putS_hit cs l1 e l2 q h1 h0]
        exact ⟨h.v, h.m, by have := h.s; unfold NDkS at *; simpa using this, h.f⟩
  · exact h
theorem from_ok (n : Int) (v : Int) : KOK ⟨v, fromC n⟩ := by
  have u : ∀ x : Int, 0 ≤ ubI x ∧ ubI x ≤ 255 := fun x => by
    unfold ubI
    have := (UInt8.ofNat x.toNat).toNat_lt
    omega
  exact ⟨u _, u _, u _, u _, u _, u _⟩
end Go.Ev
