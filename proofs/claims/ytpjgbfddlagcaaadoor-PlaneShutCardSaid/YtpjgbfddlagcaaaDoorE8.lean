/- A part of the proof: contracts of the functions that the statement reaches. -/
import Derived.Test.YtpjgbfddlagcaaaDoorE3
namespace Go.Ev
open Go.Proofs Srt
set_option maxRecDepth 100000
set_option linter.unusedSimpArgs false
set_option linter.unusedVariables false
theorem has_bit (s : Int) (k : Fin 16) : hasP s ((k.val + 1 : Nat) : Int) = (tB s).getLsbD k.val := by
  unfold hasP
  rw [and_bit]
  have : 0 < 2 ^ k.val := Nat.pow_pos (by decide)
  cases (tB s).getLsbD k.val with
  | true =>
    rw [if_pos rfl, bne_iff_ne]; omega
  | false => simp
theorem has_and (a b : Int) {p : Int} (h1 : 1 ≤ p) (h2 : p ≤ 16) : hasP (bAnd .u32 a b) p = (hasP a p && hasP b p) := by
  obtain ⟨k, rfl⟩ := bit_ex h1 h2
  rw [has_bit, has_bit, has_bit, tB_and, BitVec.getLsbD_and]
theorem has_wo (m f : Int) {p : Int} (h1 : 1 ≤ p) (h2 : p ≤ 16) : hasP (woP m f) p = (hasP m p && (p != f)) := by
  obtain ⟨k, rfl⟩ := bit_ex h1 h2
  have hk := k.isLt
  unfold woP
  rw [has_bit, has_bit, tB_andNot, BitVec.getLsbD_and, BitVec.getLsbD_not]
  have h3 : k.val < 32 := by omega
  simp only [h3, decide_true, Bool.true_and]
  congr 1
  by_cases hf : f < 1 ∨ 16 < f
  · have e : tB (bitP f) = 0#32 := by rw [bit_out hf]; rfl
    rw [e]
    have : ((k.val + 1 : Nat) : Int) ≠ f := by omega
    have e2 : (((k.val + 1 : Nat) : Int) != f) = true := by simpa using this
    rw [e2]; simp
  · obtain ⟨j, rfl⟩ := bit_ex (p := f) (by omega) (by omega)
    rw [(bitB j).2, BitVec.getLsbD_twoPow]
    have hj := j.isLt
    by_cases e : j.val = k.val
    · simp [e, h3]
    · have : ((k.val + 1 : Nat) : Int) ≠ ((j.val + 1 : Nat) : Int) := by omega
      have e2 : (j.val == k.val) = false := by simpa using e
      have e3 : ((k.val + 1 : Nat) : Int) != ((j.val + 1 : Nat) : Int) := by simpa using this
      rw [e3]
      simp [e]
theorem has_of (q : Int) {p : Int} (h1 : 1 ≤ p) (h2 : p ≤ 16) : hasP (withP 0 q) p = (q == p) := by
  obtain ⟨k, rfl⟩ := bit_ex h1 h2
  have hk := k.isLt
  have h3 : k.val < 32 := by omega
  rw [with0, has_bit]
  by_cases hf : q < 1 ∨ 16 < q
  · have e : tB (bitP q) = 0#32 := by rw [bit_out hf]; rfl
    rw [e]
    have : q ≠ ((k.val + 1 : Nat) : Int) := by omega
    have e2 : (q == ((k.val + 1 : Nat) : Int)) = false := by simpa using this
    rw [e2]; simp
  · obtain ⟨j, rfl⟩ := bit_ex (p := q) (by omega) (by omega)
    rw [(bitB j).2, BitVec.getLsbD_twoPow]
    by_cases e : j.val = k.val
    · simp [e, h3]
    · have : ((j.val + 1 : Nat) : Int) ≠ ((k.val + 1 : Nat) : Int) := by omega
      have e2 : (((j.val + 1 : Nat) : Int) == ((k.val + 1 : Nat) : Int)) = false := by simpa using this
      rw [e2]; simp [e]
/-- What is true of the tables. -/
structure EGT (cv : Nat) (Lv : List VEN) (cs : Nat) (Ls : List SEN) (cf : Nat) (Lf : List EN) : Prop where
  v : NDkV Lv
  m : ∀ e ∈ Lv, 0 ≤ e.m ∧ e.m < 65536
  s : NDkS Ls
  f : OKF 64 1000 cf Lf
theorem EGT.init : EGT 0 [] 0 [] 0 [] := ⟨List.nodup_nil, by simp, List.nodup_nil, ⟨List.nodup_nil, List.nodup_nil, by simp, by simp, by simp, by simp, by simp⟩⟩
theorem EGT.setV {cv : Nat} {Lv : List VEN} {cs : Nat} {Ls : List SEN} {cf : Nat} {Lf : List EN} (h : EGT cv Lv cs Ls cf Lf) (v m u : Int) (m0 : 0 ≤ m) :
    EGT (Go.Ev.setV cv Lv v m u).2.1 (Go.Ev.setV cv Lv v m u).2.2 cs Ls cf Lf := by
  unfold Go.Ev.setV
  by_cases hg : goodV v m u = 0
  · rw [if_pos hg]
    have hm : m < 65536 := by
      by_cases h1 : m < 65536
      · exact h1
      · exfalso
        have : decide (m < 65536) = false := decide_eq_false h1
        unfold goodV at hg
        rw [this] at hg
        split at hg <;> simp at hg
    split
    · exact h
    · rename_i hc
      rcases lookV_cases Lv h.v v with ⟨h1, h0⟩ | ⟨l1, e, l2, rfl, rfl, h1, h0⟩
      · rw [putV_miss cv Lv v m u h1]
        refine ⟨?_, ?_, h.s, h.f⟩
        · unfold NDkV
          rw [List.map_append, List.nodup_append]
          exact ⟨h.v, by simp, fun a ha b hb e => by
            obtain ⟨x, hx, rfl⟩ := List.mem_map.1 ha
            simp at hb
            exact h0 x hx (e.trans hb)⟩
        · intro e he
          rcases List.mem_append.1 he with he | he
          · exact h.m e he
          · simp at he; subst he; exact ⟨m0, hm⟩
      · rw [putV_hit cv l1 e l2 m u h1 h0]
        refine ⟨by have := h.v; unfold NDkV at *; simpa using this, ?_, h.s, h.f⟩
        intro x hx
        rcases List.mem_append.1 hx with hx | hx
        · exact h.m x (by simp [hx])
        · rcases List.mem_cons.1 hx with rfl | hx
          · exact ⟨m0, hm⟩
          · exact h.m x (by simp [hx])
  · rw [if_neg hg]; exact h
theorem EGT.setS {cv : Nat} {Lv : List VEN} {cs : Nat} {Ls : List SEN} {cf : Nat} {Lf : List EN} (h : EGT cv Lv cs Ls cf Lf) (k : KEY) (q : Int) :
    EGT cv Lv (Go.Ev.setS cs Ls k q).2.1 (Go.Ev.setS cs Ls k q).2.2 cf Lf := by
  unfold Go.Ev.setS
  split
  · split
    · exact h
    · rcases lookS_cases Ls h.s k with ⟨h1, h0⟩ | ⟨l1, e, l2, rfl, rfl, h1, h0⟩
      · rw [putS_miss cs Ls k q h1]
        refine ⟨h.v, h.m, ?_, h.f⟩
        unfold NDkS
        rw [List.map_append, List.nodup_append]
        exact ⟨h.s, by simp, fun a ha b hb e => by
          obtain ⟨x, hx, rfl⟩ := List.mem_map.1 ha
          simp at hb
          exact h0 x hx (e.trans hb)⟩
      · rw [putS_hit cs l1 e l2 q h1 h0]
        exact ⟨h.v, h.m, by have := h.s; unfold NDkS at *; simpa using this, h.f⟩
  · exact h
/-- The document's answer: does a frame go to a port? -/
def wantP (Lv : List VEN) (Ls : List SEN) (Lf : List EN) (fr vid : Int) (m : M6) (o p : Int) : Bool :=
  match lookV Lv vid with
  | none => false
  | some v => if resS m.m0 m.m1 m.m2 m.m3 m.m4 m.m5 then false else
    let w := hasP v.m p && ((p != fr) && hasP o p)
    match lookS Ls ⟨vid, m⟩ with
    | some s => w && hasP s.q p
    | none => match look Lf ⟨vid, m⟩ with
      | some q => w && (q.p == p)
      | none => w
theorem want_eq (Lv : List VEN) (Ls : List SEN) (Lf : List EN) (fr vid : Int) (m : M6) (o : Int) {p : Int} (h1 : 1 ≤ p) (h2 : p ≤ 16) : hasP (portsC Lv Ls Lf fr vid m o) p = wantP Lv Ls Lf fr vid m o p := by
  have h0 : hasP 0 p = false := by
    obtain ⟨k, rfl⟩ := bit_ex h1 h2
    rw [has_bit]
    have : tB 0 = 0#32 := rfl
    rw [this]; simp
  unfold portsC wantP
  cases lookV Lv vid with
  | none => exact h0
  | some v =>
    cases resS m.m0 m.m1 m.m2 m.m3 m.m4 m.m5 with
    | true => exact h0
    | false =>
      simp only [Bool.false_eq_true, if_false]
      cases lookS Ls ⟨vid, m⟩ with
      | some s => simp only [has_and _ _ h1 h2, has_wo _ _ h1 h2, Bool.and_assoc]
      | none =>
        cases look Lf ⟨vid, m⟩ with
        | some q => simp only [has_and _ _ h1 h2, has_wo _ _ h1 h2, has_of _ h1 h2, Bool.and_assoc]
        | none => simp only [has_and _ _ h1 h2, has_wo _ _ h1 h2, Bool.and_assoc]
theorem from_ok (n : Int) (v : Int) : KOK ⟨v, fromC n⟩ := by
  have u : ∀ x : Int, 0 ≤ ubI x ∧ ubI x ≤ 255 := fun x => by
    unfold ubI
    have := (UInt8.ofNat x.toNat).toNat_lt
    omega
  exact ⟨u _, u _, u _, u _, u _, u _⟩
end Go.Ev
