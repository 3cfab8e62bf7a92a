/- The operations of a region, ideally, and that the model does the same. -/
import Derived.Test.YtpapofdkcgopjaaEvMem
import Derived.Laws.IdiomCopy
namespace Go.Ev
open Go.RowKit

def szT (P : Program) (T : TypeId) : Option Nat := (P.info? T).map (·.size)
def aggT (P : Program) (T : TypeId) : Option Bool :=
  match P.underlying T with
  | some (.struct _) => some true
  | some (.array _ _) => some true
  | some _ => some false
  | none => none
/-- A field's place and size (never 0). -/
def offT (P : Program) (T : TypeId) (f : Nat) : Option (Nat × Nat) :=
  match P.underlying T with
  | some (.struct fs) => match fs[f]? with
    | some f => match P.info? f.type with
      | some i => if i.size = 0 then none else some (f.offset, i.size)
      | none => none
    | none => none
  | _ => none
def rawCells (v : Value) : Option (List SV) := if v.cells.toList.all (·.oneCell') then some (v.cells.toList.map .raw) else none
def zeroT (P : Program) (T : TypeId) : Option (List SV) :=
  match P.info? T with
  | some i => match i.zero with
    | some z => if z.cells.size = i.size then rawCells z else none
    | none => none
  | none => none

def ofValue : Value → IV
  | .agg _ => .j
  | .tuple _ => .j
  | v => .s (.raw v)

def rd (tm : TM) : Operand → IV
  | .tmp t => get tm t
  | .const v => ofValue v
  | .func f => .s (.raw (.func (.func f) #[] #[]))
  | .global _ => .j

theorem relI_ofValue (ρ : Ren) (v : Value) : relI ρ (ofValue v) v := by
  cases v <;> first | exact trivial | exact ⟨rfl, rfl⟩

theorem rd_rel {n : Nat} {ρ : Ren} {tm : TM} {a : Act} (h : RelA n ρ tm a) (o : Operand) : relI ρ (rd tm o) (a.eval o) := by
  cases o with
  | tmp t => exact h.rel t
  | const v => exact relI_ofValue ρ v
  | global g => exact trivial
  | func f => exact ⟨rfl, rfl⟩

/-- A step's outcome: what must hold, the value, the chunks that are written (a new one's number is handed in). -/
abbrev Res := Option (Prop × IV × List (Nat × Chunk))

/-- Chunks are written; one behind all is new. -/
def upd (H : Heap) : List (Nat × Chunk) → Heap
  | [] => H
  | (c, ch) :: W => upd (up1 H c ch) W

/-- Places that were kept for chunks to come stay so. -/
def VK (ρ ρ' : Ren) (W : List (Nat × Chunk)) : Prop := ∀ c : Nat, ρ[c]? = some .void → c ∉ W.map (·.1) → ρ'[c]? = some .void
theorem VK.refl (ρ : Ren) (W : List (Nat × Chunk)) : VK ρ ρ W := fun _ h _ => h
theorem VK.add {ρ : Ren} {m : Nat} {l : Pl} {ch : Chunk} : VK ρ (addR ρ m l) [(m, ch)] := fun c h hc => by
  simp at hc
  unfold addR
  split
  · rw [List.getElem?_append_left (List.getElem?_eq_some_iff.1 h).1]; exact h
  · rw [List.getElem?_set_ne (Ne.symm hc)]; exact h

/-- What a step must do in the model. -/
def StepOK (P : Program) (X : Ctx) (ρ : Ren) (s : Sem Next) (w : World) (v : IV) (H : Heap) (W : List (Nat × Chunk)) : Prop :=
  ∃ ρ' x w', Le ρ ρ' ∧ VK ρ ρ' W ∧ relI ρ' v x ∧ Inv X ρ' (upd H W) w' ∧ (s.run P w = .ok (.value x) w' ∨ (s.run P w = .ok .skip w' ∧ x = undef))

theorem StepOK.pure {P : Program} {X : Ctx} {ρ : Ren} {s : Sem Next} {w : World} {v : IV} {H : Heap} {x : Value} (hi : Inv X ρ H w) (hr : relI ρ v x)
    (h : s.run P w = .ok (.value x) w) : StepOK P X ρ s w v H [] := ⟨ρ, x, w, Le.refl _, VK.refl _ _, hr, hi, .inl h⟩

/-! #### segments of a row -/
def seg (row : List SV) (o n : Nat) : Option (List SV) :=
  if o = 0 ∧ n = row.length then some row else if o + n ≤ row.length then some ((row.drop o).take n) else none

theorem seg_spec {row : List SV} {o n : Nat} {l : List SV} (h : seg row o n = some l) : l.length = n ∧ o + n ≤ row.length ∧ ∀ j x, l[j]? = some x → row[o + j]? = some x := by
  unfold seg at h
  split at h
  · rename_i c; cases h; obtain ⟨rfl, rfl⟩ := c; exact ⟨rfl, by omega, fun j x hj => by simpa using hj⟩
  · split at h
    · cases h
      refine ⟨by simp; omega, by assumption, fun j x hj => ?_⟩
      have hj' := (List.getElem?_eq_some_iff.1 hj).1
      simp at hj'
      rw [List.getElem?_take_of_lt (by omega), List.getElem?_drop] at hj
      exact hj
    · cases h

def spl (row : List SV) (o : Nat) (vs : List SV) : Option (List SV) :=
  if o = 0 ∧ vs.length = row.length then some vs else if o + vs.length ≤ row.length then some (row.take o ++ vs ++ row.drop (o + vs.length)) else none

theorem spl_spec {row : List SV} {o : Nat} {vs l : List SV} (h : spl row o vs = some l) : l.length = row.length ∧ o + vs.length ≤ row.length ∧
    ∀ j x, l[j]? = some x → (o ≤ j ∧ j < o + vs.length ∧ vs[j - o]? = some x) ∨ ((j < o ∨ o + vs.length ≤ j) ∧ row[j]? = some x) := by
  unfold spl at h
  split at h
  · rename_i c; cases h; obtain ⟨rfl, hl⟩ := c
    refine ⟨hl, by omega, fun j x hj => .inl ⟨by omega, ?_, by simpa using hj⟩⟩
    have := (List.getElem?_eq_some_iff.1 hj).1; omega
  · split at h
    · rename_i hle; cases h
      refine ⟨by simp; omega, hle, fun j x hj => ?_⟩
      have ht : (row.take o).length = o := by simp; omega
      by_cases h1 : j < o
      · right; refine ⟨.inl h1, ?_⟩
        rw [List.append_assoc, List.getElem?_append_left (by omega), List.getElem?_take_of_lt h1] at hj; exact hj
      · by_cases h2 : j < o + vs.length
        · left; refine ⟨by omega, h2, ?_⟩
          rw [List.append_assoc, List.getElem?_append_right (by omega), ht, List.getElem?_append_left (by omega)] at hj; exact hj
        · right; refine ⟨.inr (by omega), ?_⟩
          rw [List.getElem?_append_right (by simp; omega), List.getElem?_drop] at hj
          simp only [List.length_append, ht] at hj
          rw [show o + vs.length + (j - (o + vs.length)) = j by omega] at hj; exact hj
    · cases h

/-! #### running the model's small words -/
section run
variable (P : Program) (w : World)
theorem run_underlying' {t : TypeId} {d : TypeDesc} (h : P.underlying t = some d) : (underlying t).run P w = .ok d w := by simp [underlying, h]
theorem run_typeInfo' {t : TypeId} {i : TypeInfo} (h : P.info? t = some i) : (typeInfo t).run P w = .ok i w := by simp [typeInfo, h]
theorem run_sizeOf' {t : TypeId} {n : Nat} (h : szT P t = some n) : (sizeOf t).run P w = .ok n w := by
  unfold szT at h
  cases hi : P.info? t with
  | none => simp [hi] at h
  | some i => simp [hi] at h; simp [sizeOf, typeInfo, hi, h]
theorem run_isAgg' {t : TypeId} {b : Bool} (h : aggT P t = some b) : (isAgg t).run P w = .ok b w := by
  unfold aggT at h
  unfold isAgg
  split at h <;> simp_all [underlying]
theorem run_zeroValue' {t : TypeId} {i : TypeInfo} {z : Value} (h : P.info? t = some i) (hz : i.zero = some z) : (zeroValue t).run P w = .ok z w := by
  simp [zeroValue, typeInfo, h, hz]
end run

theorem addr_add (b o n : Nat) : (⟨b, o, none⟩ : Addr).add n = ⟨b, o + n, none⟩ := by
  unfold Addr.add; split
  · rename_i h; simp [h]
  · rfl

/-- The cells behind a pointer, read. -/
theorem read_cells {X : Ctx} {ρ : Ren} {H : Heap} {w : World} (hi : Inv X ρ H w) {c i o n : Nat} {own : Bool} {els : List (List SV)} {row l : List SV} {b base sz sz' lim : Nat}
    (hc : H[c]? = some (.rows own sz' els)) (hρ : ρ[c]? = some (.mem b base sz lim)) (hrow : els[i]? = some row) (hs : seg row o n = some l) :
    ∃ vs : List Value, relL ρ l vs ∧ ∀ j v, vs[j]? = some v → w.cell? ⟨b, base + i * sz + o + j, none⟩ = some v := by
  obtain ⟨l', hl', hsat⟩ := hi.sat c _ hc
  rw [hρ] at hl'; cases hl'
  rcases hsat with ⟨h, _⟩ | ⟨b', base', lim', cells, T, lo, hi', he, hw, hsz, hlen, hfit, hfz, hone, hrows⟩
  · cases h
  · cases he
    obtain ⟨hll, hle, hget⟩ := seg_spec hs
    obtain ⟨hrl, hr⟩ := hrows i row hrow
    have ex : ∀ j, ∃ v, j < l.length → ∃ x, l[j]? = some x ∧ cells[base + i * sz + o + j]? = some v ∧ relS ρ x v := fun j => by
      by_cases hj : j < l.length
      · obtain ⟨v, hv, hrel⟩ := hr (o + j) l[j] (hget j _ (by simp [hj]))
        exact ⟨v, fun _ => ⟨l[j], by simp [hj], by rw [← hv, Nat.add_assoc (base + i * sz)], hrel⟩⟩
      · exact ⟨undef, fun h => absurd h hj⟩
    obtain ⟨f, hf⟩ : ∃ f : Nat → Value, ∀ j, j < l.length → ∃ x, l[j]? = some x ∧ cells[base + i * sz + o + j]? = some (f j) ∧ relS ρ x (f j) :=
      ⟨fun j => Classical.choose (ex j), fun j => Classical.choose_spec (ex j)⟩
    refine ⟨(List.range l.length).map f, relL_of_get (by simp) fun j x hx => ?_, fun j v hv => ?_⟩
    · have hj := (List.getElem?_eq_some_iff.1 hx).1
      obtain ⟨y, hy, hcell, hrel⟩ := hf j hj
      rw [hx] at hy; cases hy
      exact ⟨_, by simp [hj], hrel⟩
    · have hj := (List.getElem?_eq_some_iff.1 hv).1
      simp at hj
      simp [hj] at hv
      obtain ⟨y, hy, hcell, hrel⟩ := hf j hj
      subst hv
      simp only [World.cell?, hw, Option.isSome_none, Bool.false_eq_true, if_false]
      exact hcell

def setBlk (w : World) (b : Nat) (o : Obj) : World := { w with heap := w.heap.setIfInBounds b o }

theorem run_storeList (P : Program) {b : Nat} {T : TypeId} {lo hi : Nat} : ∀ (vs : List Value) (i o : Nat) (w : World) (cs : Array Value), w.heap[b]? = some (.cells cs T (lo, hi)) →
    o + i + vs.length ≤ cs.size → (∀ x, x < cs.size → ¬ (lo ≤ x ∧ x < hi)) → (∀ v ∈ vs, v.oneCell' = true) →
    ∃ cs', (storeCells ⟨b, o, none⟩ vs i).run P w = .ok () (setBlk w b (.cells cs' T (lo, hi))) ∧ cs'.size = cs.size ∧
      (∀ j, o + i ≤ j → j < o + i + vs.length → cs'[j]? = vs[j - (o + i)]?) ∧ (∀ j, j < o + i ∨ o + i + vs.length ≤ j → cs'[j]? = cs[j]?)
  | [], i, o, w, cs, hw, _, _, _ => by
    refine ⟨cs, ?_, rfl, fun j h1 h2 => by simp at h2; omega, fun _ _ => rfl⟩
    have : setBlk w b (.cells cs T (lo, hi)) = w := by
      unfold setBlk
      have hlt := (Array.getElem?_eq_some_iff.1 hw)
      congr 1
      apply Array.ext_getElem?
      intro k
      rw [Array.getElem?_setIfInBounds]
      split
      · rename_i e; subst e; split
        · exact hw.symm
        · rename_i h; exact absurd hlt.1 h
      · rfl
    rw [this]; rfl
  | v :: vs, i, o, w, cs, hw, hfit, hfz, hone => by
    have hlt : o + i < cs.size := by simp at hfit; omega
    have hcell : w.cell? ⟨b, o + i, none⟩ = some cs[o + i] := by simp [World.cell?, hw, hlt]
    have hfr : w.frozen? ⟨b, o + i, none⟩ = false := by
      simp only [World.frozen?, hw]
      have := hfz (o + i) hlt
      simp only [Bool.and_eq_false_iff, decide_eq_false_iff_not]
      omega
    have hset : w.setCell ⟨b, o + i, none⟩ v = setBlk w b (.cells (cs.setIfInBounds (o + i) v) T (lo, hi)) := by
      unfold World.setCell setBlk
      congr 1
      apply Array.ext_getElem?
      intro k
      rw [Array.getElem?_modify, Array.getElem?_setIfInBounds]
      by_cases e : b = k
      · subst e
        simp only [if_true]
        rw [if_pos (Array.getElem?_eq_some_iff.1 hw).1, hw]
        rfl
      · rw [if_neg e, if_neg e]
    have hw2 : (setBlk w b (.cells (cs.setIfInBounds (o + i) v) T (lo, hi))).heap[b]? = some (.cells (cs.setIfInBounds (o + i) v) T (lo, hi)) := by
      simp [setBlk, (Array.getElem?_eq_some_iff.1 hw).1]
    obtain ⟨cs', hrun, hsz, hin, hout⟩ := run_storeList P vs (i + 1) o _ (cs.setIfInBounds (o + i) v) hw2 (by simp at hfit ⊢; omega) (by simpa using hfz) (fun x hx => hone x (by simp [hx]))
    refine ⟨cs', ?_, by simpa using hsz, fun j h1 h2 => ?_, fun j h => ?_⟩
    · have hst : (store ⟨b, o + i, none⟩ v).run P w = .ok () (setBlk w b (.cells (cs.setIfInBounds (o + i) v) T (lo, hi))) := by
        rw [run_store P w _ v _ (hone v (by simp)), hcell]; simp only [hfr]; simp [hset]
      simp only [storeCells, Sem.run_bind, addr_add, hst, Result.andThen_ok, hrun]
      congr 1
      simp [setBlk]
    · by_cases e : j = o + i
      · subst e
        rw [hout (o + i) (by omega)]
        simp [hlt]
      · rw [hin j (by omega) (by simp at h2; omega)]
        rw [show j - (o + i) = (j - (o + (i + 1))) + 1 by omega]
        simp
    · rw [hout j (by simp at h; omega)]
      rw [Array.getElem?_setIfInBounds, if_neg (by simp at h; omega)]

end Go.Ev
