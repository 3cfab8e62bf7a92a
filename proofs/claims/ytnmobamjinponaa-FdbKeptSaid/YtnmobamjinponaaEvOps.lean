/- The operations of a region, ideally, and that the model does the same. -/
import Derived.Test.YtnmobamjinponaaEvMem
import Derived.Laws.IdiomCopy
set_option linter.unusedSimpArgs false
namespace Go.Ev
open Go.RowKit

def szT (P : Program) (T : TypeId) : Option Nat := (P.info? T).map (·.size)
def aggT (P : Program) (T : TypeId) : Option Bool :=
  match P.underlying T with
  | some (.struct _) => some true
  | some (.array _ _) => some true
  | some _ => some false
  | none => none
/-- A field's place and size (never 0). -/
def offT (P : Program) (T : TypeId) (f : Nat) : Option (Nat × Nat) :=
  match P.underlying T with
  | some (.struct fs) => match fs[f]? with
    | some f => match P.info? f.type with
      | some i => if i.size = 0 then none else some (f.offset, i.size)
      | none => none
    | none => none
  | _ => none
def rawCells (v : Value) : Option (List SV) := if v.cells.toList.all (·.oneCell') then some (v.cells.toList.map .raw) else none
def zeroT (P : Program) (T : TypeId) : Option (List SV) :=
  match P.info? T with
  | some i => match i.zero with
    | some z => if z.cells.size = i.size then rawCells z else none
    | none => none
  | none => none

def ofValue : Value → IV
  | .agg _ => .j
  | .tuple _ => .j
  | v => .s (.raw v)

def rd (tm : TM) : Operand → IV
  | .tmp t => get tm t
  | .const v => ofValue v
  | .func f => .s (.raw (.func (.func f) #[] #[]))
  | .global g => .s (.raw (.pointer (some ⟨g, 0, none⟩)))

theorem relI_ofValue (ρ : Ren) (v : Value) : relI ρ (ofValue v) v := by
  cases v <;> first | exact trivial | exact ⟨rfl, rfl⟩

theorem rd_rel {n : Nat} {ρ : Ren} {tm : TM} {a : Act} (h : RelA n ρ tm a) (o : Operand) : relI ρ (rd tm o) (a.eval o) := by
  cases o with
  | tmp t => exact h.rel t
  | const v => exact relI_ofValue ρ v
  | global g => exact ⟨rfl, rfl⟩
  | func f => exact ⟨rfl, rfl⟩

/-- A step's outcome: what must hold, the value, the chunks that are written (a new one's number is handed in). -/
abbrev Res := Option (Prop × IV × List (Nat × Chunk))

/-- Chunks are written; one behind all is new. -/
def upd (H : Heap) : List (Nat × Chunk) → Heap
  | [] => H
  | (c, ch) :: W => upd (up1 H c ch) W

/-- Places that were kept for chunks to come stay so. -/
def VK (ρ ρ' : Ren) (W : List (Nat × Chunk)) : Prop := ∀ c : Nat, ρ[c]? = some .void → c ∉ W.map (·.1) → ρ'[c]? = some .void
theorem VK.refl (ρ : Ren) (W : List (Nat × Chunk)) : VK ρ ρ W := fun _ h _ => h
theorem VK.add {ρ : Ren} {m : Nat} {l : Pl} {ch : Chunk} : VK ρ (addR ρ m l) [(m, ch)] := fun c h hc => by
  simp at hc
  unfold addR
  split
  · rw [List.getElem?_append_left (List.getElem?_eq_some_iff.1 h).1]; exact h
  · rw [List.getElem?_set_ne (Ne.symm hc)]; exact h

/-- What a step must do in the model. -/
def StepOK (P : Program) (X : Ctx) (ρ : Ren) (s : Sem Next) (w : World) (v : IV) (H : Heap) (W : List (Nat × Chunk)) : Prop :=
  ∃ ρ' x w', Le ρ ρ' ∧ VK ρ ρ' W ∧ relI ρ' v x ∧ Inv X ρ' (upd H W) w' ∧ (s.run P w = .ok (.value x) w' ∨ (s.run P w = .ok .skip w' ∧ x = undef))

theorem StepOK.pure {P : Program} {X : Ctx} {ρ : Ren} {s : Sem Next} {w : World} {v : IV} {H : Heap} {x : Value} (hi : Inv X ρ H w) (hr : relI ρ v x)
    (h : s.run P w = .ok (.value x) w) : StepOK P X ρ s w v H [] := ⟨ρ, x, w, Le.refl _, VK.refl _ _, hr, hi, .inl h⟩

/-! #### segments of a row -/
def seg (row : List SV) (o n : Nat) : Option (List SV) :=
  if o = 0 ∧ n = row.length then some row else if o + n ≤ row.length then some ((row.drop o).take n) else none

theorem seg_spec {row : List SV} {o n : Nat} {l : List SV} (h : seg row o n = some l) : l.length = n ∧ o + n ≤ row.length ∧ ∀ j x, l[j]? = some x → row[o + j]? = some x := by
  unfold seg at h
  split at h
  · rename_i c; cases h; obtain ⟨rfl, rfl⟩ := c; exact ⟨rfl, by omega, fun j x hj => by simpa using hj⟩
  · split at h
    · cases h
      refine ⟨by simp; omega, by assumption, fun j x hj => ?_⟩
      have hj' := (List.getElem?_eq_some_iff.1 hj).1
      simp at hj'
      rw [List.getElem?_take_of_lt (by omega), List.getElem?_drop] at hj
      exact hj
    · cases h

def spl (row : List SV) (o : Nat) (vs : List SV) : Option (List SV) :=
  if o = 0 ∧ vs.length = row.length then some vs else if o + vs.length ≤ row.length then some (row.take o ++ vs ++ row.drop (o + vs.length)) else none

theorem spl_spec {row : List SV} {o : Nat} {vs l : List SV} (h : spl row o vs = some l) : l.length = row.length ∧ o + vs.length ≤ row.length ∧
    ∀ j x, l[j]? = some x → (o ≤ j ∧ j < o + vs.length ∧ vs[j - o]? = some x) ∨ ((j < o ∨ o + vs.length ≤ j) ∧ row[j]? = some x) := by
  unfold spl at h
  split at h
  · rename_i c; cases h; obtain ⟨rfl, hl⟩ := c
    refine ⟨hl, by omega, fun j x hj => .inl ⟨by omega, ?_, by simpa using hj⟩⟩
    have := (List.getElem?_eq_some_iff.1 hj).1; omega
  · split at h
    · rename_i hle; cases h
      refine ⟨by simp; omega, hle, fun j x hj => ?_⟩
      have ht : (row.take o).length = o := by simp; omega
      by_cases h1 : j < o
      · right; refine ⟨.inl h1, ?_⟩
        rw [List.append_assoc, List.getElem?_append_left (by omega), List.getElem?_take_of_lt h1] at hj; exact hj
      · by_cases h2 : j < o + vs.length
        · left; refine ⟨by omega, h2, ?_⟩
          rw [List.append_assoc, List.getElem?_append_right (by omega), ht, List.getElem?_append_left (by omega)] at hj; exact hj
        · right; refine ⟨.inr (by omega), ?_⟩
          rw [List.getElem?_append_right (by simp; omega), List.getElem?_drop] at hj
          simp only [List.length_append, ht] at hj
          rw [show o + vs.length + (j - (o + vs.length)) = j by omega] at hj; exact hj
    · cases h

/-! #### some rows -/
def segR (els : List (List SV)) (s n : Nat) : Option (List (List SV)) :=
  if s = 0 ∧ n = els.length then some els else if s + n ≤ els.length then some ((els.drop s).take n) else none

theorem segR_spec {els : List (List SV)} {s n : Nat} {r : List (List SV)} (h : segR els s n = some r) : r.length = n ∧ s + n ≤ els.length ∧ ∀ (i : Nat) (row : List SV), r[i]? = some row → els[s + i]? = some row := by
  unfold segR at h
  split at h
  · rename_i c; cases h; obtain ⟨rfl, rfl⟩ := c; exact ⟨rfl, by omega, fun j x hj => by simpa using hj⟩
  · split at h
    · cases h
      refine ⟨by simp; omega, by assumption, fun j x hj => ?_⟩
      have hj' := (List.getElem?_eq_some_iff.1 hj).1
      simp at hj'
      rw [List.getElem?_take_of_lt (by omega), List.getElem?_drop] at hj
      exact hj
    · cases h


/-- The cells behind a pointer: within a row, or of so many whole rows. -/
def rdCells (els : List (List SV)) (i o n : Nat) : Option (List SV) :=
  match els[i]? with
  | some row => match seg row o n with
    | some l => some l
    | none => if o = 0 ∧ row.length ≠ 0 ∧ n = n / row.length * row.length then match segR els i (n / row.length) with
      | some r => some r.flatten
      | none => none
      else none
  | none => none

theorem flatten_get {sz : Nat} : ∀ {r : List (List SV)}, (∀ (i : Nat) (row : List SV), r[i]? = some row → row.length = sz) → r.flatten.length = r.length * sz ∧ ∀ (j : Nat) (x : SV), 0 < sz → r.flatten[j]? = some x → ∃ row, r[j / sz]? = some row ∧ row[j % sz]? = some x
  | [], _ => ⟨by simp, fun j x _ h => by simp at h⟩
  | row :: r, h => by
    have h0 := h 0 row (by simp)
    obtain ⟨h1, h2⟩ := flatten_get (r := r) fun i row hi => h (i + 1) row (by simpa using hi)
    refine ⟨by simp only [List.flatten_cons, List.length_append, h1, h0, List.length_cons, Nat.add_mul, Nat.one_mul]; omega, fun j x hs hj => ?_⟩
    rw [List.flatten_cons] at hj
    by_cases e : j < sz
    · rw [List.getElem?_append_left (by omega)] at hj
      exact ⟨row, by simp [Nat.div_eq_of_lt e], by rw [Nat.mod_eq_of_lt e]; exact hj⟩
    · rw [List.getElem?_append_right (by omega), h0] at hj
      obtain ⟨row', a, b⟩ := h2 (j - sz) x hs hj
      have e1 : j / sz = (j - sz) / sz + 1 := by rw [← Nat.add_div_right _ hs]; congr 1; omega
      have e2 : j % sz = (j - sz) % sz := by rw [← Nat.add_mod_right (j - sz) sz]; congr 1; omega
      exact ⟨row', by rw [e1]; simpa using a, by rw [e2]; exact b⟩

/-! #### running the model's small words -/
section run
variable (P : Program) (w : World)
theorem run_underlying' {t : TypeId} {d : TypeDesc} (h : P.underlying t = some d) : (underlying t).run P w = .ok d w := by simp [underlying, h]
theorem run_typeInfo' {t : TypeId} {i : TypeInfo} (h : P.info? t = some i) : (typeInfo t).run P w = .ok i w := by simp [typeInfo, h]
theorem run_sizeOf' {t : TypeId} {n : Nat} (h : szT P t = some n) : (sizeOf t).run P w = .ok n w := by
  unfold szT at h
  cases hi : P.info? t with
  | none => simp [hi] at h
  | some i => simp [hi] at h; simp [sizeOf, typeInfo, hi, h]
theorem run_isAgg' {t : TypeId} {b : Bool} (h : aggT P t = some b) : (isAgg t).run P w = .ok b w := by
  unfold aggT at h
  unfold isAgg
  split at h <;> simp_all [underlying]
theorem run_zeroValue' {t : TypeId} {i : TypeInfo} {z : Value} (h : P.info? t = some i) (hz : i.zero = some z) : (zeroValue t).run P w = .ok z w := by
  simp [zeroValue, typeInfo, h, hz]
end run

theorem addr_add (b o n : Nat) : (⟨b, o, none⟩ : Addr).add n = ⟨b, o + n, none⟩ := by
  unfold Addr.add; split
  · rename_i h; simp [h]
  · rfl

/-- The cells behind a pointer, read. -/
theorem read_cells {X : Ctx} {ρ : Ren} {H : Heap} {w : World} (hi : Inv X ρ H w) {c i o n : Nat} {own : Bool} {els : List (List SV)} {row l : List SV} {b base sz sz' lim : Nat}
    (hc : H[c]? = some (.rows own sz' els)) (hρ : ρ[c]? = some (.mem b base sz lim)) (hrow : els[i]? = some row) (hs : seg row o n = some l) :
    ∃ vs : List Value, relL ρ l vs ∧ ∀ j v, vs[j]? = some v → w.cell? ⟨b, base + i * sz + o + j, none⟩ = some v := by
  obtain ⟨l', hl', hsat⟩ := hi.sat c _ hc
  rw [hρ] at hl'; cases hl'
  rcases hsat with ⟨h, _⟩ | ⟨b', base', lim', cells, T, lo, hi', he, hw, hsz, hlen, hfit, hfz, hone, hrows⟩
  · cases h
  · cases he
    obtain ⟨hll, hle, hget⟩ := seg_spec hs
    obtain ⟨hrl, hr⟩ := hrows i row hrow
    have ex : ∀ j, ∃ v, j < l.length → ∃ x, l[j]? = some x ∧ cells[base + i * sz + o + j]? = some v ∧ relS ρ x v := fun j => by
      by_cases hj : j < l.length
      · obtain ⟨v, hv, hrel⟩ := hr (o + j) l[j] (hget j _ (by simp [hj]))
        exact ⟨v, fun _ => ⟨l[j], by simp [hj], by rw [← hv, Nat.add_assoc (base + i * sz)], hrel⟩⟩
      · exact ⟨undef, fun h => absurd h hj⟩
    obtain ⟨f, hf⟩ : ∃ f : Nat → Value, ∀ j, j < l.length → ∃ x, l[j]? = some x ∧ cells[base + i * sz + o + j]? = some (f j) ∧ relS ρ x (f j) :=
      ⟨fun j => Classical.choose (ex j), fun j => Classical.choose_spec (ex j)⟩
    refine ⟨(List.range l.length).map f, relL_of_get (by simp) fun j x hx => ?_, fun j v hv => ?_⟩
    · have hj := (List.getElem?_eq_some_iff.1 hx).1
      obtain ⟨y, hy, hcell, hrel⟩ := hf j hj
      rw [hx] at hy; cases hy
      exact ⟨_, by simp [hj], hrel⟩
    · have hj := (List.getElem?_eq_some_iff.1 hv).1
      simp at hj
      simp [hj] at hv
      obtain ⟨y, hy, hcell, hrel⟩ := hf j hj
      subst hv
      simp only [World.cell?, hw, Option.isSome_none, Bool.false_eq_true, if_false]
      exact hcell

theorem read_cells2 {X : Ctx} {ρ : Ren} {H : Heap} {w : World} (hi : Inv X ρ H w) {c i o n : Nat} {own : Bool} {els : List (List SV)} {l : List SV} {b base sz sz' lim : Nat}
    (hc : H[c]? = some (.rows own sz' els)) (hρ : ρ[c]? = some (.mem b base sz lim)) (hs : rdCells els i o n = some l) :
    l.length = n ∧ ∃ vs : List Value, relL ρ l vs ∧ ∀ j v, vs[j]? = some v → w.cell? ⟨b, base + i * sz + o + j, none⟩ = some v := by
  unfold rdCells at hs
  split at hs
  · rename_i row hrow
    split at hs
    · rename_i l' hl'; cases hs
      exact ⟨(seg_spec hl').1, read_cells hi hc hρ hrow hl'⟩
    · split at hs
      · rename_i hcond
        obtain ⟨rfl, h0, hn⟩ := hcond
        split at hs
        · rename_i r hr
          cases hs
          obtain ⟨l', hl', hsat⟩ := hi.sat c _ hc
          rw [hρ] at hl'; cases hl'
          rcases hsat with ⟨h, _⟩ | ⟨b', base', lim', cells, T, lo, hi', he, hw, hsz, hlen, hfit, hfz, hone, hrows⟩
          · cases h
          · cases he
            obtain ⟨hrl, hle, hget⟩ := segR_spec hr
            have hrow0 := (hrows i row hrow).1
            have hall : ∀ (k : Nat) (rw : List SV), r[k]? = some rw → rw.length = sz := fun k rw hk => (hrows (i + k) rw (hget k rw hk)).1
            obtain ⟨hfl, hfg⟩ := flatten_get hall
            have hln : r.flatten.length = n := by rw [hfl, hrl, ← hrow0]; exact hn.symm
            refine ⟨hln, ?_⟩
            have ex : ∀ j, ∃ v, j < r.flatten.length → ∃ x, r.flatten[j]? = some x ∧ cells[base + i * sz + 0 + j]? = some v ∧ relS ρ x v := fun j => by
              by_cases hj : j < r.flatten.length
              · obtain ⟨rw', h1, h2⟩ := hfg j r.flatten[j] hsz (by simp [hj])
                obtain ⟨v, hv, hrel⟩ := (hrows (i + j / sz) rw' (hget _ _ h1)).2 (j % sz) _ h2
                refine ⟨v, fun _ => ⟨r.flatten[j], by simp [hj], ?_, hrel⟩⟩
                rw [← hv]; congr 1
                rw [Nat.add_mul]
                have := Nat.div_add_mod j sz
                rw [Nat.mul_comm] at this
                omega
              · exact ⟨undef, fun h => absurd h hj⟩
            obtain ⟨f, hf⟩ : ∃ f : Nat → Value, ∀ j, j < r.flatten.length → ∃ x, r.flatten[j]? = some x ∧ cells[base + i * sz + 0 + j]? = some (f j) ∧ relS ρ x (f j) :=
              ⟨fun j => Classical.choose (ex j), fun j => Classical.choose_spec (ex j)⟩
            refine ⟨(List.range r.flatten.length).map f, relL_of_get (by simp) fun j x hx => ?_, fun j v hv => ?_⟩
            · have hj := (List.getElem?_eq_some_iff.1 hx).1
              obtain ⟨y, hy, hcell, hrel⟩ := hf j hj
              rw [hx] at hy; cases hy
              exact ⟨_, by rw [List.getElem?_map, List.getElem?_range hj]; rfl, hrel⟩
            · have hj := (List.getElem?_eq_some_iff.1 hv).1
              simp only [List.length_map, List.length_range] at hj
              have e : ((List.range r.flatten.length).map f)[j]? = some (f j) := by rw [List.getElem?_map, List.getElem?_range hj]; rfl
              rw [e] at hv
              cases hv
              obtain ⟨y, hy, hcell, hrel⟩ := hf j hj
              simp only [World.cell?, hw, Option.isSome_none, Bool.false_eq_true, if_false]
              exact hcell
        · cases hs
      · cases hs
  · cases hs

def setBlk (w : World) (b : Nat) (o : Obj) : World := { w with heap := w.heap.setIfInBounds b o }

theorem run_storeList (P : Program) {b : Nat} {T : TypeId} {lo hi : Nat} : ∀ (vs : List Value) (i o : Nat) (w : World) (cs : Array Value), w.heap[b]? = some (.cells cs T (lo, hi)) →
    o + i + vs.length ≤ cs.size → (∀ x, x < cs.size → ¬ (lo ≤ x ∧ x < hi)) → (∀ v ∈ vs, v.oneCell' = true) →
    ∃ cs', (storeCells ⟨b, o, none⟩ vs i).run P w = .ok () (setBlk w b (.cells cs' T (lo, hi))) ∧ cs'.size = cs.size ∧
      (∀ j, o + i ≤ j → j < o + i + vs.length → cs'[j]? = vs[j - (o + i)]?) ∧ (∀ j, j < o + i ∨ o + i + vs.length ≤ j → cs'[j]? = cs[j]?)
  | [], i, o, w, cs, hw, _, _, _ => by
    refine ⟨cs, ?_, rfl, fun j h1 h2 => by simp at h2; omega, fun _ _ => rfl⟩
    have : setBlk w b (.cells cs T (lo, hi)) = w := by
      unfold setBlk
      have hlt := (Array.getElem?_eq_some_iff.1 hw)
      congr 1
      apply Array.ext_getElem?
      intro k
      rw [Array.getElem?_setIfInBounds]
      split
      · rename_i e; subst e; split
        · exact hw.symm
        · rename_i h; exact absurd hlt.1 h
      · rfl
    rw [this]; rfl
  | v :: vs, i, o, w, cs, hw, hfit, hfz, hone => by
    have hlt : o + i < cs.size := by simp at hfit; omega
    have hcell : w.cell? ⟨b, o + i, none⟩ = some cs[o + i] := by simp [World.cell?, hw, hlt]
    have hfr : w.frozen? ⟨b, o + i, none⟩ = false := by
      simp only [World.frozen?, hw]
      have := hfz (o + i) hlt
      simp only [Bool.and_eq_false_iff, decide_eq_false_iff_not]
      omega
    have hset : w.setCell ⟨b, o + i, none⟩ v = setBlk w b (.cells (cs.setIfInBounds (o + i) v) T (lo, hi)) := by
      unfold World.setCell setBlk
      congr 1
      apply Array.ext_getElem?
      intro k
      rw [Array.getElem?_modify, Array.getElem?_setIfInBounds]
      by_cases e : b = k
      · subst e
        simp only [if_true]
        rw [if_pos (Array.getElem?_eq_some_iff.1 hw).1, hw]
        rfl
      · rw [if_neg e, if_neg e]
    have hw2 : (setBlk w b (.cells (cs.setIfInBounds (o + i) v) T (lo, hi))).heap[b]? = some (.cells (cs.setIfInBounds (o + i) v) T (lo, hi)) := by
      simp [setBlk, (Array.getElem?_eq_some_iff.1 hw).1]
    obtain ⟨cs', hrun, hsz, hin, hout⟩ := run_storeList P vs (i + 1) o _ (cs.setIfInBounds (o + i) v) hw2 (by simp at hfit ⊢; omega) (by simpa using hfz) (fun x hx => hone x (by simp [hx]))
    refine ⟨cs', ?_, by simpa using hsz, fun j h1 h2 => ?_, fun j h => ?_⟩
    · have hst : (store ⟨b, o + i, none⟩ v).run P w = .ok () (setBlk w b (.cells (cs.setIfInBounds (o + i) v) T (lo, hi))) := by
        rw [run_store P w _ v _ (hone v (by simp)), hcell]; simp only [hfr]; simp [hset]
      simp only [storeCells, Sem.run_bind, addr_add, hst, Result.andThen_ok, hrun]
      congr 1
      simp [setBlk]
    · by_cases e : j = o + i
      · subst e
        rw [hout (o + i) (by omega)]
        simp [hlt]
      · rw [hin j (by omega) (by simp at h2; omega)]
        rw [show j - (o + i) = (j - (o + (i + 1))) + 1 by omega]
        simp
    · rw [hout j (by simp at h; omega)]
      rw [Array.getElem?_setIfInBounds, if_neg (by simp at h; omega)]

end Go.Ev
