/- Another look at the same state: chunks that nobody needs are let go, the others stand in another order; a nil slice is a slice of an empty chunk. -/
import Derived.Test.YtnmobamjinponaaEvC
import Derived.Maps.RangeRun
import Derived.WideKeyRuns
set_option linter.unusedVariables false
namespace Go.Ev
open Go.RowKit

/-- Whatever the one state describes the other one does, the first N chunks at the same places. -/
def Wk (N : Nat) (tm : TM) (H : Heap) (tm1 : TM) (H1 : Heap) : Prop :=
  ∀ (X : Ctx) (n : Nat) (ρ : Ren) (a : Act) (w : World), RelA X n ρ tm a → Inv X ρ H w → ∃ ρ1, LeN N ρ ρ1 ∧ RelA X n ρ1 tm1 a ∧ Inv X ρ1 H1 w
/-- The same of a result. -/
def WkR (N : Nat) (r : IV) (H : Heap) (r1 : IV) (H1 : Heap) : Prop :=
  ∀ (X : Ctx) (ρ : Ren) (v : Value) (w : World), relI ρ r v → Inv X ρ H w → ∃ ρ1, LeN N ρ ρ1 ∧ relI ρ1 r1 v ∧ Inv X ρ1 H1 w

theorem Wk.refl {N : Nat} {tm : TM} {H : Heap} : Wk N tm H tm H := fun _ _ ρ _ _ ha hi => ⟨ρ, LeN.refl _ _, ha, hi⟩
theorem Wk.trans {N : Nat} {tm tm1 tm2 : TM} {H H1 H2 : Heap} (h : Wk N tm H tm1 H1) (k : Wk N tm1 H1 tm2 H2) : Wk N tm H tm2 H2 := fun X n ρ a w ha hi =>
  let ⟨ρ1, l1, a1, i1⟩ := h X n ρ a w ha hi
  let ⟨ρ2, l2, a2, i2⟩ := k X n ρ1 a w a1 i1
  ⟨ρ2, l1.trans l2, a2, i2⟩
theorem WkR.refl {N : Nat} {r : IV} {H : Heap} : WkR N r H r H := fun _ ρ _ _ ha hi => ⟨ρ, LeN.refl _ _, ha, hi⟩
theorem WkR.trans {N : Nat} {r r1 r2 : IV} {H H1 H2 : Heap} (h : WkR N r H r1 H1) (k : WkR N r1 H1 r2 H2) : WkR N r H r2 H2 := fun X ρ v w ha hi =>
  let ⟨ρ1, l1, a1, i1⟩ := h X ρ v w ha hi
  let ⟨ρ2, l2, a2, i2⟩ := k X ρ1 v w a1 i1
  ⟨ρ2, l1.trans l2, a2, i2⟩

/-- Some chunks alone, in this order. -/
def gcH (σ : List Nat) (H : Heap) : Heap := σ.map fun c => mapC (pullS σ) (pullI σ) ((H[c]?).getD .gone)
def gcT (σ : List Nat) (tm : TM) : TM := tm.map fun p => (p.1, pullI σ p.2)
theorem get_gcT {σ : List Nat} {t : Nat} : ∀ {tm : TM}, get (gcT σ tm) t = pullI σ (get tm t)
  | [] => rfl
  | (s, v) :: tm => by
    have ih := get_gcT (σ := σ) (t := t) (tm := tm)
    unfold gcT at ih ⊢
    rw [List.map_cons]
    simp only [get]
    by_cases e : s = t
    · rw [if_pos e, if_pos e]
    · rw [if_neg e, if_neg e]; exact ih

theorem leN_pull {N : Nat} {σ : List Nat} {ρ : Ren} (h : σ.take N = List.range N) : LeN N ρ (pullR σ ρ) := by
  have hlen : N ≤ σ.length := by
    have := congrArg List.length h
    simp at this; omega
  refine ⟨fun _ => by simp [pullR]; exact hlen, fun c l hc hl _ => ?_⟩
  have : σ[c]? = some c := by
    have := List.getElem?_take_of_lt (l := σ) hc
    rw [← this, h, List.getElem?_range hc]
  exact pullR_at this hl

theorem inv_gc {X : Ctx} {ρ : Ren} {H : Heap} {w : World} (h : Inv X ρ H w) {σ : List Nat} (hnd : σ.Nodup) : Inv X (pullR σ ρ) (gcH σ H) w := by
  have hw := h.obj1
  have look : ∀ {k c : Nat} {l : Pl} {ch : Chunk}, σ[k]? = some c → H[c]? = some ch → (pullR σ ρ)[k]? = some l → ρ[c]? = some l := by
    intro k c l ch hk hch hl
    obtain ⟨l', hl', _⟩ := h.sat c ch hch
    rw [pullR_at hk hl'] at hl
    rw [hl', hl]
  have getG : ∀ {k : Nat} {x : Chunk}, (gcH σ H)[k]? = some x → ∃ c, σ[k]? = some c ∧ x = mapC (pullS σ) (pullI σ) ((H[c]?).getD .gone) := by
    intro k x hk
    simp only [gcH, List.getElem?_map] at hk
    cases hc : σ[k]? with
    | none => rw [hc] at hk; cases hk
    | some c => rw [hc] at hk; simp at hk; exact ⟨c, rfl, hk.symm⟩
  -- a chunk that isn't gone was one
  have was : ∀ {c : Nat} {x : Chunk}, x = mapC (pullS σ) (pullI σ) ((H[c]?).getD .gone) → x ≠ .gone → ∃ ch, H[c]? = some ch ∧ x = mapC (pullS σ) (pullI σ) ch := by
    intro c x hx hg
    cases hc : H[c]? with
    | none => rw [hc] at hx; exact absurd hx hg
    | some ch => rw [hc] at hx; exact ⟨ch, rfl, hx⟩
  have notGone : ∀ {x : Chunk}, x.owned = true → x ≠ .gone := fun h e => by subst e; cases h
  refine ⟨h.os, h.tape, h.output, h.drawn, h.size, h.old, by simp [pullR, gcH], ?_, ?_, ?_, ?_, ?_⟩
  · intro k b u hk
    simp only [pullR, List.getElem?_map] at hk
    cases hc : σ[k]? with
    | none => rw [hc] at hk; cases hk
    | some c =>
      rw [hc] at hk; simp at hk
      cases hr : ρ[c]? with
      | none => rw [hr] at hk; cases hk
      | some l => rw [hr] at hk; simp at hk; subst hk; exact hw _ _ _ hr
  · intro k x hk
    obtain ⟨c, hc, rfl⟩ := getG hk
    cases hH : H[c]? with
    | none => exact ⟨(ρ[c]?).getD .void, by simp [pullR, hc], trivial⟩
    | some ch =>
      obtain ⟨l, hl, hs⟩ := h.sat c ch hH
      exact ⟨l, pullR_at hc hl, sat_map (pull_mv hw) hs⟩
  · intro k x l b hk ho hl hb
    obtain ⟨c, hc, hx⟩ := getG hk
    obtain ⟨ch, hch, rfl⟩ := was hx (notGone ho)
    rw [owned_map] at ho
    exact h.own c ch l b hch ho (look hc hch hl) hb
  · intro k sz els l b hk hl hb
    obtain ⟨c, hc, hx⟩ := getG hk
    obtain ⟨ch, hch, hx⟩ := was hx (by simp)
    cases ch with
    | rows o sz' els' =>
      simp only [mapC, Chunk.rows.injEq] at hx
      obtain ⟨rfl, rfl, _⟩ := hx
      exact h.ro c _ els' l b hch (look hc hch hl) hb
    | _ => cases hx
  · intro k d x y l m b hkd hk hd hox hoy hl hm hb hmb
    obtain ⟨c, hc, hx⟩ := getG hk
    obtain ⟨e, he, hy⟩ := getG hd
    obtain ⟨ch, hch, rfl⟩ := was hx (notGone hox)
    obtain ⟨eh, heh, rfl⟩ := was hy (notGone hoy)
    rw [owned_map] at hox hoy
    refine h.apart c e ch eh l m b (fun hce => hkd ?_) hch heh hox hoy (look hc hch hl) (look he heh hm) hb hmb
    subst hce
    exact nodup_get hnd hc he

theorem Wk.gc {N : Nat} {tm : TM} {H : Heap} (σ : List Nat) (h : σ.take N = List.range N) (hnd : σ.Nodup) : Wk N tm H (gcT σ tm) (gcH σ H) := fun X n ρ a w ha hi =>
  ⟨pullR σ ρ, leN_pull h, ⟨ha.size, ha.defers, fun t => by rw [get_gcT]; exact relI_pull hi.obj1 (ha.rel t)⟩, inv_gc hi hnd⟩

/-- A result, seen from some chunks. -/
def gcI (σ : List Nat) : IV → IV
  | .t l => .t (l.map (pullI σ))
  | x => pullI σ x
theorem relI_gc {σ : List Nat} {ρ : Ren} (hw : ∀ (c b : Nat) (u : Value), ρ[c]? = some (Pl.obj b u) → u.oneCell' = true) {x : IV} {v : Value} (h : relI ρ x v) : relI (pullR σ ρ) (gcI σ x) v := by
  cases x with
  | s x => exact relI_pull (x := .s x) hw h
  | a l => exact relI_pull (x := .a l) hw h
  | t l => obtain ⟨vs, e, hr⟩ := h; exact ⟨vs, e, relT_map (pull_mv hw).c hr⟩
  | j => trivial
theorem WkR.gc {N : Nat} {r : IV} {H : Heap} (σ : List Nat) (h : σ.take N = List.range N) (hnd : σ.Nodup) : WkR N r H (gcI σ r) (gcH σ H) := fun X ρ v w hr hi =>
  ⟨pullR σ ρ, leN_pull h, relI_gc hi.obj1 hr, inv_gc hi hnd⟩

theorem WkR.to {N : Nat} {r r1 r2 : IV} {H H1 H2 : Heap} (h : WkR N r H r1 H1) (e1 : r1 = r2) (e2 : H1 = H2) : WkR N r H r2 H2 := by subst e1; subst e2; exact h

/-! #### nil slices -/
theorem inv_nil {X : Ctx} {ρ : Ren} {H : Heap} {w : World} (h : Inv X ρ H w) (sz : Nat) : Inv X (ρ ++ [.nowhere]) (H ++ [.rows true sz []]) w :=
  h.push .nowhere (.rows true sz []) rfl rfl rfl (Nat.le_refl _) (fun _ _ => rfl) (fun _ _ h => by cases h) (.inl ⟨rfl, rfl⟩) (fun _ b hb => by cases hb) (fun _ _ h => by cases h)
theorem rel_nil {ρ : Ren} {H : Heap} (hlen : ρ.length = H.length) {v : Value} (h : relS ρ (.raw (.slice none 0 0)) v) : relS (ρ ++ [.nowhere]) (.slice H.length 0 0) v := by
  obtain ⟨rfl, _⟩ := h
  exact .inl ⟨by rw [← hlen]; simp, rfl, rfl, rfl⟩

theorem inv_cell {X : Ctx} {ρ : Ren} {H : Heap} {w : World} (h : Inv X ρ H w) {c sz i o : Nat} {own : Bool} {els : List (List SV)} {row : List SV} {x y : SV} (hc : H[c]? = some (.rows own sz els)) (hrow : els[i]? = some row) (hx : row[o]? = some x)
    (hxy : ∀ v, relS ρ x v → relS ρ y v) : Inv X ρ (H.set c (.rows own sz (els.set i (row.set o y)))) w := by
  have hlt : c < H.length := (List.getElem?_eq_some_iff.1 hc).1
  have hil : i < els.length := (List.getElem?_eq_some_iff.1 hrow).1
  have hol : o < row.length := (List.getElem?_eq_some_iff.1 hx).1
  have get_c : (H.set c (.rows own sz (els.set i (row.set o y))))[c]? = some (.rows own sz (els.set i (row.set o y))) := by simp [hlt]
  have get_o : ∀ {d : Nat}, d ≠ c → (H.set c (.rows own sz (els.set i (row.set o y))))[d]? = H[d]? := fun hd => by rw [List.getElem?_set_ne (Ne.symm hd)]
  have own_old : ∀ {d : Nat} {x : Chunk}, (H.set c (.rows own sz (els.set i (row.set o y))))[d]? = some x → ∃ x', H[d]? = some x' ∧ x'.owned = x.owned ∧ ((∃ sz els, x = .rows false sz els) → ∃ els', ∃ sz', (∃ els, x = .rows false sz' els) ∧ x' = .rows false sz' els') := by
    intro d x hd
    by_cases e : d = c
    · subst e; rw [get_c] at hd; cases hd
      refine ⟨_, hc, by cases own <;> rfl, ?_⟩
      rintro ⟨sz2, els2, e2⟩
      simp only [Chunk.rows.injEq] at e2
      obtain ⟨rfl, rfl, _⟩ := e2
      exact ⟨els, _, ⟨_, rfl⟩, rfl⟩
    · rw [get_o e] at hd
      exact ⟨x, hd, rfl, fun ⟨sz2, els2, e2⟩ => ⟨els2, sz2, ⟨els2, e2⟩, e2⟩⟩
  refine ⟨h.os, h.tape, h.output, h.drawn, h.size, h.old, by simp [h.len], h.obj1, ?_, ?_, ?_, ?_⟩
  · intro d z hd
    by_cases e : d = c
    · subst e; rw [get_c] at hd; cases hd
      obtain ⟨l, hl, hs⟩ := h.sat d _ hc
      refine ⟨l, hl, ?_⟩
      rcases hs with ⟨h1, h2⟩ | ⟨b, base, lim, cells, T, lo, hi, h1, h2, h3, h4, h5, h6, h7, h8⟩
      · subst h2; simp at hrow
      · refine .inr ⟨b, base, lim, cells, T, lo, hi, h1, h2, h3, by simpa using h4, h5, h6, h7, ?_⟩
        intro k rw' hk
        by_cases ek : k = i
        · subst ek
          rw [List.getElem?_set_self hil] at hk; cases hk
          obtain ⟨h9, h10⟩ := h8 k row hrow
          refine ⟨by simpa using h9, fun p z hz => ?_⟩
          by_cases ep : p = o
          · subst ep
            rw [List.getElem?_set_self hol] at hz; cases hz
            obtain ⟨v, hv, hr⟩ := h10 p x hx
            exact ⟨v, hv, hxy v hr⟩
          · rw [List.getElem?_set_ne (Ne.symm ep)] at hz; exact h10 p z hz
        · rw [List.getElem?_set_ne (Ne.symm ek)] at hk; exact h8 k rw' hk
    · rw [get_o e] at hd; exact h.sat d z hd
  · intro d z l b hd ho hl hb
    obtain ⟨x', h1, h2, _⟩ := own_old hd
    exact h.own d x' l b h1 (h2.trans ho) hl hb
  · intro d sz2 els2 l b hd hl hb
    obtain ⟨x', h1, _, h3⟩ := own_old hd
    obtain ⟨els', sz', ⟨els3, e3⟩, rfl⟩ := h3 ⟨_, _, rfl⟩
    cases e3
    exact h.ro d _ els' l b h1 hl hb
  · intro d e z y' l m b hde hd he hoz hoy hl hm hb hmb
    obtain ⟨x1, h1, h2, _⟩ := own_old hd
    obtain ⟨x2, h3, h4, _⟩ := own_old he
    exact h.apart d e x1 x2 l m b hde h1 h3 (h2.trans hoz) (h4.trans hoy) hl hm hb hmb

/-! #### a slice as all of a chunk of its own -/
/-- The chunk behind a slice is let go; its elements are a new chunk. -/
theorem inv_own {X : Ctx} {ρ : Ren} {H : Heap} {w : World} (h : Inv X ρ H w) {d s n sz : Nat} {dels r : List (List SV)} (hd : H[d]? = some (.rows true sz dels)) (hs : segR dels s n = some r) :
    ∃ l, Inv X (ρ ++ [l]) (H.set d .gone ++ [.rows true sz r]) w ∧ ∀ v, relS ρ (.slice d s n) v → relS (ρ ++ [l]) (.slice H.length 0 n) v := by
  obtain ⟨l0, hl0, hsat⟩ := h.sat d _ hd
  have hdrop := h.drop d
  have hlen : (H.set d .gone).length = H.length := by simp
  obtain ⟨hrl, hle, hget⟩ := segR_spec hs
  have hup : ∀ ch, up1 (H.set d .gone) H.length ch = H.set d .gone ++ [ch] := fun ch => by unfold up1; rw [if_pos hlen.symm]
  have had : ∀ l, addR ρ H.length l = ρ ++ [l] := fun l => by unfold addR; rw [if_pos h.len.symm]
  have hat : ∀ l, (ρ ++ [l])[H.length]? = some l := fun l => by rw [← h.len]; simp
  rcases hsat with ⟨rfl, rfl⟩ | ⟨b, base, lim, cells, T, lo, hi, rfl, hw, hsz, hlim, hfit, hfz, hone, hrows⟩
  · refine ⟨.nowhere, ?_, fun v hv => ?_⟩
    · have hr : r = [] := by
        apply List.eq_nil_of_length_eq_zero
        simp at hle; omega
      subst hr
      exact hdrop.push .nowhere (.rows true sz []) rfl rfl rfl (Nat.le_refl _) (fun _ _ => rfl) (fun _ _ h => by cases h) (.inl ⟨rfl, rfl⟩) (fun _ b hb => by cases hb) (fun _ _ h => by cases h)
    · rcases hv with ⟨_, h1, h2, h3⟩ | ⟨_, _, _, _, _, hc, _⟩ | ⟨_, _, _, _, _, hc, _⟩
      · exact .inl ⟨hat _, rfl, h2, h3⟩
      · rw [hl0] at hc; cases hc
      · rw [hl0] at hc; cases hc
  · have hml : s * sz + (lim - s) * sz = lim * sz := by rw [← Nat.add_mul]; congr 1; omega
    refine ⟨.mem b (base + s * sz) sz (lim - s), ?_, fun v hv => ?_⟩
    · have := hdrop.take (m := H.length) (.inl hlen.symm) (.mem b (base + s * sz) sz (lim - s)) (.rows true sz r) (fun _ _ => by simp)
        (.inr ⟨b, base + s * sz, lim - s, cells, T, lo, hi, rfl, hw, hsz, by rw [hrl]; omega, by omega, hfz, hone, ?_⟩) (fun b' hb' => ?_) (fun _ _ => by simp) ?_
      · rwa [hup, had] at this
      · intro i row hi
        obtain ⟨h1, h2⟩ := hrows (s + i) row (hget i row hi)
        refine ⟨h1, fun o x hx => ?_⟩
        obtain ⟨v, hv, hr⟩ := h2 o x hx
        refine ⟨v, ?_, hr.pre (by rw [had]; exact Le.app _ _)⟩
        rw [← hv]; congr 1; rw [Nat.add_mul]; omega
      · simp only [Pl.blk, Option.some.injEq] at hb'
        subst hb'
        exact h.own d _ _ b hd rfl hl0 rfl
      · intro e x k b' he hox hk hkb hbb
        simp only [Pl.blk, Option.some.injEq] at hbb
        subst hbb
        by_cases e1 : e = d
        · subst e1
          rw [List.getElem?_set] at he
          simp at he
          rw [← he.2] at hox; cases hox
        · rw [List.getElem?_set_ne (Ne.symm e1)] at he
          exact h.apart e d x _ k _ b e1 he hd hox rfl hk hl0 hkb rfl
    · rcases hv with ⟨hc, _⟩ | ⟨b', base', sz', lim', cap, hc, rfl, h1, h2⟩ | ⟨b', base', sz', lim', off, hc, rfl, rfl⟩
      · rw [hl0] at hc; cases hc
      · rw [hl0] at hc; cases hc
        refine .inr (.inl ⟨b, base + s * sz, sz, lim - s, cap, hat _, by simp, h1, by omega⟩)
      · rw [hl0] at hc; cases hc
        exact .inr (.inr ⟨b, base + s * sz, sz, lim - s, off, hat _, rfl, rfl⟩)

/-- The slice in a cell, as all of a new chunk (of elements of so many cells, where it is nil). -/
def canH (sz c i o : Nat) (H : Heap) : Heap :=
  match H[c]? with
  | some (.rows own sz' els) => match els[i]? with
    | some row => match row[o]? with
      | some (.raw (.slice none 0 0)) => H.set c (.rows own sz' (els.set i (row.set o (.slice H.length 0 0)))) ++ [.rows true sz []]
      | some (.slice d s n) => if d = c then H ++ [.gone] else match H[d]? with
        | some (.rows true szd dels) => match segR dels s n with
          | some r => (H.set d .gone).set c (.rows own sz' (els.set i (row.set o (.slice H.length 0 n)))) ++ [.rows true szd r]
          | none => H ++ [.gone]
        | _ => H ++ [.gone]
      | _ => H ++ [.gone]
    | none => H ++ [.gone]
  | _ => H ++ [.gone]

theorem inv_gone {X : Ctx} {ρ : Ren} {H : Heap} {w : World} (h : Inv X ρ H w) : Inv X (ρ ++ [.void]) (H ++ [.gone]) w :=
  h.push .void .gone rfl rfl rfl (Nat.le_refl _) (fun _ _ => rfl) (fun _ _ h => by cases h) trivial (fun h => by cases h) (fun _ _ h => by cases h)

theorem inv_can {X : Ctx} {ρ : Ren} {H : Heap} {w : World} (h : Inv X ρ H w) (sz c i o : Nat) : ∃ l, Inv X (ρ ++ [l]) (canH sz c i o H) w := by
  unfold canH
  split
  · rename_i own sz' els hc
    have hlt : c < H.length := (List.getElem?_eq_some_iff.1 hc).1
    split
    · rename_i row hrow
      split
      · rename_i hx
        refine ⟨.nowhere, ?_⟩
        have h2 := inv_cell (y := .slice H.length 0 0) (inv_nil h sz) (c := c) (i := i) (o := o) (by rw [List.getElem?_append_left hlt]; exact hc) hrow hx (fun v hv => by
          obtain ⟨rfl, _⟩ := hv
          exact .inl ⟨by rw [← h.len]; simp, rfl, rfl, rfl⟩)
        rwa [List.set_append_left _ _ hlt] at h2
      · rename_i d s n hx
        split
        · exact ⟨_, inv_gone h⟩
        · rename_i hdc
          split
          · rename_i szd dels hd
            split
            · rename_i r hs
              obtain ⟨l, h1, h2⟩ := inv_own h hd hs
              refine ⟨l, ?_⟩
              have hlt2 : c < (H.set d .gone).length := by simpa using hlt
              have hc2 : (H.set d .gone ++ [.rows true szd r])[c]? = some (.rows own sz' els) := by
                rw [List.getElem?_append_left hlt2, List.getElem?_set_ne hdc]; exact hc
              have h3 := inv_cell (y := .slice H.length 0 n) h1 hc2 hrow hx (fun v hv => ?_)
              · rwa [List.set_append_left _ _ hlt2] at h3
              · -- the cell as the old renaming has it
                refine h2 v ?_
                have hdl : d < ρ.length := by rw [h.len]; exact (List.getElem?_eq_some_iff.1 hd).1
                have eq : (ρ ++ [l])[d]? = ρ[d]? := List.getElem?_append_left hdl
                rcases hv with ⟨h5, h6⟩ | ⟨b, base, sz2, lim, cap, h5, h6⟩ | ⟨b, base, sz2, lim, off, h5, h6⟩
                · exact .inl ⟨by rw [← eq]; exact h5, h6⟩
                · exact .inr (.inl ⟨b, base, sz2, lim, cap, by rw [← eq]; exact h5, h6⟩)
                · exact .inr (.inr ⟨b, base, sz2, lim, off, by rw [← eq]; exact h5, h6⟩)
            · exact ⟨_, inv_gone h⟩
          · exact ⟨_, inv_gone h⟩
      · exact ⟨_, inv_gone h⟩
    · exact ⟨_, inv_gone h⟩
  · exact ⟨_, inv_gone h⟩

/-- Many cells, one behind the other. -/
def canL : List (Nat × Nat × Nat × Nat) → Heap → Heap
  | [], H => H
  | (sz, c, i, o) :: l, H => canL l (canH sz c i o H)
theorem inv_canL {X : Ctx} {w : World} : ∀ (l : List (Nat × Nat × Nat × Nat)) {ρ : Ren} {H : Heap}, Inv X ρ H w → ∃ ρ1, Le ρ ρ1 ∧ Inv X ρ1 (canL l H) w
  | [], ρ, _, h => ⟨ρ, Le.refl _, h⟩
  | (sz, c, i, o) :: l, ρ, H, h => by
    obtain ⟨k, h1⟩ := inv_can h sz c i o
    obtain ⟨ρ1, h2, h3⟩ := inv_canL l h1
    exact ⟨ρ1, (Le.app _ _).trans h2, h3⟩

/-- Which chunks stay: an old one by its number, or the j-th of the new ones. -/
def patL (n : Nat) : List (Nat ⊕ Nat) → List Nat
  | [] => []
  | .inl c :: l => c :: patL n l
  | .inr j :: l => (n + j) :: patL n l

theorem Wk.can {N : Nat} {tm : TM} {H : Heap} (l : List (Nat × Nat × Nat × Nat)) (pat : List (Nat ⊕ Nat)) (h : (patL H.length pat).take N = List.range N) (hnd : (patL H.length pat).Nodup) :
    Wk N tm H (gcT (patL H.length pat) tm) (gcH (patL H.length pat) (canL l H)) := fun X n ρ a w ha hi => by
  obtain ⟨ρ1, h1, h2⟩ := inv_canL l hi
  obtain ⟨ρ2, h3, h4, h5⟩ := Wk.gc (N := N) (patL H.length pat) h hnd X n ρ1 a w (ha.pre h1) h2
  exact ⟨ρ2, (h1.toN N).trans h3, h4, h5⟩
theorem WkR.can {N : Nat} {r : IV} {H : Heap} (l : List (Nat × Nat × Nat × Nat)) (pat : List (Nat ⊕ Nat)) (h : (patL H.length pat).take N = List.range N) (hnd : (patL H.length pat).Nodup) :
    WkR N r H (gcI (patL H.length pat) r) (gcH (patL H.length pat) (canL l H)) := fun X ρ v w ha hi => by
  obtain ⟨ρ1, h1, h2⟩ := inv_canL l hi
  obtain ⟨ρ2, h3, h4, h5⟩ := WkR.gc (N := N) (patL H.length pat) h hnd X ρ1 v w (ha.pre h1) h2
  exact ⟨ρ2, (h1.toN N).trans h3, h4, h5⟩

/-- The slice in a temporary, as all of a new chunk. -/
def canT (sz t : Nat) (s : TM × Heap) : TM × Heap :=
  match get s.1 t with
  | .s (.raw (.slice none 0 0)) => ((t, .s (.slice s.2.length 0 0)) :: s.1, s.2 ++ [.rows true sz []])
  | .s (.slice d o n) => match s.2[d]? with
    | some (.rows true szd dels) => match segR dels o n with
      | some r => ((t, .s (.slice s.2.length 0 n)) :: s.1, s.2.set d .gone ++ [.rows true szd r])
      | none => (s.1, s.2 ++ [.gone])
    | _ => (s.1, s.2 ++ [.gone])
  | _ => (s.1, s.2 ++ [.gone])
def canTL : List (Nat × Nat) → TM × Heap → TM × Heap
  | [], s => s
  | (sz, t) :: l, s => canTL l (canT sz t s)

theorem relA_tmp {X : Ctx} {n : Nat} {ρ : Ren} {tm : TM} {a : Act} {l : Pl} {t : Nat} {y : IV} (ha : RelA X n ρ tm a) (h : ∀ v, relI ρ (get tm t) v → relI (ρ ++ [l]) y v) : RelA X n (ρ ++ [l]) ((t, y) :: tm) a :=
  ⟨ha.size, ha.defers, fun s => by
    have hs := ha.rel s
    simp only [get]
    by_cases e : t = s
    · subst e; rw [if_pos rfl]; exact h _ hs
    · rw [if_neg e]; exact hs.pre (Le.app _ _)⟩

theorem canT_ok {X : Ctx} {n : Nat} {ρ : Ren} {tm : TM} {H : Heap} {a : Act} {w : World} (sz t : Nat) (ha : RelA X n ρ tm a) (hi : Inv X ρ H w) : ∃ l, RelA X n (ρ ++ [l]) (canT sz t (tm, H)).1 a ∧ Inv X (ρ ++ [l]) (canT sz t (tm, H)).2 w := by
  have skip : ∃ l, RelA X n (ρ ++ [l]) (tm, H ++ [Chunk.gone]).1 a ∧ Inv X (ρ ++ [l]) (tm, H ++ [Chunk.gone]).2 w := ⟨.void, ha.pre (Le.app _ _), inv_gone hi⟩
  unfold canT
  split
  · rename_i hg
    exact ⟨.nowhere, relA_tmp ha (fun v hv => by simp only at hg; rw [hg] at hv; exact rel_nil hi.len hv), inv_nil hi sz⟩
  · rename_i d o k hg
    split
    · rename_i szd dels hd
      split
      · rename_i r hs
        obtain ⟨l, h1, h2⟩ := inv_own hi hd hs
        exact ⟨l, relA_tmp ha (fun v hv => by simp only at hg; rw [hg] at hv; exact h2 v hv), h1⟩
      · exact skip
    · exact skip
  · exact skip
theorem canTL_ok {X : Ctx} {n : Nat} {a : Act} {w : World} : ∀ (l : List (Nat × Nat)) {ρ : Ren} {s : TM × Heap}, RelA X n ρ s.1 a → Inv X ρ s.2 w → ∃ ρ1, Le ρ ρ1 ∧ RelA X n ρ1 (canTL l s).1 a ∧ Inv X ρ1 (canTL l s).2 w
  | [], ρ, _, ha, hi => ⟨ρ, Le.refl _, ha, hi⟩
  | (sz, t) :: l, ρ, s, ha, hi => by
    obtain ⟨k, h1, h2⟩ := canT_ok sz t ha hi
    obtain ⟨ρ1, h3, h4⟩ := canTL_ok l h1 h2
    exact ⟨ρ1, (Le.app _ _).trans h3, h4⟩

/-- Temporaries and cells, then some chunks alone. -/
theorem Wk.can2 {N : Nat} {tm : TM} {H : Heap} (lt : List (Nat × Nat)) (l : List (Nat × Nat × Nat × Nat)) (pat : List (Nat ⊕ Nat)) (h : (patL H.length pat).take N = List.range N) (hnd : (patL H.length pat).Nodup) :
    Wk N tm H (gcT (patL H.length pat) (canTL lt (tm, H)).1) (gcH (patL H.length pat) (canL l (canTL lt (tm, H)).2)) := fun X n ρ a w ha hi => by
  obtain ⟨ρ0, h0, h1, h2⟩ := canTL_ok lt (s := (tm, H)) ha hi
  obtain ⟨ρ1, h3, h4⟩ := inv_canL l h2
  obtain ⟨ρ2, h5, h6, h7⟩ := Wk.gc (N := N) (patL H.length pat) h hnd X n ρ1 a w (h1.pre h3) h4
  exact ⟨ρ2, ((h0.trans h3).toN N).trans h5, h6, h7⟩

/-! #### where a state may be looked at anew -/
section
variable {P : Program} {X : Ctx} {n N : Nat} {c : Code} {Q : Exit → TM → Heap → Prop} {tm : TM} {H : Heap}

theorem IW_wkN {tm1 : TM} {H1 : Heap} (hN : X.N = N) (h : Wk N tm H tm1 H1) (k : IW P n X c Q tm1 H1) : IW P n X c Q tm H := fun ρ a w ha hi => by
  obtain ⟨ρ1, l1, a1, i1⟩ := h _ n ρ a w ha hi
  exact wpIn_mono (k ρ1 a w a1 i1) fun _ _ _ q => q.back (hN ▸ l1)
/-- A loop: a relation that holds at each round's head, of the state looked at in some way. -/
theorem loopK_wkN (hN : X.N = N) (hok : codeOk n c = true) (I : Nat → TM → Heap → Prop) (m : Nat) (h0 : ∃ tm1 H1, Wk N tm H tm1 H1 ∧ I m tm1 H1)
    (round : ∀ m tm H, I m tm H → ev P n X c (seqQ (fun tm' H' => ∃ m' tm1 H1, m' < m ∧ Wk N tm' H' tm1 H1 ∧ I m' tm1 H1) Q) tm H) : loopK P n X c Q tm H := by
  refine IW_loop (fun m tm H => ∃ tm1 H1, Wk N tm H tm1 H1 ∧ I m tm1 H1) m h0 fun m tm H ⟨tm1, H1, hw, hI⟩ => ?_
  refine IW_wkN hN hw ?_
  refine IW_mono (ev_sound c hok _ _ _ (round m tm1 H1 hI)) fun e tm' H' q => ?_
  cases e with
  | normal =>
    obtain ⟨m', tm2, H2, h1, h2, h3⟩ := q
    exact ⟨m', h1, tm2, H2, h2, h3⟩
  | _ => exact q
theorem loopK_wk (hok : codeOk n c = true) (I : Nat → TM → Heap → Prop) (m : Nat) (h0 : ∃ tm1 H1, Wk N tm H tm1 H1 ∧ I m tm1 H1)
    (round : ∀ m tm H, I m tm H → ev P n (X.at N) c (seqQ (fun tm' H' => ∃ m' tm1 H1, m' < m ∧ Wk N tm' H' tm1 H1 ∧ I m' tm1 H1) Q) tm H) : loopK P n (X.at N) c Q tm H := loopK_wkN rfl hok I m h0 round

theorem callK_wk {f : FuncId} {args : List IV} {k : IV → Heap → Prop} (h : callK P X f args (fun r H' => ∃ r1 H1, WkR H.length r H' r1 H1 ∧ k r1 H1) H) : callK P X f args k H := by
  refine ⟨h.1, fun ρ vs w hargs hi => (h.2 ρ vs w hargs hi).mono ?_⟩
  rintro e w' ⟨v, r, H', ρ', rfl, ⟨r1, H1, hw, hk⟩, hrel, hle, hi'⟩
  obtain ⟨ρ1, l1, a1, i1⟩ := hw X ρ' v w' hrel hi'
  have hfull : LeN ρ.length ρ ρ1 := by
    rw [hi.len]
    exact (hle.toN _).trans l1
  exact ⟨v, r1, H1, ρ1, rfl, hk, a1, hfull.full, i1⟩

theorem funW_of {f : FuncId} {Hr Hw : Heap} {args : List IV} {Post : IV → Heap → Prop}
    (h : ∀ X, callK P X f args (fun r H' => ∃ r1 Hn, WkR (Hr ++ Hw).length r H' r1 (Hr ++ Hn) ∧ Hw.length ≤ Hn.length ∧ Post r1 Hn) (Hr ++ Hw)) : FunW P f Hr Hw args Post := fun X =>
  callK_wk (callK_mono (h X) fun _ _ ⟨r1, Hn, h1, h2, h3⟩ => ⟨r1, _, h1, Hn, rfl, h2, h3⟩)
end
end Go.Ev

/- Maps: a range over one, and its rounds, ideally. -/
namespace Go.Ev
open Go.RowKit

section
variable {P : Program} {X : Ctx} {ρ : Ren} {H : Heap} {w : World} {tm : TM} {k : TM → Heap → Prop} {d : Option Nat} {t : Nat} {p : String} {af : Array Edge} {g : Option (Nat × Bool)}

/-- A new map. -/
theorem makeMap_gen {T : TypeId} (hk : k (put tm d (.s (.ref H.length))) (H ++ [.map 0 []])) : genK P X ⟨d, .makeMap T none, t, p, af, g⟩ k tm H := by
  intro n ρ a w ha hi
  refine ⟨.map (some w.heap.size), w.alloc (.map #[] 0), .s (.ref H.length), H ++ [.map 0 []], ρ ++ [.obj w.heap.size (.map (some w.heap.size))], .inl ?_, .inl ⟨w.heap.size, by rw [← hi.len]; simp⟩, Le.app _ _, ?_, hk⟩
  · simp [execOp, Instr.makeMap]
  · refine hi.push _ _ rfl rfl rfl (by simp) (fun b hb => heap_push_old w _ hb) (fun b u h => by cases h; rfl) ?_ (fun _ b hb => by simp [Pl.blk] at hb; omega) (fun _ _ h => by cases h)
    exact ⟨w.heap.size, #[], rfl, heap_push_new _ _, ⟨[], .refl _, trivial⟩, by simp, by simp⟩

/-- A map's entries in another order. -/
theorem inv_perm (hi : Inv X ρ H w) {c clock : Nat} {es es' : List (IV × IV × Nat)} (hc : H[c]? = some (.map clock es)) (hp : es.Perm es') : Inv X ρ (H.set c (.map clock es')) w := by
  obtain ⟨l, hl, hs⟩ := hi.sat c _ hc
  obtain ⟨b, ents, rfl, hb, ⟨q, hperm, hq⟩, hlt, hnd⟩ := hs
  refine hi.upd hc hl rfl rfl rfl rfl rfl (fun b' _ => rfl) ⟨b, ents, rfl, hb, ⟨q, hperm.trans hp, hq⟩, fun e he => hlt e (hp.mem_iff.2 he), (hp.map _).nodup_iff.1 hnd⟩ rfl
theorem Wk.perm {N : Nat} {c clock : Nat} {es es' : List (IV × IV × Nat)} (hc : H[c]? = some (.map clock es)) (hp : es.Perm es') : Wk N tm H tm (H.set c (.map clock es')) := fun _ _ ρ _ _ ha hi =>
  ⟨ρ, LeN.refl _ _, ha, inv_perm hi hc hp⟩
theorem WkR.perm {N : Nat} {r : IV} {c clock : Nat} {es es' : List (IV × IV × Nat)} (hc : H[c]? = some (.map clock es)) (hp : es.Perm es') : WkR N r H r (H.set c (.map clock es')) := fun _ ρ _ _ hr hi =>
  ⟨ρ, LeN.refl _ _, hr, inv_perm hi hc hp⟩
end
end Go.Ev

/- A region that draws its order, by an invariant over which operations are done. -/
namespace Go.Ev
open Go.RowKit

section
variable {P : Program} {n : Nat} {X : Ctx} {all : Array Oper} {ρ' : Ren} {tm : TM} {H : Heap} {a : Act} {w : World} {k : TM → Heap → Prop} {K : Act → World → Prop} {Q : Exit → Act → World → Prop}

end
end Go.Ev

/- Functions that only reckon, but look at what lies in the world from the start: a contract under a condition on the world that stays. -/
namespace Go.Ev
open Go.RowKit Go.ChangeShapes Go.WideShapes Go.ChangeAt

/-- In whatever state that the function comes to, it holds. -/
def KeepT (T : World → Prop) (X : Ctx) : Prop := ∀ (ρ : Ren) (H : Heap) (w : World), Inv X ρ H w → T w
section
variable {T : World → Prop} {P : Program} {X : Ctx}
theorem KeepT.at (h : KeepT T X) (N : Nat) : KeepT T (X.at N) := fun ρ H w hi => h ρ H w hi.un
end
end Go.Ev

/- Functions that read chunks and look at what lies in the world from the start. -/
namespace Go.Ev
open Go.RowKit Go.ChangeShapes Go.WideShapes Go.ChangeAt
section
variable {T : World → Prop} {P : Program} {X : Ctx} {H : Heap}
end
end Go.Ev

/- Contracts that read chunks, look at what lies in the world from the start, and leave new chunks. -/
namespace Go.Ev
open Go.RowKit
section
variable {P : Program} {X : Ctx} {ρ ρ' : Ren} {w : World} {l : Pl}
end
end Go.Ev

/- Maps with keys of any plain kind: looked up, laid, taken out, counted; function values. -/
namespace Go.Ev
open Go.RowKit

section
variable {P : Program} {X : Ctx} {ρ : Ren} {H : Heap} {w : World} {tm : TM} {k : TM → Heap → Prop} {d : Option Nat} {t : Nat} {p : String} {af : Array Edge} {g : Option (Nat × Bool)}

/-- Does a value stand as a type's values do? -/
def shapeB (P : Program) (kt : TypeId) (x : IV) : Bool := match aggT P kt, x with
  | some true, .a _ => true
  | some false, .s _ => true
  | _, _ => false
theorem shape_pack {kt : TypeId} {x : IV} {v : Value} (hs : shapeB P kt x = true) (hr : relC ρ x v) : ∃ vs, relL ρ x.cells vs ∧ v = pack P kt vs := by
  unfold shapeB at hs
  split at hs
  · rename_i hag
    obtain ⟨cs, rfl, hl⟩ := hr
    exact ⟨cs, hl, by simp [pack, hag]⟩
  · rename_i x hag
    exact ⟨[v], ⟨hr, trivial⟩, by simp [pack, hag]⟩
  · cases hs

mutual
theorem check_leaves (em : Bool) : ∀ (d : Nat) (t : TypeId) (ls : List Leaf), leavesOf P d t = some ls → ∀ (D : Nat), d ≤ D → ∀ (vs : List Value), vs.length = ls.length → (Instr.checkKey em D t (pack P t vs)).run P w = .ok () w
  | 0, t, ls, h, _, _, _, _ => by simp [leavesOf] at h
  | d + 1, t, ls, h, D, hD, vs, hv => by
    obtain ⟨D, rfl⟩ : ∃ D', D = D' + 1 := ⟨D - 1, by omega⟩
    unfold leavesOf at h
    split at h
    · rename_i k hu
      rw [Instr.checkKey]
      simp [run_underlying' P w hu]
    · rename_i hu
      rw [Instr.checkKey]
      simp [run_underlying' P w hu]
    · rename_i hu
      rw [Instr.checkKey]
      simp [run_underlying' P w hu]
    · rename_i n e hu
      split at h
      · rename_i l hl
        split at h
        · rename_i hsz2
          have hsz := hsz2.1
          cases h
          have hag : aggT P t = some true := by simp [aggT, hu]
          obtain ⟨ag, hage, h1⟩ := aggT_leaf hl
          simp only [pack, hag, if_true]
          rw [Instr.checkKey]
          simp only [Sem.run_bind, run_underlying' P w hu, Result.andThen_ok]
          simp only [Std.Legacy.Range.forIn_eq_forIn_range', Std.Legacy.Range.size, Nat.sub_zero, Nat.add_one_sub_one, Nat.div_one]
          have items : ∀ (n : Nat) (pv vs : List Value) (k : Nat), pv.length = k * l.length → vs.length = n * l.length →
              (forIn (List.range' k n) PUnit.unit fun i (_ : PUnit) => do
                Instr.checkKey em D e (← part e (pv ++ vs).toArray (i * (← sizeOf e)))
                pure (ForInStep.yield PUnit.unit) : Sem PUnit).run P w = .ok PUnit.unit w := by
            intro n
            induction n with
            | zero => intro pv vs k _ _; simp
            | succ n ih =>
              intro pv vs k hpv hvs
              obtain ⟨v1, v2, rfl, ev1⟩ : ∃ v1 v2, vs = v1 ++ v2 ∧ v1.length = l.length := ⟨vs.take l.length, vs.drop l.length, (List.take_append_drop _ _).symm, by simp [hvs, Nat.add_mul]⟩
              have p1 := part_run (P := P) (w := w) (t := e) (pre := pv) (mid := v1) (post := v2) hage (by rw [ev1]; exact hsz) (fun h => by rw [ev1]; exact h1 h)
              rw [hpv, List.append_assoc] at p1
              have p3 := check_leaves em d e l hl D (by omega) v1 ev1
              have p4 := ih (pv ++ v1) v2 (k + 1) (by simp [hpv, ev1, Nat.add_mul]) (by simp [ev1, Nat.add_mul] at hvs; omega)
              rw [List.append_assoc] at p4
              rw [List.range'_succ]
              simp only [List.forIn_cons, Sem.run_bind, run_sizeOf' P w hsz, Result.andThen_ok, p1, p3, Sem.run_pure]
              exact p4
          have := items n [] vs 0 (by simp) (by rw [hv]; simp)
          simp at this
          simp [this]
        · cases h
      · cases h
    · rename_i fs hu
      split at h
      · cases h
      · rename_i hst
        have hag : aggT P t = some true := by simp [aggT, hu]
        simp only [pack, hag, if_true]
        split at h
        · rename_i ls' hls
          split at h
          · cases h
            rw [Instr.checkKey]
            simp only [Sem.run_bind, run_underlying' P w hu, Result.andThen_ok]
            rw [← Array.forIn_toList]
            have := check_fields em d 0 fs.toList ls hls D (by omega) [] vs rfl hv
            rw [List.nil_append] at this
            rw [this]
            rfl
          · cases h
        · cases h
    · cases h
theorem check_fields (em : Bool) : ∀ (d off : Nat) (fs : List Field) (ls : List Leaf), leavesFields P d off fs = some ls → ∀ (D : Nat), d ≤ D → ∀ (pv vs : List Value), pv.length = off → vs.length = ls.length →
    (forIn fs PUnit.unit fun f (_ : PUnit) => do
      if f.name ≠ "_" then
        Instr.checkKey em D f.type (← part f.type (pv ++ vs).toArray f.offset)
        pure (ForInStep.yield PUnit.unit)
      else pure (ForInStep.yield PUnit.unit) : Sem PUnit).run P w = .ok PUnit.unit w
  | 0, off, fs, ls, h, _, _, _, _, _, _ => by simp [leavesFields] at h
  | d + 1, off, [], ls, h, D, _, pv, vs, _, _ => by simp
  | d + 1, off, f :: fs, ls, h, D, hD, pv, vs, hpv, hv => by
    unfold leavesFields at h
    simp only at h
    split at h
    · rename_i hfo
      split at h
      · rename_i l hl
        split at h
        · rename_i hsz
          split at h
          · rename_i l2 hl2
            cases h
            rw [List.length_append] at hv
            obtain ⟨v1, v2, rfl, ev1⟩ : ∃ v1 v2, vs = v1 ++ v2 ∧ v1.length = l.length := ⟨vs.take l.length, vs.drop l.length, (List.take_append_drop _ _).symm, by simp [hv]⟩
            obtain ⟨ag, hage, h1⟩ := aggT_leaf hl
            have p1 := part_run (P := P) (w := w) (t := f.type) (pre := pv) (mid := v1) (post := v2) hage (by rw [ev1]; exact hsz) (fun h => by rw [ev1]; exact h1 h)
            rw [hpv, List.append_assoc, ← hfo.2] at p1
            have p3 := check_leaves em d f.type l hl D (by omega) v1 ev1
            have p4 := check_fields em d (off + l.length) fs l2 hl2 D (by omega) (pv ++ v1) v2 (by simp [hpv, ev1]) (by simp [ev1] at hv; omega)
            rw [List.append_assoc] at p4
            simp only [List.forIn_cons, if_pos hfo.1, Sem.run_bind, p1, p3, Result.andThen_ok, Sem.run_pure]
            exact p4
          · cases h
        · cases h
      · cases h
    · cases h
end

theorem leaf_same {l : Leaf} {x y : SV} {v u : Value} (h : leafEq l x y = some true) (hx : relS ρ x v) (hy : relS ρ y u) : v = u ∧ ∀ n, Instr.sameBits n v v = true := by
  cases l with
  | int k =>
    obtain ⟨a, c, rfl, rfl, e⟩ := leafEq_int h
    obtain ⟨rfl, _⟩ := hx; obtain ⟨rfl, _⟩ := hy
    have : a = c := by simpa using e.symm
    subst this
    exact ⟨rfl, fun n => by cases n <;> simp [Instr.sameBits]⟩
  | bool =>
    obtain ⟨a, c, rfl, rfl, e⟩ := leafEq_bool h
    obtain ⟨rfl, _⟩ := hx; obtain ⟨rfl, _⟩ := hy
    have : a = c := by simpa using e.symm
    subst this
    exact ⟨rfl, fun n => by cases n <;> simp [Instr.sameBits]⟩
  | string =>
    obtain ⟨a, c, rfl, rfl, e⟩ := leafEq_string h
    obtain ⟨rfl, _⟩ := hx; obtain ⟨rfl, _⟩ := hy
    have : a = c := by
      have h2 : a.toList = c.toList := by simpa using e.symm
      rw [ByteArray.toList_eq, ByteArray.toList_eq] at h2
      exact WideShapes.bytes_inj h2
    subst this
    exact ⟨rfl, fun n => by cases n <;> simp only [Instr.sameBits] <;> rw [beq_toListBytes] <;> exact beq_self_eq_true _⟩
theorem cells_same : ∀ {ls : List Leaf} {xs ys : List SV} {vs us : List Value}, cellsEq ls xs ys = some true → relL ρ xs vs → relL ρ ys us → vs = us ∧ ∀ n, ∀ v ∈ vs, Instr.sameBits n v v = true
  | [], [], [], [], [], _, _, _ => ⟨rfl, fun _ _ h => by cases h⟩
  | l :: ls, x :: xs, y :: ys, v :: vs, u :: us, h, hx, hy => by
    unfold cellsEq at h
    split at h
    · rename_i b hb
      split at h
      · rename_i c hc
        simp at h
        obtain ⟨rfl, rfl⟩ := h
        obtain ⟨rfl, h1⟩ := leaf_same hb hx.1 hy.1
        obtain ⟨rfl, h2⟩ := cells_same hc hx.2 hy.2
        exact ⟨rfl, fun n v hv => by
          rcases List.mem_cons.1 hv with rfl | hv
          · exact h1 n
          · exact h2 n v hv⟩
      · cases h
    · cases h
  | [], [], [], _ :: _, _, _, h, _ => h.elim
  | [], [], [], [], _ :: _, _, _, h => h.elim
  | [], _ :: _, _, _, _, h, _, _ => by simp [cellsEq] at h
  | [], [], _ :: _, _, _, h, _, _ => by simp [cellsEq] at h
  | _ :: _, [], _, _, _, h, _, _ => by simp [cellsEq] at h
  | _ :: _, _ :: _, [], _, _, h, _, _ => by simp [cellsEq] at h
  | _ :: _, _ :: _, _ :: _, [], _, _, h, _ => h.elim
  | _ :: _, _ :: _, _ :: _, _ :: _, [], _, _, h => h.elim
theorem bits_agg : ∀ (vs : List Value) (n : Nat), (∀ v ∈ vs, Instr.sameBits n v v = true) → ((vs.zip vs).all fun (x, y) => Instr.sameBits n x y) = true
  | [], _, _ => rfl
  | v :: vs, n, h => by
    simp only [List.zip_cons_cons, List.all_cons, h v (by simp), Bool.true_and]
    exact bits_agg vs n fun u hu => h u (List.mem_cons_of_mem _ hu)
theorem pack_same {kt : TypeId} {vs : List Value} (h : ∀ n, ∀ v ∈ vs, Instr.sameBits n v v = true) (hag : aggT P kt = some false → vs.length = 1) (hag0 : aggT P kt ≠ none) : Instr.sameBits 10000 (pack P kt vs) (pack P kt vs) = true := by
  unfold pack
  split
  · simp only [Instr.sameBits, beq_self_eq_true, Bool.true_and]
    have := bits_agg vs 9999 fun v hv => h _ v hv
    simpa using this
  · rename_i hne
    cases e : aggT P kt with
    | none => exact absurd e hag0
    | some b =>
      cases b with
      | true => exact absurd e hne
      | false =>
        obtain ⟨v, rfl⟩ := List.length_eq_one_iff.1 (hag e)
        exact h _ v (by simp)

/-- Where a key stands among entries. -/
def findI (ls : List Leaf) (x : IV) : List (IV × IV × Nat) → List MapEntry → Nat → Option (Nat × Value)
  | y :: q, e :: es, i => if cellsEq ls x.cells y.1.cells = some true then some (i, e.val) else findI ls x q es (i + 1)
  | _, _, _ => none

theorem shape_one {kt : TypeId} {x : IV} (hag : aggT P kt = some false) (hs : shapeB P kt x = true) : ∃ s, x = .s s := by
  unfold shapeB at hs
  split at hs
  · rename_i h; rw [hag] at h; cases h
  · exact ⟨_, rfl⟩
  · cases hs

theorem findKey_run {kt : TypeId} {ls : List Leaf} (hl : leavesOf P 60 kt = some ls) {x : IV} {kv : Value} (hx : relC ρ x kv) (sx : shapeB P kt x = true) :
    ∀ {q : List (IV × IV × Nat)} {es : List MapEntry}, relM ρ q es → (∀ y ∈ q, shapeB P kt y.1 = true ∧ ∃ b, cellsEq ls x.cells y.1.cells = some b) → (Instr.findKey kt kv es).run P w = .ok (findI ls x q es 0) w := by
  intro q es hq hk
  obtain ⟨vs, hvs, rfl⟩ := shape_pack sx hx
  have plain : ∀ {kd : TypeDesc} {l : Leaf}, P.underlying kt = some kd → ls = [l] → aggT P kt = some false → (∀ (x y : SV) (v u : Value) (b : Bool), leafEq l x y = some b → relS ρ x v → relS ρ y u → Instr.sameNow kd v u = some b) →
      (Instr.findKey kt (pack P kt vs) es).run P w = .ok (findI ls x q es 0) w := by
    rintro kd l hu rfl hag hs
    obtain ⟨x, rfl⟩ := shape_one hag sx
    obtain ⟨v, rfl⟩ := List.length_eq_one_iff.1 hvs.len
    have gen : ∀ (q : List (IV × IV × Nat)) (es : List MapEntry) (i : Nat), relM ρ q es → (∀ y ∈ q, shapeB P kt y.1 = true ∧ ∃ b, cellsEq [l] (IV.s x).cells y.1.cells = some b) → Instr.findNow kd v es i = some (findI [l] (.s x) q es i) := by
      intro q
      induction q with
      | nil => intro es i hq _; cases es with
        | nil => rfl
        | cons _ _ => exact hq.elim
      | cons y q ih => intro es i hq hk; cases es with
        | nil => exact hq.elim
        | cons e es =>
          obtain ⟨s1, b, hb⟩ := hk y (by simp)
          obtain ⟨y1, hy1⟩ := shape_one hag s1
          rw [hy1] at hb
          simp only [IV.cells, cellsEq] at hb
          split at hb
          · rename_i b0 hb0
            simp at hb
            subst hb
            have hy := hq.1
            rw [hy1] at hy
            have := hs x y1 v e.key b0 hb0 hvs.1 hy
            simp only [Instr.findNow, this, findI, hy1, IV.cells, cellsEq, hb0]
            cases b0 with
            | true => simp
            | false => simpa using ih es (i + 1) hq.2.2.2 fun z hz => hk z (List.mem_cons_of_mem _ hz)
          · cases hb
    have := gen q es 0 hq hk
    simp only [pack, hag, Option.some.injEq, Bool.false_eq_true, if_false, List.headD_cons]
    simp only [Instr.findKey, Sem.run_bind, run_underlying' P w hu, Result.andThen_ok, this, Sem.run_pure]
  have wide : (match P.underlying kt with | some (.array _ _) | some (.struct _) => true | _ => false) = true → (Instr.findKey kt (pack P kt vs) es).run P w = .ok (findI ls x q es 0) w := by
    intro hw
    rw [run_findKey_eq w hw]
    have gen : ∀ (q : List (IV × IV × Nat)) (es : List MapEntry) (i : Nat), relM ρ q es → (∀ y ∈ q, shapeB P kt y.1 = true ∧ ∃ b, cellsEq ls x.cells y.1.cells = some b) → (Instr.findAsking kt (pack P kt vs) es i).run P w = .ok (findI ls x q es i) w := by
      intro q
      induction q with
      | nil => intro es i hq _; cases es with
        | nil => simp [Instr.findAsking, findI]
        | cons _ _ => exact hq.elim
      | cons y q ih => intro es i hq hk; cases es with
        | nil => exact hq.elim
        | cons e es =>
          obtain ⟨s1, b, hb⟩ := hk y (by simp)
          obtain ⟨us, hus, he⟩ := shape_pack s1 hq.1
          have h1 := eq_leaves (P := P) (w := w) 60 kt ls hl 10000 (by omega) x.cells y.1.cells vs us b hvs hus hb
          simp only [Instr.findAsking, he, Sem.run_bind]
          have h2 : (Op.equal kt (pack P kt vs) (pack P kt us)).run P w = .ok b w := h1
          simp only [h2, Result.andThen_ok, findI, hb]
          cases b with
          | true => simp
          | false => simpa using ih es (i + 1) hq.2.2.2 fun z hz => hk z (List.mem_cons_of_mem _ hz)
    exact gen q es 0 hq hk
  unfold leavesOf at hl
  split at hl
  · rename_i kd hu
    cases hl
    refine plain hu rfl (by simp [aggT, hu]) fun x y v u b h h1 h2 => ?_
    obtain ⟨a, c, rfl, rfl, rfl⟩ := leafEq_int h
    obtain ⟨rfl, _⟩ := h1; obtain ⟨rfl, _⟩ := h2
    simp [Instr.sameNow]
  · rename_i hu
    cases hl
    refine plain hu rfl (by simp [aggT, hu]) fun x y v u b h h1 h2 => ?_
    obtain ⟨a, c, rfl, rfl, rfl⟩ := leafEq_bool h
    obtain ⟨rfl, _⟩ := h1; obtain ⟨rfl, _⟩ := h2
    simp [Instr.sameNow]
  · rename_i hu
    cases hl
    refine plain hu rfl (by simp [aggT, hu]) fun x y v u b h h1 h2 => ?_
    obtain ⟨a, c, rfl, rfl, rfl⟩ := leafEq_string h
    obtain ⟨rfl, _⟩ := h1; obtain ⟨rfl, _⟩ := h2
    simp [Instr.sameNow, beq_toListBytes]
  · rename_i n e hu
    exact wide (by simp [hu])
  · rename_i fs hu
    exact wide (by simp [hu])
  · cases hl

/-- No key of these is x. -/
def noKey (ls : List Leaf) (x : IV) (l : List (IV × IV × Nat)) : Prop := ∀ y ∈ l, cellsEq ls x.cells y.1.cells = some false
def shaped (P : Program) (kt : TypeId) (l : List (IV × IV × Nat)) : Prop := ∀ y ∈ l, shapeB P kt y.1 = true

theorem findI_none {ls : List Leaf} {x : IV} : ∀ {q : List (IV × IV × Nat)} {es : List MapEntry} {i : Nat}, noKey ls x q → findI ls x q es i = none
  | [], _, _, _ => by simp [findI]
  | _ :: _, [], _, _ => by simp [findI]
  | y :: q, e :: es, i, h => by
    have h1 := h y (by simp)
    simp only [findI, h1]
    simpa using findI_none fun z hz => h z (List.mem_cons_of_mem _ hz)
theorem findI_some {ls : List Leaf} {x : IV} {y : IV × IV × Nat} {q2 : List (IV × IV × Nat)} {e : MapEntry} {es2 : List MapEntry} (hy : cellsEq ls x.cells y.1.cells = some true) :
    ∀ {q1 : List (IV × IV × Nat)} {es1 : List MapEntry} {i : Nat}, es1.length = q1.length → noKey ls x q1 → findI ls x (q1 ++ y :: q2) (es1 ++ e :: es2) i = some (i + q1.length, e.val)
  | [], [], i, _, _ => by simp [findI, hy]
  | z :: q1, f :: es1, i, hl, h => by
    have h1 := h z (by simp)
    simp only [List.cons_append, findI, h1]
    have := findI_some (q2 := q2) (e := e) (es2 := es2) hy (q1 := q1) (es1 := es1) (i := i + 1) (by simpa using hl) fun z hz => h z (List.mem_cons_of_mem _ hz)
    rw [if_neg (by simp), this, List.length_cons]
    congr 2; omega
  | [], _ :: _, _, h, _ => by simp at h
  | _ :: _, [], _, h, _ => by simp at h
theorem relM_len : ∀ {l : List (IV × IV × Nat)} {es : List MapEntry}, relM ρ l es → es.length = l.length
  | [], [], _ => rfl
  | _ :: _, _ :: _, h => by simp [relM_len h.2.2.2]
  | [], _ :: _, h => h.elim
  | _ :: _, [], h => h.elim
theorem relM_split : ∀ {q1 : List (IV × IV × Nat)} {y : IV × IV × Nat} {q2 : List (IV × IV × Nat)} {es : List MapEntry}, relM ρ (q1 ++ y :: q2) es → ∃ es1 e es2, es = es1 ++ e :: es2 ∧ relM ρ q1 es1 ∧ (relC ρ y.1 e.key ∧ relC ρ y.2.1 e.val ∧ e.born = y.2.2) ∧ relM ρ q2 es2
  | [], y, q2, e :: es, h => ⟨[], e, es, rfl, trivial, ⟨h.1, h.2.1, h.2.2.1⟩, h.2.2.2⟩
  | z :: q1, y, q2, e :: es, h => by
    obtain ⟨es1, e1, es2, rfl, h1, h2, h3⟩ := relM_split (q1 := q1) h.2.2.2
    exact ⟨e :: es1, e1, es2, rfl, ⟨h.1, h.2.1, h.2.2.1, h1⟩, h2, h3⟩
  | [], _, _, [], h => h.elim
  | _ :: _, _, _, [], h => h.elim
theorem relM_join : ∀ {q1 q2 : List (IV × IV × Nat)} {es1 es2 : List MapEntry}, relM ρ q1 es1 → relM ρ q2 es2 → relM ρ (q1 ++ q2) (es1 ++ es2)
  | [], _, [], _, _, h => h
  | _ :: _, _, _ :: _, _, h, h' => ⟨h.1, h.2.1, h.2.2.1, relM_join h.2.2.2 h'⟩
  | [], _, _ :: _, _, h, _ => h.elim
  | _ :: _, _, [], _, h, _ => h.elim

/-- The one entry with a key, in the order in which the map keeps it. -/
theorem perm_one {ls : List Leaf} {x : IV} {e : IV × IV × Nat} {l1 l2 q : List (IV × IV × Nat)} (hp : q.Perm (l1 ++ e :: l2)) (h0 : noKey ls x (l1 ++ l2)) :
    ∃ q1 q2, q = q1 ++ e :: q2 ∧ (q1 ++ q2).Perm (l1 ++ l2) ∧ noKey ls x (q1 ++ q2) := by
  have he : e ∈ q := hp.mem_iff.2 (by simp)
  obtain ⟨q1, q2, rfl⟩ := List.append_of_mem he
  have h2 : (q1 ++ q2).Perm (l1 ++ l2) := by
    have a : (e :: (q1 ++ q2)).Perm (e :: (l1 ++ l2)) := (List.perm_middle.symm.trans hp).trans List.perm_middle
    exact a.cons_inv
  exact ⟨q1, q2, rfl, h2, fun y hy => h0 y (h2.mem_iff.1 hy)⟩

/-- The place of a map, opened. -/
theorem map_at {x : Operand} {n : Nat} {a : Act} {c clock : Nat} {es : List (IV × IV × Nat)} (ha : RelA X n ρ tm a) (hi : Inv X ρ H w) (hx : rd tm x = .s (.ref c)) (hc : H[c]? = some (.map clock es)) :
    ∃ b ents q, a.eval x = .map (some b) ∧ ρ[c]? = some (.obj b (.map (some b))) ∧ w.heap[b]? = some (.map ents clock) ∧ q.Perm es ∧ relM ρ q ents.toList ∧ (∀ e ∈ es, e.2.2 < clock) ∧ (es.map (·.2.2)).Nodup := by
  have hr := rd_rel ha x
  rw [hx] at hr
  obtain ⟨l, hl, b, ents, rfl, hb, ⟨q, hperm, hq⟩, hlt, hnd⟩ := hi.sat c _ hc
  refine ⟨b, ents, q, ?_, hl, hb, hperm, hq, hlt, hnd⟩
  rcases hr with ⟨b', h⟩ | ⟨h, _⟩
  · rw [hl, Option.some.injEq, Pl.obj.injEq] at h; exact h.2.symm
  · rw [hl] at h; cases h
theorem rel_key {n : Nat} {a : Act} {kt : TypeId} {key : Operand} {x : IV} (ha : RelA X n ρ tm a) (hkey : rd tm key = x) (sx : shapeB P kt x = true) : relC ρ x (a.eval key) := by
  have hr := rd_rel ha key
  rw [hkey] at hr
  cases x with
  | s _ => exact hr
  | a _ => exact hr
  | t _ => simp [shapeB] at sx
  | j => trivial
theorem get_run {b clock : Nat} {ents : Array MapEntry} (hb : w.heap[b]? = some (.map ents clock)) : (getObj b).run P w = .ok (.map ents clock) w := by simp [getObj, Sem.run, hb]
theorem check_run {kt : TypeId} {ls : List Leaf} (em : Bool) (hl : leavesOf P 60 kt = some ls) {x : IV} {kv : Value} (hx : relC ρ x kv) (sx : shapeB P kt x = true) (hlen : x.cells.length = ls.length) : (Instr.checkKey em 10000 kt kv).run P w = .ok () w := by
  obtain ⟨vs, hvs, rfl⟩ := shape_pack sx hx
  exact check_leaves em 60 kt ls hl 10000 (by omega) vs (by rw [hvs.len, hlen])

/-- What an operation makes of every state that reads as this one. -/
def GRun (P : Program) (X : Ctx) (o : Oper) (tm : TM) (H : Heap) (v : IV) (W : List (Nat × Chunk)) : Prop :=
  ∀ (n : Nat) (ρ : Ren) (a : Act) (w : World), RelA X n ρ tm a → Inv X ρ H w → ∃ (x : Value) (w' : World), ((execOp a.eval o).run P w = .ok (.value x) w' ∨ (execOp a.eval o).run P w = .ok .skip w' ∧ x = undef) ∧ relI ρ v x ∧ Inv X ρ (upd H W) w'
theorem gen_of {o : Oper} {v : IV} {W : List (Nat × Chunk)} (h : GRun P X o tm H v W) (hk : k (put tm o.dst v) (upd H W)) : genK P X o k tm H := fun n ρ a w ha hi =>
  let ⟨x, w', h1, h2, h3⟩ := h n ρ a w ha hi
  ⟨x, w', v, upd H W, ρ, h1, h2, Le.refl _, h3, hk⟩
theorem genD_of {o : Oper} {v : IV} {W : List (Nat × Chunk)} {kd : List Nat → IV → List (Nat × Chunk) → Prop} (σ : List Nat) (hW : ∀ k ∈ W.map (·.1), k ∈ σ ∧ ∃ ch, H[k]? = some ch ∧ ch ≠ .gone)
    (h : ∀ tm' H', H'.length = H.length → (∀ x ∈ o.op.operands, rd tm' x = rd tm x) → (∀ c ∈ σ, H'[c]? = H[c]?) → GRun P X o tm' H' v W) (hk : kd σ v W) : genD P X o tm H kd :=
  ⟨σ, v, W, ⟨hW, fun n ρ tm' H' a w hl hr hs ha hi => h tm' H' hl hr hs n ρ a w ha hi⟩, hk⟩
theorem upd_one {c : Nat} {ch ch' : Chunk} (hc : H[c]? = some ch) : upd H [(c, ch')] = H.set c ch' := by
  have := (List.getElem?_eq_some_iff.1 hc).1
  simp only [upd, up1]; rw [if_neg (by omega)]

/-- A key that is there, looked up. -/
theorem lookup_hit_run {T kt vt : TypeId} {m' key : Operand} {ok : Bool} {ls : List Leaf} {x : IV} {c clock : Nat} {l1 l2 : List (IV × IV × Nat)} {e : IV × IV × Nat} (hT : P.underlying T = some (.map kt vt)) (hl : leavesOf P 60 kt = some ls) (hm : rd tm m' = .s (.ref c))
    (hkey : rd tm key = x) (sx : shapeB P kt x = true) (hc : H[c]? = some (.map clock (l1 ++ e :: l2))) (hsh : shaped P kt (l1 ++ e :: l2)) (h1 : cellsEq ls x.cells e.1.cells = some true) (h0 : noKey ls x (l1 ++ l2))
    : GRun P X ⟨d, .lookup T m' key ok, t, p, af, g⟩ tm H (if ok then .t [e.2.1, .s (.raw (.bool true))] else e.2.1) [] := by
  intro n ρ a w ha hi
  obtain ⟨b, ents, q, hv, hl2, hb, hperm, hq, hlt, hnd⟩ := map_at ha hi hm hc
  have hrk := rel_key ha hkey sx
  obtain ⟨q1, q2, rfl, hp2, hno⟩ := perm_one hperm h0
  obtain ⟨es1, me, es2, hes, r1, ⟨rk, rv, rb⟩, r2⟩ := relM_split hq
  have hbs : ∀ y ∈ q1 ++ e :: q2, shapeB P kt y.1 = true ∧ ∃ b, cellsEq ls x.cells y.1.cells = some b := fun y hy => by
    refine ⟨hsh y (hperm.mem_iff.1 hy), ?_⟩
    rcases List.mem_append.1 hy with h | h
    · exact ⟨false, hno y (by simp [h])⟩
    · rcases List.mem_cons.1 h with rfl | h
      · exact ⟨true, h1⟩
      · exact ⟨false, hno y (by simp [h])⟩
  have hfk := findKey_run (w := w) hl hrk sx hq hbs
  rw [hes, findI_some h1 (relM_len r1) (fun y hy => hno y (by simp [hy]))] at hfk
  have hck := check_run (w := w) ents.isEmpty hl hrk sx (cellsEq_len h1).1
  have hrun : (Instr.lookup T (a.eval m') (a.eval key) ok).run P w = .ok (if ok then .tuple #[me.val, .bool true] else me.val) w := by
    simp only [Instr.lookup, hv, Sem.run_bind, run_underlying' P w hT, Result.andThen_ok, get_run hb, hck, hes, hfk, Sem.run_pure]
  refine ⟨if ok then .tuple #[me.val, .bool true] else me.val, w, .inl ?_, ?_, hi⟩
  · have hex : execOp a.eval ⟨d, .lookup T m' key ok, t, p, af, g⟩ = (do pure (.value (← Instr.lookup T (a.eval m') (a.eval key) ok))) := rfl
    rw [hex, Sem.run_bind, hrun]; rfl
  · cases ok with
    | true => exact ⟨[me.val, .bool true], rfl, rv, ⟨rfl, rfl⟩, trivial⟩
    | false =>
      show relI ρ e.2.1 me.val
      exact (relA_of_relT (l := [e.2.1]) (vs := [me.val]) ⟨rv, trivial⟩).1

/-- A key that is not there. -/
theorem lookup_miss_run {T kt vt : TypeId} {m' key : Operand} {ok : Bool} {ls : List Leaf} {x : IV} {c clock : Nat} {es : List (IV × IV × Nat)} {z : Value} {zi : IV} (hT : P.underlying T = some (.map kt vt)) (hl : leavesOf P 60 kt = some ls) (hm : rd tm m' = .s (.ref c))
    (hkey : rd tm key = x) (sx : shapeB P kt x = true) (hlen : x.cells.length = ls.length) (hc : H[c]? = some (.map clock es)) (hsh : shaped P kt es) (h0 : noKey ls x es) (hz : ∀ w, (zeroValue vt).run P w = .ok z w) (hzi : ∀ ρ, relC ρ zi z)
    : GRun P X ⟨d, .lookup T m' key ok, t, p, af, g⟩ tm H (if ok then .t [zi, .s (.raw (.bool false))] else zi) [] := by
  intro n ρ a w ha hi
  obtain ⟨b, ents, q, hv, hl2, hb, hperm, hq, hlt, hnd⟩ := map_at ha hi hm hc
  have hrk := rel_key ha hkey sx
  have hno : noKey ls x q := fun y hy => h0 y (hperm.mem_iff.1 hy)
  have hfk := findKey_run (w := w) hl hrk sx hq fun y hy => ⟨hsh y (hperm.mem_iff.1 hy), false, hno y hy⟩
  rw [findI_none hno] at hfk
  have hck := check_run (w := w) ents.isEmpty hl hrk sx hlen
  have hrun : (Instr.lookup T (a.eval m') (a.eval key) ok).run P w = .ok (if ok then .tuple #[z, .bool false] else z) w := by
    simp only [Instr.lookup, hv, Sem.run_bind, run_underlying' P w hT, Result.andThen_ok, get_run hb, hck, hfk, hz, Sem.run_pure]
  refine ⟨if ok then .tuple #[z, .bool false] else z, w, .inl ?_, ?_, hi⟩
  · have hex : execOp a.eval ⟨d, .lookup T m' key ok, t, p, af, g⟩ = (do pure (.value (← Instr.lookup T (a.eval m') (a.eval key) ok))) := rfl
    rw [hex, Sem.run_bind, hrun]; rfl
  · cases ok with
    | true => exact ⟨[z, .bool false], rfl, hzi ρ, ⟨rfl, rfl⟩, trivial⟩
    | false =>
      show relI ρ zi z
      exact (relA_of_relT (l := [zi]) (vs := [z]) ⟨hzi ρ, trivial⟩).1

/-- The map's block, laid anew. -/
theorem inv_map (hi : Inv X ρ H w) {c b clock clock' : Nat} {es es' q' : List (IV × IV × Nat)} {ents' : Array MapEntry} (hc : H[c]? = some (.map clock es)) (hl : ρ[c]? = some (.obj b (.map (some b)))) (hblt : b < w.heap.size)
    (hq : q'.Perm es') (hr : relM ρ q' ents'.toList) (hlt : ∀ e ∈ es', e.2.2 < clock') (hnd : (es'.map (·.2.2)).Nodup) :
    Inv X ρ (H.set c (.map clock' es')) (ChangeMaps.setBlock w b (.map ents' clock')) := by
  refine hi.upd hc hl rfl rfl rfl rfl (by simp [ChangeMaps.setBlock]) (fun b' hb' => ?_) ⟨b, ents', rfl, ?_, ⟨q', hq, hr⟩, hlt, hnd⟩ rfl
  · have : b ≠ b' := fun e => hb' (by rw [e]; rfl)
    simp [ChangeMaps.setBlock, this]
  · simp [ChangeMaps.setBlock, hblt]
theorem set_run {b clock : Nat} {ents : Array MapEntry} (hb : w.heap[b]? = some (.map ents clock)) (o' : Obj) : (setObj b o').run P w = .ok () (ChangeMaps.setBlock w b o') := by simp [setObj, Sem.run, hb, ChangeMaps.setBlock]

theorem modify_at {α : Type} (f : α → α) : ∀ (l1 : List α) (x : α) (l2 : List α), (l1 ++ x :: l2).modify l1.length f = l1 ++ f x :: l2
  | [], x, l2 => by simp
  | y :: l1, x, l2 => by simp [modify_at f l1 x l2]
/-- A value is laid at a key: what the map then holds. -/
def Laid (P : Program) (X : Ctx) (tm : TM) (H : Heap) (T : TypeId) (m' key val : Operand) (c : Nat) (ch : Chunk) : Prop :=
  ∀ (n : Nat) (ρ : Ren) (a : Act) (w : World), RelA X n ρ tm a → Inv X ρ H w → ∃ w', (Instr.mapUpdate T (a.eval m') (a.eval key) (a.eval val)).run P w = .ok () w' ∧ Inv X ρ (H.set c ch) w'
theorem laid_upd {T : TypeId} {m' key val : Operand} {c : Nat} {ch ch' : Chunk} (hc : H[c]? = some ch') (h : Laid P X tm H T m' key val c ch) : GRun P X ⟨d, .mapUpdate T m' key val, t, p, af, g⟩ tm H .j [(c, ch)] := by
  intro n ρ a w ha hi
  obtain ⟨w', hrun, hi'⟩ := h n ρ a w ha hi
  rw [upd_one hc]
  refine ⟨undef, w', .inr ⟨?_, rfl⟩, trivial, hi'⟩
  have hex : execOp a.eval ⟨d, .mapUpdate T m' key val, t, p, af, g⟩ = (do Instr.mapUpdate T (a.eval m') (a.eval key) (a.eval val); pure .skip) := rfl
  rw [hex, Sem.run_bind, hrun]; rfl
theorem rel_val {n : Nat} {a : Act} {val : Operand} {x : IV} (ha : RelA X n ρ tm a) (hval : rd tm val = x) (hxt : ∀ l, x ≠ .t l) : relC ρ x (a.eval val) := by
  have hrv := rd_rel ha val
  rw [hval] at hrv
  cases x with
  | t l => exact absurd rfl (hxt l)
  | s _ => exact hrv
  | a _ => exact hrv
  | j => trivial
theorem laid_new {T kt vt : TypeId} {m' key val : Operand} {ls : List Leaf} {x v : IV} {c clock : Nat} {es : List (IV × IV × Nat)} (hT : P.underlying T = some (.map kt vt)) (hl : leavesOf P 60 kt = some ls) (hm : rd tm m' = .s (.ref c))
    (hkey : rd tm key = x) (sx : shapeB P kt x = true) (hlen : x.cells.length = ls.length) (hval : rd tm val = v) (hvt : ∀ l, v ≠ .t l) (hc : H[c]? = some (.map clock es)) (hsh : shaped P kt es) (h0 : noKey ls x es)
    : Laid P X tm H T m' key val c (.map (clock + 1) (es ++ [(x, v, clock)])) := by
  intro n ρ a w ha hi
  obtain ⟨b, ents, q, hv, hl2, hb, hperm, hq, hlt, hnd⟩ := map_at ha hi hm hc
  have hrk := rel_key ha hkey sx
  have hrv := rel_val ha hval hvt
  have hno : noKey ls x q := fun y hy => h0 y (hperm.mem_iff.1 hy)
  have hfk := findKey_run (w := w) hl hrk sx hq fun y hy => ⟨hsh y (hperm.mem_iff.1 hy), false, hno y hy⟩
  rw [findI_none hno] at hfk
  have hck := check_run (w := w) false hl hrk sx hlen
  refine ⟨ChangeMaps.setBlock w b (.map (ents.push { key := a.eval key, val := a.eval val, born := clock }) (clock + 1)), ?_, ?_⟩
  · simp only [Instr.mapUpdate, hv, Sem.run_bind, run_underlying' P w hT, Result.andThen_ok, get_run hb, hck, hfk, set_run hb]
  · refine inv_map hi hc hl2 (Array.getElem?_eq_some_iff.1 hb).1 (hperm.append_right [(x, v, clock)]) ?_ (fun e he => ?_) ?_
    · have := relM_join (ρ := ρ) hq (q2 := [(x, v, clock)]) (es2 := [{ key := a.eval key, val := a.eval val, born := clock }]) ⟨hrk, hrv, rfl, trivial⟩
      simpa using this
    · rcases List.mem_append.1 he with h | h
      · have := hlt e h; omega
      · simp at h; subst h; simp
    · rw [List.map_append, List.nodup_append]
      refine ⟨hnd, by simp, fun s hs1 s2 hs2 e => ?_⟩
      obtain ⟨y, hy, rfl⟩ := List.mem_map.1 hs1
      simp at hs2
      have := hlt y hy
      omega
theorem laid_old {T kt vt : TypeId} {m' key val : Operand} {ls : List Leaf} {x v : IV} {c clock : Nat} {l1 l2 : List (IV × IV × Nat)} {e : IV × IV × Nat} (hT : P.underlying T = some (.map kt vt)) (hl : leavesOf P 60 kt = some ls) (hm : rd tm m' = .s (.ref c))
    (hkey : rd tm key = x) (sx : shapeB P kt x = true) (hval : rd tm val = v) (hvt : ∀ l, v ≠ .t l) (hc : H[c]? = some (.map clock (l1 ++ e :: l2))) (hsh : shaped P kt (l1 ++ e :: l2)) (h1 : cellsEq ls x.cells e.1.cells = some true) (h0 : noKey ls x (l1 ++ l2))
    : Laid P X tm H T m' key val c (.map clock (l1 ++ (e.1, v, e.2.2) :: l2)) := by
  intro n ρ a w ha hi
  obtain ⟨b, ents, q, hv, hl2, hb, hperm, hq, hlt, hnd⟩ := map_at ha hi hm hc
  have hrk := rel_key ha hkey sx
  have hrv := rel_val ha hval hvt
  obtain ⟨q1, q2, rfl, hp2, hno⟩ := perm_one hperm h0
  obtain ⟨es1, me, es2, hes, r1, ⟨rk, rv, rb⟩, r2⟩ := relM_split hq
  have se := hsh e (by simp)
  have hbs : ∀ y ∈ q1 ++ e :: q2, shapeB P kt y.1 = true ∧ ∃ b, cellsEq ls x.cells y.1.cells = some b := fun y hy => by
    refine ⟨hsh y (hperm.mem_iff.1 hy), ?_⟩
    rcases List.mem_append.1 hy with h | h
    · exact ⟨false, hno y (by simp [h])⟩
    · rcases List.mem_cons.1 h with rfl | h
      · exact ⟨true, h1⟩
      · exact ⟨false, hno y (by simp [h])⟩
  have hfk := findKey_run (w := w) hl hrk sx hq hbs
  have hl1 := relM_len r1
  rw [hes, findI_some h1 hl1 (fun y hy => hno y (by simp [hy])), Nat.zero_add] at hfk
  have hck := check_run (w := w) false hl hrk sx (cellsEq_len h1).1
  -- the keys are the same
  obtain ⟨vs, hvs, ekv⟩ := shape_pack sx hrk
  obtain ⟨us, hus, eme⟩ := shape_pack se rk
  obtain ⟨rfl, hsb⟩ := cells_same h1 hvs hus
  have hag0 : aggT P kt ≠ none := fun e => by unfold shapeB at sx; rw [e] at sx; simp at sx
  have hag1 : aggT P kt = some false → vs.length = 1 := fun e => by
    obtain ⟨s, rfl⟩ := shape_one e sx
    rw [hvs.len]; rfl
  have hsame := pack_same (P := P) hsb hag1 hag0
  have hget : ents[q1.length]? = some me := by rw [← Array.getElem?_toList, hes, ← hl1]; simp
  have hstay : (Instr.keyThatStays (((ents[q1.length]?).map (·.key)).getD (a.eval key)) (a.eval key)).run P w = .ok (a.eval key) w := by
    rw [hget]
    simp only [Option.map_some, Option.getD_some, Instr.keyThatStays, eme, ekv, hsame, if_true, Sem.run_pure]
  refine ⟨ChangeMaps.setBlock w b (.map (ents.modify q1.length fun e => { e with key := a.eval key, val := a.eval val }) clock), ?_, ?_⟩
  · simp only [Instr.mapUpdate, hv, Sem.run_bind, run_underlying' P w hT, Result.andThen_ok, get_run hb, hck, hes, hfk, hstay, set_run hb]
  · refine inv_map (q' := q1 ++ (e.1, v, e.2.2) :: q2) hi hc hl2 (Array.getElem?_eq_some_iff.1 hb).1 ?_ ?_ (fun y hy => ?_) ?_
    · exact (List.perm_middle.trans (hp2.cons _)).trans List.perm_middle.symm
    · have hm2 : (ents.modify q1.length fun e => { e with key := a.eval key, val := a.eval val }).toList = es1 ++ { me with key := a.eval key, val := a.eval val } :: es2 := by
        rw [Array.toList_modify, hes, ← hl1]
        exact modify_at _ es1 me es2
      rw [hm2]
      refine relM_join r1 ⟨?_, hrv, rb, r2⟩
      show relC ρ e.1 (a.eval key)
      rw [ekv, ← eme]; exact rk
    · rcases List.mem_append.1 hy with h | h
      · exact hlt y (by simp [h])
      · rcases List.mem_cons.1 h with rfl | h
        · exact hlt e (by simp)
        · exact hlt y (by simp [h])
    · simpa using hnd

/-- A key is taken out. -/
theorem delete_hit_run {T kt vt Tk : TypeId} {m' key : Operand} {ls : List Leaf} {x : IV} {c clock : Nat} {l1 l2 : List (IV × IV × Nat)} {e : IV × IV × Nat} (hT : P.underlying T = some (.map kt vt)) (hl : leavesOf P 60 kt = some ls) (hm : rd tm m' = .s (.ref c))
    (hkey : rd tm key = x) (sx : shapeB P kt x = true) (hc : H[c]? = some (.map clock (l1 ++ e :: l2))) (hsh : shaped P kt (l1 ++ e :: l2)) (h1 : cellsEq ls x.cells e.1.cells = some true) (h0 : noKey ls x (l1 ++ l2))
    : GRun P X ⟨d, .call ⟨.builtin .delete, #[m', key], #[T, Tk]⟩, t, p, af, g⟩ tm H (.t []) [(c, .map clock (l1 ++ l2))] := by
  intro n ρ a w ha hi
  obtain ⟨b, ents, q, hv, hl2, hb, hperm, hq, hlt, hnd⟩ := map_at ha hi hm hc
  have hrk := rel_key ha hkey sx
  obtain ⟨q1, q2, rfl, hp2, hno⟩ := perm_one hperm h0
  obtain ⟨es1, me, es2, hes, r1, ⟨rk, rv, rb⟩, r2⟩ := relM_split hq
  have hbs : ∀ y ∈ q1 ++ e :: q2, shapeB P kt y.1 = true ∧ ∃ b, cellsEq ls x.cells y.1.cells = some b := fun y hy => by
    refine ⟨hsh y (hperm.mem_iff.1 hy), ?_⟩
    rcases List.mem_append.1 hy with h | h
    · exact ⟨false, hno y (by simp [h])⟩
    · rcases List.mem_cons.1 h with rfl | h
      · exact ⟨true, h1⟩
      · exact ⟨false, hno y (by simp [h])⟩
  have hfk := findKey_run (w := w) hl hrk sx hq hbs
  have hl1 := relM_len r1
  rw [hes, findI_some h1 hl1 (fun y hy => hno y (by simp [hy])), Nat.zero_add] at hfk
  have hck := check_run (w := w) ents.isEmpty hl hrk sx (cellsEq_len h1).1
  rw [upd_one hc]
  refine ⟨.tuple #[], ChangeMaps.setBlock w b (.map (ents.eraseIdxIfInBounds q1.length) clock), .inl ?_, ⟨[], rfl, trivial⟩, ?_⟩
  · have hrun : (Builtin.delete_ #[T, Tk] t #[a.eval m', a.eval key]).run P w = .ok (.tuple #[]) (ChangeMaps.setBlock w b (.map (ents.eraseIdxIfInBounds q1.length) clock)) := by
      simp only [Builtin.delete_, List.getElem?_toArray, List.getElem?_cons_zero, List.getElem?_cons_succ, hv, Sem.run_bind, run_underlying' P w hT, Result.andThen_ok, get_run hb, hck, hes, hfk, set_run hb, Sem.run_pure]
    simp [execOp, resolve, invoke, builtin, hrun]
  · refine inv_map hi hc hl2 (Array.getElem?_eq_some_iff.1 hb).1 hp2 ?_ (fun y hy => hlt y ?_) ?_
    · have hm2 : (ents.eraseIdxIfInBounds q1.length).toList = es1 ++ es2 := by
        have hlt2 : q1.length < ents.size := by rw [← Array.length_toList, hes]; simp; omega
        rw [Array.eraseIdxIfInBounds, dif_pos hlt2, Array.toList_eraseIdx, hes, ← hl1]
        simp [List.eraseIdx_append_of_length_le]
      rw [hm2]
      exact relM_join r1 r2
    · rcases List.mem_append.1 hy with h | h <;> simp [h]
    · rw [List.map_append, List.map_cons] at hnd
      rw [List.map_append]
      exact (List.perm_middle.nodup_iff.1 hnd).of_cons

/-- How many entries a map has. -/
theorem len_run {T kt vt : TypeId} {m' : Operand} {c clock : Nat} {es : List (IV × IV × Nat)} (hT : P.underlying T = some (.map kt vt)) (hm : rd tm m' = .s (.ref c)) (hc : H[c]? = some (.map clock es))
    : GRun P X ⟨d, .call ⟨.builtin .len, #[m'], #[T]⟩, t, p, af, g⟩ tm H (.s (.raw (.int .i64 (es.length : Int)))) [] := by
  intro n ρ a w ha hi
  obtain ⟨b, ents, q, hv, hl2, hb, hperm, hq, hlt, hnd⟩ := map_at ha hi hm hc
  have hsz : ents.size = es.length := by rw [← Array.length_toList, relM_len hq, hperm.length_eq]
  refine ⟨.int .i64 (es.length : Int), w, .inl ?_, ⟨rfl, rfl⟩, hi⟩
  have hrun : (Builtin.len_ #[T] t #[a.eval m']).run P w = .ok (.int .i64 (es.length : Int)) w := by
    simp only [Builtin.len_, List.getElem?_toArray, List.getElem?_cons_zero, hv, Sem.run_bind, run_underlying' P w hT, Result.andThen_ok, get_run hb, Sem.run_pure, hsz, goInt]
  simp [execOp, resolve, invoke, builtin, hrun]

/-- A function value. -/
theorem makeFunc_gen {fn : Fn} {first cap : Array Operand} (h1 : flat (first.toList.map (rd tm)) = true) (h2 : flat (cap.toList.map (rd tm)) = true)
    (hk : k (put tm d (.s (.ref H.length))) (H ++ [.clo fn (first.toList.map (rd tm)) (cap.toList.map (rd tm))])) : genK P X ⟨d, .makeFunc fn first cap, t, p, af, g⟩ k tm H := by
  intro n ρ a w ha hi
  have r1 := relT_of_relA h1 (relA_list ha first.toList)
  have r2 := relT_of_relA h2 (relA_list ha cap.toList)
  have e1 : (first.toList.map a.eval).toArray = first.map a.eval := by apply Array.ext'; simp only [Array.toList_map]
  have e2 : (cap.toList.map a.eval).toArray = cap.map a.eval := by apply Array.ext'; simp only [Array.toList_map]
  have hlen := hi.len
  refine ⟨.func fn (first.map a.eval) (cap.map a.eval), w, .s (.ref H.length), H ++ [.clo fn (first.toList.map (rd tm)) (cap.toList.map (rd tm))], ρ ++ [.val (.func fn (first.map a.eval) (cap.map a.eval))], .inl ?_, ?_, Le.app _ _, ?_, hk⟩
  · have hex : execOp a.eval ⟨d, .makeFunc fn first cap, t, p, af, g⟩ = (do pure (.value (← Instr.makeFunc fn (first.map a.eval) (cap.map a.eval)))) := rfl
    rw [hex]
    simp [Instr.makeFunc]
  · exact .inr ⟨by rw [← hlen]; simp, rfl⟩
  · refine hi.push _ _ rfl rfl rfl (Nat.le_refl _) (fun b hb => rfl) (fun b u h => by cases h) ?_ (fun h => by cases h) (fun _ _ h => by cases h)
    exact ⟨_, _, by rw [e1, e2], r1.pre (Le.app _ _), r2.pre (Le.app _ _)⟩

/-! ### the rules -/
section rules
variable {T kt vt Tk : TypeId} {m' key val : Operand} {ok : Bool} {ls : List Leaf} {x v : IV} {c clock : Nat} {es l1 l2 : List (IV × IV × Nat)} {e : IV × IV × Nat} {kd : List Nat → IV → List (Nat × Chunk) → Prop}
theorem lookup_hit (hT : P.underlying T = some (.map kt vt)) (hl : leavesOf P 60 kt = some ls) (hm : rd tm m' = .s (.ref c))
    (hkey : rd tm key = x) (sx : shapeB P kt x = true) (hc : H[c]? = some (.map clock (l1 ++ e :: l2))) (hsh : shaped P kt (l1 ++ e :: l2)) (h1 : cellsEq ls x.cells e.1.cells = some true) (h0 : noKey ls x (l1 ++ l2))
    (hk : k (put tm d (if ok then .t [e.2.1, .s (.raw (.bool true))] else e.2.1)) H) : genK P X ⟨d, .lookup T m' key ok, t, p, af, g⟩ k tm H :=
  gen_of (lookup_hit_run hT hl hm hkey sx hc hsh h1 h0) hk
theorem lookupD_hit (hT : P.underlying T = some (.map kt vt)) (hl : leavesOf P 60 kt = some ls) (hm : rd tm m' = .s (.ref c))
    (hkey : rd tm key = x) (sx : shapeB P kt x = true) (hc : H[c]? = some (.map clock (l1 ++ e :: l2))) (hsh : shaped P kt (l1 ++ e :: l2)) (h1 : cellsEq ls x.cells e.1.cells = some true) (h0 : noKey ls x (l1 ++ l2))
    (hk : kd [c] (if ok then .t [e.2.1, .s (.raw (.bool true))] else e.2.1) []) : genD P X ⟨d, .lookup T m' key ok, t, p, af, g⟩ tm H kd :=
  genD_of [c] (fun _ h => by cases h) (fun tm' H' _ hr hs => lookup_hit_run hT hl ((hr m' (by simp [Op.operands])).trans hm) ((hr key (by simp [Op.operands])).trans hkey) sx ((hs c (by simp)).trans hc) hsh h1 h0) hk
theorem lookup_miss {z : Value} {zi : IV} (hT : P.underlying T = some (.map kt vt)) (hl : leavesOf P 60 kt = some ls) (hm : rd tm m' = .s (.ref c))
    (hkey : rd tm key = x) (sx : shapeB P kt x = true) (hlen : x.cells.length = ls.length) (hc : H[c]? = some (.map clock es)) (hsh : shaped P kt es) (h0 : noKey ls x es) (hz : ∀ w, (zeroValue vt).run P w = .ok z w) (hzi : ∀ ρ, relC ρ zi z)
    (hk : k (put tm d (if ok then .t [zi, .s (.raw (.bool false))] else zi)) H) : genK P X ⟨d, .lookup T m' key ok, t, p, af, g⟩ k tm H :=
  gen_of (lookup_miss_run hT hl hm hkey sx hlen hc hsh h0 hz hzi) hk
theorem lookupD_miss {z : Value} {zi : IV} (hT : P.underlying T = some (.map kt vt)) (hl : leavesOf P 60 kt = some ls) (hm : rd tm m' = .s (.ref c))
    (hkey : rd tm key = x) (sx : shapeB P kt x = true) (hlen : x.cells.length = ls.length) (hc : H[c]? = some (.map clock es)) (hsh : shaped P kt es) (h0 : noKey ls x es) (hz : ∀ w, (zeroValue vt).run P w = .ok z w) (hzi : ∀ ρ, relC ρ zi z)
    (hk : kd [c] (if ok then .t [zi, .s (.raw (.bool false))] else zi) []) : genD P X ⟨d, .lookup T m' key ok, t, p, af, g⟩ tm H kd :=
  genD_of [c] (fun _ h => by cases h) (fun tm' H' _ hr hs => lookup_miss_run hT hl ((hr m' (by simp [Op.operands])).trans hm) ((hr key (by simp [Op.operands])).trans hkey) sx hlen ((hs c (by simp)).trans hc) hsh h0 hz hzi) hk
theorem updD_new (hT : P.underlying T = some (.map kt vt)) (hl : leavesOf P 60 kt = some ls) (hm : rd tm m' = .s (.ref c))
    (hkey : rd tm key = x) (sx : shapeB P kt x = true) (hlen : x.cells.length = ls.length) (hval : rd tm val = v) (hvt : ∀ l, v ≠ .t l) (hc : H[c]? = some (.map clock es)) (hsh : shaped P kt es) (h0 : noKey ls x es)
    (hk : kd [c] .j [(c, .map (clock + 1) (es ++ [(x, v, clock)]))]) : genD P X ⟨d, .mapUpdate T m' key val, t, p, af, g⟩ tm H kd :=
  genD_of [c] (fun k h => by simp at h; subst h; exact ⟨by simp, _, hc, by simp⟩) (fun tm' H' _ hr hs => laid_upd ((hs c (by simp)).trans hc) (laid_new hT hl ((hr m' (by simp [Op.operands])).trans hm) ((hr key (by simp [Op.operands])).trans hkey) sx hlen ((hr val (by simp [Op.operands])).trans hval) hvt ((hs c (by simp)).trans hc) hsh h0)) hk
theorem updD_old (hT : P.underlying T = some (.map kt vt)) (hl : leavesOf P 60 kt = some ls) (hm : rd tm m' = .s (.ref c))
    (hkey : rd tm key = x) (sx : shapeB P kt x = true) (hval : rd tm val = v) (hvt : ∀ l, v ≠ .t l) (hc : H[c]? = some (.map clock (l1 ++ e :: l2))) (hsh : shaped P kt (l1 ++ e :: l2)) (h1 : cellsEq ls x.cells e.1.cells = some true) (h0 : noKey ls x (l1 ++ l2))
    (hk : kd [c] .j [(c, .map clock (l1 ++ (e.1, v, e.2.2) :: l2))]) : genD P X ⟨d, .mapUpdate T m' key val, t, p, af, g⟩ tm H kd :=
  genD_of [c] (fun k h => by simp at h; subst h; exact ⟨by simp, _, hc, by simp⟩) (fun tm' H' _ hr hs => laid_upd ((hs c (by simp)).trans hc) (laid_old hT hl ((hr m' (by simp [Op.operands])).trans hm) ((hr key (by simp [Op.operands])).trans hkey) sx ((hr val (by simp [Op.operands])).trans hval) hvt ((hs c (by simp)).trans hc) hsh h1 h0)) hk
theorem delete_hit (hT : P.underlying T = some (.map kt vt)) (hl : leavesOf P 60 kt = some ls) (hm : rd tm m' = .s (.ref c))
    (hkey : rd tm key = x) (sx : shapeB P kt x = true) (hc : H[c]? = some (.map clock (l1 ++ e :: l2))) (hsh : shaped P kt (l1 ++ e :: l2)) (h1 : cellsEq ls x.cells e.1.cells = some true) (h0 : noKey ls x (l1 ++ l2))
    (hk : k (put tm d (.t [])) (H.set c (.map clock (l1 ++ l2)))) : genK P X ⟨d, .call ⟨.builtin .delete, #[m', key], #[T, Tk]⟩, t, p, af, g⟩ k tm H :=
  gen_of (delete_hit_run hT hl hm hkey sx hc hsh h1 h0) (by rw [upd_one hc]; exact hk)
theorem len_map (hT : P.underlying T = some (.map kt vt)) (hm : rd tm m' = .s (.ref c)) (hc : H[c]? = some (.map clock es))
    (hk : k (put tm d (.s (.raw (.int .i64 (es.length : Int))))) H) : genK P X ⟨d, .call ⟨.builtin .len, #[m'], #[T]⟩, t, p, af, g⟩ k tm H := gen_of (len_run hT hm hc) hk
end rules
end
end Go.Ev
