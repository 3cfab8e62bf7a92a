/- Another look at the same state: chunks that nobody needs are let go, the others stand in another order; a nil slice is a slice of an empty chunk. -/
import Derived.Test.YtadikegdadnahaaEvC
import Derived.Maps.RangeRun
import Derived.WideKeyRuns
import Derived.Laws.Cover3
set_option linter.unusedVariables false
namespace Go.Ev
open Go.RowKit

/-- Whatever the one state describes the other one does, the first N chunks at the same places. -/
def Wk (N : Nat) (tm : TM) (H : Heap) (tm1 : TM) (H1 : Heap) : Prop :=
  ∀ (X : Ctx) (n : Nat) (ρ : Ren) (a : Act) (w : World), RelA X n ρ tm a → Inv X ρ H w → ∃ ρ1, LeN N ρ ρ1 ∧ RelA X n ρ1 tm1 a ∧ Inv X ρ1 H1 w
/-- The same of a result. -/
def WkR (N : Nat) (r : IV) (H : Heap) (r1 : IV) (H1 : Heap) : Prop :=
  ∀ (X : Ctx) (ρ : Ren) (v : Value) (w : World), relI ρ r v → Inv X ρ H w → ∃ ρ1, LeN N ρ ρ1 ∧ relI ρ1 r1 v ∧ Inv X ρ1 H1 w

theorem Wk.refl {N : Nat} {tm : TM} {H : Heap} : Wk N tm H tm H := fun _ _ ρ _ _ ha hi => ⟨ρ, LeN.refl _ _, ha, hi⟩
theorem Wk.trans {N : Nat} {tm tm1 tm2 : TM} {H H1 H2 : Heap} (h : Wk N tm H tm1 H1) (k : Wk N tm1 H1 tm2 H2) : Wk N tm H tm2 H2 := fun X n ρ a w ha hi =>
  let ⟨ρ1, l1, a1, i1⟩ := h X n ρ a w ha hi
  let ⟨ρ2, l2, a2, i2⟩ := k X n ρ1 a w a1 i1
  ⟨ρ2, l1.trans l2, a2, i2⟩
theorem WkR.refl {N : Nat} {r : IV} {H : Heap} : WkR N r H r H := fun _ ρ _ _ ha hi => ⟨ρ, LeN.refl _ _, ha, hi⟩
theorem WkR.trans {N : Nat} {r r1 r2 : IV} {H H1 H2 : Heap} (h : WkR N r H r1 H1) (k : WkR N r1 H1 r2 H2) : WkR N r H r2 H2 := fun X ρ v w ha hi =>
  let ⟨ρ1, l1, a1, i1⟩ := h X ρ v w ha hi
  let ⟨ρ2, l2, a2, i2⟩ := k X ρ1 v w a1 i1
  ⟨ρ2, l1.trans l2, a2, i2⟩

/-- Some chunks alone, in this order. -/
def gcH (σ : List Nat) (H : Heap) : Heap := σ.map fun c => mapC (pullS σ) (pullI σ) ((H[c]?).getD .gone)
def gcT (σ : List Nat) (tm : TM) : TM := tm.map fun p => (p.1, pullI σ p.2)
theorem get_gcT {σ : List Nat} {t : Nat} : ∀ {tm : TM}, get (gcT σ tm) t = pullI σ (get tm t)
  | [] => rfl
  | (s, v) :: tm => by
    have ih := get_gcT (σ := σ) (t := t) (tm := tm)
    unfold gcT at ih ⊢
    rw [List.map_cons]
    simp only [get]
    by_cases e : s = t
    · rw [if_pos e, if_pos e]
    · rw [if_neg e, if_neg e]; exact ih

theorem leN_pull {N : Nat} {σ : List Nat} {ρ : Ren} (h : σ.take N = List.range N) : LeN N ρ (pullR σ ρ) := by
  have hlen : N ≤ σ.length := by
    have := congrArg List.length h
    simp at this; omega
  refine ⟨fun _ => by simp [pullR]; exact hlen, fun c l hc hl _ => ?_⟩
  have : σ[c]? = some c := by
    have := List.getElem?_take_of_lt (l := σ) hc
    rw [← this, h, List.getElem?_range hc]
  exact pullR_at this hl

theorem inv_gc {X : Ctx} {ρ : Ren} {H : Heap} {w : World} (h : Inv X ρ H w) {σ : List Nat} (hnd : σ.Nodup) : Inv X (pullR σ ρ) (gcH σ H) w := by
  have hw := h.obj1
  have look : ∀ {k c : Nat} {l : Pl} {ch : Chunk}, σ[k]? = some c → H[c]? = some ch → (pullR σ ρ)[k]? = some l → ρ[c]? = some l := by
    intro k c l ch hk hch hl
    obtain ⟨l', hl', _⟩ := h.sat c ch hch
    rw [pullR_at hk hl'] at hl
    rw [hl', hl]
  have getG : ∀ {k : Nat} {x : Chunk}, (gcH σ H)[k]? = some x → ∃ c, σ[k]? = some c ∧ x = mapC (pullS σ) (pullI σ) ((H[c]?).getD .gone) := by
    intro k x hk
    simp only [gcH, List.getElem?_map] at hk
    cases hc : σ[k]? with
    | none => rw [hc] at hk; cases hk
    | some c => rw [hc] at hk; simp at hk; exact ⟨c, rfl, hk.symm⟩
  -- a chunk that isn't gone was one
  have was : ∀ {c : Nat} {x : Chunk}, x = mapC (pullS σ) (pullI σ) ((H[c]?).getD .gone) → x ≠ .gone → ∃ ch, H[c]? = some ch ∧ x = mapC (pullS σ) (pullI σ) ch := by
    intro c x hx hg
    cases hc : H[c]? with
    | none => rw [hc] at hx; exact absurd hx hg
    | some ch => rw [hc] at hx; exact ⟨ch, rfl, hx⟩
  have notGone : ∀ {x : Chunk}, x.owned = true → x ≠ .gone := fun h e => by subst e; cases h
  refine ⟨h.os, h.tape, h.output, h.drawn, h.size, h.old, by simp [pullR, gcH], ?_, ?_, ?_, ?_, ?_⟩
  · intro k b u hk
    simp only [pullR, List.getElem?_map] at hk
    cases hc : σ[k]? with
    | none => rw [hc] at hk; cases hk
    | some c =>
      rw [hc] at hk; simp at hk
      cases hr : ρ[c]? with
      | none => rw [hr] at hk; cases hk
      | some l => rw [hr] at hk; simp at hk; subst hk; exact hw _ _ _ hr
  · intro k x hk
    obtain ⟨c, hc, rfl⟩ := getG hk
    cases hH : H[c]? with
    | none => exact ⟨(ρ[c]?).getD .void, by simp [pullR, hc], trivial⟩
    | some ch =>
      obtain ⟨l, hl, hs⟩ := h.sat c ch hH
      exact ⟨l, pullR_at hc hl, sat_map (pull_mv hw) hs⟩
  · intro k x l b hk ho hl hb
    obtain ⟨c, hc, hx⟩ := getG hk
    obtain ⟨ch, hch, rfl⟩ := was hx (notGone ho)
    rw [owned_map] at ho
    exact h.own c ch l b hch ho (look hc hch hl) hb
  · intro k sz els l b hk hl hb
    obtain ⟨c, hc, hx⟩ := getG hk
    obtain ⟨ch, hch, hx⟩ := was hx (by simp)
    cases ch with
    | rows o sz' els' =>
      simp only [mapC, Chunk.rows.injEq] at hx
      obtain ⟨rfl, rfl, _⟩ := hx
      exact h.ro c _ els' l b hch (look hc hch hl) hb
    | _ => cases hx
  · intro k d x y l m b hkd hk hd hox hoy hl hm hb hmb
    obtain ⟨c, hc, hx⟩ := getG hk
    obtain ⟨e, he, hy⟩ := getG hd
    obtain ⟨ch, hch, rfl⟩ := was hx (notGone hox)
    obtain ⟨eh, heh, rfl⟩ := was hy (notGone hoy)
    rw [owned_map] at hox hoy
    refine h.apart c e ch eh l m b (fun hce => hkd ?_) hch heh hox hoy (look hc hch hl) (look he heh hm) hb hmb
    subst hce
    exact nodup_get hnd hc he

theorem Wk.gc {N : Nat} {tm : TM} {H : Heap} (σ : List Nat) (h : σ.take N = List.range N) (hnd : σ.Nodup) : Wk N tm H (gcT σ tm) (gcH σ H) := fun X n ρ a w ha hi =>
  ⟨pullR σ ρ, leN_pull h, ⟨ha.size, ha.defers, fun t => by rw [get_gcT]; exact relI_pull hi.obj1 (ha.rel t)⟩, inv_gc hi hnd⟩

/-- A result, seen from some chunks. -/
def gcI (σ : List Nat) : IV → IV
  | .t l => .t (l.map (pullI σ))
  | x => pullI σ x
theorem relI_gc {σ : List Nat} {ρ : Ren} (hw : ∀ (c b : Nat) (u : Value), ρ[c]? = some (Pl.obj b u) → u.oneCell' = true) {x : IV} {v : Value} (h : relI ρ x v) : relI (pullR σ ρ) (gcI σ x) v := by
  cases x with
  | s x => exact relI_pull (x := .s x) hw h
  | a l => exact relI_pull (x := .a l) hw h
  | t l => obtain ⟨vs, e, hr⟩ := h; exact ⟨vs, e, relT_map (pull_mv hw).c hr⟩
  | j => trivial
theorem WkR.gc {N : Nat} {r : IV} {H : Heap} (σ : List Nat) (h : σ.take N = List.range N) (hnd : σ.Nodup) : WkR N r H (gcI σ r) (gcH σ H) := fun X ρ v w hr hi =>
  ⟨pullR σ ρ, leN_pull h, relI_gc hi.obj1 hr, inv_gc hi hnd⟩

theorem WkR.to {N : Nat} {r r1 r2 : IV} {H H1 H2 : Heap} (h : WkR N r H r1 H1) (e1 : r1 = r2) (e2 : H1 = H2) : WkR N r H r2 H2 := by subst e1; subst e2; exact h

/-! #### nil slices -/
theorem inv_nil {X : Ctx} {ρ : Ren} {H : Heap} {w : World} (h : Inv X ρ H w) (sz : Nat) : Inv X (ρ ++ [.nowhere]) (H ++ [.rows true sz []]) w :=
  h.push .nowhere (.rows true sz []) rfl rfl rfl (Nat.le_refl _) (fun _ _ => rfl) (fun _ _ h => by cases h) (.inl ⟨rfl, rfl⟩) (fun _ b hb => by cases hb) (fun _ _ h => by cases h)
theorem rel_nil {ρ : Ren} {H : Heap} (hlen : ρ.length = H.length) {v : Value} (h : relS ρ (.raw (.slice none 0 0)) v) : relS (ρ ++ [.nowhere]) (.slice H.length 0 0) v := by
  obtain ⟨rfl, _⟩ := h
  exact .inl ⟨by rw [← hlen]; simp, rfl, rfl, rfl⟩

theorem inv_cell {X : Ctx} {ρ : Ren} {H : Heap} {w : World} (h : Inv X ρ H w) {c sz i o : Nat} {own : Bool} {els : List (List SV)} {row : List SV} {x y : SV} (hc : H[c]? = some (.rows own sz els)) (hrow : els[i]? = some row) (hx : row[o]? = some x)
    (hxy : ∀ v, relS ρ x v → relS ρ y v) : Inv X ρ (H.set c (.rows own sz (els.set i (row.set o y)))) w := by
  have hlt : c < H.length := (List.getElem?_eq_some_iff.1 hc).1
  have hil : i < els.length := (List.getElem?_eq_some_iff.1 hrow).1
  have hol : o < row.length := (List.getElem?_eq_some_iff.1 hx).1
  have get_c : (H.set c (.rows own sz (els.set i (row.set o y))))[c]? = some (.rows own sz (els.set i (row.set o y))) := by simp [hlt]
  have get_o : ∀ {d : Nat}, d ≠ c → (H.set c (.rows own sz (els.set i (row.set o y))))[d]? = H[d]? := fun hd => by rw [List.getElem?_set_ne (Ne.symm hd)]
  have own_old : ∀ {d : Nat} {x : Chunk}, (H.set c (.rows own sz (els.set i (row.set o y))))[d]? = some x → ∃ x', H[d]? = some x' ∧ x'.owned = x.owned ∧ ((∃ sz els, x = .rows false sz els) → ∃ els', ∃ sz', (∃ els, x = .rows false sz' els) ∧ x' = .rows false sz' els') := by
    intro d x hd
    by_cases e : d = c
    · subst e; rw [get_c] at hd; cases hd
      refine ⟨_, hc, by cases own <;> rfl, ?_⟩
      rintro ⟨sz2, els2, e2⟩
      simp only [Chunk.rows.injEq] at e2
      obtain ⟨rfl, rfl, _⟩ := e2
      exact ⟨els, _, ⟨_, rfl⟩, rfl⟩
    · rw [get_o e] at hd
      exact ⟨x, hd, rfl, fun ⟨sz2, els2, e2⟩ => ⟨els2, sz2, ⟨els2, e2⟩, e2⟩⟩
  refine ⟨h.os, h.tape, h.output, h.drawn, h.size, h.old, by simp [h.len], h.obj1, ?_, ?_, ?_, ?_⟩
  · intro d z hd
    by_cases e : d = c
    · subst e; rw [get_c] at hd; cases hd
      obtain ⟨l, hl, hs⟩ := h.sat d _ hc
      refine ⟨l, hl, ?_⟩
      rcases hs with ⟨h1, h2⟩ | ⟨b, base, lim, cells, T, lo, hi, h1, h2, h3, h4, h5, h6, h7, h8⟩
      · subst h2; simp at hrow
      · refine .inr ⟨b, base, lim, cells, T, lo, hi, h1, h2, h3, by simpa using h4, h5, h6, h7, ?_⟩
        intro k rw' hk
        by_cases ek : k = i
        · subst ek
          rw [List.getElem?_set_self hil] at hk; cases hk
          obtain ⟨h9, h10⟩ := h8 k row hrow
          refine ⟨by simpa using h9, fun p z hz => ?_⟩
          by_cases ep : p = o
          · subst ep
            rw [List.getElem?_set_self hol] at hz; cases hz
            obtain ⟨v, hv, hr⟩ := h10 p x hx
            exact ⟨v, hv, hxy v hr⟩
          · rw [List.getElem?_set_ne (Ne.symm ep)] at hz; exact h10 p z hz
        · rw [List.getElem?_set_ne (Ne.symm ek)] at hk; exact h8 k rw' hk
    · rw [get_o e] at hd; exact h.sat d z hd
  · intro d z l b hd ho hl hb
    obtain ⟨x', h1, h2, _⟩ := own_old hd
    exact h.own d x' l b h1 (h2.trans ho) hl hb
  · intro d sz2 els2 l b hd hl hb
    obtain ⟨x', h1, _, h3⟩ := own_old hd
    obtain ⟨els', sz', ⟨els3, e3⟩, rfl⟩ := h3 ⟨_, _, rfl⟩
    cases e3
    exact h.ro d _ els' l b h1 hl hb
  · intro d e z y' l m b hde hd he hoz hoy hl hm hb hmb
    obtain ⟨x1, h1, h2, _⟩ := own_old hd
    obtain ⟨x2, h3, h4, _⟩ := own_old he
    exact h.apart d e x1 x2 l m b hde h1 h3 (h2.trans hoz) (h4.trans hoy) hl hm hb hmb

/-- A nil slice in memory. -/
def nilH (c i o sz : Nat) (H : Heap) : Heap :=
  match H[c]? with
  | some (.rows own sz' els) => match els[i]? with
    | some row => H.set c (.rows own sz' (els.set i (row.set o (.slice H.length 0 0)))) ++ [.rows true sz []]
    | none => H
  | _ => H
def isNilAt (c i o : Nat) (H : Heap) : Bool :=
  match H[c]? with
  | some (.rows _ _ els) => match els[i]? with
    | some row => match row[o]? with
      | some (.raw (.slice none 0 0)) => true
      | _ => false
    | none => false
  | _ => false
theorem inv_nilH {X : Ctx} {ρ : Ren} {H : Heap} {w : World} (h : Inv X ρ H w) (c i o sz : Nat) (hn : isNilAt c i o H = true) : Inv X (ρ ++ [.nowhere]) (nilH c i o sz H) w := by
  unfold isNilAt at hn
  split at hn
  · rename_i own sz' els hc
    split at hn
    · rename_i row hrow
      split at hn
      · rename_i hx
        unfold nilH
        rw [hc]
        simp only [hrow]
        have hlt : c < H.length := (List.getElem?_eq_some_iff.1 hc).1
        have h1 := inv_nil h sz
        have h2 := inv_cell (y := .slice H.length 0 0) h1 (c := c) (i := i) (o := o) (by rw [List.getElem?_append_left hlt]; exact hc) hrow hx (fun v hv => by
          obtain ⟨rfl, _⟩ := hv
          exact .inl ⟨by rw [← h.len]; simp, rfl, rfl, rfl⟩)
        rwa [List.set_append_left _ _ hlt] at h2
      · cases hn
    · cases hn
  · cases hn
/-- A nil slice in a result: the i-th part of a tuple (or the whole), its cell. -/
def nilI (m i o : Nat) : IV → Option IV
  | .s (.raw (.slice none 0 0)) => some (.s (.slice m 0 0))
  | .a l => match l[o]? with
    | some (.raw (.slice none 0 0)) => some (.a (l.set o (.slice m 0 0)))
    | _ => none
  | .t l => match l[i]? with
    | some (.s (.raw (.slice none 0 0))) => some (.t (l.set i (.s (.slice m 0 0))))
    | some (.a l') => match l'[o]? with
      | some (.raw (.slice none 0 0)) => some (.t (l.set i (.a (l'.set o (.slice m 0 0)))))
      | _ => none
    | _ => none
  | .j => none
  | _ => none

theorem relL_set {ρ ρ' : Ren} (p : Le ρ ρ') {y : SV} : ∀ {l : List SV} {vs : List Value} {o : Nat} {x : SV}, relL ρ l vs → l[o]? = some x → (∀ v, relS ρ x v → relS ρ' y v) → relL ρ' (l.set o y) vs
  | [], [], _, _, _, h, _ => by simp at h
  | z :: l, v :: vs, 0, x, h, ho, hf => by simp at ho; subst ho; exact ⟨hf v h.1, h.2.pre p⟩
  | z :: l, v :: vs, o + 1, x, h, ho, hf => ⟨h.1.pre p, relL_set p h.2 (by simpa using ho) hf⟩
  | [], _ :: _, _, _, h, _, _ => h.elim
  | _ :: _, [], _, _, h, _, _ => h.elim
theorem relT_set {ρ ρ' : Ren} (p : Le ρ ρ') {y : IV} : ∀ {l : List IV} {vs : List Value} {o : Nat} {x : IV}, relT ρ l vs → l[o]? = some x → (∀ v, relC ρ x v → relC ρ' y v) → relT ρ' (l.set o y) vs
  | [], [], _, _, _, h, _ => by simp at h
  | z :: l, v :: vs, 0, x, h, ho, hf => by simp at ho; subst ho; exact ⟨hf v h.1, h.2.pre p⟩
  | z :: l, v :: vs, o + 1, x, h, ho, hf => ⟨h.1.pre p, relT_set p h.2 (by simpa using ho) hf⟩
  | [], _ :: _, _, _, h, _, _ => h.elim
  | _ :: _, [], _, _, h, _, _ => h.elim

theorem WkR.nilR {N : Nat} {r r1 : IV} {H : Heap} (i o sz : Nat) (h : nilI H.length i o r = some r1) : WkR N r H r1 (H ++ [.rows true sz []]) := fun X ρ v w hr hi => by
  refine ⟨ρ ++ [.nowhere], (Le.app _ _).toN _, ?_, inv_nil hi sz⟩
  have p : Le ρ (ρ ++ [.nowhere]) := Le.app _ _
  have cell : ∀ {l : List SV} {v : Value} {l' : List SV}, relC ρ (.a l) v → l[o]? = some (.raw (.slice none 0 0)) → relC (ρ ++ [.nowhere]) (.a (l.set o (.slice H.length 0 0))) v := by
    rintro l v _ ⟨cs, rfl, hl⟩ ho
    exact ⟨cs, rfl, relL_set p hl ho fun v hv => rel_nil hi.len hv⟩
  unfold nilI at h
  split at h
  · cases h; exact rel_nil hi.len hr
  · split at h
    · rename_i ho; cases h; exact cell (l' := []) hr ho
    · cases h
  · obtain ⟨vs, rfl, ht⟩ := hr
    split at h
    · rename_i ho; cases h
      exact ⟨vs, rfl, relT_set p ht ho fun v hv => rel_nil (v := v) hi.len hv⟩
    · rename_i l' ho
      split at h
      · rename_i ho2; cases h
        exact ⟨vs, rfl, relT_set p ht ho fun v hv => cell (l' := []) hv ho2⟩
      · cases h
    · cases h
  · cases h
  · cases h

/-! #### a slice as all of a chunk of its own -/
/-- The chunk behind a slice is let go; its elements are a new chunk. -/
theorem inv_own {X : Ctx} {ρ : Ren} {H : Heap} {w : World} (h : Inv X ρ H w) {d s n sz : Nat} {dels r : List (List SV)} (hd : H[d]? = some (.rows true sz dels)) (hs : segR dels s n = some r) :
    ∃ l, Inv X (ρ ++ [l]) (H.set d .gone ++ [.rows true sz r]) w ∧ ∀ v, relS ρ (.slice d s n) v → relS (ρ ++ [l]) (.slice H.length 0 n) v := by
  obtain ⟨l0, hl0, hsat⟩ := h.sat d _ hd
  have hdrop := h.drop d
  have hlen : (H.set d .gone).length = H.length := by simp
  obtain ⟨hrl, hle, hget⟩ := segR_spec hs
  have hup : ∀ ch, up1 (H.set d .gone) H.length ch = H.set d .gone ++ [ch] := fun ch => by unfold up1; rw [if_pos hlen.symm]
  have had : ∀ l, addR ρ H.length l = ρ ++ [l] := fun l => by unfold addR; rw [if_pos h.len.symm]
  have hat : ∀ l, (ρ ++ [l])[H.length]? = some l := fun l => by rw [← h.len]; simp
  rcases hsat with ⟨rfl, rfl⟩ | ⟨b, base, lim, cells, T, lo, hi, rfl, hw, hsz, hlim, hfit, hfz, hone, hrows⟩
  · refine ⟨.nowhere, ?_, fun v hv => ?_⟩
    · have hr : r = [] := by
        apply List.eq_nil_of_length_eq_zero
        simp at hle; omega
      subst hr
      exact hdrop.push .nowhere (.rows true sz []) rfl rfl rfl (Nat.le_refl _) (fun _ _ => rfl) (fun _ _ h => by cases h) (.inl ⟨rfl, rfl⟩) (fun _ b hb => by cases hb) (fun _ _ h => by cases h)
    · rcases hv with ⟨_, h1, h2, h3⟩ | ⟨_, _, _, _, _, hc, _⟩ | ⟨_, _, _, _, _, hc, _⟩
      · exact .inl ⟨hat _, rfl, h2, h3⟩
      · rw [hl0] at hc; cases hc
      · rw [hl0] at hc; cases hc
  · have hml : s * sz + (lim - s) * sz = lim * sz := by rw [← Nat.add_mul]; congr 1; omega
    refine ⟨.mem b (base + s * sz) sz (lim - s), ?_, fun v hv => ?_⟩
    · have := hdrop.take (m := H.length) (.inl hlen.symm) (.mem b (base + s * sz) sz (lim - s)) (.rows true sz r) (fun _ _ => by simp)
        (.inr ⟨b, base + s * sz, lim - s, cells, T, lo, hi, rfl, hw, hsz, by rw [hrl]; omega, by omega, hfz, hone, ?_⟩) (fun b' hb' => ?_) (fun _ _ => by simp) ?_
      · rwa [hup, had] at this
      · intro i row hi
        obtain ⟨h1, h2⟩ := hrows (s + i) row (hget i row hi)
        refine ⟨h1, fun o x hx => ?_⟩
        obtain ⟨v, hv, hr⟩ := h2 o x hx
        refine ⟨v, ?_, hr.pre (by rw [had]; exact Le.app _ _)⟩
        rw [← hv]; congr 1; rw [Nat.add_mul]; omega
      · simp only [Pl.blk, Option.some.injEq] at hb'
        subst hb'
        exact h.own d _ _ b hd rfl hl0 rfl
      · intro e x k b' he hox hk hkb hbb
        simp only [Pl.blk, Option.some.injEq] at hbb
        subst hbb
        by_cases e1 : e = d
        · subst e1
          rw [List.getElem?_set] at he
          simp at he
          rw [← he.2] at hox; cases hox
        · rw [List.getElem?_set_ne (Ne.symm e1)] at he
          exact h.apart e d x _ k _ b e1 he hd hox rfl hk hl0 hkb rfl
    · rcases hv with ⟨hc, _⟩ | ⟨b', base', sz', lim', cap, hc, rfl, h1, h2⟩ | ⟨b', base', sz', lim', off, hc, rfl, rfl⟩
      · rw [hl0] at hc; cases hc
      · rw [hl0] at hc; cases hc
        refine .inr (.inl ⟨b, base + s * sz, sz, lim - s, cap, hat _, by simp, h1, by omega⟩)
      · rw [hl0] at hc; cases hc
        exact .inr (.inr ⟨b, base + s * sz, sz, lim - s, off, hat _, rfl, rfl⟩)

/-- The slice in a cell, as all of a new chunk (of elements of so many cells, where it is nil). -/
def canH (sz c i o : Nat) (H : Heap) : Heap :=
  match H[c]? with
  | some (.rows own sz' els) => match els[i]? with
    | some row => match row[o]? with
      | some (.raw (.slice none 0 0)) => H.set c (.rows own sz' (els.set i (row.set o (.slice H.length 0 0)))) ++ [.rows true sz []]
      | some (.slice d s n) => if d = c then H ++ [.gone] else match H[d]? with
        | some (.rows true szd dels) => match segR dels s n with
          | some r => (H.set d .gone).set c (.rows own sz' (els.set i (row.set o (.slice H.length 0 n)))) ++ [.rows true szd r]
          | none => H ++ [.gone]
        | _ => H ++ [.gone]
      | _ => H ++ [.gone]
    | none => H ++ [.gone]
  | _ => H ++ [.gone]

theorem inv_gone {X : Ctx} {ρ : Ren} {H : Heap} {w : World} (h : Inv X ρ H w) : Inv X (ρ ++ [.void]) (H ++ [.gone]) w :=
  h.push .void .gone rfl rfl rfl (Nat.le_refl _) (fun _ _ => rfl) (fun _ _ h => by cases h) trivial (fun h => by cases h) (fun _ _ h => by cases h)

theorem inv_can {X : Ctx} {ρ : Ren} {H : Heap} {w : World} (h : Inv X ρ H w) (sz c i o : Nat) : ∃ l, Inv X (ρ ++ [l]) (canH sz c i o H) w := by
  unfold canH
  split
  · rename_i own sz' els hc
    have hlt : c < H.length := (List.getElem?_eq_some_iff.1 hc).1
    split
    · rename_i row hrow
      split
      · rename_i hx
        refine ⟨.nowhere, ?_⟩
        have h2 := inv_cell (y := .slice H.length 0 0) (inv_nil h sz) (c := c) (i := i) (o := o) (by rw [List.getElem?_append_left hlt]; exact hc) hrow hx (fun v hv => by
          obtain ⟨rfl, _⟩ := hv
          exact .inl ⟨by rw [← h.len]; simp, rfl, rfl, rfl⟩)
        rwa [List.set_append_left _ _ hlt] at h2
      · rename_i d s n hx
        split
        · exact ⟨_, inv_gone h⟩
        · rename_i hdc
          split
          · rename_i szd dels hd
            split
            · rename_i r hs
              obtain ⟨l, h1, h2⟩ := inv_own h hd hs
              refine ⟨l, ?_⟩
              have hlt2 : c < (H.set d .gone).length := by simpa using hlt
              have hc2 : (H.set d .gone ++ [.rows true szd r])[c]? = some (.rows own sz' els) := by
                rw [List.getElem?_append_left hlt2, List.getElem?_set_ne hdc]; exact hc
              have h3 := inv_cell (y := .slice H.length 0 n) h1 hc2 hrow hx (fun v hv => ?_)
              · rwa [List.set_append_left _ _ hlt2] at h3
              · -- the cell as the old renaming has it
                refine h2 v ?_
                have hdl : d < ρ.length := by rw [h.len]; exact (List.getElem?_eq_some_iff.1 hd).1
                have eq : (ρ ++ [l])[d]? = ρ[d]? := List.getElem?_append_left hdl
                rcases hv with ⟨h5, h6⟩ | ⟨b, base, sz2, lim, cap, h5, h6⟩ | ⟨b, base, sz2, lim, off, h5, h6⟩
                · exact .inl ⟨by rw [← eq]; exact h5, h6⟩
                · exact .inr (.inl ⟨b, base, sz2, lim, cap, by rw [← eq]; exact h5, h6⟩)
                · exact .inr (.inr ⟨b, base, sz2, lim, off, by rw [← eq]; exact h5, h6⟩)
            · exact ⟨_, inv_gone h⟩
          · exact ⟨_, inv_gone h⟩
      · exact ⟨_, inv_gone h⟩
    · exact ⟨_, inv_gone h⟩
  · exact ⟨_, inv_gone h⟩

/-- Many cells, one behind the other. -/
def canL : List (Nat × Nat × Nat × Nat) → Heap → Heap
  | [], H => H
  | (sz, c, i, o) :: l, H => canL l (canH sz c i o H)
theorem inv_canL {X : Ctx} {w : World} : ∀ (l : List (Nat × Nat × Nat × Nat)) {ρ : Ren} {H : Heap}, Inv X ρ H w → ∃ ρ1, Le ρ ρ1 ∧ Inv X ρ1 (canL l H) w
  | [], ρ, _, h => ⟨ρ, Le.refl _, h⟩
  | (sz, c, i, o) :: l, ρ, H, h => by
    obtain ⟨k, h1⟩ := inv_can h sz c i o
    obtain ⟨ρ1, h2, h3⟩ := inv_canL l h1
    exact ⟨ρ1, (Le.app _ _).trans h2, h3⟩

/-- Which chunks stay: an old one by its number, or the j-th of the new ones. -/
def patL (n : Nat) : List (Nat ⊕ Nat) → List Nat
  | [] => []
  | .inl c :: l => c :: patL n l
  | .inr j :: l => (n + j) :: patL n l

theorem Wk.can {N : Nat} {tm : TM} {H : Heap} (l : List (Nat × Nat × Nat × Nat)) (pat : List (Nat ⊕ Nat)) (h : (patL H.length pat).take N = List.range N) (hnd : (patL H.length pat).Nodup) :
    Wk N tm H (gcT (patL H.length pat) tm) (gcH (patL H.length pat) (canL l H)) := fun X n ρ a w ha hi => by
  obtain ⟨ρ1, h1, h2⟩ := inv_canL l hi
  obtain ⟨ρ2, h3, h4, h5⟩ := Wk.gc (N := N) (patL H.length pat) h hnd X n ρ1 a w (ha.pre h1) h2
  exact ⟨ρ2, (h1.toN N).trans h3, h4, h5⟩
theorem WkR.can {N : Nat} {r : IV} {H : Heap} (l : List (Nat × Nat × Nat × Nat)) (pat : List (Nat ⊕ Nat)) (h : (patL H.length pat).take N = List.range N) (hnd : (patL H.length pat).Nodup) :
    WkR N r H (gcI (patL H.length pat) r) (gcH (patL H.length pat) (canL l H)) := fun X ρ v w ha hi => by
  obtain ⟨ρ1, h1, h2⟩ := inv_canL l hi
  obtain ⟨ρ2, h3, h4, h5⟩ := WkR.gc (N := N) (patL H.length pat) h hnd X ρ1 v w (ha.pre h1) h2
  exact ⟨ρ2, (h1.toN N).trans h3, h4, h5⟩

/-- The slice in a temporary, as all of a new chunk. -/
def canT (sz t : Nat) (s : TM × Heap) : TM × Heap :=
  match get s.1 t with
  | .s (.raw (.slice none 0 0)) => ((t, .s (.slice s.2.length 0 0)) :: s.1, s.2 ++ [.rows true sz []])
  | .s (.slice d o n) => match s.2[d]? with
    | some (.rows true szd dels) => match segR dels o n with
      | some r => ((t, .s (.slice s.2.length 0 n)) :: s.1, s.2.set d .gone ++ [.rows true szd r])
      | none => (s.1, s.2 ++ [.gone])
    | _ => (s.1, s.2 ++ [.gone])
  | _ => (s.1, s.2 ++ [.gone])
def canTL : List (Nat × Nat) → TM × Heap → TM × Heap
  | [], s => s
  | (sz, t) :: l, s => canTL l (canT sz t s)

theorem relA_tmp {X : Ctx} {n : Nat} {ρ : Ren} {tm : TM} {a : Act} {l : Pl} {t : Nat} {y : IV} (ha : RelA X n ρ tm a) (h : ∀ v, relI ρ (get tm t) v → relI (ρ ++ [l]) y v) : RelA X n (ρ ++ [l]) ((t, y) :: tm) a :=
  ⟨ha.size, ha.defers, fun s => by
    have hs := ha.rel s
    simp only [get]
    by_cases e : t = s
    · subst e; rw [if_pos rfl]; exact h _ hs
    · rw [if_neg e]; exact hs.pre (Le.app _ _)⟩

theorem canT_ok {X : Ctx} {n : Nat} {ρ : Ren} {tm : TM} {H : Heap} {a : Act} {w : World} (sz t : Nat) (ha : RelA X n ρ tm a) (hi : Inv X ρ H w) : ∃ l, RelA X n (ρ ++ [l]) (canT sz t (tm, H)).1 a ∧ Inv X (ρ ++ [l]) (canT sz t (tm, H)).2 w := by
  have skip : ∃ l, RelA X n (ρ ++ [l]) (tm, H ++ [Chunk.gone]).1 a ∧ Inv X (ρ ++ [l]) (tm, H ++ [Chunk.gone]).2 w := ⟨.void, ha.pre (Le.app _ _), inv_gone hi⟩
  unfold canT
  split
  · rename_i hg
    exact ⟨.nowhere, relA_tmp ha (fun v hv => by simp only at hg; rw [hg] at hv; exact rel_nil hi.len hv), inv_nil hi sz⟩
  · rename_i d o k hg
    split
    · rename_i szd dels hd
      split
      · rename_i r hs
        obtain ⟨l, h1, h2⟩ := inv_own hi hd hs
        exact ⟨l, relA_tmp ha (fun v hv => by simp only at hg; rw [hg] at hv; exact h2 v hv), h1⟩
      · exact skip
    · exact skip
  · exact skip
theorem canTL_ok {X : Ctx} {n : Nat} {a : Act} {w : World} : ∀ (l : List (Nat × Nat)) {ρ : Ren} {s : TM × Heap}, RelA X n ρ s.1 a → Inv X ρ s.2 w → ∃ ρ1, Le ρ ρ1 ∧ RelA X n ρ1 (canTL l s).1 a ∧ Inv X ρ1 (canTL l s).2 w
  | [], ρ, _, ha, hi => ⟨ρ, Le.refl _, ha, hi⟩
  | (sz, t) :: l, ρ, s, ha, hi => by
    obtain ⟨k, h1, h2⟩ := canT_ok sz t ha hi
    obtain ⟨ρ1, h3, h4⟩ := canTL_ok l h1 h2
    exact ⟨ρ1, (Le.app _ _).trans h3, h4⟩

/-- Temporaries and cells, then some chunks alone. -/
theorem Wk.can2 {N : Nat} {tm : TM} {H : Heap} (lt : List (Nat × Nat)) (l : List (Nat × Nat × Nat × Nat)) (pat : List (Nat ⊕ Nat)) (h : (patL H.length pat).take N = List.range N) (hnd : (patL H.length pat).Nodup) :
    Wk N tm H (gcT (patL H.length pat) (canTL lt (tm, H)).1) (gcH (patL H.length pat) (canL l (canTL lt (tm, H)).2)) := fun X n ρ a w ha hi => by
  obtain ⟨ρ0, h0, h1, h2⟩ := canTL_ok lt (s := (tm, H)) ha hi
  obtain ⟨ρ1, h3, h4⟩ := inv_canL l h2
  obtain ⟨ρ2, h5, h6, h7⟩ := Wk.gc (N := N) (patL H.length pat) h hnd X n ρ1 a w (h1.pre h3) h4
  exact ⟨ρ2, ((h0.trans h3).toN N).trans h5, h6, h7⟩

/-! #### where a state may be looked at anew -/
section
variable {P : Program} {X : Ctx} {n N : Nat} {c : Code} {Q : Exit → TM → Heap → Prop} {tm : TM} {H : Heap}

theorem IW_wkN {tm1 : TM} {H1 : Heap} (hN : X.N = N) (h : Wk N tm H tm1 H1) (k : IW P n X c Q tm1 H1) : IW P n X c Q tm H := fun ρ a w ha hi => by
  obtain ⟨ρ1, l1, a1, i1⟩ := h _ n ρ a w ha hi
  exact wpIn_mono (k ρ1 a w a1 i1) fun _ _ _ q => q.back (hN ▸ l1)
theorem IW_wk {tm1 : TM} {H1 : Heap} (h : Wk N tm H tm1 H1) (k : IW P n (X.at N) c Q tm1 H1) : IW P n (X.at N) c Q tm H := IW_wkN rfl h k

/-- A loop: a relation that holds at each round's head, of the state looked at in some way. -/
theorem loopK_wkN (hN : X.N = N) (hok : codeOk n c = true) (I : Nat → TM → Heap → Prop) (m : Nat) (h0 : ∃ tm1 H1, Wk N tm H tm1 H1 ∧ I m tm1 H1)
    (round : ∀ m tm H, I m tm H → ev P n X c (seqQ (fun tm' H' => ∃ m' tm1 H1, m' < m ∧ Wk N tm' H' tm1 H1 ∧ I m' tm1 H1) Q) tm H) : loopK P n X c Q tm H := by
  refine IW_loop (fun m tm H => ∃ tm1 H1, Wk N tm H tm1 H1 ∧ I m tm1 H1) m h0 fun m tm H ⟨tm1, H1, hw, hI⟩ => ?_
  refine IW_wkN hN hw ?_
  refine IW_mono (ev_sound c hok _ _ _ (round m tm1 H1 hI)) fun e tm' H' q => ?_
  cases e with
  | normal =>
    obtain ⟨m', tm2, H2, h1, h2, h3⟩ := q
    exact ⟨m', h1, tm2, H2, h2, h3⟩
  | _ => exact q
theorem loopK_wk (hok : codeOk n c = true) (I : Nat → TM → Heap → Prop) (m : Nat) (h0 : ∃ tm1 H1, Wk N tm H tm1 H1 ∧ I m tm1 H1)
    (round : ∀ m tm H, I m tm H → ev P n (X.at N) c (seqQ (fun tm' H' => ∃ m' tm1 H1, m' < m ∧ Wk N tm' H' tm1 H1 ∧ I m' tm1 H1) Q) tm H) : loopK P n (X.at N) c Q tm H := loopK_wkN rfl hok I m h0 round

theorem callK_wk {f : FuncId} {args : List IV} {k : IV → Heap → Prop} (h : callK P X f args (fun r H' => ∃ r1 H1, WkR H.length r H' r1 H1 ∧ k r1 H1) H) : callK P X f args k H := by
  refine ⟨h.1, fun ρ vs w hargs hi => (h.2 ρ vs w hargs hi).mono ?_⟩
  rintro e w' ⟨v, r, H', ρ', rfl, ⟨r1, H1, hw, hk⟩, hrel, hle, hi'⟩
  obtain ⟨ρ1, l1, a1, i1⟩ := hw X ρ' v w' hrel hi'
  have hfull : LeN ρ.length ρ ρ1 := by
    rw [hi.len]
    exact (hle.toN _).trans l1
  exact ⟨v, r1, H1, ρ1, rfl, hk, a1, hfull.full, i1⟩

theorem funW_of {f : FuncId} {Hr Hw : Heap} {args : List IV} {Post : IV → Heap → Prop}
    (h : ∀ X, callK P X f args (fun r H' => ∃ r1 Hn, WkR (Hr ++ Hw).length r H' r1 (Hr ++ Hn) ∧ Hw.length ≤ Hn.length ∧ Post r1 Hn) (Hr ++ Hw)) : FunW P f Hr Hw args Post := fun X =>
  callK_wk (callK_mono (h X) fun _ _ ⟨r1, Hn, h1, h2, h3⟩ => ⟨r1, _, h1, Hn, rfl, h2, h3⟩)
end
end Go.Ev

/- Maps: a range over one, and its rounds, ideally. -/
namespace Go.Ev
open Go.RowKit

section
variable {P : Program} {X : Ctx} {ρ : Ren} {H : Heap} {w : World} {tm : TM} {k : TM → Heap → Prop} {d : Option Nat} {t : Nat} {p : String} {af : Array Edge} {g : Option (Nat × Bool)}

end
end Go.Ev

/- A region that draws its order, by an invariant over which operations are done. -/
namespace Go.Ev
open Go.RowKit

section
variable {P : Program} {n : Nat} {X : Ctx} {all : Array Oper} {ρ' : Ren} {tm : TM} {H : Heap} {a : Act} {w : World} {k : TM → Heap → Prop} {K : Act → World → Prop} {Q : Exit → Act → World → Prop}

end
end Go.Ev

/- Functions that only reckon, but look at what lies in the world from the start: a contract under a condition on the world that stays. -/
namespace Go.Ev
open Go.RowKit Go.ChangeShapes Go.WideShapes Go.ChangeAt

/-- In whatever state that the function comes to, it holds. -/
def KeepT (T : World → Prop) (X : Ctx) : Prop := ∀ (ρ : Ren) (H : Heap) (w : World), Inv X ρ H w → T w
section
variable {T : World → Prop} {P : Program} {X : Ctx}
theorem KeepT.at (h : KeepT T X) (N : Nat) : KeepT T (X.at N) := fun ρ H w hi => h ρ H w hi.un
end
end Go.Ev

/- Functions that read chunks and look at what lies in the world from the start. -/
namespace Go.Ev
open Go.RowKit Go.ChangeShapes Go.WideShapes Go.ChangeAt
section
variable {T : World → Prop} {P : Program} {X : Ctx} {H : Heap}
end
end Go.Ev

/- Contracts that read chunks, look at what lies in the world from the start, and leave new chunks. -/
namespace Go.Ev
open Go.RowKit
section
variable {P : Program} {X : Ctx} {ρ ρ' : Ren} {w : World} {l : Pl}
end
end Go.Ev

/- Maps with keys of any plain kind: looked up, laid, taken out, counted; function values. -/
namespace Go.Ev
open Go.RowKit

section
variable {P : Program} {X : Ctx} {ρ : Ren} {H : Heap} {w : World} {tm : TM} {k : TM → Heap → Prop} {d : Option Nat} {t : Nat} {p : String} {af : Array Edge} {g : Option (Nat × Bool)}

mutual
theorem check_leaves (em : Bool) : ∀ (d : Nat) (t : TypeId) (ls : List Leaf), leavesOf P d t = some ls → ∀ (D : Nat), d ≤ D → ∀ (vs : List Value), vs.length = ls.length → (Instr.checkKey em D t (pack P t vs)).run P w = .ok () w
  | 0, t, ls, h, _, _, _, _ => by simp [leavesOf] at h
  | d + 1, t, ls, h, D, hD, vs, hv => by
    obtain ⟨D, rfl⟩ : ∃ D', D = D' + 1 := ⟨D - 1, by omega⟩
    unfold leavesOf at h
    split at h
    · rename_i k hu
      rw [Instr.checkKey]
      simp [run_underlying' P w hu]
    · rename_i hu
      rw [Instr.checkKey]
      simp [run_underlying' P w hu]
    · rename_i hu
      rw [Instr.checkKey]
      simp [run_underlying' P w hu]
    · rename_i n e hu
      split at h
      · rename_i l hl
        split at h
        · rename_i hsz2
          have hsz := hsz2.1
          cases h
          have hag : aggT P t = some true := by simp [aggT, hu]
          obtain ⟨ag, hage, h1⟩ := aggT_leaf hl
          simp only [pack, hag, if_true]
          rw [Instr.checkKey]
          simp only [Sem.run_bind, run_underlying' P w hu, Result.andThen_ok]
          simp only [Std.Legacy.Range.forIn_eq_forIn_range', Std.Legacy.Range.size, Nat.sub_zero, Nat.add_one_sub_one, Nat.div_one]
          have items : ∀ (n : Nat) (pv vs : List Value) (k : Nat), pv.length = k * l.length → vs.length = n * l.length →
              (forIn (List.range' k n) PUnit.unit fun i (_ : PUnit) => do
                Instr.checkKey em D e (← part e (pv ++ vs).toArray (i * (← sizeOf e)))
                pure (ForInStep.yield PUnit.unit) : Sem PUnit).run P w = .ok PUnit.unit w := by
            intro n
            induction n with
            | zero => intro pv vs k _ _; simp
            | succ n ih =>
              intro pv vs k hpv hvs
              obtain ⟨v1, v2, rfl, ev1⟩ : ∃ v1 v2, vs = v1 ++ v2 ∧ v1.length = l.length := ⟨vs.take l.length, vs.drop l.length, (List.take_append_drop _ _).symm, by simp [hvs, Nat.add_mul]⟩
              have p1 := part_run (P := P) (w := w) (t := e) (pre := pv) (mid := v1) (post := v2) hage (by rw [ev1]; exact hsz) (fun h => by rw [ev1]; exact h1 h)
              rw [hpv, List.append_assoc] at p1
              have p3 := check_leaves em d e l hl D (by omega) v1 ev1
              have p4 := ih (pv ++ v1) v2 (k + 1) (by simp [hpv, ev1, Nat.add_mul]) (by simp [ev1, Nat.add_mul] at hvs; omega)
              rw [List.append_assoc] at p4
              rw [List.range'_succ]
              simp only [List.forIn_cons, Sem.run_bind, run_sizeOf' P w hsz, Result.andThen_ok, p1, p3, Sem.run_pure]
              exact p4
          have := items n [] vs 0 (by simp) (by rw [hv]; simp)
          simp at this
          simp [this]
        · cases h
      · cases h
    · rename_i fs hu
      split at h
      · cases h
      · rename_i hst
        have hag : aggT P t = some true := by simp [aggT, hu]
        simp only [pack, hag, if_true]
        split at h
        · rename_i ls' hls
          split at h
          · cases h
            rw [Instr.checkKey]
            simp only [Sem.run_bind, run_underlying' P w hu, Result.andThen_ok]
            rw [← Array.forIn_toList]
            have := check_fields em d 0 fs.toList ls hls D (by omega) [] vs rfl hv
            rw [List.nil_append] at this
            rw [this]
            rfl
          · cases h
        · cases h
    · cases h
theorem check_fields (em : Bool) : ∀ (d off : Nat) (fs : List Field) (ls : List Leaf), leavesFields P d off fs = some ls → ∀ (D : Nat), d ≤ D → ∀ (pv vs : List Value), pv.length = off → vs.length = ls.length →
    (forIn fs PUnit.unit fun f (_ : PUnit) => do
      if f.name ≠ "_" then
        Instr.checkKey em D f.type (← part f.type (pv ++ vs).toArray f.offset)
        pure (ForInStep.yield PUnit.unit)
      else pure (ForInStep.yield PUnit.unit) : Sem PUnit).run P w = .ok PUnit.unit w
  | 0, off, fs, ls, h, _, _, _, _, _, _ => by simp [leavesFields] at h
  | d + 1, off, [], ls, h, D, _, pv, vs, _, _ => by simp
  | d + 1, off, f :: fs, ls, h, D, hD, pv, vs, hpv, hv => by
    unfold leavesFields at h
    simp only at h
    split at h
    · rename_i hfo
      split at h
      · rename_i l hl
        split at h
        · rename_i hsz
          split at h
          · rename_i l2 hl2
            cases h
            rw [List.length_append] at hv
            obtain ⟨v1, v2, rfl, ev1⟩ : ∃ v1 v2, vs = v1 ++ v2 ∧ v1.length = l.length := ⟨vs.take l.length, vs.drop l.length, (List.take_append_drop _ _).symm, by simp [hv]⟩
            obtain ⟨ag, hage, h1⟩ := aggT_leaf hl
            have p1 := part_run (P := P) (w := w) (t := f.type) (pre := pv) (mid := v1) (post := v2) hage (by rw [ev1]; exact hsz) (fun h => by rw [ev1]; exact h1 h)
            rw [hpv, List.append_assoc, ← hfo.2] at p1
            have p3 := check_leaves em d f.type l hl D (by omega) v1 ev1
            have p4 := check_fields em d (off + l.length) fs l2 hl2 D (by omega) (pv ++ v1) v2 (by simp [hpv, ev1]) (by simp [ev1] at hv; omega)
            rw [List.append_assoc] at p4
            simp only [List.forIn_cons, if_pos hfo.1, Sem.run_bind, p1, p3, Result.andThen_ok, Sem.run_pure]
            exact p4
          · cases h
        · cases h
      · cases h
    · cases h
end

/-- A function value. -/
theorem makeFunc_gen {fn : Fn} {first cap : Array Operand} (h1 : flat (first.toList.map (rd tm)) = true) (h2 : flat (cap.toList.map (rd tm)) = true)
    (hk : k (put tm d (.s (.ref H.length))) (H ++ [.clo fn (first.toList.map (rd tm)) (cap.toList.map (rd tm))])) : genK P X ⟨d, .makeFunc fn first cap, t, p, af, g⟩ k tm H := by
  intro n ρ a w ha hi
  have r1 := relT_of_relA h1 (relA_list ha first.toList)
  have r2 := relT_of_relA h2 (relA_list ha cap.toList)
  have e1 : (first.toList.map a.eval).toArray = first.map a.eval := by apply Array.ext'; simp only [Array.toList_map]
  have e2 : (cap.toList.map a.eval).toArray = cap.map a.eval := by apply Array.ext'; simp only [Array.toList_map]
  have hlen := hi.len
  refine ⟨.func fn (first.map a.eval) (cap.map a.eval), w, .s (.ref H.length), H ++ [.clo fn (first.toList.map (rd tm)) (cap.toList.map (rd tm))], ρ ++ [.val (.func fn (first.map a.eval) (cap.map a.eval))], .inl ?_, ?_, Le.app _ _, ?_, hk⟩
  · have hex : execOp a.eval ⟨d, .makeFunc fn first cap, t, p, af, g⟩ = (do pure (.value (← Instr.makeFunc fn (first.map a.eval) (cap.map a.eval)))) := rfl
    rw [hex]
    simp [Instr.makeFunc]
  · exact .inr ⟨by rw [← hlen]; simp, rfl⟩
  · refine hi.push _ _ rfl rfl rfl (Nat.le_refl _) (fun b hb => rfl) (fun b u h => by cases h) ?_ (fun h => by cases h) (fun _ _ h => by cases h)
    exact ⟨_, _, by rw [e1, e2], r1.pre (Le.app _ _), r2.pre (Le.app _ _)⟩

/-! ### the rules -/
section rules
variable {T kt vt Tk : TypeId} {m' key val : Operand} {ok : Bool} {ls : List Leaf} {x v : IV} {c clock : Nat} {es l1 l2 : List (IV × IV × Nat)} {e : IV × IV × Nat} {kd : List Nat → IV → List (Nat × Chunk) → Prop}
end rules
end
end Go.Ev

/- The evaluator's functions' equations, in one name. -/
namespace Go.Ev
abbrev FB_ := And.intro (@argsTM.eq_1) (And.intro (@argsTM.eq_2) (And.intro (@stepE.eq_def) (And.intro (@stBuiltin.eq_def) (And.intro (@stBox.eq_def) (And.intro (@stAlloc.eq_def) (And.intro (@stLoad.eq_def) (And.intro (@stStore.eq_def) (And.intro (@stField.eq_def) (And.intro (@stExtract.eq_def) (And.intro (@stBin.eq_def) (And.intro (@stUn.eq_def) (And.intro (@stConv.eq_def) (And.intro (@stNilCheck.eq_def) (And.intro (@stFieldV.eq_def) (And.intro (@stIndex.eq_def) (And.intro (@stIndexAddr.eq_def) (And.intro (@stLen.eq_def) (And.intro (@stMin.eq_def) (And.intro (@stMax.eq_def) (And.intro (@stBuild.eq_def) (And.intro (@fillI.eq_1) (And.intro (@fillI.eq_2) (And.intro (@stBuildSlice.eq_def) (And.intro (@setRows.eq_1) (And.intro (@setRows.eq_2) (And.intro (@stMakeSlice.eq_def) (And.intro (@stAppend.eq_def) (And.intro (@srcR.eq_def) (And.intro (@rdCells.eq_def) (And.intro (@stSlice.eq_def) (And.intro (@bnd.eq_def) (And.intro (@stArr.eq_def) (And.intro (@stCopy.eq_def) (And.intro (@stConv2.eq_def) (And.intro (@isIntV.eq_def) (And.intro (@cutR.eq_1) (And.intro (@cutR.eq_2) (And.intro (@byteRows.eq_1) (And.intro (@byteRows.eq_2) (And.intro (@rowByte.eq_def) (And.intro (@binStr.eq_def) (And.intro (@Option.map_some.{0, 0}) (And.intro (@Option.map_none.{0, 0}) (And.intro (@eq_self.{1}) (And.intro (@canTL.eq_1) (And.intro (@canTL.eq_2) (And.intro (@canT.eq_def) (And.intro (@canH.eq_def) (And.intro (@canL.eq_1) (And.intro (@canL.eq_2) (And.intro (@patL.eq_1) (And.intro (@patL.eq_2) (And.intro (@patL.eq_3) (And.intro (@gcH.eq_def) (And.intro (@gcT.eq_def) (And.intro (@gcI.eq_def) (And.intro (@get_gcT) (And.intro (@pullS.eq_def) (And.intro (@pullI.eq_def) (And.intro (@pushS.eq_def) (And.intro (@push1.eq_def) (And.intro (@pushI.eq_def) (And.intro (@pullHW.eq_def) (And.intro (@roC.eq_def) (And.intro (@ix.eq_1) (And.intro (@ix.eq_2) (And.intro (@List.map_map.{0, 0, 0}) (And.intro (@Function.comp_def.{1, 1, 1}) (And.intro (@List.zip_cons_cons.{0, 0}) (And.intro (@List.zip_nil_left.{0, 0}) (And.intro (@List.zip_nil_right.{0, 0}) (And.intro (@List.range'_zero) (And.intro (@List.range'_succ) (And.intro (@rd.eq_def) (And.intro (@get.eq_1) (And.intro (@get.eq_2) (And.intro (@put.eq_def) (And.intro (@IV.cells.eq_def) (And.intro (@ofValue.eq_def) (And.intro (@seg.eq_def) (And.intro (@spl.eq_def) (And.intro (@ldIV.eq_def) (And.intro (@binInt.eq_def) (And.intro (@eqI.eq_def) (And.intro (@cellsEq.eq_1) (And.intro (@cellsEq.eq_2) (And.intro (@cellsEq.eq_3) (And.intro (@leafEq.eq_def) (And.intro (@resI.eq_1) (And.intro (@resI.eq_2) (And.intro (@resI.eq_3) (And.intro (@flat.eq_1) (And.intro (@flat.eq_2) (And.intro (@isT.eq_def) (And.intro (@upd.eq_1) (And.intro (@upd.eq_2) (And.intro (@up1.eq_def) (And.intro (@nextM.eq_1) (And.intro (@nextM.eq_2) (And.intro (@cR.eq_def) (And.intro (@ptrC.eq_def) (And.intro (@nAl.eq_1) (And.intro (@nAl.eq_2) (@isAl.eq_def))))))))))))))))))))))))))))))))))))))))))))))))))))))))))))))))))))))))))))))))))))))))))))))))))))))))
end Go.Ev

/- Is a slice nil? An empty one may be, another one isn't. -/
set_option linter.unusedVariables false
namespace Go.Ev
open Go.RowKit
section
variable {P : Program} {X : Ctx} {d : Option Nat} {t : TypeId} {p : String} {af : Array Edge} {gu : Option (Nat × Bool)} {tm : TM} {H : Heap} {k : TM → Heap → Prop}
theorem eqnil_gen {T yt e : TypeId} {x : Operand} {c s n : Nat} (hT : P.underlying T = some (.slice e)) (hx : rd tm x = .s (.slice c s n)) (h1 : n = 0 → k (put tm d (.s (.raw (.bool true)))) H) (h2 : k (put tm d (.s (.raw (.bool false)))) H) :
    genK P X ⟨d, .binOp .eql T x (.const (.slice none 0 0)) yt, t, p, af, gu⟩ k tm H := by
  intro m ρ a w ha hi
  have hv := rd_rel ha x
  rw [hx] at hv
  have hex : ∀ ad l c', a.eval x = .slice ad l c' → (execOp a.eval ⟨d, .binOp .eql T x (.const (.slice none 0 0)) yt, t, p, af, gu⟩).run P w = .ok (.value (.bool ad.isNone)) w := fun ad l c' he => by
    have g : (eqGuard .eql T x (.const (.slice none 0 0)) (.slice ad l c') (.slice none 0 0)).run P w = .ok () w := by unfold eqGuard; split <;> rfl
    have hc : a.eval (.const (.slice none 0 0)) = .slice none 0 0 := rfl
    simp [execOp, he, hc, g, binOp, run_equal_slice_nil w T e ad l c' hT]
  rcases hv with ⟨_, _, hn, hv⟩ | ⟨b, base, sz, lim, cap, _, hv, _⟩ | ⟨b, base, sz, lim, off, _, _, hv⟩
  · exact ⟨.bool true, w, .s (.raw (.bool true)), H, ρ, .inl (hex _ _ _ hv), ⟨rfl, rfl⟩, Le.refl _, hi, h1 hn⟩
  · exact ⟨.bool false, w, .s (.raw (.bool false)), H, ρ, .inl (hex _ _ _ hv), ⟨rfl, rfl⟩, Le.refl _, hi, h2⟩
  · exact ⟨.bool false, w, .s (.raw (.bool false)), H, ρ, .inl (hex _ _ _ hv), ⟨rfl, rfl⟩, Le.refl _, hi, h2⟩
end
end Go.Ev
