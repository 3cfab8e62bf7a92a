/- How the ideal heap goes on where the world takes a new block, or a block is written. -/
import Derived.Test.YtnmobamjinponaaEvCore
namespace Go.Ev
open Go.RowKit

theorem rowsAt.pre {ρ ρ' : Ren} (p : Le ρ ρ') {cells : Array Value} {base sz : Nat} {els : List (List SV)} (h : rowsAt ρ cells base sz els) : rowsAt ρ' cells base sz els :=
  fun i row hi => ⟨(h i row hi).1, fun o x ho => let ⟨v, hv, hr⟩ := (h i row hi).2 o x ho; ⟨v, hv, hr.pre p⟩⟩

theorem SatC.ext {ρ ρ' : Ren} {w w' : World} {l : Pl} {ch : Chunk} (h : SatC ρ w l ch) (p : Le ρ ρ') (hb : ∀ b, l.blk = some b → w'.heap[b]? = w.heap[b]?) : SatC ρ' w' l ch := by
  cases ch with
  | rows own sz els =>
    rcases h with h | ⟨b, base, lim, cells, T, lo, hi, rfl, h1, h2, h3, h4, h5, h6, h7⟩
    · exact .inl h
    · exact .inr ⟨b, base, lim, cells, T, lo, hi, rfl, (hb b rfl).trans h1, h2, h3, h4, h5, h6, h7.pre p⟩
  | map clock es =>
    obtain ⟨b, ents, rfl, h1, ⟨q, h2, h3⟩, h4, h5⟩ := h
    exact ⟨b, ents, rfl, (hb b rfl).trans h1, ⟨q, h2, h3.pre p⟩, h4, h5⟩
  | iter x since seen stepped =>
    obtain ⟨b, mo, rfl, h1, h2⟩ := h
    exact ⟨b, mo, rfl, (hb b rfl).trans h1, h2.pre p⟩
  | clo fn f c =>
    obtain ⟨f', c', rfl, h1, h2⟩ := h
    exact ⟨f', c', rfl, h1.pre p, h2.pre p⟩
  | gone => trivial

theorem SatC.blk_lt {ρ : Ren} {w : World} {l : Pl} {ch : Chunk} (h : SatC ρ w l ch) (ho : ch.owned = true ∨ ∃ sz els, ch = .rows false sz els) {b : Nat} (hb : l.blk = some b) : b < w.heap.size := by
  have key : ∀ {o : Obj}, w.heap[b]? = some o → b < w.heap.size := fun h => (Array.getElem?_eq_some_iff.1 h).1
  cases ch with
  | rows own sz els =>
    rcases h with ⟨rfl, _⟩ | ⟨b', base, lim, cells, T, lo, hi, rfl, h1, _⟩
    · simp [Pl.blk] at hb
    · simp only [Pl.blk, Option.some.injEq] at hb; subst hb; exact key h1
  | map clock es =>
    obtain ⟨b', ents, rfl, h1, _⟩ := h
    simp only [Pl.blk, Option.some.injEq] at hb; subst hb; exact key h1
  | iter x since seen stepped =>
    obtain ⟨b', mo, rfl, h1, _⟩ := h
    simp only [Pl.blk, Option.some.injEq] at hb; subst hb; exact key h1
  | clo fn f c => rcases ho with ho | ⟨sz, els, ho⟩ <;> simp [Chunk.owned] at ho
  | gone => rcases ho with ho | ⟨sz, els, ho⟩ <;> simp [Chunk.owned] at ho

theorem heap_push_new (w : World) (o : Obj) : (w.alloc o).heap[w.heap.size]? = some o := by
  show (w.heap.push o)[w.heap.size]? = some o
  simp
theorem heap_push_old (w : World) (o : Obj) {b : Nat} (h : b < w.heap.size) : (w.alloc o).heap[b]? = w.heap[b]? := by
  show (w.heap.push o)[b]? = w.heap[b]?
  rw [Array.getElem?_push, if_neg (by omega)]

/-- A new chunk, in a new block or in none. -/
theorem Inv.push {X : Ctx} {ρ : Ren} {H : Heap} {w w' : World} (h : Inv X ρ H w) (l : Pl) (ch : Chunk)
    (hos : w'.os = w.os) (htape : w'.tape = w.tape) (hout : w'.output = w.output) (hsize : w.heap.size ≤ w'.heap.size)
    (hold : ∀ b, b < w.heap.size → w'.heap[b]? = w.heap[b]?)
    (hobj : ∀ b u, l = .obj b u → u.oneCell' = true)
    (hsat : SatC (ρ ++ [l]) w' l ch) (hnew : ch.owned = true → ∀ b, l.blk = some b → w.heap.size ≤ b) (hro : ∀ sz els, ch = .rows false sz els → l.blk = none) (hdr : w.drawn ≤ w'.drawn := by exact Nat.le_refl _) :
    Inv X (ρ ++ [l]) (H ++ [ch]) w' := by
  have hp : Le ρ (ρ ++ [l]) := Le.app _ _
  have hlen := h.len
  have get_old : ∀ {c : Nat}, c < H.length → (H ++ [ch])[c]? = H[c]? ∧ (ρ ++ [l])[c]? = ρ[c]? := fun hc =>
    ⟨List.getElem?_append_left hc, List.getElem?_append_left (by omega)⟩
  have get_new : (H ++ [ch])[H.length]? = some ch ∧ (ρ ++ [l])[H.length]? = some l := ⟨by simp, by rw [← hlen]; simp⟩
  have bound : ∀ {c : Nat} {x : Chunk}, (H ++ [ch])[c]? = some x → c < H.length ∨ c = H.length := fun hc => by
    have := (List.getElem?_eq_some_iff.1 hc).1; simp at this; omega
  refine ⟨hos.trans h.os, htape.trans h.tape, hout.trans h.output, Nat.le_trans h.drawn hdr, Nat.le_trans h.size hsize, fun b hb hF => ?_, by simp [hlen], ?_, ?_, ?_, ?_, ?_⟩
  · rw [hold b (Nat.lt_of_lt_of_le hb h.size)]; exact h.old b hb hF
  · intro c b u hc
    by_cases hlt : c < ρ.length
    · rw [List.getElem?_append_left hlt] at hc; exact h.obj1 c b u hc
    · have : c = ρ.length := by have := (List.getElem?_eq_some_iff.1 hc).1; simp at this; omega
      subst this; simp at hc; exact hobj b u hc
  · intro c x hc
    rcases bound hc with hlt | rfl
    · rw [(get_old hlt).1] at hc
      obtain ⟨l', hl', hs⟩ := h.sat c x hc
      refine ⟨l', (get_old hlt).2.trans hl', ?_⟩
      cases x with
      | clo fn f c' => obtain ⟨f', c'', rfl, h1, h2⟩ := hs; exact ⟨f', c'', rfl, h1.pre hp, h2.pre hp⟩
      | gone => trivial
      | rows o sz els => exact hs.ext hp fun b hb => hold b (hs.blk_lt (by cases o <;> simp [Chunk.owned]) hb)
      | map _ es => exact hs.ext hp fun b hb => hold b (hs.blk_lt (by simp [Chunk.owned]) hb)
      | iter _ _ _ _ => exact hs.ext hp fun b hb => hold b (hs.blk_lt (by simp [Chunk.owned]) hb)
    · rw [get_new.1] at hc; cases hc
      exact ⟨l, get_new.2, hsat⟩
  · intro c x l' b hc ho hl hb
    rcases bound hc with hlt | rfl
    · rw [(get_old hlt).1] at hc; rw [(get_old hlt).2] at hl; exact h.own c x l' b hc ho hl hb
    · rw [get_new.1] at hc; rw [get_new.2] at hl; cases hc; cases hl
      exact .inr (Nat.le_trans h.size (hnew ho b hb))
  · intro c sz els l' b hc hl hb
    rcases bound hc with hlt | rfl
    · rw [(get_old hlt).1] at hc; rw [(get_old hlt).2] at hl; exact h.ro c sz els l' b hc hl hb
    · rw [get_new.1] at hc; rw [get_new.2] at hl; cases hc; cases hl
      rw [hro sz els rfl] at hb; cases hb
  · intro c d x y l' m b hcd hc hd hox hoy hl hm hb hmb
    rcases bound hc with hlt | rfl
    · rw [(get_old hlt).1] at hc; rw [(get_old hlt).2] at hl
      rcases bound hd with hlt2 | rfl
      · rw [(get_old hlt2).1] at hd; rw [(get_old hlt2).2] at hm; exact h.apart c d x y l' m b hcd hc hd hox hoy hl hm hb hmb
      · rw [get_new.1] at hd; rw [get_new.2] at hm; cases hd; cases hm
        obtain ⟨l2, hl2, hs⟩ := h.sat c x hc
        rw [hl] at hl2; cases hl2
        have := hs.blk_lt (.inl hox) hb
        have := hnew hoy b hmb
        omega
    · rw [get_new.1] at hc; rw [get_new.2] at hl; cases hc; cases hl
      rcases bound hd with hlt2 | rfl
      · rw [(get_old hlt2).1] at hd; rw [(get_old hlt2).2] at hm
        obtain ⟨l2, hl2, hs⟩ := h.sat d y hd
        rw [hm] at hl2; cases hl2
        have := hs.blk_lt (.inl hoy) hmb
        have := hnew hox b hb
        omega
      · exact hcd rfl

/-- Where a new chunk goes: behind all, or to a place that was kept for it. -/
def PlaceOK (ρ : Ren) (H : Heap) (m : Nat) : Prop := m = H.length ∨ (H[m]? = some .gone ∧ ρ[m]? = some .void)
def addR (ρ : Ren) (m : Nat) (l : Pl) : Ren := if m = ρ.length then ρ ++ [l] else ρ.set m l
def up1 (H : Heap) (c : Nat) (ch : Chunk) : Heap := if c = H.length then H ++ [ch] else H.set c ch

theorem addR_le {ρ : Ren} {H : Heap} {m : Nat} (hlen : ρ.length = H.length) (h : PlaceOK ρ H m) (l : Pl) : Le ρ (addR ρ m l) := by
  unfold addR
  rcases h with rfl | ⟨h1, h2⟩
  · rw [if_pos hlen.symm]; exact Le.app _ _
  · have := (List.getElem?_eq_some_iff.1 h2).1
    rw [if_neg (by omega)]; exact Le.set h2 l
theorem addR_get {ρ : Ren} {H : Heap} {m : Nat} (hlen : ρ.length = H.length) (h : PlaceOK ρ H m) (l : Pl) : (addR ρ m l)[m]? = some l := by
  unfold addR
  rcases h with rfl | ⟨h1, h2⟩
  · rw [if_pos hlen.symm, ← hlen]; simp
  · have := (List.getElem?_eq_some_iff.1 h2).1
    rw [if_neg (by omega)]; simp [this]

/-- A new chunk in a place that was kept for it. -/
theorem Inv.fill {X : Ctx} {ρ : Ren} {H : Heap} {w w' : World} (h : Inv X ρ H w) {m : Nat} (hm : H[m]? = some .gone) (hv : ρ[m]? = some .void) (l : Pl) (ch : Chunk)
    (hos : w'.os = w.os) (htape : w'.tape = w.tape) (hout : w'.output = w.output) (hsize : w.heap.size ≤ w'.heap.size)
    (hold : ∀ b, b < w.heap.size → w'.heap[b]? = w.heap[b]?)
    (hobj : ∀ b u, l = .obj b u → u.oneCell' = true)
    (hsat : SatC (ρ.set m l) w' l ch) (hnew : ch.owned = true → ∀ b, l.blk = some b → w.heap.size ≤ b) (hro : ∀ sz els, ch = .rows false sz els → l.blk = none) (hdr : w.drawn ≤ w'.drawn := by exact Nat.le_refl _) :
    Inv X (ρ.set m l) (H.set m ch) w' := by
  have hp : Le ρ (ρ.set m l) := Le.set hv l
  have hlt : m < H.length := (List.getElem?_eq_some_iff.1 hm).1
  have hlt2 : m < ρ.length := (List.getElem?_eq_some_iff.1 hv).1
  have get_old : ∀ {c : Nat}, c ≠ m → (H.set m ch)[c]? = H[c]? ∧ (ρ.set m l)[c]? = ρ[c]? := fun hc =>
    ⟨List.getElem?_set_ne (Ne.symm hc), List.getElem?_set_ne (Ne.symm hc)⟩
  have get_new : (H.set m ch)[m]? = some ch ∧ (ρ.set m l)[m]? = some l := ⟨by simp [hlt], by simp [hlt2]⟩
  refine ⟨hos.trans h.os, htape.trans h.tape, hout.trans h.output, Nat.le_trans h.drawn hdr, Nat.le_trans h.size hsize, fun b hb hF => ?_, by simp [h.len], ?_, ?_, ?_, ?_, ?_⟩
  · rw [hold b (Nat.lt_of_lt_of_le hb h.size)]; exact h.old b hb hF
  · intro c b u hc
    by_cases e : c = m
    · subst e; rw [get_new.2] at hc; cases hc; exact hobj b u rfl
    · rw [(get_old e).2] at hc; exact h.obj1 c b u hc
  · intro c x hc
    by_cases e : c = m
    · subst e; rw [get_new.1] at hc; cases hc; exact ⟨l, get_new.2, hsat⟩
    · rw [(get_old e).1] at hc
      obtain ⟨l', hl', hs⟩ := h.sat c x hc
      refine ⟨l', (get_old e).2.trans hl', ?_⟩
      cases x with
      | clo fn f c' => obtain ⟨f', c'', rfl, h1, h2⟩ := hs; exact ⟨f', c'', rfl, h1.pre hp, h2.pre hp⟩
      | gone => trivial
      | rows o sz els => exact hs.ext hp fun b hb => hold b (hs.blk_lt (by cases o <;> simp [Chunk.owned]) hb)
      | map _ es => exact hs.ext hp fun b hb => hold b (hs.blk_lt (by simp [Chunk.owned]) hb)
      | iter _ _ _ _ => exact hs.ext hp fun b hb => hold b (hs.blk_lt (by simp [Chunk.owned]) hb)
  · intro c x l' b hc ho hl hb
    by_cases e : c = m
    · subst e; rw [get_new.1] at hc; rw [get_new.2] at hl; cases hc; cases hl
      exact .inr (Nat.le_trans h.size (hnew ho b hb))
    · rw [(get_old e).1] at hc; rw [(get_old e).2] at hl; exact h.own c x l' b hc ho hl hb
  · intro c sz els l' b hc hl hb
    by_cases e : c = m
    · subst e; rw [get_new.1] at hc; rw [get_new.2] at hl; cases hc; cases hl
      rw [hro sz els rfl] at hb; cases hb
    · rw [(get_old e).1] at hc; rw [(get_old e).2] at hl; exact h.ro c sz els l' b hc hl hb
  · intro c d x y l' k b hcd hc hd hox hoy hl hk hb hkb
    have below : ∀ {c : Nat} {x : Chunk} {l' : Pl} {b : Nat}, H[c]? = some x → x.owned = true → ρ[c]? = some l' → l'.blk = some b → b < w.heap.size := fun h1 h2 h3 h4 => by
      obtain ⟨l2, hl2, hs⟩ := h.sat _ _ h1
      rw [h3] at hl2; cases hl2
      exact hs.blk_lt (.inl h2) h4
    by_cases e : c = m
    · subst e; rw [get_new.1] at hc; rw [get_new.2] at hl; cases hc; cases hl
      rw [(get_old (Ne.symm hcd)).1] at hd; rw [(get_old (Ne.symm hcd)).2] at hk
      have := below hd hoy hk hkb
      have := hnew hox b hb
      omega
    · rw [(get_old e).1] at hc; rw [(get_old e).2] at hl
      by_cases e2 : d = m
      · subst e2; rw [get_new.1] at hd; rw [get_new.2] at hk; cases hd; cases hk
        have := below hc hox hl hb
        have := hnew hoy b hkb
        omega
      · rw [(get_old e2).1] at hd; rw [(get_old e2).2] at hk
        exact h.apart c d x y l' k b hcd hc hd hox hoy hl hk hb hkb

theorem Inv.add {X : Ctx} {ρ : Ren} {H : Heap} {w w' : World} (h : Inv X ρ H w) {m : Nat} (hm : PlaceOK ρ H m) (l : Pl) (ch : Chunk)
    (hos : w'.os = w.os) (htape : w'.tape = w.tape) (hout : w'.output = w.output) (hsize : w.heap.size ≤ w'.heap.size)
    (hold : ∀ b, b < w.heap.size → w'.heap[b]? = w.heap[b]?)
    (hobj : ∀ b u, l = .obj b u → u.oneCell' = true)
    (hsat : SatC (addR ρ m l) w' l ch) (hnew : ch.owned = true → ∀ b, l.blk = some b → w.heap.size ≤ b) (hro : ∀ sz els, ch = .rows false sz els → l.blk = none) (hdr : w.drawn ≤ w'.drawn := by exact Nat.le_refl _) :
    Inv X (addR ρ m l) (up1 H m ch) w' := by
  rcases hm with rfl | ⟨h1, h2⟩
  · have e1 : addR ρ H.length l = ρ ++ [l] := by unfold addR; rw [if_pos h.len.symm]
    have e2 : up1 H H.length ch = H ++ [ch] := by unfold up1; rw [if_pos rfl]
    rw [e1] at hsat ⊢; rw [e2]
    exact h.push l ch hos htape hout hsize hold hobj hsat hnew hro hdr
  · have hlt : m < H.length := (List.getElem?_eq_some_iff.1 h1).1
    have hlt2 : m < ρ.length := (List.getElem?_eq_some_iff.1 h2).1
    have e1 : addR ρ m l = ρ.set m l := by unfold addR; rw [if_neg (by omega)]
    have e2 : up1 H m ch = H.set m ch := by unfold up1; rw [if_neg (by omega)]
    rw [e1] at hsat ⊢; rw [e2]
    exact h.fill h1 h2 l ch hos htape hout hsize hold hobj hsat hnew hro hdr

/-- A chunk's block is written: the chunk has other contents. -/
theorem Inv.upd {X : Ctx} {ρ : Ren} {H : Heap} {w w' : World} (h : Inv X ρ H w) {c : Nat} {ch ch' : Chunk} {l : Pl} (hc : H[c]? = some ch) (hl : ρ[c]? = some l)
    (ho : ch.owned = true) (hos : w'.os = w.os) (htape : w'.tape = w.tape) (hout : w'.output = w.output) (hsize : w'.heap.size = w.heap.size)
    (hold : ∀ b, l.blk ≠ some b → w'.heap[b]? = w.heap[b]?) (hsat : SatC ρ w' l ch') (ho' : ch'.owned = true) (hdr : w.drawn ≤ w'.drawn := by exact Nat.le_refl _) :
    Inv X ρ (H.set c ch') w' := by
  have hlt : c < H.length := (List.getElem?_eq_some_iff.1 hc).1
  have get_c : (H.set c ch')[c]? = some ch' := by simp [hlt]
  have get_o : ∀ {d : Nat}, d ≠ c → (H.set c ch')[d]? = H[d]? := fun hd => by rw [List.getElem?_set_ne (Ne.symm hd)]
  refine ⟨hos.trans h.os, htape.trans h.tape, hout.trans h.output, Nat.le_trans h.drawn hdr, by rw [hsize]; exact h.size, fun b hb hF => ?_, by simp [h.len], h.obj1, ?_, ?_, ?_, ?_⟩
  · have : l.blk ≠ some b := fun hb' => by
      rcases h.own c ch l b hc ho hl hb' with hF' | hge
      · exact hF hF'
      · omega
    rw [hold b this]; exact h.old b hb hF
  · intro d x hd
    by_cases e : d = c
    · subst e; rw [get_c] at hd; cases hd; exact ⟨l, hl, hsat⟩
    · rw [get_o e] at hd
      obtain ⟨l', hl', hs⟩ := h.sat d x hd
      refine ⟨l', hl', ?_⟩
      cases x with
      | clo fn f c' => exact hs
      | gone => trivial
      | rows o sz els =>
        refine hs.ext (Le.refl _) fun b hb => hold b fun hb' => ?_
        cases o with
        | true => exact h.apart d c _ _ l' l b e hd hc rfl ho hl' hl hb hb'
        | false =>
          have h1 := h.ro d sz els l' b hd hl' hb
          rcases h.own c ch l b hc ho hl hb' with hF' | hge
          · exact h1.2 hF'
          · omega
      | map _ es => exact hs.ext (Le.refl _) fun b hb => hold b fun hb' => h.apart d c _ _ l' l b e hd hc rfl ho hl' hl hb hb'
      | iter _ _ _ _ => exact hs.ext (Le.refl _) fun b hb => hold b fun hb' => h.apart d c _ _ l' l b e hd hc rfl ho hl' hl hb hb'
  · intro d x l' b hd hox hl' hb
    by_cases e : d = c
    · subst e; rw [hl] at hl'; cases hl'; exact h.own d ch l b hc ho hl hb
    · rw [get_o e] at hd; exact h.own d x l' b hd hox hl' hb
  · intro d sz els l' b hd hl' hb
    by_cases e : d = c
    · subst e; rw [get_c] at hd; cases hd; simp [Chunk.owned] at ho'; 
    · rw [get_o e] at hd; exact h.ro d sz els l' b hd hl' hb
  · intro d e x y l' m b hde hd he hox hoy hl' hm hb hmb
    by_cases e1 : d = c
    · subst e1
      rw [get_o (Ne.symm hde)] at he
      exact h.apart d e ch y l' m b hde hc he ho hoy hl' hm hb hmb
    · rw [get_o e1] at hd
      by_cases e2 : e = c
      · subst e2; exact h.apart d e x ch l' m b hde hd hc hox ho hl' hm hb hmb
      · rw [get_o e2] at he; exact h.apart d e x y l' m b hde hd he hox hoy hl' hm hb hmb

/-- A draw turns nothing. -/
theorem Inv.drew {X : Ctx} {ρ : Ren} {H : Heap} {w : World} (h : Inv X ρ H w) : Inv X ρ H w.drew :=
  ⟨h.os, h.tape, h.output, Nat.le_succ_of_le h.drawn, h.size, h.old, h.len, h.obj1, fun c ch hc => let ⟨l, hl, hs⟩ := h.sat c ch hc; ⟨l, hl, by cases ch <;> exact hs⟩, h.own, h.ro, h.apart⟩

theorem RelA.put {n : Nat} {ρ ρ' : Ren} {tm : TM} {a : Act} (h : RelA n ρ tm a) (p : Le ρ ρ') {d : Option Nat} (hd : ∀ x, d = some x → x < n) {v : IV} {x : Value} (hr : relI ρ' v x) :
    RelA n ρ' (Ev.put tm d v) (a.put d x) := by
  cases d with
  | none => exact ⟨h.size, h.defers, fun t => (h.rel t).pre p⟩
  | some d =>
    have hlt := hd d rfl
    refine ⟨by simp [Act.put, h.size], h.defers, fun t => ?_⟩
    simp only [Act.put, Ev.put, Ev.get]
    by_cases e : d = t
    · subst e
      rw [if_pos rfl]
      simp [Array.getD, h.size, hlt, hr]
    · rw [if_neg e]
      have := (h.rel t).pre p
      simpa [Array.getD_eq_getD_getElem?, Array.getElem?_setIfInBounds, e] using this

theorem RelA.pre {n : Nat} {ρ ρ' : Ren} {tm : TM} {a : Act} (h : RelA n ρ tm a) (p : Le ρ ρ') : RelA n ρ' tm a := ⟨h.size, h.defers, fun t => (h.rel t).pre p⟩
end Go.Ev
