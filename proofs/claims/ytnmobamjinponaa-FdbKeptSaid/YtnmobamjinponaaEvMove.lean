/- A chunk's memory goes to another chunk: what append does where there is room. -/
import Derived.Test.YtnmobamjinponaaEvOps
namespace Go.Ev
open Go.RowKit

/-- A chunk that is let go. -/
theorem Inv.drop {X : Ctx} {ρ : Ren} {H : Heap} {w : World} (h : Inv X ρ H w) (c : Nat) : Inv X ρ (H.set c .gone) w := by
  have get_o : ∀ {d : Nat}, d ≠ c → (H.set c .gone)[d]? = H[d]? := fun hd => by rw [List.getElem?_set_ne (Ne.symm hd)]
  have get_c : ∀ {x : Chunk}, (H.set c .gone)[c]? = some x → x = .gone := fun {x} hx => by
    rw [List.getElem?_set] at hx
    simp at hx
    exact hx.2.symm
  refine ⟨h.os, h.tape, h.output, h.drawn, h.size, h.old, by simp [h.len], h.obj1, ?_, ?_, ?_, ?_⟩
  · intro d x hd
    by_cases e : d = c
    · subst e
      have := get_c hd; subst this
      have hlt : d < H.length := by have := (List.getElem?_eq_some_iff.1 hd).1; simpa using this
      exact ⟨ρ[d]'(by rw [h.len]; exact hlt), List.getElem?_eq_getElem _, trivial⟩
    · rw [get_o e] at hd; exact h.sat d x hd
  · intro d x l b hd ho hl hb
    by_cases e : d = c
    · subst e; have := get_c hd; subst this; cases ho
    · rw [get_o e] at hd; exact h.own d x l b hd ho hl hb
  · intro d sz els l b hd hl hb
    by_cases e : d = c
    · subst e; have := get_c hd; cases this
    · rw [get_o e] at hd; exact h.ro d sz els l b hd hl hb
  · intro d e x y l m b hde hd he hox hoy hl hm hb hmb
    by_cases e1 : d = c
    · subst e1; have := get_c hd; subst this; cases hox
    · by_cases e2 : e = c
      · subst e2; have := get_c he; subst this; cases hoy
      · rw [get_o e1] at hd; rw [get_o e2] at he
        exact h.apart d e x y l m b hde hd he hox hoy hl hm hb hmb

/-- A new chunk over a block that no chunk owns any more, but that was owned. -/
theorem Inv.take {X : Ctx} {ρ : Ren} {H : Heap} {w : World} (h : Inv X ρ H w) {m : Nat} (hm : PlaceOK ρ H m) (l : Pl) (ch : Chunk) (hobj : ∀ b u, l ≠ .obj b u)
    (hsat : SatC (addR ρ m l) w l ch) (hown : ∀ b, l.blk = some b → X.F0 b ∨ X.w0.heap.size ≤ b) (hro : ∀ sz els, ch ≠ .rows false sz els)
    (hfree : ∀ (d : Nat) (x : Chunk) (k : Pl) (b : Nat), H[d]? = some x → x.owned = true → ρ[d]? = some k → k.blk = some b → l.blk ≠ some b) :
    Inv X (addR ρ m l) (up1 H m ch) w := by
  have hle := addR_le h.len hm l
  have hlen : (addR ρ m l).length = (up1 H m ch).length := by
    unfold addR up1
    rw [h.len]
    split <;> simp [h.len]
  have get_new : (up1 H m ch)[m]? = some ch ∧ (addR ρ m l)[m]? = some l := by
    refine ⟨?_, addR_get h.len hm l⟩
    rcases hm with rfl | ⟨h1, h2⟩
    · unfold up1; rw [if_pos rfl]; simp
    · have hlt := (List.getElem?_eq_some_iff.1 h1).1
      unfold up1; rw [if_neg (by omega)]; simp [hlt]
  have get_old : ∀ {d : Nat} {x : Chunk}, d ≠ m → (up1 H m ch)[d]? = some x → H[d]? = some x := fun {d x} hd hx => by
    rcases hm with rfl | ⟨h1, h2⟩
    · unfold up1 at hx; rw [if_pos rfl] at hx
      rw [List.getElem?_append] at hx
      split at hx
      · exact hx
      · rename_i hge
        have : d - H.length ≠ 0 := by omega
        rw [List.getElem?_singleton] at hx
        rw [if_neg this] at hx; cases hx
    · have hlt := (List.getElem?_eq_some_iff.1 h1).1
      unfold up1 at hx; rw [if_neg (by omega), List.getElem?_set_ne (Ne.symm hd)] at hx; exact hx
  have ren_old : ∀ {d : Nat} {k : Pl}, d ≠ m → (addR ρ m l)[d]? = some k → ρ[d]? = some k := fun {d k} hd hx => by
    rcases hm with rfl | ⟨h1, h2⟩
    · unfold addR at hx; rw [if_pos h.len.symm] at hx
      rw [List.getElem?_append] at hx
      split at hx
      · exact hx
      · rename_i hge
        have : d - ρ.length ≠ 0 := by have := h.len; omega
        rw [List.getElem?_singleton] at hx
        rw [if_neg this] at hx; cases hx
    · have hlt := (List.getElem?_eq_some_iff.1 h2).1
      unfold addR at hx; rw [if_neg (by omega), List.getElem?_set_ne (Ne.symm hd)] at hx; exact hx
  refine ⟨h.os, h.tape, h.output, h.drawn, h.size, h.old, hlen, ?_, ?_, ?_, ?_, ?_⟩
  · intro c b u hc
    by_cases e : c = m
    · subst e; rw [get_new.2] at hc; cases hc; exact absurd rfl (hobj b u)
    · exact h.obj1 c b u (ren_old e hc)
  · intro c x hc
    by_cases e : c = m
    · subst e; rw [get_new.1] at hc; cases hc; exact ⟨l, get_new.2, hsat⟩
    · have hx := get_old e hc
      obtain ⟨l', hl', hs⟩ := h.sat c x hx
      cases x with
      | gone =>
        have hlt : c < (addR ρ m l).length := by rw [hlen]; exact (List.getElem?_eq_some_iff.1 hc).1
        exact ⟨_, List.getElem?_eq_getElem hlt, trivial⟩
      | rows o sz els =>
        have hne : l' ≠ .void := fun e => by
          subst e
          rcases hs with ⟨h1, _⟩ | ⟨_, _, _, _, _, _, _, h1, _⟩ <;> cases h1
        exact ⟨l', hle.get _ _ hl' hne, hs.ext hle fun _ _ => rfl⟩
      | map _ es =>
        have hne : l' ≠ .void := fun e => by
          subst e
          obtain ⟨_, _, h1, _⟩ := hs; cases h1
        exact ⟨l', hle.get _ _ hl' hne, hs.ext hle fun _ _ => rfl⟩
      | iter _ _ _ _ =>
        have hne : l' ≠ .void := fun e => by
          subst e
          obtain ⟨_, _, h1, _⟩ := hs; cases h1
        exact ⟨l', hle.get _ _ hl' hne, hs.ext hle fun _ _ => rfl⟩
      | clo fn f c' =>
        obtain ⟨f', c'', rfl, h1, h2⟩ := hs
        exact ⟨_, hle.get _ _ hl' (by simp), f', c'', rfl, h1.pre hle, h2.pre hle⟩
  · intro c x l' b hc ho hl hb
    by_cases e : c = m
    · subst e; rw [get_new.2] at hl; cases hl; exact hown b hb
    · exact h.own c x l' b (get_old e hc) ho (ren_old e hl) hb
  · intro c sz els l' b hc hl hb
    by_cases e : c = m
    · subst e; rw [get_new.1] at hc; cases hc; exact absurd rfl (hro sz els)
    · exact h.ro c sz els l' b (get_old e hc) (ren_old e hl) hb
  · intro c d x y l' k b hcd hc hd hox hoy hl hk hb hkb
    by_cases e : c = m
    · subst e
      rw [get_new.2] at hl; cases hl
      exact hfree d y k b (get_old (Ne.symm hcd) hd) hoy (ren_old (Ne.symm hcd) hk) hkb hb
    · by_cases e2 : d = m
      · subst e2
        rw [get_new.2] at hk; cases hk
        exact hfree c x l' b (get_old e hc) hox (ren_old e hl) hb hkb
      · exact h.apart c d x y l' k b hcd (get_old e hc) (get_old e2 hd) hox hoy (ren_old e hl) (ren_old e2 hk) hb hkb
end Go.Ev
