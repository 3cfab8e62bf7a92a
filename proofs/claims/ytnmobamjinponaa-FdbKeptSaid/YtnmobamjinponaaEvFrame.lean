/- The frame rule: what a call does to some chunks, seen alone, it does to them in any heap. -/
import Derived.Test.YtnmobamjinponaaEvFunR
namespace Go.Ev
open Go.RowKit

def mapC (f : SV → SV) (g : IV → IV) : Chunk → Chunk
  | .rows own sz els => .rows own sz (els.map fun r => r.map f)
  | .map k es => .map k (es.map fun p => (g p.1, g p.2.1, p.2.2))
  | .iter x s n t => .iter (f x) s n t
  | .clo fn a c => .clo fn (a.map g) (c.map g)
  | .gone => .gone
/-- Some chunks, seen alone: such as are read, then such as are written too. -/
def pullHW (σr σw : List Nat) (H : Heap) : Heap :=
  (σr.map fun c => roC (σr ++ σw) ((H[c]?).getD .gone)) ++ σw.map fun c => mapC (pullS (σr ++ σw)) (pullI (σr ++ σw)) ((H[c]?).getD .gone)

def pushS (σ : List Nat) : SV → SV
  | .raw v => .raw v
  | .ptr c i o => match σ[c]? with
    | some k => .ptr k i o
    | none => .junk
  | .slice c s n => match σ[c]? with
    | some k => .slice k s n
    | none => .junk
  | .ref c => match σ[c]? with
    | some k => .ref k
    | none => .junk
  | .sub c i o k n => match σ[c]? with
    | some j => .sub j i o k n
    | none => .junk
  | .junk => .junk
def push1 (σ : List Nat) : IV → IV
  | .s x => .s (pushS σ x)
  | .a l => .a (l.map (pushS σ))
  | _ => .j
def pushI (σ : List Nat) : IV → IV
  | .t l => .t (l.map (push1 σ))
  | x => push1 σ x
/-- A chunk seen from outside; a new one that is only read is let go. -/
def pushC (σ : List Nat) : Chunk → Chunk
  | .rows false _ _ => .gone
  | ch => mapC (pushS σ) (push1 σ) ch

section
variable {P : Program} {X : Ctx} {ρ ρ' : Ren} {w : World} {l : Pl}

/-- A renaming of values that keeps what they stand for. -/
structure Mv (ρ ρ' : Ren) (f : SV → SV) (g : IV → IV) : Prop where
  s : ∀ x v, relS ρ x v → relS ρ' (f x) v
  c : ∀ x v, relC ρ x v → relC ρ' (g x) v

theorem relL_map {f : SV → SV} (hf : ∀ x v, relS ρ x v → relS ρ' (f x) v) : ∀ {l : List SV} {vs : List Value}, relL ρ l vs → relL ρ' (l.map f) vs
  | [], [], _ => trivial
  | _ :: _, _ :: _, h => ⟨hf _ _ h.1, relL_map hf h.2⟩
  | [], _ :: _, h => h.elim
  | _ :: _, [], h => h.elim
theorem relT_map {g : IV → IV} (hg : ∀ x v, relC ρ x v → relC ρ' (g x) v) : ∀ {l : List IV} {vs : List Value}, relT ρ l vs → relT ρ' (l.map g) vs
  | [], [], _ => trivial
  | _ :: _, _ :: _, h => ⟨hg _ _ h.1, relT_map hg h.2⟩
  | [], _ :: _, h => h.elim
  | _ :: _, [], h => h.elim
theorem rowsAt_map {f : SV → SV} {cells : Array Value} {base sz : Nat} {els : List (List SV)} (hf : ∀ x v, relS ρ x v → relS ρ' (f x) v) (h : rowsAt ρ cells base sz els) : rowsAt ρ' cells base sz (els.map fun r => r.map f) := by
  intro i row hrow
  rw [List.getElem?_map] at hrow
  cases hr : els[i]? with
  | none => rw [hr] at hrow; cases hrow
  | some r0 =>
    rw [hr] at hrow; simp at hrow; subst hrow
    obtain ⟨hl, hrel⟩ := h i r0 hr
    refine ⟨by simpa using hl, fun o x hx => ?_⟩
    rw [List.getElem?_map] at hx
    cases hx0 : r0[o]? with
    | none => rw [hx0] at hx; cases hx
    | some x0 =>
      rw [hx0] at hx; simp at hx; subst hx
      obtain ⟨v, hv, hs⟩ := hrel o x0 hx0
      exact ⟨v, hv, hf _ _ hs⟩
theorem relM_map {g : IV → IV} (hg : ∀ x v, relC ρ x v → relC ρ' (g x) v) : ∀ {l : List (IV × IV × Nat)} {es : List MapEntry}, relM ρ l es → relM ρ' (l.map fun p => (g p.1, g p.2.1, p.2.2)) es
  | [], [], _ => trivial
  | _ :: _, _ :: _, h => ⟨hg _ _ h.1, hg _ _ h.2.1, h.2.2.1, relM_map hg h.2.2.2⟩
  | [], _ :: _, h => h.elim
  | _ :: _, [], h => h.elim
theorem sat_map {f : SV → SV} {g : IV → IV} {ch : Chunk} (m : Mv ρ ρ' f g) (h : SatC ρ w l ch) : SatC ρ' w l (mapC f g ch) := by
  cases ch with
  | rows own sz els =>
    rcases h with ⟨h1, h2⟩ | ⟨b, base, lim, cells, T, lo, hi, h1, h2, h3, h4, h5, h6, h7, h8⟩
    · subst h2; exact .inl ⟨h1, rfl⟩
    · exact .inr ⟨b, base, lim, cells, T, lo, hi, h1, h2, h3, by simpa using h4, h5, h6, h7, rowsAt_map m.s h8⟩
  | map clock es =>
    obtain ⟨b, ents, h1, h2, ⟨q, h3, h4⟩, h5, h6⟩ := h
    refine ⟨b, ents, h1, h2, ⟨_, h3.map _, relM_map m.c h4⟩, fun e he => ?_, ?_⟩
    · obtain ⟨e0, he0, rfl⟩ := List.mem_map.1 he
      exact h5 e0 he0
    · rw [List.map_map]; exact h6
  | iter x since seen stepped =>
    obtain ⟨b, mo, h1, h2, h3⟩ := h
    exact ⟨b, mo, h1, h2, m.s _ _ h3⟩
  | clo fn a c =>
    obtain ⟨f', c', h1, h2, h3⟩ := h
    exact ⟨f', c', h1, relT_map m.c h2, relT_map m.c h3⟩
  | gone => trivial

theorem owned_map {f : SV → SV} {g : IV → IV} {ch : Chunk} : (mapC f g ch).owned = ch.owned := by cases ch <;> rfl

theorem pull_mv {σ : List Nat} (hw : ∀ (c b : Nat) (u : Value), ρ[c]? = some (Pl.obj b u) → u.oneCell' = true) : Mv ρ (pullR σ ρ) (pullS σ) (pullI σ) :=
  ⟨fun _ _ h => relS_pull hw h, fun x v h => by
    cases x with
    | s x => exact relS_pull (x := x) hw h
    | a l => obtain ⟨cs, e, hr⟩ := h; exact ⟨cs, e, relL_pull hw hr⟩
    | t l => exact h.elim
    | j => trivial⟩

theorem relS_push {σ : List Nat} (hρ : ∀ (k c : Nat) (l : Pl), σ[k]? = some c → ρ[k]? = some l → l ≠ .void → ρ'[c]? = some l)
    (hw : ∀ (c b : Nat) (u : Value), ρ[c]? = some (Pl.obj b u) → u.oneCell' = true) {x : SV} {v : Value} (h : relS ρ x v) : relS ρ' (pushS σ x) v := by
  have h1 := relS_one h hw
  cases x with
  | raw _ => exact h
  | ptr c i o =>
    simp only [pushS]
    split
    · rename_i k hk
      obtain ⟨b, base, sz, lim, hc, hx⟩ := h; exact ⟨b, base, sz, lim, hρ _ _ _ hk hc (by simp), hx⟩
    · exact h1
  | slice c s n =>
    simp only [pushS]
    split
    · rename_i k hk
      rcases h with ⟨hc, h⟩ | ⟨b, base, sz, lim, cap, hc, h⟩ | ⟨b, base, sz, lim, off, hc, h⟩
      · exact .inl ⟨hρ _ _ _ hk hc (by simp), h⟩
      · exact .inr (.inl ⟨b, base, sz, lim, cap, hρ _ _ _ hk hc (by simp), h⟩)
      · exact .inr (.inr ⟨b, base, sz, lim, off, hρ _ _ _ hk hc (by simp), h⟩)
    · exact h1
  | ref c =>
    simp only [pushS]
    split
    · rename_i k hk
      rcases h with ⟨b, h⟩ | ⟨h, h2⟩
      · exact .inl ⟨b, hρ _ _ _ hk h (by simp)⟩
      · exact .inr ⟨hρ _ _ _ hk h (by simp), h2⟩
    · exact h1
  | sub c i o k n =>
    simp only [pushS]
    split
    · rename_i j hj
      rcases h with ⟨b, base, sz, lim, cap, hc, h⟩ | ⟨b, base, sz, lim, off, hc, h⟩
      · exact .inl ⟨b, base, sz, lim, cap, hρ _ _ _ hj hc (by simp), h⟩
      · exact .inr ⟨b, base, sz, lim, off, hρ _ _ _ hj hc (by simp), h⟩
    · exact h1
  | junk => exact h

theorem push_mv {σ : List Nat} (hρ : ∀ (k c : Nat) (l : Pl), σ[k]? = some c → ρ[k]? = some l → l ≠ .void → ρ'[c]? = some l)
    (hw : ∀ (c b : Nat) (u : Value), ρ[c]? = some (Pl.obj b u) → u.oneCell' = true) : Mv ρ ρ' (pushS σ) (push1 σ) :=
  ⟨fun _ _ h => relS_push hρ hw h, fun x v h => by
    cases x with
    | s x => exact relS_push (x := x) hρ hw h
    | a l => obtain ⟨cs, e, hr⟩ := h; exact ⟨cs, e, relL_map (fun _ _ h => relS_push hρ hw h) hr⟩
    | t l => exact h.elim
    | j => trivial⟩

theorem relI_push {σ : List Nat} (m : Mv ρ ρ' (pushS σ) (push1 σ)) {x : IV} {v : Value} (h : relI ρ x v) : relI ρ' (pushI σ x) v := by
  cases x with
  | s x => exact m.c (.s x) v h
  | a l => exact m.c (.a l) v h
  | t l => obtain ⟨vs, e, hr⟩ := h; exact ⟨vs, e, relT_map m.c hr⟩
  | j => trivial

theorem sat_notvoid {ch : Chunk} (h : SatC ρ w l ch) (hg : ch ≠ .gone) : l ≠ .void := by
  rintro rfl
  cases ch with
  | rows own sz els => rcases h with ⟨h, _⟩ | ⟨_, _, _, _, _, _, _, h, _⟩ <;> cases h
  | map _ es => obtain ⟨_, _, h, _⟩ := h; cases h
  | iter _ _ _ _ => obtain ⟨_, _, h, _⟩ := h; cases h
  | clo fn a c => obtain ⟨_, _, h, _⟩ := h; cases h
  | gone => exact hg rfl

/-- The blocks of the chunks that may be written. -/
def FW (ρ : Ren) (H : Heap) (σw : List Nat) (b : Nat) : Prop := ∃ c ∈ σw, ∃ ch l, H[c]? = some ch ∧ ch.owned = true ∧ ρ[c]? = some l ∧ l.blk = some b

theorem FW_lt {H : Heap} (h : Inv X ρ H w) {σw : List Nat} {b : Nat} (hb : FW ρ H σw b) : X.F0 b ∨ X.w0.heap.size ≤ b := by
  obtain ⟨c, _, ch, l, h1, h2, h3, h4⟩ := hb
  exact h.own c ch l b h1 h2 h3 h4

theorem FW_no {H : Heap} (h : Inv X ρ H w) {σw : List Nat} {b c : Nat} {ch : Chunk} {l : Pl} (hc : H[c]? = some ch) (hl : ρ[c]? = some l) (hb : l.blk = some b) (ho : ch.owned = true ∨ ∃ sz els, ch = .rows false sz els) (hn : c ∉ σw) : ¬ FW ρ H σw b := by
  intro hF
  rcases ho with ho | ⟨sz, els, rfl⟩
  · obtain ⟨d, hd, dh, m, h1, h2, h3, h4⟩ := hF
    exact h.apart c d ch dh l m b (fun e => hn (e ▸ hd)) hc h1 ho h2 hl h3 hb h4
  · have h1 := h.ro c sz els l b hc hl hb
    rcases FW_lt h hF with h2 | h2
    · exact h1.2 h2
    · omega

theorem nodup_get {σ : List Nat} (h : σ.Nodup) {i j c : Nat} (hi : σ[i]? = some c) (hj : σ[j]? = some c) : i = j :=
  (List.getElem?_inj (List.getElem?_eq_some_iff.1 hi).1 h).1 (hi.trans hj.symm)

theorem pullR_at {σ : List Nat} {k c : Nat} {l : Pl} (hk : σ[k]? = some c) (hl : ρ[c]? = some l) : (pullR σ ρ)[k]? = some l := by
  simp only [pullR, List.getElem?_map, hk, hl, Option.map_some, Option.getD_some]

theorem pullHW_get {σr σw : List Nat} {H : Heap} {k : Nat} {x : Chunk} (h : (pullHW σr σw H)[k]? = some x) :
    ∃ c, (σr ++ σw)[k]? = some c ∧ ((k < σr.length ∧ c ∈ σr ∧ x = roC (σr ++ σw) ((H[c]?).getD .gone)) ∨ (σr.length ≤ k ∧ c ∈ σw ∧ x = mapC (pullS (σr ++ σw)) (pullI (σr ++ σw)) ((H[c]?).getD .gone))) := by
  unfold pullHW at h
  by_cases hk : k < σr.length
  · rw [List.getElem?_append_left (by simpa using hk), List.getElem?_map] at h
    rw [List.getElem?_append_left hk]
    cases hc : σr[k]? with
    | none => rw [hc] at h; cases h
    | some c => rw [hc] at h; simp at h; exact ⟨c, rfl, .inl ⟨hk, List.mem_of_getElem? hc, h.symm⟩⟩
  · rw [List.getElem?_append_right (by simpa using hk), List.getElem?_map] at h
    rw [List.getElem?_append_right (by omega)]
    simp only [List.length_map] at h
    cases hc : σw[k - σr.length]? with
    | none => rw [hc] at h; cases h
    | some c => rw [hc] at h; simp at h; exact ⟨c, rfl, .inr ⟨by omega, List.mem_of_getElem? hc, h.symm⟩⟩

/-- The chunks, seen alone, as a world of their own. -/
theorem Inv.part {H : Heap} (h : Inv X ρ H w) {σr σw : List Nat} (hnd : (σr ++ σw).Nodup) (hin : ∀ c ∈ σr ++ σw, ∃ ch, H[c]? = some ch ∧ ch ≠ .gone) :
    Inv ⟨w, FW ρ H σw, 0⟩ (pullR (σr ++ σw) ρ) (pullHW σr σw H) w := by
  have hw := h.obj1
  have look : ∀ {k c : Nat} {l : Pl}, (σr ++ σw)[k]? = some c → (pullR (σr ++ σw) ρ)[k]? = some l → ρ[c]? = some l := by
    intro k c l hk hl
    obtain ⟨ch, hch, _⟩ := hin c (List.mem_of_getElem? hk)
    obtain ⟨l', hl', _⟩ := h.sat c ch hch
    rw [pullR_at hk hl'] at hl
    rw [hl', hl]
  have apartRW : ∀ c, c ∈ σr → c ∉ σw := fun c h1 h2 => (List.nodup_append.1 hnd).2.2 c h1 c h2 rfl
  refine ⟨rfl, rfl, rfl, Nat.le_refl _, Nat.le_refl _, fun _ _ _ => rfl, by simp [pullR, pullHW], ?_, ?_, ?_, ?_, ?_⟩
  · intro k b u hk
    simp only [pullR, List.getElem?_map] at hk
    cases hc : (σr ++ σw)[k]? with
    | none => rw [hc] at hk; cases hk
    | some c =>
      rw [hc] at hk; simp at hk
      cases hr : ρ[c]? with
      | none => rw [hr] at hk; cases hk
      | some l => rw [hr] at hk; simp at hk; subst hk; exact hw _ _ _ hr
  · intro k x hk
    obtain ⟨c, hc, hx⟩ := pullHW_get hk
    obtain ⟨ch, hch, _⟩ := hin c (List.mem_of_getElem? hc)
    obtain ⟨l, hl, hs⟩ := h.sat c ch hch
    refine ⟨l, pullR_at hc hl, ?_⟩
    rw [hch] at hx
    rcases hx with ⟨_, _, rfl⟩ | ⟨_, _, rfl⟩
    · exact sat_pull hw hs
    · exact sat_map (pull_mv hw) hs
  · intro k x l b hk ho hl hb
    obtain ⟨c, hc, hx⟩ := pullHW_get hk
    obtain ⟨ch, hch, _⟩ := hin c (List.mem_of_getElem? hc)
    rw [hch] at hx
    rcases hx with ⟨_, _, rfl⟩ | ⟨_, hcw, rfl⟩
    · rw [roC_owned] at ho; cases ho
    · simp only [Option.getD_some, owned_map] at ho
      exact .inl ⟨c, hcw, ch, l, hch, ho, look hc hl, hb⟩
  · intro k sz els l b hk hl hb
    obtain ⟨c, hc, hx⟩ := pullHW_get hk
    obtain ⟨ch, hch, _⟩ := hin c (List.mem_of_getElem? hc)
    have hl' := look hc hl
    obtain ⟨l2, hl2, hs⟩ := h.sat c ch hch
    rw [hl'] at hl2; cases hl2
    rw [hch] at hx
    have hrows : ∃ o els', ch = .rows o sz els' := by
      rcases hx with ⟨_, _, hx⟩ | ⟨_, _, hx⟩
      · cases ch <;> simp [roC] at hx; exact ⟨_, _, by rw [hx.1]⟩
      · cases ch <;> simp [mapC] at hx; exact ⟨_, _, by rw [hx.2.1]⟩
    obtain ⟨o, els', rfl⟩ := hrows
    have hkind : (Chunk.rows o sz els').owned = true ∨ ∃ sz' els'', Chunk.rows o sz els' = .rows false sz' els'' := by cases o <;> simp [Chunk.owned]
    refine ⟨hs.blk_lt hkind hb, ?_⟩
    rcases hx with ⟨_, hcr, _⟩ | ⟨_, hcw, hx⟩
    · exact FW_no h hch hl' hb hkind (apartRW c hcr)
    · simp [mapC] at hx
      obtain ⟨rfl, _⟩ := hx
      intro hF
      have h1 := h.ro c sz els' l b hch hl' hb
      rcases FW_lt h hF with h2 | h2
      · exact h1.2 h2
      · omega
  · intro k d x y l m b hkd hk hd hox hoy hl hm hb hmb
    obtain ⟨c, hc, hx⟩ := pullHW_get hk
    obtain ⟨e, he, hy⟩ := pullHW_get hd
    obtain ⟨ch, hch, _⟩ := hin c (List.mem_of_getElem? hc)
    obtain ⟨eh, heh, _⟩ := hin e (List.mem_of_getElem? he)
    rw [hch] at hx
    rw [heh] at hy
    rcases hx with ⟨_, _, rfl⟩ | ⟨_, _, rfl⟩
    · rw [roC_owned] at hox; cases hox
    · rcases hy with ⟨_, _, rfl⟩ | ⟨_, _, rfl⟩
      · rw [roC_owned] at hoy; cases hoy
      · simp only [Option.getD_some, owned_map] at hox hoy
        refine h.apart c e ch eh l m b (fun hce => hkd ?_) hch heh hox hoy (look hc hl) (look he hm) hb hmb
        subst hce
        exact nodup_get hnd hc he

/-! #### back again -/
/-- Many places set. -/
def setL {α : Type} : List α → List Nat → List α → List α
  | l, c :: cs, x :: xs => setL (l.set c x) cs xs
  | l, _, _ => l
theorem setL_len {α : Type} : ∀ {cs : List Nat} {xs : List α} {l : List α}, (setL l cs xs).length = l.length
  | [], _, _ => by simp [setL]
  | c :: cs, [], _ => by simp [setL]
  | c :: cs, x :: xs, l => by rw [setL, setL_len]; simp
theorem setL_out {α : Type} : ∀ {cs : List Nat} {xs : List α} {l : List α} {k : Nat}, k ∉ cs → (setL l cs xs)[k]? = l[k]?
  | [], _, _, _, _ => by simp [setL]
  | c :: cs, [], _, _, _ => by simp [setL]
  | c :: cs, x :: xs, l, k, h => by
    simp only [List.mem_cons, not_or] at h
    rw [setL, setL_out h.2, List.getElem?_set_ne (Ne.symm h.1)]
theorem setL_in {α : Type} : ∀ {cs : List Nat} {xs : List α} {l : List α} {j c : Nat} {x : α}, cs.Nodup → cs[j]? = some c → xs[j]? = some x → c < l.length → (setL l cs xs)[c]? = some x
  | [], _, _, _, _, _, _, h, _, _ => by simp at h
  | c :: cs, [], _, _, _, _, _, _, h, _ => by simp at h
  | c :: cs, x :: xs, l, 0, c', x', hn, hc, hx, hl => by
    simp at hc hx; subst hc; subst hx
    rw [setL, setL_out (List.nodup_cons.1 hn).1, List.getElem?_set_self hl]
  | c :: cs, x :: xs, l, j + 1, c', x', hn, hc, hx, hl => by
    rw [setL]
    exact setL_in (List.nodup_cons.1 hn).2 (by simpa using hc) (by simpa using hx) (by simpa using hl)

theorem upd_setL : ∀ {cs : List Nat} {xs : List Chunk} {H : Heap}, (∀ c ∈ cs, c < H.length) → upd H (cs.zip xs) = setL H cs xs
  | [], _, _, _ => by simp [setL, upd]
  | c :: cs, [], _, _ => by simp [setL, upd]
  | c :: cs, x :: xs, H, h => by
    have hc := h c (by simp)
    have e : up1 H c x = H.set c x := by unfold up1; rw [if_neg (by omega)]
    rw [List.zip_cons_cons, upd, setL, e]
    exact upd_setL (by simpa using fun c hc => h c (by simp [hc]))

/-- What the call left of the chunks, put back; the first of the new ones go to places that were kept. -/
theorem inv_back {H : Heap} (h : Inv X ρ H w) {σr σw τ : List Nat} (hnd : (σr ++ σw ++ τ).Nodup) (hin : ∀ c ∈ σr ++ σw, ∃ ch, H[c]? = some ch ∧ ch ≠ .gone) (hτ : ∀ c ∈ τ, H[c]? = some .gone ∧ ρ[c]? = some .void)
    {ρ0 : Ren} {Hr Hn : Heap} {w' : World} (hle : Le (pullR (σr ++ σw) ρ) ρ0) (hHr : Hr.length = σr.length) (hHn : σw.length + τ.length ≤ Hn.length) (hi : Inv ⟨w, FW ρ H σw, 0⟩ ρ0 (Hr ++ Hn) w') :
    ∃ ρ', Le ρ ρ' ∧ VK ρ ρ' ((σw ++ τ).zip (Hn.map (pushC (σr ++ σw ++ τ)))) ∧ Mv ρ0 ρ' (pushS (σr ++ σw ++ τ)) (push1 (σr ++ σw ++ τ)) ∧ Inv X ρ' (upd H ((σw ++ τ).zip (Hn.map (pushC (σr ++ σw ++ τ))))) w' := by
  have hnd1 : (σr ++ σw).Nodup := (List.nodup_append.1 hnd).1
  have hndτ : τ.Nodup := (List.nodup_append.1 hnd).2.1
  have hndw : (σw ++ τ).Nodup := by
    rw [List.append_assoc] at hnd; exact (List.nodup_append.1 hnd).2.1
  have hlen := h.len
  have hwin : ∀ c ∈ σr ++ σw, c < H.length := fun c hc => let ⟨ch, h1, _⟩ := hin c hc; (List.getElem?_eq_some_iff.1 h1).1
  have hτin : ∀ c ∈ τ, c < H.length := fun c hc => (List.getElem?_eq_some_iff.1 (hτ c hc).1).1
  have hallin : ∀ c ∈ σw ++ τ, c < H.length := fun c hc => by
    rcases List.mem_append.1 hc with h1 | h1
    · exact hwin c (List.mem_append.2 (.inr h1))
    · exact hτin c h1
  have hl0 : ρ0.length = σr.length + Hn.length := by rw [hi.len]; simp [hHr]
  -- the new renaming
  let ρ' : Ren := setL ρ τ (ρ0.drop (σr ++ σw).length)
  have ρout : ∀ c, c ∉ τ → ρ'[c]? = ρ[c]? := fun c hc => setL_out hc
  have hle' : Le ρ ρ' := ⟨by rw [setL_len]; exact Nat.le_refl _, fun c l hc hl => by
    by_cases e : c ∈ τ
    · rw [(hτ c e).2] at hc; cases hc; exact absurd rfl hl
    · rw [ρout c e]; exact hc⟩
  -- each place of the small world is the same place in the big one
  have place : ∀ (k c : Nat) (l : Pl), (σr ++ σw ++ τ)[k]? = some c → ρ0[k]? = some l → ρ'[c]? = some l := by
    intro k c l hk hl
    by_cases hk1 : k < (σr ++ σw).length
    · rw [List.getElem?_append_left hk1] at hk
      have hc := List.mem_of_getElem? hk
      obtain ⟨ch, hch, hg⟩ := hin c hc
      obtain ⟨m, hm, hs⟩ := h.sat c ch hch
      have hm0 := hle.get k m (pullR_at hk hm) (sat_notvoid hs hg)
      rw [hl] at hm0; cases hm0
      rw [ρout c (fun hc2 => (List.nodup_append.1 hnd).2.2 c hc c hc2 rfl)]; exact hm
    · rw [List.getElem?_append_right (by omega)] at hk
      refine setL_in hndτ hk ?_ (by rw [hlen]; exact hτin c (List.mem_of_getElem? hk))
      rw [List.getElem?_drop, show (σr ++ σw).length + (k - (σr ++ σw).length) = k by omega]; exact hl
  have mv : Mv ρ0 ρ' (pushS (σr ++ σw ++ τ)) (push1 (σr ++ σw ++ τ)) := push_mv (fun k c l hk hl _ => place k c l hk hl) hi.obj1
  -- the new heap
  have eH : upd H ((σw ++ τ).zip (Hn.map (pushC (σr ++ σw ++ τ)))) = setL H (σw ++ τ) (Hn.map (pushC (σr ++ σw ++ τ))) := upd_setL hallin
  have get_out : ∀ c, c ∉ σw ++ τ → (upd H ((σw ++ τ).zip (Hn.map (pushC (σr ++ σw ++ τ)))))[c]? = H[c]? := fun c hc => by rw [eH]; exact setL_out hc
  -- what stands at a place that was written
  have get_in : ∀ c, c ∈ σw ++ τ → ∃ (k : Nat) (y : Chunk) (l : Pl), (σr ++ σw ++ τ)[k]? = some c ∧ (Hr ++ Hn)[k]? = some y ∧ ρ0[k]? = some l ∧ ρ'[c]? = some l ∧ σr.length ≤ k ∧
      (upd H ((σw ++ τ).zip (Hn.map (pushC (σr ++ σw ++ τ)))))[c]? = some (pushC (σr ++ σw ++ τ) y) := by
    intro c hc
    obtain ⟨j, hj⟩ := List.mem_iff_getElem?.1 hc
    have hjl := (List.getElem?_eq_some_iff.1 hj).1
    rw [List.length_append] at hjl
    have hjn : j < Hn.length := by omega
    have hk : (σr ++ σw ++ τ)[σr.length + j]? = some c := by
      rw [List.append_assoc, List.getElem?_append_right (by omega), Nat.add_sub_cancel_left]; exact hj
    have hlt : σr.length + j < ρ0.length := by omega
    refine ⟨σr.length + j, Hn[j], ρ0[σr.length + j], hk, ?_, List.getElem?_eq_getElem hlt, place _ _ _ hk (List.getElem?_eq_getElem hlt), by omega, ?_⟩
    · rw [List.getElem?_append_right (by omega), hHr, Nat.add_sub_cancel_left]; exact List.getElem?_eq_getElem hjn
    · rw [eH]
      exact setL_in hndw hj (by rw [List.getElem?_map, List.getElem?_eq_getElem hjn]; rfl) (hallin c hc)
  have pushOwned : ∀ {y : Chunk}, (pushC (σr ++ σw ++ τ) y).owned = true → y.owned = true := fun {y} ho => by
    cases y with
    | rows o sz els => cases o <;> simp_all [pushC, mapC, Chunk.owned]
    | map _ es => rfl
    | iter _ _ _ _ => rfl
    | clo _ _ _ => simp [pushC, mapC, Chunk.owned] at ho
    | gone => simp [pushC, mapC, Chunk.owned] at ho
  -- a chunk that the call could not reach is as it was
  have keep : ∀ {c : Nat} {ch : Chunk} {l : Pl}, c ∉ σw → H[c]? = some ch → ρ[c]? = some l → SatC ρ w l ch → SatC ρ' w' l ch := by
    intro c ch l hc hch hl hs
    have blk : (ch.owned = true ∨ ∃ sz els, ch = .rows false sz els) → ∀ b, l.blk = some b → w'.heap[b]? = w.heap[b]? := fun hk b hb =>
      hi.old b (hs.blk_lt hk hb) (FW_no h hch hl hb hk hc)
    cases ch with
    | clo fn f c' => obtain ⟨f', c'', rfl, h1, h2⟩ := hs; exact ⟨f', c'', rfl, h1.pre hle', h2.pre hle'⟩
    | gone => trivial
    | rows o sz els => exact hs.ext hle' (blk (by cases o <;> simp [Chunk.owned]))
    | map _ es => exact hs.ext hle' (blk (.inl rfl))
    | iter _ _ _ _ => exact hs.ext hle' (blk (.inl rfl))
  have oldPl : ∀ {c : Nat} {l : Pl}, c ∉ τ → ρ'[c]? = some l → ρ[c]? = some l := fun hc hl => by rw [ρout _ hc] at hl; exact hl
  refine ⟨ρ', hle', fun c hv hc => ?_, mv, hi.os.trans h.os, hi.tape.trans h.tape, hi.output.trans h.output, Nat.le_trans h.drawn hi.drawn, Nat.le_trans h.size hi.size, fun b hb hF => ?_, ?_, ?_, ?_, ?_, ?_, ?_⟩
  · refine (ρout c fun hc2 => hc ?_).trans hv
    have hz : ((σw ++ τ).zip (Hn.map (pushC (σr ++ σw ++ τ)))).map (·.1) = σw ++ τ := by
      rw [List.map_fst_zip]; simp; omega
    rw [hz]; exact List.mem_append.2 (.inr hc2)
  · have hbw : b < w.heap.size := Nat.lt_of_lt_of_le hb h.size
    rw [hi.old b hbw fun hFW => ?_]
    · exact h.old b hb hF
    · rcases FW_lt h hFW with h1 | h1
      · exact hF h1
      · omega
  · rw [eH, setL_len, setL_len]; exact hlen
  · intro c b u hc
    by_cases e : c ∈ τ
    · obtain ⟨k, y, l, hk, _, hl0', hl', _⟩ := get_in c (List.mem_append.2 (.inr e))
      rw [hl'] at hc; cases hc
      exact hi.obj1 k b u hl0'
    · exact h.obj1 c b u (oldPl e hc)
  · intro c x hc
    by_cases e : c ∈ σw ++ τ
    · obtain ⟨k, y, l, hk, hy, hl0', hl', _, hx⟩ := get_in c e
      rw [hx] at hc; cases hc
      obtain ⟨m, hm, hs⟩ := hi.sat k y hy
      rw [hl0'] at hm; cases hm
      refine ⟨l, hl', ?_⟩
      cases y with
      | rows o sz els => cases o with
        | true => exact sat_map mv hs
        | false => trivial
      | map _ es => exact sat_map mv hs
      | iter _ _ _ _ => exact sat_map mv hs
      | clo fn a c' => exact sat_map mv hs
      | gone => trivial
    · rw [get_out c e] at hc
      obtain ⟨l, hl, hs⟩ := h.sat c x hc
      simp only [List.mem_append, not_or] at e
      exact ⟨l, by rw [ρout c e.2]; exact hl, keep e.1 hc hl hs⟩
  · intro c x l b hc ho hl hb
    by_cases e : c ∈ σw ++ τ
    · obtain ⟨k, y, l', hk, hy, hl0', hl', _, hx⟩ := get_in c e
      rw [hx] at hc; cases hc
      rw [hl'] at hl; cases hl
      rcases hi.own k y l b hy (pushOwned ho) hl0' hb with h1 | h1
      · exact FW_lt h h1
      · exact .inr (Nat.le_trans h.size h1)
    · rw [get_out c e] at hc
      simp only [List.mem_append, not_or] at e
      exact h.own c x l b hc ho (oldPl e.2 hl) hb
  · intro c sz els l b hc hl hb
    by_cases e : c ∈ σw ++ τ
    · obtain ⟨k, y, l', hk, hy, hl0', hl', _, hx⟩ := get_in c e
      rw [hx] at hc
      exfalso
      cases y with
      | rows o sz els => cases o <;> simp [pushC, mapC] at hc
      | _ => simp [pushC, mapC] at hc
    · rw [get_out c e] at hc
      simp only [List.mem_append, not_or] at e
      exact h.ro c sz els l b hc (oldPl e.2 hl) hb
  · intro c d x y l m b hcd hc hd hox hoy hl hm hb hmb
    -- a place that was written, and one that wasn't
    have mixed : ∀ {c d : Nat} {x y : Chunk} {l m : Pl}, c ∈ σw ++ τ → d ∉ σw ++ τ → (upd H ((σw ++ τ).zip (Hn.map (pushC (σr ++ σw ++ τ)))))[c]? = some x → H[d]? = some y → x.owned = true → y.owned = true → ρ'[c]? = some l → ρ[d]? = some m → l.blk = some b → m.blk = some b → False := by
      intro c d x y l m hcm hdm hc hd hox hoy hl hm hb hmb
      obtain ⟨k, z, l', hk, hz, hl0', hl', _, hx⟩ := get_in c hcm
      rw [hx] at hc; cases hc
      rw [hl'] at hl; cases hl
      simp only [List.mem_append, not_or] at hdm
      rcases hi.own k z l b hz (pushOwned hox) hl0' hb with h1 | h1
      · exact FW_no h hd hm hmb (.inl hoy) hdm.1 h1
      · obtain ⟨m', hm', hs⟩ := h.sat d y hd
        rw [hm] at hm'; cases hm'
        have := hs.blk_lt (.inl hoy) hmb
        exact absurd h1 (by simpa using this)
    by_cases e1 : c ∈ σw ++ τ
    · by_cases e2 : d ∈ σw ++ τ
      · obtain ⟨k, z, l', hk, hz, hl0', hl', _, hx⟩ := get_in c e1
        obtain ⟨k2, z2, l2', hk2, hz2, hl02', hl2', _, hx2⟩ := get_in d e2
        rw [hx] at hc; cases hc
        rw [hx2] at hd; cases hd
        rw [hl'] at hl; cases hl
        rw [hl2'] at hm; cases hm
        refine hi.apart k k2 z z2 l m b (fun e => hcd ?_) hz hz2 (pushOwned hox) (pushOwned hoy) hl0' hl02' hb hmb
        subst e
        rw [hk] at hk2; cases hk2; rfl
      · rw [get_out d e2] at hd
        have e2' := e2
        simp only [List.mem_append, not_or] at e2'
        exact mixed e1 e2 hc hd hox hoy hl (oldPl e2'.2 hm) hb hmb
    · rw [get_out c e1] at hc
      have e1' := e1
      simp only [List.mem_append, not_or] at e1'
      by_cases e2 : d ∈ σw ++ τ
      · exact mixed e2 e1 hd hc hoy hox hm (oldPl e1'.2 hl) hmb hb
      · rw [get_out d e2] at hd
        have e2' := e2
        simp only [List.mem_append, not_or] at e2'
        exact h.apart c d x y l m b hcd hc hd hox hoy (oldPl e1'.2 hl) (oldPl e2'.2 hm) hb hmb

/-! #### calls -/
/-- A function's contract over some chunks: such as are only read, such as are written too; what it gives, what becomes of these and which are new. -/
def FunW (P : Program) (f : FuncId) (Hr Hw : Heap) (args : List IV) (Post : IV → Heap → Prop) : Prop :=
  ∀ X, callK P X f args (fun r H' => ∃ Hn, H' = Hr ++ Hn ∧ Hw.length ≤ Hn.length ∧ Post r Hn) (Hr ++ Hw)

/-- A call, as an action: its value, the chunks that it writes, those on which all this hangs. -/
def CallOK (P : Program) (X : Ctx) (f : FuncId) (args : List IV) (H : Heap) (σ : List Nat) (r : IV) (W : List (Nat × Chunk)) : Prop :=
  enters P f = true ∧ (∀ k ∈ W.map (·.1), k ∈ σ ∧ ∃ sz els, H[k]? = some (.rows true sz els)) ∧
    ∀ (ρ : Ren) (H' : Heap) (w : World) (vs : List Value), (∀ c ∈ σ, H'[c]? = H[c]?) → relA ρ args vs → Inv X ρ H' w →
      Calls P f vs.toArray w fun e w' => ∃ v ρ', e = .returned v ∧ Le ρ ρ' ∧ VK ρ ρ' W ∧ relI ρ' r v ∧ Inv X ρ' (upd H' W) w'

theorem callOK_funR {f : FuncId} {args : List IV} {r : IV} {H : Heap} {σ : List Nat} (h : FunR P f (pullH σ H) (args.map (pullI σ)) r) (hr : rawI r = true) : CallOK P X f args H σ r [] := by
  refine ⟨h.1, fun k hk => by simp at hk, fun ρ H' w vs hc hargs hi => ?_⟩
  have e : pullH σ H' = pullH σ H := by
    have : ∀ σ' : List Nat, (∀ c ∈ σ', H'[c]? = H[c]?) → (σ'.map fun c => roC σ ((H'[c]?).getD .gone)) = σ'.map fun c => roC σ ((H[c]?).getD .gone) :=
      fun σ' h => List.map_congr_left fun c hc => by rw [h c hc]
    exact this σ hc
  have hi' := hi.pull σ
  rw [e] at hi'
  refine (h.2 w _ vs hi' (relA_pull hi.obj1 hargs)).mono ?_
  rintro _ w' ⟨v, rfl, hrel, hb⟩
  exact ⟨v, ρ, rfl, Le.refl _, VK.refl _ _, rawI_rel hr hrel, hi.below hb⟩

theorem pullHW_congr {σr σw : List Nat} {H H' : Heap} (h : ∀ c ∈ σr ++ σw, H'[c]? = H[c]?) : pullHW σr σw H' = pullHW σr σw H := by
  unfold pullHW
  congr 1
  · exact List.map_congr_left fun c hc => by rw [h c (List.mem_append.2 (.inl hc))]
  · exact List.map_congr_left fun c hc => by rw [h c (List.mem_append.2 (.inr hc))]

/-- A contract that only writes what is there (what else is new is let go). -/
theorem callOK_funW {f : FuncId} {args args' : List IV} {r : IV} {H Hr Hw Hw' : Heap} (σr σw : List Nat) (h : FunW P f Hr Hw args' fun r' Hn => r' = r ∧ ∃ G, Hn = Hw' ++ G) (hH : pullHW σr σw H = Hr ++ Hw) (hlr : Hr.length = σr.length) (hlw : Hw'.length = σw.length)
    (hnd : (σr ++ σw).Nodup) (hin : ∀ c ∈ σr ++ σw, ∃ ch, H[c]? = some ch ∧ ch ≠ .gone) (hw : ∀ c ∈ σw, ∃ sz els, H[c]? = some (.rows true sz els)) (ha : args.map (pullI (σr ++ σw)) = args') :
    CallOK P X f args H (σr ++ σw) (pushI (σr ++ σw) r) (σw.zip (Hw'.map (pushC (σr ++ σw)))) := by
  have hk1 : (σw.zip (Hw'.map (pushC (σr ++ σw)))).map (·.1) = σw := by rw [List.map_fst_zip]; simp [hlw]
  refine ⟨(h ⟨default, fun _ => False, 0⟩).1, fun k hk => ?_, fun ρ H' w vs hc hargs hi => ?_⟩
  · rw [hk1] at hk
    exact ⟨List.mem_append.2 (.inr hk), hw k hk⟩
  · have hin' : ∀ c ∈ σr ++ σw, ∃ ch, H'[c]? = some ch ∧ ch ≠ .gone := fun c hcm => by rw [hc c hcm]; exact hin c hcm
    have hp := hi.part hnd hin'
    rw [pullHW_congr hc, hH] at hp
    have hra := relA_pull (σ := σr ++ σw) hi.obj1 hargs
    rw [ha] at hra
    refine ((h ⟨w, FW ρ H' σw, 0⟩).2 _ vs w hra hp).mono ?_
    rintro e w' ⟨v, r', H2, ρ0, rfl, ⟨Hn, rfl, hln, rfl, G, rfl⟩, hrel, hle, hi2⟩
    obtain ⟨ρ', a1, a2, a3, a4⟩ := inv_back (τ := []) hi (by simpa using hnd) hin' (fun c hc => by simp at hc) hle hlr (by simp [hlw]) hi2
    simp only [List.append_nil] at a2 a3 a4
    have ez : σw.zip ((Hw' ++ G).map (pushC (σr ++ σw))) = σw.zip (Hw'.map (pushC (σr ++ σw))) := by
      rw [List.map_append]
      have : σw = σw ++ [] := by simp
      conv => lhs; rw [this]
      rw [List.zip_append (by simp [hlw])]
      simp
    rw [ez] at a2 a4
    exact ⟨v, ρ', rfl, a1, a2, relI_push a3 hrel, a4⟩

theorem Inv.room {H : Heap} (h : Inv X ρ H w) : ∀ q : Nat, Inv X (ρ ++ List.replicate q .void) (H ++ List.replicate q .gone) w
  | 0 => by simpa using h
  | q + 1 => by
    have := (h.room q).push .void .gone rfl rfl rfl (Nat.le_refl _) (fun _ _ => rfl) (fun _ _ h => by cases h) trivial (fun h => by cases h) (fun _ _ h => by cases h)
    rwa [List.append_assoc, List.append_assoc, ← List.replicate_succ', ← List.replicate_succ'] at this

theorem upd_append : ∀ {W1 W2 : List (Nat × Chunk)} {H : Heap}, upd H (W1 ++ W2) = upd (upd H W1) W2
  | [], _, _ => rfl
  | (c, ch) :: W1, W2, H => by rw [List.cons_append, upd, upd, upd_append]

theorem upd_room : ∀ {q : Nat} {xs : List Chunk} {H : Heap}, q ≤ xs.length → upd (H ++ List.replicate q .gone) ((List.range' H.length q).zip xs) = upd H ((List.range' H.length q).zip xs)
  | 0, xs, H, _ => by simp
  | q + 1, [], H, h => by simp at h
  | q + 1, x :: xs, H, h => by
    rw [List.range'_succ, List.zip_cons_cons, upd, upd]
    have e1 : up1 (H ++ List.replicate (q + 1) .gone) H.length x = (H ++ [x]) ++ List.replicate q .gone := by
      unfold up1
      rw [if_neg (by simp)]
      rw [List.set_append_right _ _ (Nat.le_refl _)]
      simp [List.replicate_succ]
    have e2 : up1 H H.length x = H ++ [x] := by unfold up1; rw [if_pos rfl]
    rw [e1, e2]
    have := upd_room (q := q) (xs := xs) (H := H ++ [x]) (by simpa using h)
    simpa using this

theorem upd_in : ∀ {cs : List Nat} {xs : List Chunk} {H T : Heap}, (∀ c ∈ cs, c < H.length) → upd (H ++ T) (cs.zip xs) = upd H (cs.zip xs) ++ T
  | [], _, _, _, _ => by simp [upd]
  | c :: cs, [], _, _, _ => by simp [upd]
  | c :: cs, x :: xs, H, T, h => by
    have hc := h c (by simp)
    have e : up1 (H ++ T) c x = up1 H c x ++ T := by
      unfold up1
      rw [if_neg (by simp; omega), if_neg (by omega), List.set_append_left _ _ hc]
    rw [List.zip_cons_cons, upd, upd, e]
    refine upd_in fun d hd => ?_
    have : (up1 H c x).length = H.length := by unfold up1; rw [if_neg (by omega)]; simp
    rw [this]; exact h d (by simp [hd])

theorem upd_in_len : ∀ {cs : List Nat} {xs : List Chunk} {H : Heap}, (∀ c ∈ cs, c < H.length) → (upd H (cs.zip xs)).length = H.length
  | [], _, _, _ => by simp [upd]
  | c :: cs, [], _, _ => by simp [upd]
  | c :: cs, x :: xs, H, h => by
    have hc := h c (by simp)
    have e : (up1 H c x).length = H.length := by unfold up1; rw [if_neg (by omega)]; simp
    rw [List.zip_cons_cons, upd, upd_in_len (by rw [e]; exact fun d hd => h d (by simp [hd])), e]

/-- A contract used in a bigger heap; what is new stands behind. -/
theorem callK_funW {f : FuncId} {args args' : List IV} {H Hr Hw : Heap} {Post : IV → Heap → Prop} {k : IV → Heap → Prop} (σr σw : List Nat) (h : FunW P f Hr Hw args' Post) (hH : pullHW σr σw H = Hr ++ Hw) (hlr : Hr.length = σr.length) (hlw : Hw.length = σw.length)
    (hnd : (σr ++ σw).Nodup) (hin : ∀ c ∈ σr ++ σw, ∃ ch, H[c]? = some ch ∧ ch ≠ .gone) (ha : args.map (pullI (σr ++ σw)) = args')
    (hk : ∀ r Hn, Post r Hn → σw.length ≤ Hn.length → k (pushI (σr ++ σw ++ List.range' H.length (Hn.length - σw.length)) r) (upd H ((σw ++ List.range' H.length (Hn.length - σw.length)).zip (Hn.map (pushC (σr ++ σw ++ List.range' H.length (Hn.length - σw.length))))))) :
    callK P X f args k H := by
  refine ⟨(h ⟨default, fun _ => False, 0⟩).1, fun ρ vs w hargs hi => ?_⟩
  have hp := hi.part hnd hin
  rw [hH] at hp
  have hra := relA_pull (σ := σr ++ σw) hi.obj1 hargs
  rw [ha] at hra
  refine ((h ⟨w, FW ρ H σw, 0⟩).2 _ vs w hra hp).mono ?_
  rintro e w' ⟨v, r', H2, ρ0, rfl, ⟨Hn, rfl, hln, hpost⟩, hrel, hle, hi2⟩
  rw [hlw] at hln
  have hwin : ∀ c ∈ σr ++ σw, c < H.length := fun c hc => let ⟨ch, h1, _⟩ := hin c hc; (List.getElem?_eq_some_iff.1 h1).1
  have hlen := hi.len
  -- room for the new ones
  have hroom := hi.room (Hn.length - σw.length)
  have hnd2 : (σr ++ σw ++ List.range' H.length (Hn.length - σw.length)).Nodup := by
    refine List.nodup_append.2 ⟨hnd, List.nodup_range' (step := 1), fun a ha b hb e => ?_⟩
    subst e
    have := hwin a ha
    rw [List.mem_range'] at hb
    obtain ⟨i, _, rfl⟩ := hb
    omega
  have hin2 : ∀ c ∈ σr ++ σw, ∃ ch, (H ++ List.replicate (Hn.length - σw.length) .gone)[c]? = some ch ∧ ch ≠ .gone := fun c hc => by
    rw [List.getElem?_append_left (hwin c hc)]; exact hin c hc
  have hτ : ∀ c ∈ List.range' H.length (Hn.length - σw.length), (H ++ List.replicate (Hn.length - σw.length) .gone)[c]? = some .gone ∧ (ρ ++ List.replicate (Hn.length - σw.length) .void)[c]? = some .void := fun c hc => by
    rw [List.mem_range'] at hc
    obtain ⟨i, hi', rfl⟩ := hc
    rw [Nat.one_mul]
    refine ⟨?_, ?_⟩
    · rw [List.getElem?_append_right (by omega), Nat.add_sub_cancel_left, List.getElem?_replicate, if_pos hi']
    · rw [List.getElem?_append_right (by omega), hlen, Nat.add_sub_cancel_left, List.getElem?_replicate, if_pos hi']
  have hle2 : Le (pullR (σr ++ σw) (ρ ++ List.replicate (Hn.length - σw.length) .void)) ρ0 := by
    have : pullR (σr ++ σw) (ρ ++ List.replicate (Hn.length - σw.length) .void) = pullR (σr ++ σw) ρ := by
      unfold pullR
      exact List.map_congr_left fun c hc => by rw [List.getElem?_append_left (by rw [hlen]; exact hwin c hc)]
    rw [this]; exact hle
  have hFW : FW (ρ ++ List.replicate (Hn.length - σw.length) .void) (H ++ List.replicate (Hn.length - σw.length) .gone) σw = FW ρ H σw := by
    funext b
    apply propext
    unfold FW
    constructor
    · rintro ⟨c, hc, ch, l, h1, h2, h3, h4⟩
      have hcl := hwin c (List.mem_append.2 (.inr hc))
      rw [List.getElem?_append_left hcl] at h1
      rw [List.getElem?_append_left (by omega)] at h3
      exact ⟨c, hc, ch, l, h1, h2, h3, h4⟩
    · rintro ⟨c, hc, ch, l, h1, h2, h3, h4⟩
      have hcl := hwin c (List.mem_append.2 (.inr hc))
      exact ⟨c, hc, ch, l, by rw [List.getElem?_append_left hcl]; exact h1, h2, by rw [List.getElem?_append_left (by omega)]; exact h3, h4⟩
  rw [← hFW] at hi2
  obtain ⟨ρ', a1, _, a3, a4⟩ := inv_back hroom hnd2 hin2 hτ hle2 hlr (by simp; omega) hi2
  refine ⟨v, _, _, ρ', rfl, hk r' Hn hpost hln, relI_push a3 hrel, (Le.app ρ _).trans a1, ?_⟩
  have hwin2 : ∀ c ∈ σw, c < H.length := fun c hc => hwin c (List.mem_append.2 (.inr hc))
  have split : ∀ (xs : List Chunk), xs.length = Hn.length → (σw ++ List.range' H.length (Hn.length - σw.length)).zip xs = σw.zip (xs.take σw.length) ++ (List.range' H.length (Hn.length - σw.length)).zip (xs.drop σw.length) := fun xs hxs => by
    conv => lhs; rw [← List.take_append_drop σw.length xs]
    rw [List.zip_append (by simp; omega)]
  have hxl := split (Hn.map (pushC (σr ++ σw ++ List.range' H.length (Hn.length - σw.length)))) (by simp)
  rw [hxl] at a4 ⊢
  rw [upd_append] at a4 ⊢
  rw [upd_in hwin2] at a4
  have hl2 := upd_in_len (xs := (Hn.map (pushC (σr ++ σw ++ List.range' H.length (Hn.length - σw.length)))).take σw.length) hwin2
  have := upd_room (q := Hn.length - σw.length) (xs := (Hn.map (pushC (σr ++ σw ++ List.range' H.length (Hn.length - σw.length)))).drop σw.length) (H := upd H (σw.zip ((Hn.map (pushC (σr ++ σw ++ List.range' H.length (Hn.length - σw.length)))).take σw.length))) (by simp)
  rw [hl2] at this
  rw [this] at a4
  exact a4
end
end Go.Ev
