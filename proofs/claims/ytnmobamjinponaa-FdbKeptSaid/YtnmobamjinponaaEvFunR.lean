/- Functions that only reckon and read: a contract over some chunks that stay as they are. -/
import Derived.Test.YtnmobamjinponaaEvFun
namespace Go.Ev
open Go.RowKit

def ix : List Nat → Nat → Option Nat
  | [], _ => none
  | d :: σ, c => if d = c then some 0 else (ix σ c).map (· + 1)
theorem ix_get : ∀ {σ : List Nat} {c k : Nat}, ix σ c = some k → σ[k]? = some c
  | d :: σ, c, k, h => by
    simp only [ix] at h
    split at h
    · rename_i e; cases h; simp [e]
    · cases hk : ix σ c with
      | none => rw [hk] at h; cases h
      | some j => rw [hk] at h; simp at h; subst h; simpa using ix_get hk

/-- A value, seen from some chunks alone. -/
def pullS (σ : List Nat) : SV → SV
  | .raw v => .raw v
  | .ptr c i o => match ix σ c with
    | some k => .ptr k i o
    | none => .junk
  | .slice c s n => match ix σ c with
    | some k => .slice k s n
    | none => .junk
  | .ref c => match ix σ c with
    | some k => .ref k
    | none => .junk
  | .sub c i o k n => match ix σ c with
    | some j => .sub j i o k n
    | none => .junk
  | .junk => .junk
def pullI (σ : List Nat) : IV → IV
  | .s x => .s (pullS σ x)
  | .a l => .a (l.map (pullS σ))
  | _ => .j
def roC (σ : List Nat) : Chunk → Chunk
  | .rows _ sz els => .rows false sz (els.map fun r => r.map (pullS σ))
  | _ => .gone
def pullH (σ : List Nat) (H : Heap) : Heap := σ.map fun c => roC σ ((H[c]?).getD .gone)
def pullR (σ : List Nat) (ρ : Ren) : Ren := σ.map fun c => (ρ[c]?).getD .void

section
variable {P : Program} {X : Ctx} {σ : List Nat} {ρ : Ren}

theorem pullR_get {c k : Nat} {l : Pl} (h : ix σ c = some k) (hl : ρ[c]? = some l) : (pullR σ ρ)[k]? = some l := by
  simp [pullR, ix_get h, hl]

theorem relS_pull {x : SV} {v : Value} (hw : ∀ (c b : Nat) (u : Value), ρ[c]? = some (Pl.obj b u) → u.oneCell' = true) (h : relS ρ x v) : relS (pullR σ ρ) (pullS σ x) v := by
  have h1 := relS_one h hw
  cases x with
  | raw _ => exact h
  | ptr c i o =>
    simp only [pullS]
    split
    · rename_i k hk
      obtain ⟨b, base, sz, lim, hc, hx⟩ := h; exact ⟨b, base, sz, lim, pullR_get hk hc, hx⟩
    · exact h1
  | slice c s n =>
    simp only [pullS]
    split
    · rename_i k hk
      rcases h with ⟨hc, h⟩ | ⟨b, base, sz, lim, cap, hc, h⟩ | ⟨b, base, sz, lim, off, hc, h⟩
      · exact .inl ⟨pullR_get hk hc, h⟩
      · exact .inr (.inl ⟨b, base, sz, lim, cap, pullR_get hk hc, h⟩)
      · exact .inr (.inr ⟨b, base, sz, lim, off, pullR_get hk hc, h⟩)
    · exact h1
  | ref c =>
    simp only [pullS]
    split
    · rename_i k hk
      rcases h with ⟨b, h⟩ | ⟨h, h2⟩
      · exact .inl ⟨b, pullR_get hk h⟩
      · exact .inr ⟨pullR_get hk h, h2⟩
    · exact h1
  | sub c i o k n =>
    simp only [pullS]
    split
    · rename_i j hj
      rcases h with ⟨b, base, sz, lim, cap, hc, h⟩ | ⟨b, base, sz, lim, off, hc, h⟩
      · exact .inl ⟨b, base, sz, lim, cap, pullR_get hj hc, h⟩
      · exact .inr ⟨b, base, sz, lim, off, pullR_get hj hc, h⟩
    · exact h1
  | junk => exact h

theorem relL_pull (hw : ∀ (c b : Nat) (u : Value), ρ[c]? = some (Pl.obj b u) → u.oneCell' = true) : ∀ {l : List SV} {vs : List Value}, relL ρ l vs → relL (pullR σ ρ) (l.map (pullS σ)) vs
  | [], [], _ => trivial
  | _ :: _, _ :: _, h => ⟨relS_pull hw h.1, relL_pull hw h.2⟩
  | [], _ :: _, h => h.elim
  | _ :: _, [], h => h.elim

theorem relI_pull (hw : ∀ (c b : Nat) (u : Value), ρ[c]? = some (Pl.obj b u) → u.oneCell' = true) {x : IV} {v : Value} (h : relI ρ x v) : relI (pullR σ ρ) (pullI σ x) v := by
  cases x with
  | s x => exact relS_pull (x := x) hw h
  | a l => obtain ⟨cs, e, hr⟩ := h; exact ⟨cs, e, relL_pull hw hr⟩
  | t l => trivial
  | j => trivial
theorem relA_pull (hw : ∀ (c b : Nat) (u : Value), ρ[c]? = some (Pl.obj b u) → u.oneCell' = true) : ∀ {l : List IV} {vs : List Value}, relA ρ l vs → relA (pullR σ ρ) (l.map (pullI σ)) vs
  | [], [], _ => trivial
  | _ :: _, _ :: _, h => ⟨relI_pull hw h.1, relA_pull hw h.2⟩
  | [], _ :: _, h => h.elim
  | _ :: _, [], h => h.elim

theorem sat_pull {w : World} {l : Pl} {ch : Chunk} (hw : ∀ (c b : Nat) (u : Value), ρ[c]? = some (Pl.obj b u) → u.oneCell' = true) (h : SatC ρ w l ch) : SatC (pullR σ ρ) w l (roC σ ch) := by
  cases ch with
  | rows own sz els =>
    rcases h with ⟨h1, h2⟩ | ⟨b, base, lim, cells, T, lo, hi, h1, h2, h3, h4, h5, h6, h7, h8⟩
    · subst h2; exact .inl ⟨h1, rfl⟩
    · refine .inr ⟨b, base, lim, cells, T, lo, hi, h1, h2, h3, by simpa using h4, h5, (fun h => by cases h), (fun h => by cases h), ?_⟩
      intro i row hrow
      rw [List.getElem?_map] at hrow
      cases hr : els[i]? with
      | none => rw [hr] at hrow; cases hrow
      | some r0 =>
        rw [hr] at hrow; simp at hrow; subst hrow
        obtain ⟨hl, hrel⟩ := h8 i r0 hr
        refine ⟨by simpa using hl, fun o x hx => ?_⟩
        rw [List.getElem?_map] at hx
        cases hx0 : r0[o]? with
        | none => rw [hx0] at hx; cases hx
        | some x0 =>
          rw [hx0] at hx; simp at hx; subst hx
          obtain ⟨v, hv, hs⟩ := hrel o x0 hx0
          exact ⟨v, hv, relS_pull hw hs⟩
  | map _ _ => trivial
  | iter _ _ _ _ => trivial
  | clo _ _ _ => trivial
  | gone => trivial

theorem roC_owned {ch : Chunk} : (roC σ ch).owned = false := by cases ch <;> rfl

theorem Inv.pull {H : Heap} {w : World} (h : Inv X ρ H w) (σ : List Nat) : Inv (ctx0 w) (pullR σ ρ) (pullH σ H) w := by
  have hw := h.obj1
  have hsat : ∀ (c : Nat) (ch : Chunk), (pullH σ H)[c]? = some ch → ∃ l : Pl, (pullR σ ρ)[c]? = some l ∧ SatC (pullR σ ρ) w l ch := by
    intro k ch hk
    simp only [pullH, List.getElem?_map] at hk
    cases hc : σ[k]? with
    | none => rw [hc] at hk; cases hk
    | some c =>
      rw [hc] at hk; simp at hk; subst hk
      refine ⟨(ρ[c]?).getD .void, by simp [pullR, hc], ?_⟩
      cases hH : H[c]? with
      | none => trivial
      | some ch =>
        obtain ⟨l, hl, hs⟩ := h.sat c ch hH
        rw [hl]; exact sat_pull hw hs
  have hown : ∀ (c : Nat) (ch : Chunk), (pullH σ H)[c]? = some ch → ch.owned = false := by
    intro k ch hk
    simp only [pullH, List.getElem?_map] at hk
    cases hc : σ[k]? with
    | none => rw [hc] at hk; cases hk
    | some c => rw [hc] at hk; simp at hk; subst hk; exact roC_owned
  refine ⟨rfl, rfl, rfl, Nat.le_refl _, Nat.le_refl _, fun _ _ _ => rfl, by simp [pullR, pullH], ?_, hsat, ?_, ?_, ?_⟩
  · intro k b u hk
    simp only [pullR, List.getElem?_map] at hk
    cases hc : σ[k]? with
    | none => rw [hc] at hk; cases hk
    | some c =>
      rw [hc] at hk; simp at hk
      cases hr : ρ[c]? with
      | none => rw [hr] at hk; cases hk
      | some l => rw [hr] at hk; simp at hk; subst hk; exact hw _ _ _ hr
  · intro c ch l b hc ho; rw [hown c ch hc] at ho; cases ho
  · intro c sz els l b hc hl hb
    obtain ⟨l', hl', hs⟩ := hsat c _ hc
    rw [hl] at hl'; cases hl'
    refine ⟨?_, fun h => h⟩
    rcases hs with ⟨rfl, _⟩ | ⟨b', base, lim, cells, T, lo, hi, rfl, h2, _⟩
    · cases hb
    · simp only [Pl.blk, Option.some.injEq] at hb
      subst hb
      exact (Array.getElem?_eq_some_iff.1 h2).1
  · intro c d ch dh l m b _ hc _ ho; rw [hown c ch hc] at ho; cases ho

/-- A function's contract, if it only reckons and reads: the result for these arguments, over these chunks; of what was there nothing is turned. -/
def FunR (P : Program) (f : FuncId) (H0 : Heap) (args : List IV) (r : IV) : Prop :=
  enters P f = true ∧ ∀ w ρ vs, Inv (ctx0 w) ρ H0 w → relA ρ args vs → Calls P f vs.toArray w fun e w' => ∃ v, e = .returned v ∧ relI [] r v ∧ BelowD w.heap.size w w'

theorem funR_of {f : FuncId} {H0 : Heap} {args : List IV} {r : IV} (hr : rawI r = true) (h : ∀ X, callK P X f args (fun r' _ => r' = r) H0) : FunR P f H0 args r := by
  refine ⟨(h (ctx0 default)).1, fun w ρ vs hi ha => ((h (ctx0 w)).2 ρ vs w ha hi).mono ?_⟩
  rintro e w' ⟨v, r', H', ρ', rfl, rfl, hrel, _, hi⟩
  exact ⟨v, rfl, rawI_rel hr hrel, ⟨hi.os, hi.tape, hi.output, hi.size, fun k hk => hi.old k hk (fun h => h)⟩, hi.drawn⟩

theorem callK_funR {f : FuncId} {args : List IV} {r : IV} {k : IV → Heap → Prop} {H : Heap} (σ : List Nat) (h : FunR P f (pullH σ H) (args.map (pullI σ)) r) (hr : rawI r = true) (hk : k r H) : callK P X f args k H := by
  refine ⟨h.1, fun ρ vs w hargs hi => (h.2 w _ vs (hi.pull σ) (relA_pull hi.obj1 hargs)).mono ?_⟩
  rintro e w' ⟨v, rfl, hrel, hb⟩
  exact ⟨v, r, H, ρ, rfl, hk, rawI_rel hr hrel, Le.refl _, hi.below hb⟩

theorem pullS_raw {x : SV} (h : rawS x = true) : pullS σ x = x := by cases x <;> first | rfl | cases h
theorem pullL_raw : ∀ {l : List SV}, rawL l = true → l.map (pullS σ) = l
  | [], _ => rfl
  | x :: l, h => by
    simp only [rawL, Bool.and_eq_true] at h
    rw [List.map_cons, pullS_raw h.1, pullL_raw h.2]
theorem pullT_raw : ∀ {l : List IV}, rawT l = true → l.map (pullI σ) = l
  | [], _ => rfl
  | x :: l, h => by
    simp only [rawT, Bool.and_eq_true] at h
    rw [List.map_cons, pullT_raw h.2]
    cases x with
    | s x => rw [pullI, pullS_raw h.1]
    | a l => rw [pullI, pullL_raw h.1]
    | t l => cases h.1
    | j => cases h.1
theorem Fun.toR {f : FuncId} {args : List IV} {r : IV} (h : Fun P f args r) (ha : rawT args = true) : FunR P f [] args r :=
  ⟨h.1, fun w _ vs _ hr => h.2 w vs (rawA_rel ha hr)⟩
end
end Go.Ev
