/- The ideal values and heaps of the symbolic evaluator, how they stand to the model's values and worlds, and the rules of the structured code over them. -/
import Derived.Calls
import Derived.Below
import Derived.Laws.Sem
import Derived.Laws.Cells
import Derived.Laws.World
namespace Go.Ev
open Go.RowKit

/-- One cell of memory, ideally: a value without chunks, a pointer into a chunk (element, cell of the element), a slice of a chunk, a handle, a slice of cells within an element (from a cell on, so many cells each, so many), or whatever. -/
inductive SV where
  | raw (v : Value)
  | ptr (c i o : Nat)
  | slice (c s n : Nat)
  | ref (c : Nat)
  | sub (c i o k n : Nat)
  | junk
  deriving Inhabited

/-- A value of a temporary: one cell, an aggregate, a tuple, or whatever. -/
inductive IV where
  | s (x : SV)
  | a (l : List SV)
  | t (l : List IV)
  | j
  deriving Inhabited

inductive Chunk where
  | rows (own : Bool) (sz : Nat) (els : List (List SV))
  | map (clock : Nat) (es : List (IV × IV × Nat))
  | iter (x : SV) (since : Nat) (seen : List Nat) (stepped : Nat)
  | clo (fn : Fn) (first cap : List IV)
  | gone
  deriving Inhabited

/-- Where a chunk lies: in a block, from a cell on, so many cells an element, room for so many elements; nowhere (a nil slice); or what a handle is. -/
inductive Pl where
  | mem (b base sz lim : Nat)
  | nowhere
  | void
  | obj (b : Nat) (v : Value)
  | val (v : Value)
  deriving Inhabited

abbrev Heap := List Chunk
abbrev Ren := List Pl
abbrev TM := List (Nat × IV)

def get : TM → Nat → IV
  | [], _ => .j
  | (s, v) :: l, t => if s = t then v else get l t

def put (tm : TM) (d : Option Nat) (v : IV) : TM :=
  match d with
  | some d => (d, v) :: tm
  | none => tm

def relS (ρ : Ren) : SV → Value → Prop
  | .raw v, x => x = v ∧ v.oneCell' = true
  | .ptr c i o, x => ∃ b base sz lim, ρ[c]? = some (.mem b base sz lim) ∧ x = .pointer (some ⟨b, base + i * sz + o, none⟩)
  | .slice c s n, x => (ρ[c]? = some .nowhere ∧ s = 0 ∧ n = 0 ∧ x = .slice none 0 0) ∨
      (∃ b base sz lim cap, ρ[c]? = some (.mem b base sz lim) ∧ x = .slice (some ⟨b, base + s * sz, none⟩) n cap ∧ n ≤ cap ∧ s + cap ≤ lim) ∨
      ∃ b base sz lim off, ρ[c]? = some (.mem b base sz lim) ∧ n = 0 ∧ x = .slice (some ⟨b, off, none⟩) 0 0
  | .ref c, x => (∃ b, ρ[c]? = some (.obj b x)) ∨ ρ[c]? = some (.val x) ∧ x.oneCell' = true
  | .sub c i o _ n, x => (∃ b base sz lim cap, ρ[c]? = some (.mem b base sz lim) ∧ x = .slice (some ⟨b, base + i * sz + o, none⟩) n cap ∧ n ≤ cap) ∨
      ∃ b base sz lim off, ρ[c]? = some (.mem b base sz lim) ∧ n = 0 ∧ x = .slice (some ⟨b, off, none⟩) 0 0
  | .junk, x => x.oneCell' = true

def relL (ρ : Ren) : List SV → List Value → Prop
  | [], [] => True
  | x :: xs, v :: vs => relS ρ x v ∧ relL ρ xs vs
  | _, _ => False

def relC (ρ : Ren) : IV → Value → Prop
  | .s x, v => relS ρ x v
  | .a l, v => ∃ cs : List Value, v = .agg cs.toArray ∧ relL ρ l cs
  | .t _, _ => False
  | .j, _ => True

def relT (ρ : Ren) : List IV → List Value → Prop
  | [], [] => True
  | x :: xs, v :: vs => relC ρ x v ∧ relT ρ xs vs
  | _, _ => False

def relI (ρ : Ren) : IV → Value → Prop
  | .t l, v => ∃ vs : List Value, v = .tuple vs.toArray ∧ relT ρ l vs
  | x, v => relC ρ x v

theorem relS_one {ρ : Ren} {x : SV} {v : Value} (h : relS ρ x v) (hw : ∀ (c b : Nat) (u : Value), ρ[c]? = some (Pl.obj b u) → u.oneCell' = true) : v.oneCell' = true := by
  cases x with
  | raw v' => obtain ⟨rfl, h⟩ := h; exact h
  | ptr c i o => obtain ⟨_, _, _, _, _, rfl⟩ := h; rfl
  | slice c s n => rcases h with ⟨_, _, _, rfl⟩ | ⟨_, _, _, _, _, _, rfl, _⟩ | ⟨_, _, _, _, _, _, _, rfl⟩ <;> rfl
  | ref c => rcases h with ⟨b, h⟩ | ⟨_, h⟩
             · exact hw _ _ _ h
             · exact h
  | sub c i o k n => rcases h with ⟨_, _, _, _, _, _, rfl, _⟩ | ⟨_, _, _, _, _, _, _, rfl⟩ <;> rfl
  | junk => exact h

/-- One renaming goes on as another one: all places but the void ones are the same. -/
structure Le (ρ ρ' : Ren) : Prop where
  len : ρ.length ≤ ρ'.length
  get : ∀ (c : Nat) (l : Pl), ρ[c]? = some l → l ≠ .void → ρ'[c]? = some l

theorem Le.refl (ρ : Ren) : Le ρ ρ := ⟨Nat.le_refl _, fun _ _ h _ => h⟩
theorem Le.trans {a b c : Ren} (h : Le a b) (k : Le b c) : Le a c := ⟨Nat.le_trans h.len k.len, fun i l hi hl => k.get i l (h.get i l hi hl) hl⟩
theorem Le.app (ρ δ : Ren) : Le ρ (ρ ++ δ) := ⟨by simp, fun c l h _ => by rw [List.getElem?_append_left (List.getElem?_eq_some_iff.1 h).1]; exact h⟩
theorem Le.set {ρ : Ren} {m : Nat} (h : ρ[m]? = some .void) (l : Pl) : Le ρ (ρ.set m l) :=
  ⟨by simp, fun c l' hc hl => by
    by_cases e : m = c
    · subst e; rw [h] at hc; cases hc; exact absurd rfl hl
    · rw [List.getElem?_set_ne e]; exact hc⟩

/-- The same of the first so many places. -/
structure LeN (N : Nat) (ρ ρ' : Ren) : Prop where
  len : N ≤ ρ.length → N ≤ ρ'.length
  get : ∀ (c : Nat) (l : Pl), c < N → ρ[c]? = some l → l ≠ .void → ρ'[c]? = some l
theorem Le.toN {ρ ρ' : Ren} (h : Le ρ ρ') (N : Nat) : LeN N ρ ρ' := ⟨fun k => Nat.le_trans k h.len, fun c l _ => h.get c l⟩
theorem LeN.refl (N : Nat) (ρ : Ren) : LeN N ρ ρ := (Le.refl ρ).toN N
theorem LeN.trans {N : Nat} {a b c : Ren} (h : LeN N a b) (k : LeN N b c) : LeN N a c := ⟨fun e => k.len (h.len e), fun i l hi hl hv => k.get i l hi (h.get i l hi hl hv) hv⟩
theorem LeN.full {ρ ρ' : Ren} (h : LeN ρ.length ρ ρ') : Le ρ ρ' := ⟨h.len (Nat.le_refl _), fun c l hc hl => h.get c l (List.getElem?_eq_some_iff.1 hc).1 hc hl⟩

theorem relS.pre {ρ ρ' : Ren} (p : Le ρ ρ') {x : SV} {v : Value} (h : relS ρ x v) : relS ρ' x v := by
  cases x with
  | raw _ => exact h
  | ptr c i o => obtain ⟨b, base, sz, lim, hc, hx⟩ := h; exact ⟨b, base, sz, lim, p.get _ _ hc (by simp), hx⟩
  | slice c s n =>
    rcases h with ⟨hc, h⟩ | ⟨b, base, sz, lim, cap, hc, h⟩ | ⟨b, base, sz, lim, off, hc, h⟩
    · exact .inl ⟨p.get _ _ hc (by simp), h⟩
    · exact .inr (.inl ⟨b, base, sz, lim, cap, p.get _ _ hc (by simp), h⟩)
    · exact .inr (.inr ⟨b, base, sz, lim, off, p.get _ _ hc (by simp), h⟩)
  | ref c =>
    rcases h with ⟨b, h⟩ | ⟨h, h2⟩
    · exact .inl ⟨b, p.get _ _ h (by simp)⟩
    · exact .inr ⟨p.get _ _ h (by simp), h2⟩
  | sub c i o k n =>
    rcases h with ⟨b, base, sz, lim, cap, hc, h⟩ | ⟨b, base, sz, lim, off, hc, h⟩
    · exact .inl ⟨b, base, sz, lim, cap, p.get _ _ hc (by simp), h⟩
    · exact .inr ⟨b, base, sz, lim, off, p.get _ _ hc (by simp), h⟩
  | junk => exact h

theorem relL.pre {ρ ρ' : Ren} (p : Le ρ ρ') : ∀ {l : List SV} {vs : List Value}, relL ρ l vs → relL ρ' l vs
  | [], [], _ => trivial
  | _ :: _, _ :: _, h => ⟨h.1.pre p, relL.pre p h.2⟩
  | [], _ :: _, h => h.elim
  | _ :: _, [], h => h.elim

theorem relC.pre {ρ ρ' : Ren} (p : Le ρ ρ') {x : IV} {v : Value} (h : relC ρ x v) : relC ρ' x v := by
  cases x with
  | s x => exact relS.pre (x := x) p h
  | a l => obtain ⟨cs, hv, h⟩ := h; exact ⟨cs, hv, h.pre p⟩
  | t l => exact h.elim
  | j => trivial

theorem relT.pre {ρ ρ' : Ren} (p : Le ρ ρ') : ∀ {l : List IV} {vs : List Value}, relT ρ l vs → relT ρ' l vs
  | [], [], _ => trivial
  | _ :: _, _ :: _, h => ⟨h.1.pre p, relT.pre p h.2⟩
  | [], _ :: _, h => h.elim
  | _ :: _, [], h => h.elim

theorem relI.pre {ρ ρ' : Ren} (p : Le ρ ρ') {x : IV} {v : Value} (h : relI ρ x v) : relI ρ' x v := by
  cases x with
  | s x => exact relS.pre (x := x) p h
  | a l => exact relC.pre (x := .a l) p h
  | t l => obtain ⟨vs, hv, h⟩ := h; exact ⟨vs, hv, h.pre p⟩
  | j => trivial

theorem relL.len {ρ : Ren} : ∀ {l : List SV} {vs : List Value}, relL ρ l vs → vs.length = l.length
  | [], [], _ => rfl
  | _ :: _, _ :: _, h => by simp [h.2.len]
  | [], _ :: _, h => h.elim
  | _ :: _, [], h => h.elim

theorem relL.get {ρ : Ren} : ∀ {l : List SV} {vs : List Value} {i : Nat} {x : SV}, relL ρ l vs → l[i]? = some x → ∃ v, vs[i]? = some v ∧ relS ρ x v
  | [], [], i, x, _, h => by simp at h
  | y :: l, v :: vs, 0, x, h, hi => by simp at hi; subst hi; exact ⟨v, by simp, h.1⟩
  | y :: l, v :: vs, i + 1, x, h, hi => by simp at hi; obtain ⟨u, hu, hr⟩ := h.2.get hi; exact ⟨u, by simpa using hu, hr⟩
  | [], _ :: _, _, _, h, _ => h.elim
  | _ :: _, [], _, _, h, _ => h.elim

theorem relL_of_get {ρ : Ren} : ∀ {l : List SV} {vs : List Value}, vs.length = l.length → (∀ (i : Nat) (x : SV), l[i]? = some x → ∃ v, vs[i]? = some v ∧ relS ρ x v) → relL ρ l vs
  | [], [], _, _ => trivial
  | y :: l, v :: vs, hl, h => by
    refine ⟨?_, relL_of_get (by simpa using hl) fun i x hx => ?_⟩
    · obtain ⟨u, hu, hr⟩ := h 0 y (by simp); simp at hu; subst hu; exact hr
    · obtain ⟨u, hu, hr⟩ := h (i + 1) x (by simpa using hx); exact ⟨u, by simpa using hu, hr⟩
  | [], _ :: _, h, _ => by simp at h
  | _ :: _, [], h, _ => by simp at h

/-- The cells of a value, as memory keeps it. -/
def IV.cells : IV → List SV
  | .a l => l
  | .s x => [x]
  | _ => []

/-! ### Chunks in a world -/

def Chunk.owned : Chunk → Bool
  | .rows o _ _ => o
  | .map _ _ => true
  | .iter _ _ _ _ => true
  | _ => false

def Pl.blk : Pl → Option Nat
  | .mem b _ _ _ => some b
  | .obj b _ => some b
  | _ => Option.none

def rowsAt (ρ : Ren) (cells : Array Value) (base sz : Nat) (els : List (List SV)) : Prop :=
  ∀ (i : Nat) (row : List SV), els[i]? = some row → row.length = sz ∧ ∀ (o : Nat) (x : SV), row[o]? = some x → ∃ v, cells[base + i * sz + o]? = some v ∧ relS ρ x v

/-- The entries of a map: key, value, and the stamp of its birth. -/
def relM (ρ : Ren) : List (IV × IV × Nat) → List MapEntry → Prop
  | [], [] => True
  | x :: xs, e :: es => relC ρ x.1 e.key ∧ relC ρ x.2.1 e.val ∧ e.born = x.2.2 ∧ relM ρ xs es
  | _, _ => False
theorem relM.pre {ρ ρ' : Ren} (p : Le ρ ρ') : ∀ {l : List (IV × IV × Nat)} {es : List MapEntry}, relM ρ l es → relM ρ' l es
  | [], [], _ => trivial
  | _ :: _, _ :: _, h => ⟨h.1.pre p, h.2.1.pre p, h.2.2.1, relM.pre p h.2.2.2⟩
  | [], _ :: _, h => h.elim
  | _ :: _, [], h => h.elim

def SatC (ρ : Ren) (w : World) (l : Pl) : Chunk → Prop
  | .rows own sz els => (l = .nowhere ∧ els = []) ∨ ∃ b base lim cells T lo hi, l = .mem b base sz lim ∧ w.heap[b]? = some (.cells cells T (lo, hi)) ∧
      0 < sz ∧ els.length ≤ lim ∧ base + lim * sz ≤ cells.size ∧ (own = true → ∀ o, o < cells.size → ¬ (lo ≤ o ∧ o < hi)) ∧ (own = true → ∀ v ∈ cells, v.oneCell' = true) ∧ rowsAt ρ cells base sz els
  | .map clock es => ∃ b ents, l = .obj b (.map (some b)) ∧ w.heap[b]? = some (.map ents clock) ∧ (∃ p : List (IV × IV × Nat), p.Perm es ∧ relM ρ p ents.toList) ∧
      (∀ e ∈ es, e.2.2 < clock) ∧ (es.map (·.2.2)).Nodup
  | .iter x since seen stepped => ∃ b mo, l = .obj b (.pointer (some ⟨b, 0, none⟩)) ∧ w.heap[b]? = some (.mapIter mo since seen.toArray stepped) ∧ relS ρ x (.map mo)
  | .clo fn f c => ∃ f' c', l = .val (.func fn f'.toArray c'.toArray) ∧ relT ρ f f' ∧ relT ρ c c'
  | .gone => True

/-- Where a function began: the world, which blocks may be written, how many chunks there were. -/
structure Ctx where
  w0 : World
  F0 : Nat → Prop
  N : Nat
def Ctx.at (X : Ctx) (N : Nat) : Ctx := ⟨X.w0, X.F0, N⟩

structure Inv (X : Ctx) (ρ : Ren) (H : Heap) (w : World) : Prop where
  os : w.os = X.w0.os
  tape : w.tape = X.w0.tape
  output : w.output = X.w0.output
  drawn : X.w0.drawn ≤ w.drawn
  size : X.w0.heap.size ≤ w.heap.size
  old : ∀ b, b < X.w0.heap.size → ¬ X.F0 b → w.heap[b]? = X.w0.heap[b]?
  len : ρ.length = H.length
  obj1 : ∀ (c b : Nat) (u : Value), ρ[c]? = some (Pl.obj b u) → u.oneCell' = true
  sat : ∀ (c : Nat) (ch : Chunk), H[c]? = some ch → ∃ l : Pl, ρ[c]? = some l ∧ SatC ρ w l ch
  own : ∀ (c : Nat) (ch : Chunk) (l : Pl) (b : Nat), H[c]? = some ch → ch.owned = true → ρ[c]? = some l → l.blk = some b → X.F0 b ∨ X.w0.heap.size ≤ b
  ro : ∀ (c sz : Nat) (els : List (List SV)) (l : Pl) (b : Nat), H[c]? = some (.rows false sz els) → ρ[c]? = some l → l.blk = some b → b < X.w0.heap.size ∧ ¬ X.F0 b
  apart : ∀ (c d : Nat) (ch dh : Chunk) (l m : Pl) (b : Nat), c ≠ d → H[c]? = some ch → H[d]? = some dh → ch.owned = true → dh.owned = true → ρ[c]? = some l → ρ[d]? = some m → l.blk = some b → m.blk ≠ some b

/-- What lay below is as it was, and the draws went on. -/
structure BelowD (B : Nat) (w w' : World) : Prop extends Below B w w' where
  drawn : w.drawn ≤ w'.drawn
theorem BelowD.refl (B : Nat) (w : World) : BelowD B w w := ⟨Below.refl B w, Nat.le_refl _⟩

theorem Inv.at {X : Ctx} {ρ : Ren} {H : Heap} {w : World} (h : Inv X ρ H w) (N : Nat) : Inv (X.at N) ρ H w := ⟨h.os, h.tape, h.output, h.drawn, h.size, h.old, h.len, h.obj1, h.sat, h.own, h.ro, h.apart⟩
theorem Inv.un {X : Ctx} {ρ : Ren} {H : Heap} {w : World} {N : Nat} (h : Inv (X.at N) ρ H w) : Inv X ρ H w := ⟨h.os, h.tape, h.output, h.drawn, h.size, h.old, h.len, h.obj1, h.sat, h.own, h.ro, h.apart⟩

structure RelA (n : Nat) (ρ : Ren) (tm : TM) (a : Act) : Prop where
  size : a.tmps.size = n
  defers : a.defers = []
  rel : ∀ t, relI ρ (get tm t) (a.tmps.getD t undef)

def LQ (n : Nat) (X : Ctx) (ρ : Ren) (Q : Exit → TM → Heap → Prop) (e : Exit) (a : Act) (w : World) : Prop :=
  ∃ ρ' tm H, Q e tm H ∧ LeN X.N ρ ρ' ∧ RelA n ρ' tm a ∧ Inv X ρ' H w

/-- The ideal weakest precondition: from whatever world that the ideal state describes, the code comes to an exit whose ideal state Q takes. -/
def IW (P : Program) (n : Nat) (X : Ctx) (c : Code) (Q : Exit → TM → Heap → Prop) (tm : TM) (H : Heap) : Prop :=
  ∀ ρ a w, RelA n ρ tm a → Inv X ρ H w → c.wp P (LQ n X ρ Q) a w

section rules
variable {P : Program} {n : Nat} {X : Ctx} {Q : Exit → TM → Heap → Prop} {tm : TM} {H : Heap}

theorem LQ.of {ρ : Ren} {e : Exit} {a : Act} {w : World} (h : Q e tm H) (ha : RelA n ρ tm a) (hi : Inv X ρ H w) : LQ n X ρ Q e a w :=
  ⟨ρ, tm, H, h, LeN.refl _ _, ha, hi⟩

theorem LQ.back {ρ ρ' : Ren} {e : Exit} {a : Act} {w : World} (h : LeN X.N ρ ρ') (k : LQ n X ρ' Q e a w) : LQ n X ρ Q e a w := by
  obtain ⟨ρ'', tm, H, q, p, r⟩ := k
  exact ⟨ρ'', tm, H, q, h.trans p, r⟩

theorem IW_mono {c : Code} {Q' : Exit → TM → Heap → Prop} (h : IW P n X c Q tm H) (hq : ∀ e tm H, Q e tm H → Q' e tm H) : IW P n X c Q' tm H :=
  fun ρ a w ha hi => wp_mono (h ρ a w ha hi) fun _ _ _ ⟨ρ', tm', H', q, r⟩ => ⟨ρ', tm', H', hq _ _ _ q, r⟩

theorem IW_skip (h : Q .normal tm H) : IW P n X .skip Q tm H := fun _ _ _ ha hi => wp_skip (.of h ha hi)
theorem IW_label {l : Nat} (h : Q .normal tm H) : IW P n X (.label l) Q tm H := fun _ _ _ ha hi => wp_label (.of h ha hi)
theorem IW_exit {i : Nat} (h : Q (.exit i) tm H) : IW P n X (.exit i) Q tm H := fun _ _ _ ha hi => wp_exit (.of h ha hi)
theorem IW_ret (h : Q .ret tm H) : IW P n X .ret Q tm H := fun _ _ _ ha hi => wp_ret (.of h ha hi)

/-- What stands behind the first part: on with the second, or out. -/
def seqQ (K : TM → Heap → Prop) (Q : Exit → TM → Heap → Prop) : Exit → TM → Heap → Prop
  | .normal, tm, H => K tm H
  | e, tm, H => Q e tm H

theorem IW_seq {x y : Code} {K : TM → Heap → Prop} (hK : ∀ tm H, K tm H → IW P n X y Q tm H) (h : IW P n X x (seqQ K Q) tm H) : IW P n X (.seq x y) Q tm H := by
  intro ρ a w ha hi
  refine wp_seq (wp_mono (h ρ a w ha hi) ?_)
  rintro e a' w' ⟨ρ', tm', H', q, hp, ha', hi'⟩
  cases e with
  | normal => exact wp_mono (hK _ _ q ρ' a' w' ha' hi') fun _ _ _ k => k.back hp
  | _ => exact ⟨ρ', tm', H', q, hp, ha', hi'⟩

def blockQ (id : Nat) (Q : Exit → TM → Heap → Prop) : Exit → TM → Heap → Prop
  | .exit id', tm, H => if id' = id then Q .normal tm H else Q (.exit id') tm H
  | e, tm, H => Q e tm H

theorem IW_block {id : Nat} {c : Code} (h : IW P n X c (blockQ id Q) tm H) : IW P n X (.block id c) Q tm H := by
  intro ρ a w ha hi
  refine wp_block (wp_mono (h ρ a w ha hi) ?_)
  rintro e a' w' ⟨ρ', tm', H', q, hp, ha', hi'⟩
  cases e with
  | exit id' =>
    simp only [blockQ] at q
    simp only [Exit.inBlock]
    split
    · rename_i h; rw [if_pos h] at q; exact ⟨ρ', tm', H', q, hp, ha', hi'⟩
    · rename_i h; rw [if_neg h] at q; exact ⟨ρ', tm', H', q, hp, ha', hi'⟩
  | _ => exact ⟨ρ', tm', H', q, hp, ha', hi'⟩

theorem IW_cond {c : Operand} {x y : Code} {b : Bool} (hc : ∀ (ρ : Ren) (a : Act), RelA n ρ tm a → a.eval c = .bool b)
    (ht : b = true → IW P n X x Q tm H) (hf : b = false → IW P n X y Q tm H) : IW P n X (.cond c x y) Q tm H := by
  intro ρ a w ha hi
  exact wp_cond_split (hc ρ a ha) (fun h => ht h ρ a w ha hi) (fun h => hf h ρ a w ha hi)

/-- A loop: a relation that holds at each round's head, with a number that each round lowers. -/
theorem IW_loop {c : Code} (I : Nat → TM → Heap → Prop) (m : Nat) (h0 : I m tm H)
    (round : ∀ m tm H, I m tm H → IW P n X c (seqQ (fun tm' H' => ∃ m', m' < m ∧ I m' tm' H') Q) tm H) :
    IW P n X (.loop c) Q tm H := by
  intro ρ a w ha hi
  have key : ∀ m, ∀ tm H, I m tm H → ∀ ρ a w, RelA n ρ tm a → Inv X ρ H w → ∀ (b : Frame) (k : List Item) (cs : List Frame),
      ∃ e a' w', LQ n X ρ Q e a' w' ∧ Arrives P (lone (b.at a (.code c :: .inLoop c :: k)) cs w) b k cs e a' w' := by
    intro m
    induction m using Nat.strongRecOn with
    | _ m ih =>
      intro tm H hI ρ a w ha hi b k cs
      obtain ⟨e, a₁, w₁, ⟨ρ', tm', H', q, hp, ha', hi'⟩, harr⟩ := round m tm H hI ρ a w ha hi b (.inLoop c :: k) cs
      cases e with
      | normal =>
        obtain ⟨m', hlt, hI'⟩ := q
        obtain ⟨e₂, a₂, w₂, hq₂, harr₂⟩ := ih m' hlt tm' H' hI' ρ' a₁ w₁ ha' hi' b k cs
        exact ⟨e₂, a₂, w₂, hq₂.back hp, .of_steps (Steps.trans harr (.one step_inLoop)) harr₂⟩
      | exit id => exact ⟨_, a₁, w₁, ⟨ρ', tm', H', q, hp, ha', hi'⟩, .pass (x := .inLoop c) rfl (fun _ _ => .inl (by simp)) harr⟩
      | goto l => exact ⟨_, a₁, w₁, ⟨ρ', tm', H', q, hp, ha', hi'⟩, .pass (x := .inLoop c) rfl (fun _ _ => .inl (by simp)) harr⟩
      | ret => exact ⟨_, a₁, w₁, ⟨ρ', tm', H', q, hp, ha', hi'⟩, .pass (x := .inLoop c) rfl (fun _ _ => .inl (by simp)) harr⟩
      | panic ch => exact ⟨_, a₁, w₁, ⟨ρ', tm', H', q, hp, ha', hi'⟩, .pass (x := .inLoop c) rfl (fun _ _ => .inl (by simp)) harr⟩
      | outgrown => exact ⟨_, a₁, w₁, ⟨ρ', tm', H', q, hp, ha', hi'⟩, .pass (x := .inLoop c) rfl (fun _ _ => .inl (by simp)) harr⟩
  intro b k cs
  obtain ⟨e, a', w', hq, harr⟩ := key m tm H h0 ρ a w ha hi b k cs
  exact ⟨e, a', w', hq, .of_steps (.one step_loop) harr⟩
end rules
end Go.Ev
