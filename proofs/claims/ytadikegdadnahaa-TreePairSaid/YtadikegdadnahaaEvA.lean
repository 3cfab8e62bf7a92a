/- Code in a round of a range over a function, or in none: what the kit's plain steps tell holds there too. -/
import Derived.Calls
import Derived.ControlIn
import Derived.CallsIn
import Derived.Orders
import Derived.Sort.LoopGhostIn
import Derived.Below
import Derived.Laws.Sem
import Derived.Laws.Cells
import Derived.Laws.World
import Derived.Laws.IdiomCopy
import Derived.Laws.StructEq
import Derived.ChangeKeysEq
import Derived.Laws.Append
import Derived.Laws.AppendOwn
import Derived.Laws.Strings
import Derived.Laws.Strings2
namespace Go.Ev

/-- No fence but the round. -/
def wideR (ro : Option Nat) : Fence := { Fence.wide with round := ro }
def wpR (ro : Option Nat) (P : Program) (c : Code) (Q : Exit → Act → World → Prop) (a : Act) (w : World) : Prop := Code.wpIn (wideR ro) 0 P c Q a w

theorem wpR_none {P : Program} {c : Code} {Q : Exit → Act → World → Prop} {a : Act} {w : World} : wpR none P c Q a w ↔ c.wp P Q a w := wpIn_wide

/-- An operation that puts nothing off. -/
def undeferred (o : Oper) : Bool := match o.op with | .defer _ => false | _ => true

theorem semAt_wide {ro : Option Nat} {ρ : Operand → Value} {o : Oper} (h : undeferred o = true) : Oper.semAt ro ρ o = execOp ρ o := by
  unfold Oper.semAt
  split
  · rename_i hop; simp [undeferred, hop] at h
  · rfl

theorem callsR {ro : Option Nat} {n : Nat} {P : Program} {f : FuncId} {args : Array Value} {w : World} {R : Ending → World → Prop} : CallsIn (wideR ro) n P f args w R ↔ Calls P f args w R :=
  (callsIn_wide (n := n))

theorem rowsR {ro : Option Nat} {n : Nat} {P : Program} {row : String} {args : Array Value} {w : World} {R : Value → World → Prop} (h : Rows P row args w R) : RowsIn (wideR ro) n P row args w R := by
  intro c cs _
  obtain ⟨v, w', hv, hs⟩ := h c cs
  exact ⟨v, w', hv, (comesIn_wide (e := .returned v)).2 hs⟩

theorem operR {ro : Option Nat} {P : Program} {o : Oper} {a : Act} {w : World} {K K' : Act → World → Prop} {Q : Exit → Act → World → Prop} (hnd : undeferred o = true) (hK : ∀ a w, K a w → K' a w)
    (h : o.wp P a w K Q) : o.wpIn (wideR ro) 0 P a w K' Q := by
  refine ⟨fun _ _ => trivial, ?_⟩
  have h := Oper.wp_mono hK h
  unfold Oper.wp at h
  rw [semAt_wide hnd]
  generalize (execOp a.eval o).run P w = r at h ⊢
  unfold Oper.upon at h
  unfold Oper.uponIn
  split at h <;> first | exact h.elim | skip
  · exact h
  · exact h
  · exact h
  · exact ⟨fun e => (Bool.false_ne_true e).elim, callsR.2 h⟩
  · exact ⟨fun e => (Bool.false_ne_true e).elim, rowsR h⟩
  · exact h

theorem opsR {ro : Option Nat} {P : Program} {ops : Array Oper} {Q : Exit → Act → World → Prop} (hnd : ∀ (j : Nat) (q : Oper), ops[j]? = some q → undeferred q = true) (hQ : ¬ LetsOut Q) :
    ∀ (l : List Nat) (a : Act) (w : World), wpOps P ops Q l a w → wpOpsIn (wideR ro) 0 P ops Q l a w
  | [], _, _, h => h
  | i :: l, a, w, h => by
    rw [wpOps.eq_2] at h
    rw [wpOpsIn.eq_2]
    cases ho : ops[i]? with
    | none =>
      simp only [ho] at h ⊢
      exact opsR hnd hQ l a w h
    | some o =>
      simp only [ho] at h ⊢
      split at h
      · rename_i hw
        rw [if_pos hw]
        rcases h with h | ⟨_, h⟩
        · exact operR (hnd i o ho) (opsR hnd hQ l) h
        · exact (hQ h).elim
      · rename_i hw
        rw [if_neg hw]
        exact ⟨fun _ _ => trivial, opsR hnd hQ l _ w h⟩

theorem wpR_region {ro : Option Nat} {P : Program} {id : Nat} {ops : Array Oper} {Q : Exit → Act → World → Prop} {a : Act} {w : World} (hnd : ∀ (j : Nat) (q : Oper), ops[j]? = some q → undeferred q = true) (hQ : ¬ LetsOut Q)
    (h : wpOps P ops Q (List.range ops.size) a w) : wpR ro P (.region id ops false) Q a w := wpIn_region (opsR hnd hQ _ _ _ h)

theorem wpR_region_any {ro : Option Nat} {P : Program} {id : Nat} {ops : Array Oper} {Q : Exit → Act → World → Prop} {a : Act} {w : World} (hmix : P.follows .mixedOrders = true) (hnd : ∀ (j : Nat) (q : Oper), ops[j]? = some q → undeferred q = true) (hQ : ¬ LetsOut Q)
    (h : wpAny P .any ops Q ops.size (Array.replicate ops.size false) a { w with drawn := w.drawn + 1 }) : wpR ro P (.region id ops true) Q a w := by
  refine wpIn_region_draw fun t => opsR hnd hQ _ _ _ ?_
  rw [hmix]
  unfold Region.schedule
  exact wpAny_sound _ _ _ _ _ h
end Go.Ev

/- The ideal values and heaps of the symbolic evaluator, how they stand to the model's values and worlds, and the rules of the structured code over them. -/
namespace Go.Ev
open Go.RowKit

/-- One cell of memory, ideally: a value without chunks, a pointer into a chunk (element, cell of the element), a slice of a chunk, a handle, a slice of cells within an element (from a cell on, so many cells each, so many), or whatever. -/
inductive SV where
  | raw (v : Value)
  | ptr (c i o : Nat)
  | slice (c s n : Nat)
  | ref (c : Nat)
  | sub (c i o k n : Nat)
  | junk
  deriving Inhabited

/-- A value of a temporary: one cell, an aggregate, a tuple, or whatever. -/
inductive IV where
  | s (x : SV)
  | a (l : List SV)
  | t (l : List IV)
  | j
  deriving Inhabited

inductive Chunk where
  | rows (own : Bool) (sz : Nat) (els : List (List SV))
  | map (clock : Nat) (es : List (IV × IV × Nat))
  | iter (x : SV) (since : Nat) (seen : List Nat) (stepped : Nat)
  | clo (fn : Fn) (first cap : List IV)
  | gone
  deriving Inhabited

/-- Where a chunk lies: in a block, from a cell on, so many cells an element, room for so many elements; nowhere (a nil slice); or what a handle is. -/
inductive Pl where
  | mem (b base sz lim : Nat)
  | nowhere
  | void
  | obj (b : Nat) (v : Value)
  | val (v : Value)
  deriving Inhabited

abbrev Heap := List Chunk
abbrev Ren := List Pl
abbrev TM := List (Nat × IV)

def get : TM → Nat → IV
  | [], _ => .j
  | (s, v) :: l, t => if s = t then v else get l t

def put (tm : TM) (d : Option Nat) (v : IV) : TM :=
  match d with
  | some d => (d, v) :: tm
  | none => tm

def relS (ρ : Ren) : SV → Value → Prop
  | .raw v, x => x = v ∧ v.oneCell' = true
  | .ptr c i o, x => ∃ b base sz lim, ρ[c]? = some (.mem b base sz lim) ∧ x = .pointer (some ⟨b, base + i * sz + o, none⟩)
  | .slice c s n, x => (ρ[c]? = some .nowhere ∧ s = 0 ∧ n = 0 ∧ x = .slice none 0 0) ∨
      (∃ b base sz lim cap, ρ[c]? = some (.mem b base sz lim) ∧ x = .slice (some ⟨b, base + s * sz, none⟩) n cap ∧ n ≤ cap ∧ s + cap ≤ lim) ∨
      ∃ b base sz lim off, ρ[c]? = some (.mem b base sz lim) ∧ n = 0 ∧ x = .slice (some ⟨b, off, none⟩) 0 0
  | .ref c, x => (∃ b, ρ[c]? = some (.obj b x)) ∨ ρ[c]? = some (.val x) ∧ x.oneCell' = true
  | .sub c i o _ n, x => (∃ b base sz lim cap, ρ[c]? = some (.mem b base sz lim) ∧ x = .slice (some ⟨b, base + i * sz + o, none⟩) n cap ∧ n ≤ cap) ∨
      ∃ b base sz lim off, ρ[c]? = some (.mem b base sz lim) ∧ n = 0 ∧ x = .slice (some ⟨b, off, none⟩) 0 0
  | .junk, x => x.oneCell' = true

def relL (ρ : Ren) : List SV → List Value → Prop
  | [], [] => True
  | x :: xs, v :: vs => relS ρ x v ∧ relL ρ xs vs
  | _, _ => False

def relC (ρ : Ren) : IV → Value → Prop
  | .s x, v => relS ρ x v
  | .a l, v => ∃ cs : List Value, v = .agg cs.toArray ∧ relL ρ l cs
  | .t _, _ => False
  | .j, _ => True

def relT (ρ : Ren) : List IV → List Value → Prop
  | [], [] => True
  | x :: xs, v :: vs => relC ρ x v ∧ relT ρ xs vs
  | _, _ => False

def relI (ρ : Ren) : IV → Value → Prop
  | .t l, v => ∃ vs : List Value, v = .tuple vs.toArray ∧ relT ρ l vs
  | x, v => relC ρ x v

theorem relS_one {ρ : Ren} {x : SV} {v : Value} (h : relS ρ x v) (hw : ∀ (c b : Nat) (u : Value), ρ[c]? = some (Pl.obj b u) → u.oneCell' = true) : v.oneCell' = true := by
  cases x with
  | raw v' => obtain ⟨rfl, h⟩ := h; exact h
  | ptr c i o => obtain ⟨_, _, _, _, _, rfl⟩ := h; rfl
  | slice c s n => rcases h with ⟨_, _, _, rfl⟩ | ⟨_, _, _, _, _, _, rfl, _⟩ | ⟨_, _, _, _, _, _, _, rfl⟩ <;> rfl
  | ref c => rcases h with ⟨b, h⟩ | ⟨_, h⟩
             · exact hw _ _ _ h
             · exact h
  | sub c i o k n => rcases h with ⟨_, _, _, _, _, _, rfl, _⟩ | ⟨_, _, _, _, _, _, _, rfl⟩ <;> rfl
  | junk => exact h

/-- One renaming goes on as another one: all places but the void ones are the same. -/
structure Le (ρ ρ' : Ren) : Prop where
  len : ρ.length ≤ ρ'.length
  get : ∀ (c : Nat) (l : Pl), ρ[c]? = some l → l ≠ .void → ρ'[c]? = some l

theorem Le.refl (ρ : Ren) : Le ρ ρ := ⟨Nat.le_refl _, fun _ _ h _ => h⟩
theorem Le.trans {a b c : Ren} (h : Le a b) (k : Le b c) : Le a c := ⟨Nat.le_trans h.len k.len, fun i l hi hl => k.get i l (h.get i l hi hl) hl⟩
theorem Le.app (ρ δ : Ren) : Le ρ (ρ ++ δ) := ⟨by simp, fun c l h _ => by rw [List.getElem?_append_left (List.getElem?_eq_some_iff.1 h).1]; exact h⟩
theorem Le.set {ρ : Ren} {m : Nat} (h : ρ[m]? = some .void) (l : Pl) : Le ρ (ρ.set m l) :=
  ⟨by simp, fun c l' hc hl => by
    by_cases e : m = c
    · subst e; rw [h] at hc; cases hc; exact absurd rfl hl
    · rw [List.getElem?_set_ne e]; exact hc⟩

/-- The same of the first so many places. -/
structure LeN (N : Nat) (ρ ρ' : Ren) : Prop where
  len : N ≤ ρ.length → N ≤ ρ'.length
  get : ∀ (c : Nat) (l : Pl), c < N → ρ[c]? = some l → l ≠ .void → ρ'[c]? = some l
theorem Le.toN {ρ ρ' : Ren} (h : Le ρ ρ') (N : Nat) : LeN N ρ ρ' := ⟨fun k => Nat.le_trans k h.len, fun c l _ => h.get c l⟩
theorem LeN.refl (N : Nat) (ρ : Ren) : LeN N ρ ρ := (Le.refl ρ).toN N
theorem LeN.trans {N : Nat} {a b c : Ren} (h : LeN N a b) (k : LeN N b c) : LeN N a c := ⟨fun e => k.len (h.len e), fun i l hi hl hv => k.get i l hi (h.get i l hi hl hv) hv⟩
theorem LeN.full {ρ ρ' : Ren} (h : LeN ρ.length ρ ρ') : Le ρ ρ' := ⟨h.len (Nat.le_refl _), fun c l hc hl => h.get c l (List.getElem?_eq_some_iff.1 hc).1 hc hl⟩

theorem relS.pre {ρ ρ' : Ren} (p : Le ρ ρ') {x : SV} {v : Value} (h : relS ρ x v) : relS ρ' x v := by
  cases x with
  | raw _ => exact h
  | ptr c i o => obtain ⟨b, base, sz, lim, hc, hx⟩ := h; exact ⟨b, base, sz, lim, p.get _ _ hc (by simp), hx⟩
  | slice c s n =>
    rcases h with ⟨hc, h⟩ | ⟨b, base, sz, lim, cap, hc, h⟩ | ⟨b, base, sz, lim, off, hc, h⟩
    · exact .inl ⟨p.get _ _ hc (by simp), h⟩
    · exact .inr (.inl ⟨b, base, sz, lim, cap, p.get _ _ hc (by simp), h⟩)
    · exact .inr (.inr ⟨b, base, sz, lim, off, p.get _ _ hc (by simp), h⟩)
  | ref c =>
    rcases h with ⟨b, h⟩ | ⟨h, h2⟩
    · exact .inl ⟨b, p.get _ _ h (by simp)⟩
    · exact .inr ⟨p.get _ _ h (by simp), h2⟩
  | sub c i o k n =>
    rcases h with ⟨b, base, sz, lim, cap, hc, h⟩ | ⟨b, base, sz, lim, off, hc, h⟩
    · exact .inl ⟨b, base, sz, lim, cap, p.get _ _ hc (by simp), h⟩
    · exact .inr ⟨b, base, sz, lim, off, p.get _ _ hc (by simp), h⟩
  | junk => exact h

theorem relL.pre {ρ ρ' : Ren} (p : Le ρ ρ') : ∀ {l : List SV} {vs : List Value}, relL ρ l vs → relL ρ' l vs
  | [], [], _ => trivial
  | _ :: _, _ :: _, h => ⟨h.1.pre p, relL.pre p h.2⟩
  | [], _ :: _, h => h.elim
  | _ :: _, [], h => h.elim

theorem relC.pre {ρ ρ' : Ren} (p : Le ρ ρ') {x : IV} {v : Value} (h : relC ρ x v) : relC ρ' x v := by
  cases x with
  | s x => exact relS.pre (x := x) p h
  | a l => obtain ⟨cs, hv, h⟩ := h; exact ⟨cs, hv, h.pre p⟩
  | t l => exact h.elim
  | j => trivial

theorem relT.pre {ρ ρ' : Ren} (p : Le ρ ρ') : ∀ {l : List IV} {vs : List Value}, relT ρ l vs → relT ρ' l vs
  | [], [], _ => trivial
  | _ :: _, _ :: _, h => ⟨h.1.pre p, relT.pre p h.2⟩
  | [], _ :: _, h => h.elim
  | _ :: _, [], h => h.elim

theorem relI.pre {ρ ρ' : Ren} (p : Le ρ ρ') {x : IV} {v : Value} (h : relI ρ x v) : relI ρ' x v := by
  cases x with
  | s x => exact relS.pre (x := x) p h
  | a l => exact relC.pre (x := .a l) p h
  | t l => obtain ⟨vs, hv, h⟩ := h; exact ⟨vs, hv, h.pre p⟩
  | j => trivial

theorem relL.len {ρ : Ren} : ∀ {l : List SV} {vs : List Value}, relL ρ l vs → vs.length = l.length
  | [], [], _ => rfl
  | _ :: _, _ :: _, h => by simp [h.2.len]
  | [], _ :: _, h => h.elim
  | _ :: _, [], h => h.elim

theorem relL.get {ρ : Ren} : ∀ {l : List SV} {vs : List Value} {i : Nat} {x : SV}, relL ρ l vs → l[i]? = some x → ∃ v, vs[i]? = some v ∧ relS ρ x v
  | [], [], i, x, _, h => by simp at h
  | y :: l, v :: vs, 0, x, h, hi => by simp at hi; subst hi; exact ⟨v, by simp, h.1⟩
  | y :: l, v :: vs, i + 1, x, h, hi => by simp at hi; obtain ⟨u, hu, hr⟩ := h.2.get hi; exact ⟨u, by simpa using hu, hr⟩
  | [], _ :: _, _, _, h, _ => h.elim
  | _ :: _, [], _, _, h, _ => h.elim

theorem relL_of_get {ρ : Ren} : ∀ {l : List SV} {vs : List Value}, vs.length = l.length → (∀ (i : Nat) (x : SV), l[i]? = some x → ∃ v, vs[i]? = some v ∧ relS ρ x v) → relL ρ l vs
  | [], [], _, _ => trivial
  | y :: l, v :: vs, hl, h => by
    refine ⟨?_, relL_of_get (by simpa using hl) fun i x hx => ?_⟩
    · obtain ⟨u, hu, hr⟩ := h 0 y (by simp); simp at hu; subst hu; exact hr
    · obtain ⟨u, hu, hr⟩ := h (i + 1) x (by simpa using hx); exact ⟨u, by simpa using hu, hr⟩
  | [], _ :: _, h, _ => by simp at h
  | _ :: _, [], h, _ => by simp at h

/-- The cells of a value, as memory keeps it. -/
def IV.cells : IV → List SV
  | .a l => l
  | .s x => [x]
  | _ => []

/-! ### Chunks in a world -/

def Chunk.owned : Chunk → Bool
  | .rows o _ _ => o
  | .map _ _ => true
  | .iter _ _ _ _ => true
  | _ => false

def Pl.blk : Pl → Option Nat
  | .mem b _ _ _ => some b
  | .obj b _ => some b
  | _ => Option.none

def rowsAt (ρ : Ren) (cells : Array Value) (base sz : Nat) (els : List (List SV)) : Prop :=
  ∀ (i : Nat) (row : List SV), els[i]? = some row → row.length = sz ∧ ∀ (o : Nat) (x : SV), row[o]? = some x → ∃ v, cells[base + i * sz + o]? = some v ∧ relS ρ x v

/-- The entries of a map: key, value, and the stamp of its birth. -/
def relM (ρ : Ren) : List (IV × IV × Nat) → List MapEntry → Prop
  | [], [] => True
  | x :: xs, e :: es => relC ρ x.1 e.key ∧ relC ρ x.2.1 e.val ∧ e.born = x.2.2 ∧ relM ρ xs es
  | _, _ => False
theorem relM.pre {ρ ρ' : Ren} (p : Le ρ ρ') : ∀ {l : List (IV × IV × Nat)} {es : List MapEntry}, relM ρ l es → relM ρ' l es
  | [], [], _ => trivial
  | _ :: _, _ :: _, h => ⟨h.1.pre p, h.2.1.pre p, h.2.2.1, relM.pre p h.2.2.2⟩
  | [], _ :: _, h => h.elim
  | _ :: _, [], h => h.elim

def SatC (ρ : Ren) (w : World) (l : Pl) : Chunk → Prop
  | .rows own sz els => (l = .nowhere ∧ els = []) ∨ ∃ b base lim cells T lo hi, l = .mem b base sz lim ∧ w.heap[b]? = some (.cells cells T (lo, hi)) ∧
      0 < sz ∧ els.length ≤ lim ∧ base + lim * sz ≤ cells.size ∧ (own = true → ∀ o, o < cells.size → ¬ (lo ≤ o ∧ o < hi)) ∧ (own = true → ∀ v ∈ cells, v.oneCell' = true) ∧ rowsAt ρ cells base sz els
  | .map clock es => ∃ b ents, l = .obj b (.map (some b)) ∧ w.heap[b]? = some (.map ents clock) ∧ (∃ p : List (IV × IV × Nat), p.Perm es ∧ relM ρ p ents.toList) ∧
      (∀ e ∈ es, e.2.2 < clock) ∧ (es.map (·.2.2)).Nodup
  | .iter x since seen stepped => ∃ b mo, l = .obj b (.pointer (some ⟨b, 0, none⟩)) ∧ w.heap[b]? = some (.mapIter mo since seen.toArray stepped) ∧ relS ρ x (.map mo)
  | .clo fn f c => ∃ f' c', l = .val (.func fn f'.toArray c'.toArray) ∧ relT ρ f f' ∧ relT ρ c c'
  | .gone => True

/-- Where a function began: the world, which blocks may be written, how many chunks there were. -/
structure Ctx where
  w0 : World
  F0 : Nat → Prop
  N : Nat
  /-- What the act has put off (a range over a function leaves an entry). -/
  dl : List Deferred := []
  /-- The round of a range over a function in which the code runs. -/
  ro : Option Nat := none
  /-- Another way out by a return. -/
  alt : Ren → Act → World → Prop := fun _ _ _ => False
def Ctx.at (X : Ctx) (N : Nat) : Ctx := { X with N := N, dl := [], ro := none, alt := fun _ _ _ => False }

structure Inv (X : Ctx) (ρ : Ren) (H : Heap) (w : World) : Prop where
  os : w.os = X.w0.os
  tape : w.tape = X.w0.tape
  output : w.output = X.w0.output
  drawn : X.w0.drawn ≤ w.drawn
  size : X.w0.heap.size ≤ w.heap.size
  old : ∀ b, b < X.w0.heap.size → ¬ X.F0 b → w.heap[b]? = X.w0.heap[b]?
  len : ρ.length = H.length
  obj1 : ∀ (c b : Nat) (u : Value), ρ[c]? = some (Pl.obj b u) → u.oneCell' = true
  sat : ∀ (c : Nat) (ch : Chunk), H[c]? = some ch → ∃ l : Pl, ρ[c]? = some l ∧ SatC ρ w l ch
  own : ∀ (c : Nat) (ch : Chunk) (l : Pl) (b : Nat), H[c]? = some ch → ch.owned = true → ρ[c]? = some l → l.blk = some b → X.F0 b ∨ X.w0.heap.size ≤ b
  ro : ∀ (c sz : Nat) (els : List (List SV)) (l : Pl) (b : Nat), H[c]? = some (.rows false sz els) → ρ[c]? = some l → l.blk = some b → b < X.w0.heap.size ∧ ¬ X.F0 b
  apart : ∀ (c d : Nat) (ch dh : Chunk) (l m : Pl) (b : Nat), c ≠ d → H[c]? = some ch → H[d]? = some dh → ch.owned = true → dh.owned = true → ρ[c]? = some l → ρ[d]? = some m → l.blk = some b → m.blk ≠ some b

/-- What lay below is as it was, and the draws went on. -/
structure BelowD (B : Nat) (w w' : World) : Prop extends Below B w w' where
  drawn : w.drawn ≤ w'.drawn
theorem BelowD.refl (B : Nat) (w : World) : BelowD B w w := ⟨Below.refl B w, Nat.le_refl _⟩

theorem Inv.at {X : Ctx} {ρ : Ren} {H : Heap} {w : World} (h : Inv X ρ H w) (N : Nat) : Inv (X.at N) ρ H w := ⟨h.os, h.tape, h.output, h.drawn, h.size, h.old, h.len, h.obj1, h.sat, h.own, h.ro, h.apart⟩
theorem Inv.un {X : Ctx} {ρ : Ren} {H : Heap} {w : World} {N : Nat} (h : Inv (X.at N) ρ H w) : Inv X ρ H w := ⟨h.os, h.tape, h.output, h.drawn, h.size, h.old, h.len, h.obj1, h.sat, h.own, h.ro, h.apart⟩

structure RelA (X : Ctx) (n : Nat) (ρ : Ren) (tm : TM) (a : Act) : Prop where
  size : a.tmps.size = n
  defers : a.defers = X.dl
  rel : ∀ t, relI ρ (get tm t) (a.tmps.getD t undef)

def LQ (n : Nat) (X : Ctx) (ρ : Ren) (Q : Exit → TM → Heap → Prop) (e : Exit) (a : Act) (w : World) : Prop :=
  (∃ ρ' tm H, Q e tm H ∧ LeN X.N ρ ρ' ∧ RelA X n ρ' tm a ∧ Inv X ρ' H w) ∨ (e = .ret ∧ ∃ ρ', LeN X.N ρ ρ' ∧ X.alt ρ' a w)

/-- The ideal weakest precondition: from whatever world that the ideal state describes, the code comes to an exit whose ideal state Q takes. -/
def IW (P : Program) (n : Nat) (X : Ctx) (c : Code) (Q : Exit → TM → Heap → Prop) (tm : TM) (H : Heap) : Prop :=
  ∀ ρ a w, RelA X n ρ tm a → Inv X ρ H w → wpR X.ro P c (LQ n X ρ Q) a w

section rules
variable {P : Program} {n : Nat} {X : Ctx} {Q : Exit → TM → Heap → Prop} {tm : TM} {H : Heap}

theorem LQ.of {ρ : Ren} {e : Exit} {a : Act} {w : World} (h : Q e tm H) (ha : RelA X n ρ tm a) (hi : Inv X ρ H w) : LQ n X ρ Q e a w :=
  .inl ⟨ρ, tm, H, h, LeN.refl _ _, ha, hi⟩

theorem LQ.back {ρ ρ' : Ren} {e : Exit} {a : Act} {w : World} (h : LeN X.N ρ ρ') (k : LQ n X ρ' Q e a w) : LQ n X ρ Q e a w := by
  rcases k with ⟨ρ'', tm, H, q, p, r⟩ | k
  · exact .inl ⟨ρ'', tm, H, q, h.trans p, r⟩
  · obtain ⟨e, ρ2, l2, k⟩ := k
    exact .inr ⟨e, ρ2, h.trans l2, k⟩

theorem IW_mono {c : Code} {Q' : Exit → TM → Heap → Prop} (h : IW P n X c Q tm H) (hq : ∀ e tm H, Q e tm H → Q' e tm H) : IW P n X c Q' tm H :=
  fun ρ a w ha hi => wpIn_mono (h ρ a w ha hi) fun _ _ _ h => h.imp (fun ⟨ρ', tm', H', q, r⟩ => ⟨ρ', tm', H', hq _ _ _ q, r⟩) id

theorem IW_skip (h : Q .normal tm H) : IW P n X .skip Q tm H := fun _ _ _ ha hi => wpIn_skip (.of h ha hi)
theorem IW_label {l : Nat} (h : Q .normal tm H) : IW P n X (.label l) Q tm H := fun _ _ _ ha hi => wpIn_label (.of h ha hi)
theorem IW_exit {i : Nat} (h : Q (.exit i) tm H) : IW P n X (.exit i) Q tm H := fun _ _ _ ha hi => wpIn_exit (.of h ha hi)
theorem IW_ret (h : Q .ret tm H) : IW P n X .ret Q tm H := fun _ _ _ ha hi => wpIn_ret (.of h ha hi)

/-- What stands behind the first part: on with the second, or out. -/
def seqQ (K : TM → Heap → Prop) (Q : Exit → TM → Heap → Prop) : Exit → TM → Heap → Prop
  | .normal, tm, H => K tm H
  | e, tm, H => Q e tm H

theorem IW_seq {x y : Code} {K : TM → Heap → Prop} (hK : ∀ tm H, K tm H → IW P n X y Q tm H) (h : IW P n X x (seqQ K Q) tm H) : IW P n X (.seq x y) Q tm H := by
  intro ρ a w ha hi
  refine wpIn_seq (wpIn_mono (h ρ a w ha hi) ?_)
  rintro e a' w' (⟨ρ', tm', H', q, hp, ha', hi'⟩ | ⟨rfl, hal⟩)
  · cases e with
    | normal => exact wpIn_mono (hK _ _ q ρ' a' w' ha' hi') fun _ _ _ k => k.back hp
    | _ => exact .inl ⟨ρ', tm', H', q, hp, ha', hi'⟩
  · exact .inr ⟨rfl, hal⟩

def blockQ (id : Nat) (Q : Exit → TM → Heap → Prop) : Exit → TM → Heap → Prop
  | .exit id', tm, H => if id' = id then Q .normal tm H else Q (.exit id') tm H
  | e, tm, H => Q e tm H

theorem IW_block {id : Nat} {c : Code} (h : IW P n X c (blockQ id Q) tm H) : IW P n X (.block id c) Q tm H := by
  intro ρ a w ha hi
  refine wpIn_block (wpIn_mono (h ρ a w ha hi) ?_)
  rintro e a' w' (⟨ρ', tm', H', q, hp, ha', hi'⟩ | ⟨rfl, hal⟩)
  · cases e with
    | exit id' =>
      simp only [blockQ] at q
      simp only [Exit.inBlock]
      split
      · rename_i h; rw [if_pos h] at q; exact .inl ⟨ρ', tm', H', q, hp, ha', hi'⟩
      · rename_i h; rw [if_neg h] at q; exact .inl ⟨ρ', tm', H', q, hp, ha', hi'⟩
    | _ => exact .inl ⟨ρ', tm', H', q, hp, ha', hi'⟩
  · exact .inr ⟨rfl, hal⟩

theorem IW_cond {c : Operand} {x y : Code} {b : Bool} (hc : ∀ (ρ : Ren) (a : Act), RelA X n ρ tm a → a.eval c = .bool b)
    (ht : b = true → IW P n X x Q tm H) (hf : b = false → IW P n X y Q tm H) : IW P n X (.cond c x y) Q tm H := by
  intro ρ a w ha hi
  exact wpIn_cond_split (hc ρ a ha) (fun h => ht h ρ a w ha hi) (fun h => hf h ρ a w ha hi)

/-- A loop: a relation that holds at each round's head, with a number that each round lowers. -/
theorem IW_loop {c : Code} (I : Nat → TM → Heap → Prop) (m : Nat) (h0 : I m tm H)
    (round : ∀ m tm H, I m tm H → IW P n X c (seqQ (fun tm' H' => ∃ m', m' < m ∧ I m' tm' H') Q) tm H) :
    IW P n X (.loop c) Q tm H := by
  intro ρ a w ha hi
  refine wpIn_loop_ghost (fun m a w => ∃ ρ1 tm H, I m tm H ∧ LeN X.N ρ ρ1 ∧ RelA X n ρ1 tm a ∧ Inv X ρ1 H w) m ⟨ρ, tm, H, h0, LeN.refl _ _, ha, hi⟩ ?_
  rintro m a w ⟨ρ1, tm, H, hI, hle, ha, hi⟩
  refine wpIn_mono (round m tm H hI ρ1 a w ha hi) ?_
  rintro e a' w' (⟨ρ', tm', H', q, hp, ha', hi'⟩ | ⟨rfl, hal⟩)
  · cases e with
    | normal =>
      obtain ⟨m', hlt, hI'⟩ := q
      exact ⟨m', hlt, ρ', tm', H', hI', hle.trans hp, ha', hi'⟩
    | _ => exact .inl ⟨ρ', tm', H', q, hle.trans hp, ha', hi'⟩
  · obtain ⟨ρ2, l2, hal⟩ := hal
    exact .inr ⟨rfl, ρ2, hle.trans l2, hal⟩
end rules
end Go.Ev

/- How the ideal heap goes on where the world takes a new block, or a block is written. -/
namespace Go.Ev
open Go.RowKit

theorem rowsAt.pre {ρ ρ' : Ren} (p : Le ρ ρ') {cells : Array Value} {base sz : Nat} {els : List (List SV)} (h : rowsAt ρ cells base sz els) : rowsAt ρ' cells base sz els :=
  fun i row hi => ⟨(h i row hi).1, fun o x ho => let ⟨v, hv, hr⟩ := (h i row hi).2 o x ho; ⟨v, hv, hr.pre p⟩⟩

theorem SatC.ext {ρ ρ' : Ren} {w w' : World} {l : Pl} {ch : Chunk} (h : SatC ρ w l ch) (p : Le ρ ρ') (hb : ∀ b, l.blk = some b → w'.heap[b]? = w.heap[b]?) : SatC ρ' w' l ch := by
  cases ch with
  | rows own sz els =>
    rcases h with h | ⟨b, base, lim, cells, T, lo, hi, rfl, h1, h2, h3, h4, h5, h6, h7⟩
    · exact .inl h
    · exact .inr ⟨b, base, lim, cells, T, lo, hi, rfl, (hb b rfl).trans h1, h2, h3, h4, h5, h6, h7.pre p⟩
  | map clock es =>
    obtain ⟨b, ents, rfl, h1, ⟨q, h2, h3⟩, h4, h5⟩ := h
    exact ⟨b, ents, rfl, (hb b rfl).trans h1, ⟨q, h2, h3.pre p⟩, h4, h5⟩
  | iter x since seen stepped =>
    obtain ⟨b, mo, rfl, h1, h2⟩ := h
    exact ⟨b, mo, rfl, (hb b rfl).trans h1, h2.pre p⟩
  | clo fn f c =>
    obtain ⟨f', c', rfl, h1, h2⟩ := h
    exact ⟨f', c', rfl, h1.pre p, h2.pre p⟩
  | gone => trivial

theorem SatC.blk_lt {ρ : Ren} {w : World} {l : Pl} {ch : Chunk} (h : SatC ρ w l ch) (ho : ch.owned = true ∨ ∃ sz els, ch = .rows false sz els) {b : Nat} (hb : l.blk = some b) : b < w.heap.size := by
  have key : ∀ {o : Obj}, w.heap[b]? = some o → b < w.heap.size := fun h => (Array.getElem?_eq_some_iff.1 h).1
  cases ch with
  | rows own sz els =>
    rcases h with ⟨rfl, _⟩ | ⟨b', base, lim, cells, T, lo, hi, rfl, h1, _⟩
    · simp [Pl.blk] at hb
    · simp only [Pl.blk, Option.some.injEq] at hb; subst hb; exact key h1
  | map clock es =>
    obtain ⟨b', ents, rfl, h1, _⟩ := h
    simp only [Pl.blk, Option.some.injEq] at hb; subst hb; exact key h1
  | iter x since seen stepped =>
    obtain ⟨b', mo, rfl, h1, _⟩ := h
    simp only [Pl.blk, Option.some.injEq] at hb; subst hb; exact key h1
  | clo fn f c => rcases ho with ho | ⟨sz, els, ho⟩ <;> simp [Chunk.owned] at ho
  | gone => rcases ho with ho | ⟨sz, els, ho⟩ <;> simp [Chunk.owned] at ho

theorem heap_push_new (w : World) (o : Obj) : (w.alloc o).heap[w.heap.size]? = some o := by
  show (w.heap.push o)[w.heap.size]? = some o
  simp
theorem heap_push_old (w : World) (o : Obj) {b : Nat} (h : b < w.heap.size) : (w.alloc o).heap[b]? = w.heap[b]? := by
  show (w.heap.push o)[b]? = w.heap[b]?
  rw [Array.getElem?_push, if_neg (by omega)]

/-- A new chunk, in a new block or in none. -/
theorem Inv.push {X : Ctx} {ρ : Ren} {H : Heap} {w w' : World} (h : Inv X ρ H w) (l : Pl) (ch : Chunk)
    (hos : w'.os = w.os) (htape : w'.tape = w.tape) (hout : w'.output = w.output) (hsize : w.heap.size ≤ w'.heap.size)
    (hold : ∀ b, b < w.heap.size → w'.heap[b]? = w.heap[b]?)
    (hobj : ∀ b u, l = .obj b u → u.oneCell' = true)
    (hsat : SatC (ρ ++ [l]) w' l ch) (hnew : ch.owned = true → ∀ b, l.blk = some b → w.heap.size ≤ b) (hro : ∀ sz els, ch = .rows false sz els → l.blk = none) (hdr : w.drawn ≤ w'.drawn := by exact Nat.le_refl _) :
    Inv X (ρ ++ [l]) (H ++ [ch]) w' := by
  have hp : Le ρ (ρ ++ [l]) := Le.app _ _
  have hlen := h.len
  have get_old : ∀ {c : Nat}, c < H.length → (H ++ [ch])[c]? = H[c]? ∧ (ρ ++ [l])[c]? = ρ[c]? := fun hc =>
    ⟨List.getElem?_append_left hc, List.getElem?_append_left (by omega)⟩
  have get_new : (H ++ [ch])[H.length]? = some ch ∧ (ρ ++ [l])[H.length]? = some l := ⟨by simp, by rw [← hlen]; simp⟩
  have bound : ∀ {c : Nat} {x : Chunk}, (H ++ [ch])[c]? = some x → c < H.length ∨ c = H.length := fun hc => by
    have := (List.getElem?_eq_some_iff.1 hc).1; simp at this; omega
  refine ⟨hos.trans h.os, htape.trans h.tape, hout.trans h.output, Nat.le_trans h.drawn hdr, Nat.le_trans h.size hsize, fun b hb hF => ?_, by simp [hlen], ?_, ?_, ?_, ?_, ?_⟩
  · rw [hold b (Nat.lt_of_lt_of_le hb h.size)]; exact h.old b hb hF
  · intro c b u hc
    by_cases hlt : c < ρ.length
    · rw [List.getElem?_append_left hlt] at hc; exact h.obj1 c b u hc
    · have : c = ρ.length := by have := (List.getElem?_eq_some_iff.1 hc).1; simp at this; omega
      subst this; simp at hc; exact hobj b u hc
  · intro c x hc
    rcases bound hc with hlt | rfl
    · rw [(get_old hlt).1] at hc
      obtain ⟨l', hl', hs⟩ := h.sat c x hc
      refine ⟨l', (get_old hlt).2.trans hl', ?_⟩
      cases x with
      | clo fn f c' => obtain ⟨f', c'', rfl, h1, h2⟩ := hs; exact ⟨f', c'', rfl, h1.pre hp, h2.pre hp⟩
      | gone => trivial
      | rows o sz els => exact hs.ext hp fun b hb => hold b (hs.blk_lt (by cases o <;> simp [Chunk.owned]) hb)
      | map _ es => exact hs.ext hp fun b hb => hold b (hs.blk_lt (by simp [Chunk.owned]) hb)
      | iter _ _ _ _ => exact hs.ext hp fun b hb => hold b (hs.blk_lt (by simp [Chunk.owned]) hb)
    · rw [get_new.1] at hc; cases hc
      exact ⟨l, get_new.2, hsat⟩
  · intro c x l' b hc ho hl hb
    rcases bound hc with hlt | rfl
    · rw [(get_old hlt).1] at hc; rw [(get_old hlt).2] at hl; exact h.own c x l' b hc ho hl hb
    · rw [get_new.1] at hc; rw [get_new.2] at hl; cases hc; cases hl
      exact .inr (Nat.le_trans h.size (hnew ho b hb))
  · intro c sz els l' b hc hl hb
    rcases bound hc with hlt | rfl
    · rw [(get_old hlt).1] at hc; rw [(get_old hlt).2] at hl; exact h.ro c sz els l' b hc hl hb
    · rw [get_new.1] at hc; rw [get_new.2] at hl; cases hc; cases hl
      rw [hro sz els rfl] at hb; cases hb
  · intro c d x y l' m b hcd hc hd hox hoy hl hm hb hmb
    rcases bound hc with hlt | rfl
    · rw [(get_old hlt).1] at hc; rw [(get_old hlt).2] at hl
      rcases bound hd with hlt2 | rfl
      · rw [(get_old hlt2).1] at hd; rw [(get_old hlt2).2] at hm; exact h.apart c d x y l' m b hcd hc hd hox hoy hl hm hb hmb
      · rw [get_new.1] at hd; rw [get_new.2] at hm; cases hd; cases hm
        obtain ⟨l2, hl2, hs⟩ := h.sat c x hc
        rw [hl] at hl2; cases hl2
        have := hs.blk_lt (.inl hox) hb
        have := hnew hoy b hmb
        omega
    · rw [get_new.1] at hc; rw [get_new.2] at hl; cases hc; cases hl
      rcases bound hd with hlt2 | rfl
      · rw [(get_old hlt2).1] at hd; rw [(get_old hlt2).2] at hm
        obtain ⟨l2, hl2, hs⟩ := h.sat d y hd
        rw [hm] at hl2; cases hl2
        have := hs.blk_lt (.inl hoy) hmb
        have := hnew hox b hb
        omega
      · exact hcd rfl

/-- Where a new chunk goes: behind all, or to a place that was kept for it. -/
def PlaceOK (ρ : Ren) (H : Heap) (m : Nat) : Prop := m = H.length ∨ (H[m]? = some .gone ∧ ρ[m]? = some .void)
def addR (ρ : Ren) (m : Nat) (l : Pl) : Ren := if m = ρ.length then ρ ++ [l] else ρ.set m l
def up1 (H : Heap) (c : Nat) (ch : Chunk) : Heap := if c = H.length then H ++ [ch] else H.set c ch

theorem addR_le {ρ : Ren} {H : Heap} {m : Nat} (hlen : ρ.length = H.length) (h : PlaceOK ρ H m) (l : Pl) : Le ρ (addR ρ m l) := by
  unfold addR
  rcases h with rfl | ⟨h1, h2⟩
  · rw [if_pos hlen.symm]; exact Le.app _ _
  · have := (List.getElem?_eq_some_iff.1 h2).1
    rw [if_neg (by omega)]; exact Le.set h2 l
theorem addR_get {ρ : Ren} {H : Heap} {m : Nat} (hlen : ρ.length = H.length) (h : PlaceOK ρ H m) (l : Pl) : (addR ρ m l)[m]? = some l := by
  unfold addR
  rcases h with rfl | ⟨h1, h2⟩
  · rw [if_pos hlen.symm, ← hlen]; simp
  · have := (List.getElem?_eq_some_iff.1 h2).1
    rw [if_neg (by omega)]; simp [this]

/-- A new chunk in a place that was kept for it. -/
theorem Inv.fill {X : Ctx} {ρ : Ren} {H : Heap} {w w' : World} (h : Inv X ρ H w) {m : Nat} (hm : H[m]? = some .gone) (hv : ρ[m]? = some .void) (l : Pl) (ch : Chunk)
    (hos : w'.os = w.os) (htape : w'.tape = w.tape) (hout : w'.output = w.output) (hsize : w.heap.size ≤ w'.heap.size)
    (hold : ∀ b, b < w.heap.size → w'.heap[b]? = w.heap[b]?)
    (hobj : ∀ b u, l = .obj b u → u.oneCell' = true)
    (hsat : SatC (ρ.set m l) w' l ch) (hnew : ch.owned = true → ∀ b, l.blk = some b → w.heap.size ≤ b) (hro : ∀ sz els, ch = .rows false sz els → l.blk = none) (hdr : w.drawn ≤ w'.drawn := by exact Nat.le_refl _) :
    Inv X (ρ.set m l) (H.set m ch) w' := by
  have hp : Le ρ (ρ.set m l) := Le.set hv l
  have hlt : m < H.length := (List.getElem?_eq_some_iff.1 hm).1
  have hlt2 : m < ρ.length := (List.getElem?_eq_some_iff.1 hv).1
  have get_old : ∀ {c : Nat}, c ≠ m → (H.set m ch)[c]? = H[c]? ∧ (ρ.set m l)[c]? = ρ[c]? := fun hc =>
    ⟨List.getElem?_set_ne (Ne.symm hc), List.getElem?_set_ne (Ne.symm hc)⟩
  have get_new : (H.set m ch)[m]? = some ch ∧ (ρ.set m l)[m]? = some l := ⟨by simp [hlt], by simp [hlt2]⟩
  refine ⟨hos.trans h.os, htape.trans h.tape, hout.trans h.output, Nat.le_trans h.drawn hdr, Nat.le_trans h.size hsize, fun b hb hF => ?_, by simp [h.len], ?_, ?_, ?_, ?_, ?_⟩
  · rw [hold b (Nat.lt_of_lt_of_le hb h.size)]; exact h.old b hb hF
  · intro c b u hc
    by_cases e : c = m
    · subst e; rw [get_new.2] at hc; cases hc; exact hobj b u rfl
    · rw [(get_old e).2] at hc; exact h.obj1 c b u hc
  · intro c x hc
    by_cases e : c = m
    · subst e; rw [get_new.1] at hc; cases hc; exact ⟨l, get_new.2, hsat⟩
    · rw [(get_old e).1] at hc
      obtain ⟨l', hl', hs⟩ := h.sat c x hc
      refine ⟨l', (get_old e).2.trans hl', ?_⟩
      cases x with
      | clo fn f c' => obtain ⟨f', c'', rfl, h1, h2⟩ := hs; exact ⟨f', c'', rfl, h1.pre hp, h2.pre hp⟩
      | gone => trivial
      | rows o sz els => exact hs.ext hp fun b hb => hold b (hs.blk_lt (by cases o <;> simp [Chunk.owned]) hb)
      | map _ es => exact hs.ext hp fun b hb => hold b (hs.blk_lt (by simp [Chunk.owned]) hb)
      | iter _ _ _ _ => exact hs.ext hp fun b hb => hold b (hs.blk_lt (by simp [Chunk.owned]) hb)
  · intro c x l' b hc ho hl hb
    by_cases e : c = m
    · subst e; rw [get_new.1] at hc; rw [get_new.2] at hl; cases hc; cases hl
      exact .inr (Nat.le_trans h.size (hnew ho b hb))
    · rw [(get_old e).1] at hc; rw [(get_old e).2] at hl; exact h.own c x l' b hc ho hl hb
  · intro c sz els l' b hc hl hb
    by_cases e : c = m
    · subst e; rw [get_new.1] at hc; rw [get_new.2] at hl; cases hc; cases hl
      rw [hro sz els rfl] at hb; cases hb
    · rw [(get_old e).1] at hc; rw [(get_old e).2] at hl; exact h.ro c sz els l' b hc hl hb
  · intro c d x y l' k b hcd hc hd hox hoy hl hk hb hkb
    have below : ∀ {c : Nat} {x : Chunk} {l' : Pl} {b : Nat}, H[c]? = some x → x.owned = true → ρ[c]? = some l' → l'.blk = some b → b < w.heap.size := fun h1 h2 h3 h4 => by
      obtain ⟨l2, hl2, hs⟩ := h.sat _ _ h1
      rw [h3] at hl2; cases hl2
      exact hs.blk_lt (.inl h2) h4
    by_cases e : c = m
    · subst e; rw [get_new.1] at hc; rw [get_new.2] at hl; cases hc; cases hl
      rw [(get_old (Ne.symm hcd)).1] at hd; rw [(get_old (Ne.symm hcd)).2] at hk
      have := below hd hoy hk hkb
      have := hnew hox b hb
      omega
    · rw [(get_old e).1] at hc; rw [(get_old e).2] at hl
      by_cases e2 : d = m
      · subst e2; rw [get_new.1] at hd; rw [get_new.2] at hk; cases hd; cases hk
        have := below hc hox hl hb
        have := hnew hoy b hkb
        omega
      · rw [(get_old e2).1] at hd; rw [(get_old e2).2] at hk
        exact h.apart c d x y l' k b hcd hc hd hox hoy hl hk hb hkb

theorem Inv.add {X : Ctx} {ρ : Ren} {H : Heap} {w w' : World} (h : Inv X ρ H w) {m : Nat} (hm : PlaceOK ρ H m) (l : Pl) (ch : Chunk)
    (hos : w'.os = w.os) (htape : w'.tape = w.tape) (hout : w'.output = w.output) (hsize : w.heap.size ≤ w'.heap.size)
    (hold : ∀ b, b < w.heap.size → w'.heap[b]? = w.heap[b]?)
    (hobj : ∀ b u, l = .obj b u → u.oneCell' = true)
    (hsat : SatC (addR ρ m l) w' l ch) (hnew : ch.owned = true → ∀ b, l.blk = some b → w.heap.size ≤ b) (hro : ∀ sz els, ch = .rows false sz els → l.blk = none) (hdr : w.drawn ≤ w'.drawn := by exact Nat.le_refl _) :
    Inv X (addR ρ m l) (up1 H m ch) w' := by
  rcases hm with rfl | ⟨h1, h2⟩
  · have e1 : addR ρ H.length l = ρ ++ [l] := by unfold addR; rw [if_pos h.len.symm]
    have e2 : up1 H H.length ch = H ++ [ch] := by unfold up1; rw [if_pos rfl]
    rw [e1] at hsat ⊢; rw [e2]
    exact h.push l ch hos htape hout hsize hold hobj hsat hnew hro hdr
  · have hlt : m < H.length := (List.getElem?_eq_some_iff.1 h1).1
    have hlt2 : m < ρ.length := (List.getElem?_eq_some_iff.1 h2).1
    have e1 : addR ρ m l = ρ.set m l := by unfold addR; rw [if_neg (by omega)]
    have e2 : up1 H m ch = H.set m ch := by unfold up1; rw [if_neg (by omega)]
    rw [e1] at hsat ⊢; rw [e2]
    exact h.fill h1 h2 l ch hos htape hout hsize hold hobj hsat hnew hro hdr

/-- A chunk's block is written: the chunk has other contents. -/
theorem Inv.upd {X : Ctx} {ρ : Ren} {H : Heap} {w w' : World} (h : Inv X ρ H w) {c : Nat} {ch ch' : Chunk} {l : Pl} (hc : H[c]? = some ch) (hl : ρ[c]? = some l)
    (ho : ch.owned = true) (hos : w'.os = w.os) (htape : w'.tape = w.tape) (hout : w'.output = w.output) (hsize : w'.heap.size = w.heap.size)
    (hold : ∀ b, l.blk ≠ some b → w'.heap[b]? = w.heap[b]?) (hsat : SatC ρ w' l ch') (ho' : ch'.owned = true) (hdr : w.drawn ≤ w'.drawn := by exact Nat.le_refl _) :
    Inv X ρ (H.set c ch') w' := by
  have hlt : c < H.length := (List.getElem?_eq_some_iff.1 hc).1
  have get_c : (H.set c ch')[c]? = some ch' := by simp [hlt]
  have get_o : ∀ {d : Nat}, d ≠ c → (H.set c ch')[d]? = H[d]? := fun hd => by rw [List.getElem?_set_ne (Ne.symm hd)]
  refine ⟨hos.trans h.os, htape.trans h.tape, hout.trans h.output, Nat.le_trans h.drawn hdr, by rw [hsize]; exact h.size, fun b hb hF => ?_, by simp [h.len], h.obj1, ?_, ?_, ?_, ?_⟩
  · have : l.blk ≠ some b := fun hb' => by
      rcases h.own c ch l b hc ho hl hb' with hF' | hge
      · exact hF hF'
      · omega
    rw [hold b this]; exact h.old b hb hF
  · intro d x hd
    by_cases e : d = c
    · subst e; rw [get_c] at hd; cases hd; exact ⟨l, hl, hsat⟩
    · rw [get_o e] at hd
      obtain ⟨l', hl', hs⟩ := h.sat d x hd
      refine ⟨l', hl', ?_⟩
      cases x with
      | clo fn f c' => exact hs
      | gone => trivial
      | rows o sz els =>
        refine hs.ext (Le.refl _) fun b hb => hold b fun hb' => ?_
        cases o with
        | true => exact h.apart d c _ _ l' l b e hd hc rfl ho hl' hl hb hb'
        | false =>
          have h1 := h.ro d sz els l' b hd hl' hb
          rcases h.own c ch l b hc ho hl hb' with hF' | hge
          · exact h1.2 hF'
          · omega
      | map _ es => exact hs.ext (Le.refl _) fun b hb => hold b fun hb' => h.apart d c _ _ l' l b e hd hc rfl ho hl' hl hb hb'
      | iter _ _ _ _ => exact hs.ext (Le.refl _) fun b hb => hold b fun hb' => h.apart d c _ _ l' l b e hd hc rfl ho hl' hl hb hb'
  · intro d x l' b hd hox hl' hb
    by_cases e : d = c
    · subst e; rw [hl] at hl'; cases hl'; exact h.own d ch l b hc ho hl hb
    · rw [get_o e] at hd; exact h.own d x l' b hd hox hl' hb
  · intro d sz els l' b hd hl' hb
    by_cases e : d = c
    · subst e; rw [get_c] at hd; cases hd; simp [Chunk.owned] at ho'; 
    · rw [get_o e] at hd; exact h.ro d sz els l' b hd hl' hb
  · intro d e x y l' m b hde hd he hox hoy hl' hm hb hmb
    by_cases e1 : d = c
    · subst e1
      rw [get_o (Ne.symm hde)] at he
      exact h.apart d e ch y l' m b hde hc he ho hoy hl' hm hb hmb
    · rw [get_o e1] at hd
      by_cases e2 : e = c
      · subst e2; exact h.apart d e x ch l' m b hde hd hc hox ho hl' hm hb hmb
      · rw [get_o e2] at he; exact h.apart d e x y l' m b hde hd he hox hoy hl' hm hb hmb

/-- A draw turns nothing. -/
theorem Inv.drew {X : Ctx} {ρ : Ren} {H : Heap} {w : World} (h : Inv X ρ H w) : Inv X ρ H w.drew :=
  ⟨h.os, h.tape, h.output, Nat.le_succ_of_le h.drawn, h.size, h.old, h.len, h.obj1, fun c ch hc => let ⟨l, hl, hs⟩ := h.sat c ch hc; ⟨l, hl, by cases ch <;> exact hs⟩, h.own, h.ro, h.apart⟩

theorem RelA.put {X : Ctx} {n : Nat} {ρ ρ' : Ren} {tm : TM} {a : Act} (h : RelA X n ρ tm a) (p : Le ρ ρ') {d : Option Nat} (hd : ∀ x, d = some x → x < n) {v : IV} {x : Value} (hr : relI ρ' v x) :
    RelA X n ρ' (Ev.put tm d v) (a.put d x) := by
  cases d with
  | none => exact ⟨h.size, h.defers, fun t => (h.rel t).pre p⟩
  | some d =>
    have hlt := hd d rfl
    refine ⟨by simp [Act.put, h.size], h.defers, fun t => ?_⟩
    simp only [Act.put, Ev.put, Ev.get]
    by_cases e : d = t
    · subst e
      rw [if_pos rfl]
      simp [Array.getD, h.size, hlt, hr]
    · rw [if_neg e]
      have := (h.rel t).pre p
      simpa [Array.getD_eq_getD_getElem?, Array.getElem?_setIfInBounds, e] using this

theorem RelA.pre {X : Ctx} {n : Nat} {ρ ρ' : Ren} {tm : TM} {a : Act} (h : RelA X n ρ tm a) (p : Le ρ ρ') : RelA X n ρ' tm a := ⟨h.size, h.defers, fun t => (h.rel t).pre p⟩
end Go.Ev

/- The operations of a region, ideally, and that the model does the same. -/
set_option linter.unusedSimpArgs false
namespace Go.Ev
open Go.RowKit

def szT (P : Program) (T : TypeId) : Option Nat := (P.info? T).map (·.size)
def aggT (P : Program) (T : TypeId) : Option Bool :=
  match P.underlying T with
  | some (.struct _) => some true
  | some (.array _ _) => some true
  | some _ => some false
  | none => none
/-- A field's place and size (never 0). -/
def offT (P : Program) (T : TypeId) (f : Nat) : Option (Nat × Nat) :=
  match P.underlying T with
  | some (.struct fs) => match fs[f]? with
    | some f => match P.info? f.type with
      | some i => if i.size = 0 then none else some (f.offset, i.size)
      | none => none
    | none => none
  | _ => none
def rawCells (v : Value) : Option (List SV) := if v.cells.toList.all (·.oneCell') then some (v.cells.toList.map .raw) else none
def zeroT (P : Program) (T : TypeId) : Option (List SV) :=
  match P.info? T with
  | some i => match i.zero with
    | some z => if z.cells.size = i.size then rawCells z else none
    | none => none
  | none => none

def ofValue : Value → IV
  | .agg _ => .j
  | .tuple _ => .j
  | v => .s (.raw v)

def rd (tm : TM) : Operand → IV
  | .tmp t => get tm t
  | .const v => ofValue v
  | .func f => .s (.raw (.func (.func f) #[] #[]))
  | .global g => .s (.raw (.pointer (some ⟨g, 0, none⟩)))

theorem relI_ofValue (ρ : Ren) (v : Value) : relI ρ (ofValue v) v := by
  cases v <;> first | exact trivial | exact ⟨rfl, rfl⟩

theorem rd_rel {X : Ctx} {n : Nat} {ρ : Ren} {tm : TM} {a : Act} (h : RelA X n ρ tm a) (o : Operand) : relI ρ (rd tm o) (a.eval o) := by
  cases o with
  | tmp t => exact h.rel t
  | const v => exact relI_ofValue ρ v
  | global g => exact ⟨rfl, rfl⟩
  | func f => exact ⟨rfl, rfl⟩

/-- A step's outcome: what must hold, the value, the chunks that are written (a new one's number is handed in). -/
abbrev Res := Option (Prop × IV × List (Nat × Chunk))

/-- Chunks are written; one behind all is new. -/
def upd (H : Heap) : List (Nat × Chunk) → Heap
  | [] => H
  | (c, ch) :: W => upd (up1 H c ch) W

/-- Places that were kept for chunks to come stay so. -/
def VK (ρ ρ' : Ren) (W : List (Nat × Chunk)) : Prop := ∀ c : Nat, ρ[c]? = some .void → c ∉ W.map (·.1) → ρ'[c]? = some .void
theorem VK.refl (ρ : Ren) (W : List (Nat × Chunk)) : VK ρ ρ W := fun _ h _ => h
theorem VK.add {ρ : Ren} {m : Nat} {l : Pl} {ch : Chunk} : VK ρ (addR ρ m l) [(m, ch)] := fun c h hc => by
  simp at hc
  unfold addR
  split
  · rw [List.getElem?_append_left (List.getElem?_eq_some_iff.1 h).1]; exact h
  · rw [List.getElem?_set_ne (Ne.symm hc)]; exact h

/-- What a step must do in the model. -/
def StepOK (P : Program) (X : Ctx) (ρ : Ren) (s : Sem Next) (w : World) (v : IV) (H : Heap) (W : List (Nat × Chunk)) : Prop :=
  ∃ ρ' x w', Le ρ ρ' ∧ VK ρ ρ' W ∧ relI ρ' v x ∧ Inv X ρ' (upd H W) w' ∧ (s.run P w = .ok (.value x) w' ∨ (s.run P w = .ok .skip w' ∧ x = undef))

theorem StepOK.pure {P : Program} {X : Ctx} {ρ : Ren} {s : Sem Next} {w : World} {v : IV} {H : Heap} {x : Value} (hi : Inv X ρ H w) (hr : relI ρ v x)
    (h : s.run P w = .ok (.value x) w) : StepOK P X ρ s w v H [] := ⟨ρ, x, w, Le.refl _, VK.refl _ _, hr, hi, .inl h⟩

/-! #### segments of a row -/
def seg (row : List SV) (o n : Nat) : Option (List SV) :=
  if o = 0 ∧ n = row.length then some row else if o + n ≤ row.length then some ((row.drop o).take n) else none

theorem seg_spec {row : List SV} {o n : Nat} {l : List SV} (h : seg row o n = some l) : l.length = n ∧ o + n ≤ row.length ∧ ∀ j x, l[j]? = some x → row[o + j]? = some x := by
  unfold seg at h
  split at h
  · rename_i c; cases h; obtain ⟨rfl, rfl⟩ := c; exact ⟨rfl, by omega, fun j x hj => by simpa using hj⟩
  · split at h
    · cases h
      refine ⟨by simp; omega, by assumption, fun j x hj => ?_⟩
      have hj' := (List.getElem?_eq_some_iff.1 hj).1
      simp at hj'
      rw [List.getElem?_take_of_lt (by omega), List.getElem?_drop] at hj
      exact hj
    · cases h

def spl (row : List SV) (o : Nat) (vs : List SV) : Option (List SV) :=
  if o = 0 ∧ vs.length = row.length then some vs else if o + vs.length ≤ row.length then some (row.take o ++ vs ++ row.drop (o + vs.length)) else none

theorem spl_spec {row : List SV} {o : Nat} {vs l : List SV} (h : spl row o vs = some l) : l.length = row.length ∧ o + vs.length ≤ row.length ∧
    ∀ j x, l[j]? = some x → (o ≤ j ∧ j < o + vs.length ∧ vs[j - o]? = some x) ∨ ((j < o ∨ o + vs.length ≤ j) ∧ row[j]? = some x) := by
  unfold spl at h
  split at h
  · rename_i c; cases h; obtain ⟨rfl, hl⟩ := c
    refine ⟨hl, by omega, fun j x hj => .inl ⟨by omega, ?_, by simpa using hj⟩⟩
    have := (List.getElem?_eq_some_iff.1 hj).1; omega
  · split at h
    · rename_i hle; cases h
      refine ⟨by simp; omega, hle, fun j x hj => ?_⟩
      have ht : (row.take o).length = o := by simp; omega
      by_cases h1 : j < o
      · right; refine ⟨.inl h1, ?_⟩
        rw [List.append_assoc, List.getElem?_append_left (by omega), List.getElem?_take_of_lt h1] at hj; exact hj
      · by_cases h2 : j < o + vs.length
        · left; refine ⟨by omega, h2, ?_⟩
          rw [List.append_assoc, List.getElem?_append_right (by omega), ht, List.getElem?_append_left (by omega)] at hj; exact hj
        · right; refine ⟨.inr (by omega), ?_⟩
          rw [List.getElem?_append_right (by simp; omega), List.getElem?_drop] at hj
          simp only [List.length_append, ht] at hj
          rw [show o + vs.length + (j - (o + vs.length)) = j by omega] at hj; exact hj
    · cases h

/-! #### some rows -/
def segR (els : List (List SV)) (s n : Nat) : Option (List (List SV)) :=
  if s = 0 ∧ n = els.length then some els else if s + n ≤ els.length then some ((els.drop s).take n) else none

theorem segR_spec {els : List (List SV)} {s n : Nat} {r : List (List SV)} (h : segR els s n = some r) : r.length = n ∧ s + n ≤ els.length ∧ ∀ (i : Nat) (row : List SV), r[i]? = some row → els[s + i]? = some row := by
  unfold segR at h
  split at h
  · rename_i c; cases h; obtain ⟨rfl, rfl⟩ := c; exact ⟨rfl, by omega, fun j x hj => by simpa using hj⟩
  · split at h
    · cases h
      refine ⟨by simp; omega, by assumption, fun j x hj => ?_⟩
      have hj' := (List.getElem?_eq_some_iff.1 hj).1
      simp at hj'
      rw [List.getElem?_take_of_lt (by omega), List.getElem?_drop] at hj
      exact hj
    · cases h


/-- The cells behind a pointer: within a row, or of so many whole rows. -/
def rdCells (els : List (List SV)) (i o n : Nat) : Option (List SV) :=
  match els[i]? with
  | some row => match seg row o n with
    | some l => some l
    | none => if o = 0 ∧ row.length ≠ 0 ∧ n = n / row.length * row.length then match segR els i (n / row.length) with
      | some r => some r.flatten
      | none => none
      else none
  | none => none

theorem flatten_get {sz : Nat} : ∀ {r : List (List SV)}, (∀ (i : Nat) (row : List SV), r[i]? = some row → row.length = sz) → r.flatten.length = r.length * sz ∧ ∀ (j : Nat) (x : SV), 0 < sz → r.flatten[j]? = some x → ∃ row, r[j / sz]? = some row ∧ row[j % sz]? = some x
  | [], _ => ⟨by simp, fun j x _ h => by simp at h⟩
  | row :: r, h => by
    have h0 := h 0 row (by simp)
    obtain ⟨h1, h2⟩ := flatten_get (r := r) fun i row hi => h (i + 1) row (by simpa using hi)
    refine ⟨by simp only [List.flatten_cons, List.length_append, h1, h0, List.length_cons, Nat.add_mul, Nat.one_mul]; omega, fun j x hs hj => ?_⟩
    rw [List.flatten_cons] at hj
    by_cases e : j < sz
    · rw [List.getElem?_append_left (by omega)] at hj
      exact ⟨row, by simp [Nat.div_eq_of_lt e], by rw [Nat.mod_eq_of_lt e]; exact hj⟩
    · rw [List.getElem?_append_right (by omega), h0] at hj
      obtain ⟨row', a, b⟩ := h2 (j - sz) x hs hj
      have e1 : j / sz = (j - sz) / sz + 1 := by rw [← Nat.add_div_right _ hs]; congr 1; omega
      have e2 : j % sz = (j - sz) % sz := by rw [← Nat.add_mod_right (j - sz) sz]; congr 1; omega
      exact ⟨row', by rw [e1]; simpa using a, by rw [e2]; exact b⟩

/-! #### running the model's small words -/
section run
variable (P : Program) (w : World)
theorem run_underlying' {t : TypeId} {d : TypeDesc} (h : P.underlying t = some d) : (underlying t).run P w = .ok d w := by simp [underlying, h]
theorem run_typeInfo' {t : TypeId} {i : TypeInfo} (h : P.info? t = some i) : (typeInfo t).run P w = .ok i w := by simp [typeInfo, h]
theorem run_sizeOf' {t : TypeId} {n : Nat} (h : szT P t = some n) : (sizeOf t).run P w = .ok n w := by
  unfold szT at h
  cases hi : P.info? t with
  | none => simp [hi] at h
  | some i => simp [hi] at h; simp [sizeOf, typeInfo, hi, h]
theorem run_isAgg' {t : TypeId} {b : Bool} (h : aggT P t = some b) : (isAgg t).run P w = .ok b w := by
  unfold aggT at h
  unfold isAgg
  split at h <;> simp_all [underlying]
theorem run_zeroValue' {t : TypeId} {i : TypeInfo} {z : Value} (h : P.info? t = some i) (hz : i.zero = some z) : (zeroValue t).run P w = .ok z w := by
  simp [zeroValue, typeInfo, h, hz]
end run

theorem addr_add (b o n : Nat) : (⟨b, o, none⟩ : Addr).add n = ⟨b, o + n, none⟩ := by
  unfold Addr.add; split
  · rename_i h; simp [h]
  · rfl

/-- The cells behind a pointer, read. -/
theorem read_cells {X : Ctx} {ρ : Ren} {H : Heap} {w : World} (hi : Inv X ρ H w) {c i o n : Nat} {own : Bool} {els : List (List SV)} {row l : List SV} {b base sz sz' lim : Nat}
    (hc : H[c]? = some (.rows own sz' els)) (hρ : ρ[c]? = some (.mem b base sz lim)) (hrow : els[i]? = some row) (hs : seg row o n = some l) :
    ∃ vs : List Value, relL ρ l vs ∧ ∀ j v, vs[j]? = some v → w.cell? ⟨b, base + i * sz + o + j, none⟩ = some v := by
  obtain ⟨l', hl', hsat⟩ := hi.sat c _ hc
  rw [hρ] at hl'; cases hl'
  rcases hsat with ⟨h, _⟩ | ⟨b', base', lim', cells, T, lo, hi', he, hw, hsz, hlen, hfit, hfz, hone, hrows⟩
  · cases h
  · cases he
    obtain ⟨hll, hle, hget⟩ := seg_spec hs
    obtain ⟨hrl, hr⟩ := hrows i row hrow
    have ex : ∀ j, ∃ v, j < l.length → ∃ x, l[j]? = some x ∧ cells[base + i * sz + o + j]? = some v ∧ relS ρ x v := fun j => by
      by_cases hj : j < l.length
      · obtain ⟨v, hv, hrel⟩ := hr (o + j) l[j] (hget j _ (by simp [hj]))
        exact ⟨v, fun _ => ⟨l[j], by simp [hj], by rw [← hv, Nat.add_assoc (base + i * sz)], hrel⟩⟩
      · exact ⟨undef, fun h => absurd h hj⟩
    obtain ⟨f, hf⟩ : ∃ f : Nat → Value, ∀ j, j < l.length → ∃ x, l[j]? = some x ∧ cells[base + i * sz + o + j]? = some (f j) ∧ relS ρ x (f j) :=
      ⟨fun j => Classical.choose (ex j), fun j => Classical.choose_spec (ex j)⟩
    refine ⟨(List.range l.length).map f, relL_of_get (by simp) fun j x hx => ?_, fun j v hv => ?_⟩
    · have hj := (List.getElem?_eq_some_iff.1 hx).1
      obtain ⟨y, hy, hcell, hrel⟩ := hf j hj
      rw [hx] at hy; cases hy
      exact ⟨_, by simp [hj], hrel⟩
    · have hj := (List.getElem?_eq_some_iff.1 hv).1
      simp at hj
      simp [hj] at hv
      obtain ⟨y, hy, hcell, hrel⟩ := hf j hj
      subst hv
      simp only [World.cell?, hw, Option.isSome_none, Bool.false_eq_true, if_false]
      exact hcell

theorem read_cells2 {X : Ctx} {ρ : Ren} {H : Heap} {w : World} (hi : Inv X ρ H w) {c i o n : Nat} {own : Bool} {els : List (List SV)} {l : List SV} {b base sz sz' lim : Nat}
    (hc : H[c]? = some (.rows own sz' els)) (hρ : ρ[c]? = some (.mem b base sz lim)) (hs : rdCells els i o n = some l) :
    l.length = n ∧ ∃ vs : List Value, relL ρ l vs ∧ ∀ j v, vs[j]? = some v → w.cell? ⟨b, base + i * sz + o + j, none⟩ = some v := by
  unfold rdCells at hs
  split at hs
  · rename_i row hrow
    split at hs
    · rename_i l' hl'; cases hs
      exact ⟨(seg_spec hl').1, read_cells hi hc hρ hrow hl'⟩
    · split at hs
      · rename_i hcond
        obtain ⟨rfl, h0, hn⟩ := hcond
        split at hs
        · rename_i r hr
          cases hs
          obtain ⟨l', hl', hsat⟩ := hi.sat c _ hc
          rw [hρ] at hl'; cases hl'
          rcases hsat with ⟨h, _⟩ | ⟨b', base', lim', cells, T, lo, hi', he, hw, hsz, hlen, hfit, hfz, hone, hrows⟩
          · cases h
          · cases he
            obtain ⟨hrl, hle, hget⟩ := segR_spec hr
            have hrow0 := (hrows i row hrow).1
            have hall : ∀ (k : Nat) (rw : List SV), r[k]? = some rw → rw.length = sz := fun k rw hk => (hrows (i + k) rw (hget k rw hk)).1
            obtain ⟨hfl, hfg⟩ := flatten_get hall
            have hln : r.flatten.length = n := by rw [hfl, hrl, ← hrow0]; exact hn.symm
            refine ⟨hln, ?_⟩
            have ex : ∀ j, ∃ v, j < r.flatten.length → ∃ x, r.flatten[j]? = some x ∧ cells[base + i * sz + 0 + j]? = some v ∧ relS ρ x v := fun j => by
              by_cases hj : j < r.flatten.length
              · obtain ⟨rw', h1, h2⟩ := hfg j r.flatten[j] hsz (by simp [hj])
                obtain ⟨v, hv, hrel⟩ := (hrows (i + j / sz) rw' (hget _ _ h1)).2 (j % sz) _ h2
                refine ⟨v, fun _ => ⟨r.flatten[j], by simp [hj], ?_, hrel⟩⟩
                rw [← hv]; congr 1
                rw [Nat.add_mul]
                have := Nat.div_add_mod j sz
                rw [Nat.mul_comm] at this
                omega
              · exact ⟨undef, fun h => absurd h hj⟩
            obtain ⟨f, hf⟩ : ∃ f : Nat → Value, ∀ j, j < r.flatten.length → ∃ x, r.flatten[j]? = some x ∧ cells[base + i * sz + 0 + j]? = some (f j) ∧ relS ρ x (f j) :=
              ⟨fun j => Classical.choose (ex j), fun j => Classical.choose_spec (ex j)⟩
            refine ⟨(List.range r.flatten.length).map f, relL_of_get (by simp) fun j x hx => ?_, fun j v hv => ?_⟩
            · have hj := (List.getElem?_eq_some_iff.1 hx).1
              obtain ⟨y, hy, hcell, hrel⟩ := hf j hj
              rw [hx] at hy; cases hy
              exact ⟨_, by rw [List.getElem?_map, List.getElem?_range hj]; rfl, hrel⟩
            · have hj := (List.getElem?_eq_some_iff.1 hv).1
              simp only [List.length_map, List.length_range] at hj
              have e : ((List.range r.flatten.length).map f)[j]? = some (f j) := by rw [List.getElem?_map, List.getElem?_range hj]; rfl
              rw [e] at hv
              cases hv
              obtain ⟨y, hy, hcell, hrel⟩ := hf j hj
              simp only [World.cell?, hw, Option.isSome_none, Bool.false_eq_true, if_false]
              exact hcell
        · cases hs
      · cases hs
  · cases hs

def setBlk (w : World) (b : Nat) (o : Obj) : World := { w with heap := w.heap.setIfInBounds b o }

theorem run_storeList (P : Program) {b : Nat} {T : TypeId} {lo hi : Nat} : ∀ (vs : List Value) (i o : Nat) (w : World) (cs : Array Value), w.heap[b]? = some (.cells cs T (lo, hi)) →
    o + i + vs.length ≤ cs.size → (∀ x, x < cs.size → ¬ (lo ≤ x ∧ x < hi)) → (∀ v ∈ vs, v.oneCell' = true) →
    ∃ cs', (storeCells ⟨b, o, none⟩ vs i).run P w = .ok () (setBlk w b (.cells cs' T (lo, hi))) ∧ cs'.size = cs.size ∧
      (∀ j, o + i ≤ j → j < o + i + vs.length → cs'[j]? = vs[j - (o + i)]?) ∧ (∀ j, j < o + i ∨ o + i + vs.length ≤ j → cs'[j]? = cs[j]?)
  | [], i, o, w, cs, hw, _, _, _ => by
    refine ⟨cs, ?_, rfl, fun j h1 h2 => by simp at h2; omega, fun _ _ => rfl⟩
    have : setBlk w b (.cells cs T (lo, hi)) = w := by
      unfold setBlk
      have hlt := (Array.getElem?_eq_some_iff.1 hw)
      congr 1
      apply Array.ext_getElem?
      intro k
      rw [Array.getElem?_setIfInBounds]
      split
      · rename_i e; subst e; split
        · exact hw.symm
        · rename_i h; exact absurd hlt.1 h
      · rfl
    rw [this]; rfl
  | v :: vs, i, o, w, cs, hw, hfit, hfz, hone => by
    have hlt : o + i < cs.size := by simp at hfit; omega
    have hcell : w.cell? ⟨b, o + i, none⟩ = some cs[o + i] := by simp [World.cell?, hw, hlt]
    have hfr : w.frozen? ⟨b, o + i, none⟩ = false := by
      simp only [World.frozen?, hw]
      have := hfz (o + i) hlt
      simp only [Bool.and_eq_false_iff, decide_eq_false_iff_not]
      omega
    have hset : w.setCell ⟨b, o + i, none⟩ v = setBlk w b (.cells (cs.setIfInBounds (o + i) v) T (lo, hi)) := by
      unfold World.setCell setBlk
      congr 1
      apply Array.ext_getElem?
      intro k
      rw [Array.getElem?_modify, Array.getElem?_setIfInBounds]
      by_cases e : b = k
      · subst e
        simp only [if_true]
        rw [if_pos (Array.getElem?_eq_some_iff.1 hw).1, hw]
        rfl
      · rw [if_neg e, if_neg e]
    have hw2 : (setBlk w b (.cells (cs.setIfInBounds (o + i) v) T (lo, hi))).heap[b]? = some (.cells (cs.setIfInBounds (o + i) v) T (lo, hi)) := by
      simp [setBlk, (Array.getElem?_eq_some_iff.1 hw).1]
    obtain ⟨cs', hrun, hsz, hin, hout⟩ := run_storeList P vs (i + 1) o _ (cs.setIfInBounds (o + i) v) hw2 (by simp at hfit ⊢; omega) (by simpa using hfz) (fun x hx => hone x (by simp [hx]))
    refine ⟨cs', ?_, by simpa using hsz, fun j h1 h2 => ?_, fun j h => ?_⟩
    · have hst : (store ⟨b, o + i, none⟩ v).run P w = .ok () (setBlk w b (.cells (cs.setIfInBounds (o + i) v) T (lo, hi))) := by
        rw [run_store P w _ v _ (hone v (by simp)), hcell]; simp only [hfr]; simp [hset]
      simp only [storeCells, Sem.run_bind, addr_add, hst, Result.andThen_ok, hrun]
      congr 1
      simp [setBlk]
    · by_cases e : j = o + i
      · subst e
        rw [hout (o + i) (by omega)]
        simp [hlt]
      · rw [hin j (by omega) (by simp at h2; omega)]
        rw [show j - (o + i) = (j - (o + (i + 1))) + 1 by omega]
        simp
    · rw [hout j (by simp at h; omega)]
      rw [Array.getElem?_setIfInBounds, if_neg (by simp at h; omega)]

end Go.Ev

/- One operation, ideally; and that the model's run of it comes to the same. -/
namespace Go.Ev
open Go.RowKit


def ldIV (agg : Bool) (l : List SV) : IV := match agg, l with
  | true, l => .a l
  | false, [x] => .s x
  | _, _ => .j

def stLoad (P : Program) (T : TypeId) (p : IV) (H : Heap) : Res :=
  match p with
  | .s (.ptr c i o) => match H[c]? with
    | some (.rows _ _ els) => match szT P T, aggT P T with
      | some n, some ag => match rdCells els i o (if ag then n else 1) with
        | some l => some (True, ldIV ag l, [])
        | none => none
      | _, _ => none
    | _ => none
  | _ => none

def stStore (P : Program) (T : TypeId) (p x : IV) (H : Heap) : Res :=
  match p with
  | .s (.ptr c i o) => match H[c]? with
    | some (.rows true sz els) => match els[i]? with
      | some row => match szT P T with
        | some n => if x.cells.length = n ∧ n ≠ 0 then match spl row o x.cells with
          | some l => some (True, .j, [(c, .rows true sz (els.set i l))])
          | none => none
          else none
        | none => none
      | none => none
    | _ => none
  | _ => none

def stBox (m : Nat) (x : IV) : Res :=
  if x.cells.length ≠ 0 then some (True, .s (.ptr m 0 0), [(m, .rows true x.cells.length [x.cells])]) else none

def stAlloc (P : Program) (m : Nat) (T : TypeId) : Res :=
  match zeroT P T with
  | some z => if z.length ≠ 0 then some (True, .s (.ptr m 0 0), [(m, .rows true z.length [z])]) else none
  | none => none

def stField (P : Program) (T : TypeId) (p : IV) (f : Nat) : Res :=
  match p, offT P T f with
  | .s (.ptr c i o), some (off, _) => some (True, .s (.ptr c i (o + off)), [])
  | _, _ => none

def stExtract (x : IV) (i : Nat) : Res :=
  match x with
  | .t l => match l[i]? with
    | some v => some (True, v, [])
    | none => none
  | _ => none

theorem cells_one {v : Value} (h : v.oneCell' = true) : v.cells = #[v] := by cases v <;> first | rfl | cases h

theorem relI_cells {ρ : Ren} {x : IV} {v : Value} (h : relI ρ x v) (hx : x.cells.length ≠ 0) (hobj : ∀ (c b : Nat) (u : Value), ρ[c]? = some (Pl.obj b u) → u.oneCell' = true) :
    relL ρ x.cells v.cells.toList := by
  cases x with
  | s x => rw [cells_one (relS_one h hobj)]; exact ⟨h, trivial⟩
  | a l => obtain ⟨cs, rfl, h⟩ := h; simpa [Value.cells, IV.cells] using h
  | t l => simp [IV.cells] at hx
  | j => simp [IV.cells] at hx

theorem relL_one {ρ : Ren} (hobj : ∀ (c b : Nat) (u : Value), ρ[c]? = some (Pl.obj b u) → u.oneCell' = true) : ∀ {l : List SV} {vs : List Value}, relL ρ l vs → ∀ v ∈ vs, v.oneCell' = true
  | [], [], _, v, hv => by cases hv
  | x :: l, u :: vs, h, v, hv => by
    rcases List.mem_cons.1 hv with rfl | hv
    · exact relS_one h.1 hobj
    · exact relL_one hobj h.2 v hv
  | [], _ :: _, h, _, _ => h.elim
  | _ :: _, [], h, _, _ => h.elim

section
variable {P : Program} {X : Ctx} {ρ : Ren} {H : Heap} {W : List (Nat × Chunk)} {m : Nat} {w : World} {n : Nat} {tm : TM} {a : Act} {c : Prop} {v : IV}

theorem stLoad_sound {T : TypeId} {p : IV} {pv : Value} (hi : Inv X ρ H w) (hp : relI ρ p pv) (h : stLoad P T p H = some (c, v, W)) :
    StepOK P X ρ (do pure (.value (← Instr.loadAt T pv))) w v H W := by
  unfold stLoad at h
  split at h
  · rename_i ci i o
    split at h
    · rename_i own sz' els hc
      split at h
      · rename_i n ag hsz hag
        split at h
        · rename_i l hs
          cases h
          obtain ⟨b, base, sz, lim, hρ, rfl⟩ := hp
          obtain ⟨hl, vs, hrel, hcell⟩ := read_cells2 hi hc hρ hs
          have hlen := hrel.len
          cases ag with
          | true =>
            refine StepOK.pure hi (x := .agg vs.toArray) ⟨vs, rfl, hrel⟩ ?_
            have hld : (loadCells ⟨b, base + i * sz + o, none⟩ n).run P w = .ok vs.toArray w := by
              have := run_loadCells_list (P := P) w ⟨b, base + i * sz + o, none⟩ vs (fun j v hj => by rw [addr_add]; exact hcell j v hj)
              rw [show vs.length = n by rw [hlen, hl]; rfl] at this; exact this
            simp [Instr.loadAt, Instr.sureAddr, loadVar, run_isAgg' P w hag, run_sizeOf' P w hsz, hld]
          | false =>
            obtain ⟨x0, rfl⟩ := List.length_eq_one_iff.1 (hl.trans rfl)
            obtain ⟨v0, rfl⟩ := List.length_eq_one_iff.1 hlen
            refine StepOK.pure hi (x := v0) hrel.1 ?_
            have hc0 := hcell 0 v0 rfl
            simp only [Nat.add_zero] at hc0
            simp [Instr.loadAt, Instr.sureAddr, loadVar, run_isAgg' P w hag, hc0]
        · cases h
      · cases h
    · cases h
  · cases h

theorem stStore_sound {T : TypeId} {p x : IV} {pv xv : Value} (hi : Inv X ρ H w) (hp : relI ρ p pv) (hx : relI ρ x xv) (h : stStore P T p x H = some (c, v, W)) :
    StepOK P X ρ (do Instr.storeAt T pv xv; pure .skip) w v H W := by
  unfold stStore at h
  split at h
  · rename_i ci i o
    split at h
    · rename_i sz els hc
      split at h
      · rename_i row hrow
        split at h
        · rename_i n hsz
          split at h
          · rename_i hcond
            obtain ⟨hlen, hn⟩ := hcond
            split at h
            · rename_i l hspl
              cases h
              obtain ⟨b, base, sz1, lim, hρ, rfl⟩ := hp
              obtain ⟨l', hl', hsat⟩ := hi.sat ci _ hc
              rw [hρ] at hl'; cases hl'
              rcases hsat with ⟨h, _⟩ | ⟨b', base', lim', cells, T', lo, hi', he, hw, hsz0, hlim, hfit, hfz, hone, hrows⟩
              · cases h
              · cases he
                have hcells := relI_cells hx (by omega) hi.obj1
                have hvl := hcells.len
                obtain ⟨hll, hle, hget⟩ := spl_spec hspl
                obtain ⟨hrl, hr⟩ := hrows i row hrow
                have hi_lt : i < els.length := (List.getElem?_eq_some_iff.1 hrow).1
                have hmul : (i + 1) * sz ≤ lim * sz := Nat.mul_le_mul_right _ (by omega)
                have hmul2 : (i + 1) * sz = i * sz + sz := by rw [Nat.add_mul, Nat.one_mul]
                obtain ⟨cs', hrun, hcsz, hin, hout⟩ := run_storeList P (T := T') xv.cells.toList 0 (base + i * sz + o) w cells hw (by omega) (hfz rfl) (relL_one hi.obj1 hcells)
                refine ⟨ρ, undef, setBlk w b (.cells cs' T' (lo, hi')), Le.refl _, VK.refl _ _, trivial, ?_, .inr ⟨?_, rfl⟩⟩
                · have hci : ci < H.length := (List.getElem?_eq_some_iff.1 hc).1
                  simp only [upd, up1]
                  rw [if_neg (by omega)]
                  refine hi.upd hc hρ rfl rfl rfl rfl (by simp [setBlk]) (fun b' hb' => ?_) (.inr ⟨b, base, lim, cs', T', lo, hi', rfl, ?_, hsz0, by simpa using hlim, by omega, fun _ => by rw [hcsz]; exact hfz rfl, fun _ u hu => ?_, ?_⟩) rfl
                  · have : b ≠ b' := fun e => hb' (by rw [e]; rfl)
                    simp [setBlk, this]
                  · simp [setBlk, (Array.getElem?_eq_some_iff.1 hw).1]
                  · obtain ⟨j, hj⟩ := Array.mem_iff_getElem?.1 hu
                    by_cases h1 : base + i * sz + o + 0 ≤ j ∧ j < base + i * sz + o + 0 + xv.cells.toList.length
                    · rw [hin j h1.1 h1.2] at hj
                      exact relL_one hi.obj1 hcells u (List.mem_of_getElem? hj)
                    · rw [hout j (by omega)] at hj
                      exact hone rfl u (Array.mem_of_getElem? hj)
                  · intro i' row' hr'
                    by_cases e : i' = i
                    · subst e
                      rw [List.getElem?_set_self hi_lt] at hr'; cases hr'
                      refine ⟨by omega, fun o' y hy => ?_⟩
                      rcases hget o' y hy with ⟨h1, h2, h3⟩ | ⟨h1, h2⟩
                      · obtain ⟨u, hu, hrel⟩ := hcells.get h3
                        refine ⟨u, ?_, hrel⟩
                        rw [hin _ (by omega) (by omega), ← hu]; congr 1; omega
                      · obtain ⟨u, hu, hrel⟩ := hr o' y h2
                        refine ⟨u, ?_, hrel⟩
                        rw [hout _ (by omega)]; exact hu
                    · rw [List.getElem?_set_ne (Ne.symm e)] at hr'
                      obtain ⟨h1, h2⟩ := hrows i' row' hr'
                      refine ⟨h1, fun o' y hy => ?_⟩
                      obtain ⟨u, hu, hrel⟩ := h2 o' y hy
                      refine ⟨u, ?_, hrel⟩
                      have ho' := (List.getElem?_eq_some_iff.1 hy).1
                      rw [hout _ ?_]
                      · exact hu
                      · rcases Nat.lt_or_gt_of_ne e with hlt | hgt
                        · left
                          have : (i' + 1) * sz ≤ i * sz := Nat.mul_le_mul_right _ (by omega)
                          have : (i' + 1) * sz = i' * sz + sz := by rw [Nat.add_mul, Nat.one_mul]
                          omega
                        · right
                          have : (i + 1) * sz ≤ i' * sz := Nat.mul_le_mul_right _ (by omega)
                          omega
                · have hs : xv.cells.size = n := by simpa [hlen] using hvl
                  simp [Instr.storeAt, Instr.sureAddr, storeVar, run_sizeOf' P w hsz, hs, hrun]
            · cases h
          · cases h
        · cases h
      · cases h
    · cases h
  · cases h

theorem newBlock (hi : Inv X ρ H w) (hm : PlaceOK ρ H m) {l : List SV} {vs : List Value} (T : TypeId) (hr : relL ρ l vs) (h0 : l.length ≠ 0) :
    Inv X (addR ρ m (.mem w.heap.size 0 l.length 1)) (up1 H m (.rows true l.length [l])) (w.alloc (.cells vs.toArray T)) ∧ relI (addR ρ m (.mem w.heap.size 0 l.length 1)) (.s (.ptr m 0 0)) (.pointer (some ⟨w.heap.size, 0, none⟩)) := by
  have hl := hr.len
  refine ⟨hi.add hm _ _ rfl rfl rfl (by simp) (fun b hb => heap_push_old w _ hb) (fun _ _ h => by cases h) ?_ (fun _ b hb => by simp [Pl.blk] at hb; omega) (fun _ _ h => by cases h), ?_⟩
  · refine .inr ⟨_, _, _, vs.toArray, T, 0, 0, rfl, heap_push_new _ _, by omega, by simp, by simp; omega, fun _ o _ => by omega, fun _ v hv => relL_one hi.obj1 hr v (by simpa using hv), ?_⟩
    intro i row hi'
    match i with
    | 0 =>
      simp at hi'; subst hi'
      refine ⟨rfl, fun o x ho => ?_⟩
      obtain ⟨v, hv, h⟩ := hr.get ho
      exact ⟨v, by simpa using hv, h.pre (addR_le hi.len hm _)⟩
    | i + 1 => simp at hi'
  · exact ⟨w.heap.size, 0, l.length, 1, addR_get hi.len hm _, by simp⟩

theorem stBox_sound {T : TypeId} {x : IV} {xv : Value} (hi : Inv X ρ H w) (hx : relI ρ x xv) (hm : PlaceOK ρ H m) (h : stBox m x = some (c, v, W)) :
    StepOK P X ρ (do pure (.value (← Instr.box T xv))) w v H W := by
  unfold stBox at h
  split at h
  · rename_i h0
    cases h
    have hc := relI_cells hx h0 hi.obj1
    obtain ⟨h1, h2⟩ := newBlock hi hm T hc h0
    refine ⟨_, _, _, addR_le hi.len hm _, VK.add, h2, h1, .inl ?_⟩
    simp [Instr.box, newVar, newRow]
  · cases h

theorem rawCells_rel {ρ : Ren} {z : Value} {l : List SV} (h : rawCells z = some l) : relL ρ l z.cells.toList := by
  unfold rawCells at h
  split at h
  · rename_i hall
    cases h
    refine relL_of_get (by simp) fun i x hx => ?_
    simp at hx
    obtain ⟨v, hv, rfl⟩ := hx
    refine ⟨v, by simpa using hv, rfl, ?_⟩
    simp only [List.all_eq_true] at hall
    exact hall v (by simpa using Array.mem_of_getElem? hv)
  · cases h

theorem stAlloc_sound {T : TypeId} (hi : Inv X ρ H w) (hm : PlaceOK ρ H m) (h : stAlloc P m T = some (c, v, W)) :
    StepOK P X ρ (do pure (.value (← Instr.alloc T true (.tuple #[])))) w v H W := by
  unfold stAlloc at h
  split at h
  · rename_i z hz
    split at h
    · rename_i h0
      cases h
      unfold zeroT at hz
      split at hz
      · rename_i i hinfo
        split at hz
        · rename_i zv hzv
          split at hz
          · obtain ⟨h1, h2⟩ := newBlock hi hm T (rawCells_rel (ρ := ρ) hz) h0
            refine ⟨_, _, _, addR_le hi.len hm _, VK.add, h2, h1, .inl ?_⟩
            simp [Instr.alloc, run_zeroValue' P w hinfo hzv, newVar, newRow]
          · cases hz
        · cases hz
      · cases hz
    · cases h
  · cases h

theorem stField_sound {T : TypeId} {p : IV} {pv : Value} {f : Nat} (hi : Inv X ρ H w) (hp : relI ρ p pv) (h : stField P T p f = some (c, v, W)) :
    StepOK P X ρ (do pure (.value (← Instr.fieldAt T pv f))) w v H W := by
  unfold stField at h
  split at h
  · rename_i ci i o off fs hoff
    cases h
    obtain ⟨b, base, sz, lim, hρ, rfl⟩ := hp
    unfold offT at hoff
    split at hoff
    · rename_i flds hu
      split at hoff
      · rename_i fl hf
        split at hoff
        · rename_i inf hinf
          split at hoff
          · cases hoff
          · rename_i hne
            cases hoff
            refine StepOK.pure hi (x := .pointer (some ⟨b, base + i * sz + (o + fl.offset), none⟩)) ⟨b, base, sz, lim, hρ, rfl⟩ ?_
            have hs : szT P fl.type = some inf.size := by simp [szT, hinf]
            simp [Instr.fieldAt, run_underlying' P w hu, hf, Instr.sureAddr, fieldPlace, run_sizeOf' P w hs, hne, addr_add, Nat.add_assoc]
        · cases hoff
      · cases hoff
    · cases hoff
  · cases h

theorem relT.get {ρ : Ren} : ∀ {l : List IV} {vs : List Value} {i : Nat} {x : IV}, relT ρ l vs → l[i]? = some x → ∃ v, vs[i]? = some v ∧ relC ρ x v
  | [], [], i, x, _, h => by simp at h
  | y :: l, v :: vs, 0, x, h, hi => by simp at hi; subst hi; exact ⟨v, by simp, h.1⟩
  | y :: l, v :: vs, i + 1, x, h, hi => by simp at hi; obtain ⟨u, hu, hr⟩ := h.2.get hi; exact ⟨u, by simpa using hu, hr⟩
  | [], _ :: _, _, _, h, _ => h.elim
  | _ :: _, [], _, _, h, _ => h.elim

theorem relC.toI {ρ : Ren} {x : IV} {v : Value} (h : relC ρ x v) : relI ρ x v := by
  cases x with
  | t l => exact h.elim
  | _ => exact h

theorem stExtract_sound {x : IV} {xv : Value} {i : Nat} (hi : Inv X ρ H w) (hx : relI ρ x xv) (h : stExtract x i = some (c, v, W)) :
    StepOK P X ρ (do pure (.value (← Instr.extract xv i))) w v H W := by
  unfold stExtract at h
  split at h
  · rename_i l
    split at h
    · rename_i y hy
      cases h
      obtain ⟨vs, rfl, hr⟩ := hx
      obtain ⟨u, hu, hrel⟩ := hr.get hy
      refine StepOK.pure hi (x := u) hrel.toI ?_
      simp [Instr.extract, hu]
    · cases h
  · cases h
end
end Go.Ev

/- Structs and arrays held against one another, cell by cell. -/
namespace Go.Ev
open Go.RowKit

/-- What compares cell by cell: the kinds of an aggregate's cells. -/
inductive Leaf where
  | int (k : IntKind) | bool | string
  deriving DecidableEq

def leafEq : Leaf → SV → SV → Option Bool
  | .int k, .raw (.int k1 a), .raw (.int k2 b) => if k1 = k ∧ k2 = k then some (a == b) else none
  | .bool, .raw (.bool a), .raw (.bool b) => some (a == b)
  | .string, .raw (.string a), .raw (.string b) => some (a.toList == b.toList)
  | _, _, _ => none

theorem leafEq_int {k : IntKind} {x y : SV} {b : Bool} (h : leafEq (.int k) x y = some b) : ∃ a c, x = .raw (.int k a) ∧ y = .raw (.int k c) ∧ b = (a == c) := by
  unfold leafEq at h
  split at h <;> first
    | (split at h
       · rename_i e hk; cases e; cases h; obtain ⟨rfl, rfl⟩ := hk; exact ⟨_, _, rfl, rfl, rfl⟩
       · cases h)
    | (rename_i e; cases e; done)
    | (cases h; done)
theorem leafEq_bool {x y : SV} {b : Bool} (h : leafEq .bool x y = some b) : ∃ a c, x = .raw (.bool a) ∧ y = .raw (.bool c) ∧ b = (a == c) := by
  unfold leafEq at h
  split at h <;> first
    | (rename_i e; cases e; done)
    | (cases h; exact ⟨_, _, rfl, rfl, rfl⟩)
    | (cases h; done)
theorem leafEq_string {x y : SV} {b : Bool} (h : leafEq .string x y = some b) : ∃ a c, x = .raw (.string a) ∧ y = .raw (.string c) ∧ b = (a.toList == c.toList) := by
  unfold leafEq at h
  split at h <;> first
    | (rename_i e; cases e; done)
    | (cases h; exact ⟨_, _, rfl, rfl, rfl⟩)
    | (cases h; done)

def cellsEq : List Leaf → List SV → List SV → Option Bool
  | [], [], [] => some true
  | t :: ts, x :: xs, y :: ys => match leafEq t x y with
    | some b => match cellsEq ts xs ys with
      | some c => some (b && c)
      | none => none
    | none => none
  | _, _, _ => none

mutual
def leavesOf (P : Program) : Nat → TypeId → Option (List Leaf)
  | 0, _ => none
  | d + 1, t => match P.underlying t with
    | some (.int k) => some [.int k]
    | some .bool => some [.bool]
    | some .string => some [.string]
    | some (.array n e) => match leavesOf P d e with
      | some l => if szT P e = some l.length ∧ szT P t = some (n * l.length) then some (List.replicate n l).flatten else none
      | none => none
    | some (.struct fs) => if P.stoodInHeld t then none else match leavesFields P d 0 fs.toList with
      | some ls => if szT P t = some ls.length then some ls else none
      | none => none
    | _ => none
def leavesFields (P : Program) : Nat → Nat → List Field → Option (List Leaf)
  | 0, _, _ => none
  | d + 1, off, fs => match fs with
    | [] => some []
    | f :: fs => if f.name ≠ "_" ∧ f.offset = off then match leavesOf P d f.type with
      | some a => if szT P f.type = some a.length then match leavesFields P d (off + a.length) fs with
        | some b => some (a ++ b)
        | none => none
        else none
      | none => none
      else none
end

def pack (P : Program) (t : TypeId) (vs : List Value) : Value := if aggT P t = some true then .agg vs.toArray else vs.headD undef

theorem cellsEq_append : ∀ {l1 l2 : List Leaf} {xs ys : List SV} {b : Bool}, cellsEq (l1 ++ l2) xs ys = some b →
    ∃ x1 x2 y1 y2 b1 b2, xs = x1 ++ x2 ∧ ys = y1 ++ y2 ∧ x1.length = l1.length ∧ y1.length = l1.length ∧ cellsEq l1 x1 y1 = some b1 ∧ cellsEq l2 x2 y2 = some b2 ∧ b = (b1 && b2)
  | [], l2, xs, ys, b, h => ⟨[], xs, [], ys, true, b, rfl, rfl, rfl, rfl, rfl, h, by simp⟩
  | t :: l1, l2, x :: xs, y :: ys, b, h => by
    simp only [List.cons_append, cellsEq] at h
    split at h
    · rename_i b0 hb0
      split at h
      · rename_i c hc
        cases h
        obtain ⟨x1, x2, y1, y2, b1, b2, rfl, rfl, hx, hy, h1, h2, rfl⟩ := cellsEq_append hc
        exact ⟨x :: x1, x2, y :: y1, y2, b0 && b1, b2, rfl, rfl, by simp [hx], by simp [hy], by simp [cellsEq, hb0, h1], h2, by simp [Bool.and_assoc]⟩
      · cases h
    · cases h
  | _ :: _, _, [], _, _, h => by simp [cellsEq] at h
  | _ :: _, _, _ :: _, [], _, h => by simp [cellsEq] at h

theorem cellsEq_len : ∀ {l : List Leaf} {xs ys : List SV} {b : Bool}, cellsEq l xs ys = some b → xs.length = l.length ∧ ys.length = l.length
  | l, xs, ys, b, h => by
    have := cellsEq_append (l1 := l) (l2 := []) (xs := xs) (ys := ys) (b := b) (by simpa using h)
    obtain ⟨x1, x2, y1, y2, b1, b2, rfl, rfl, hx, hy, _, h2, _⟩ := this
    match x2, y2, h2 with
    | [], [], _ => simp [hx, hy]

theorem relL_append {ρ : Ren} : ∀ {x1 x2 : List SV} {vs : List Value}, relL ρ (x1 ++ x2) vs → ∃ v1 v2, vs = v1 ++ v2 ∧ relL ρ x1 v1 ∧ relL ρ x2 v2
  | [], x2, vs, h => ⟨[], vs, rfl, trivial, h⟩
  | x :: x1, x2, v :: vs, h => by
    obtain ⟨v1, v2, rfl, h1, h2⟩ := relL_append h.2
    exact ⟨v :: v1, v2, rfl, ⟨h.1, h1⟩, h2⟩
  | _ :: _, _, [], h => h.elim

theorem relL.append {ρ : Ren} : ∀ {x1 x2 : List SV} {v1 v2 : List Value}, relL ρ x1 v1 → relL ρ x2 v2 → relL ρ (x1 ++ x2) (v1 ++ v2)
  | [], _, [], _, _, h => h
  | _ :: _, _, _ :: _, _, h, h2 => ⟨h.1, h.2.append h2⟩
  | [], _, _ :: _, _, h, _ => h.elim
  | _ :: _, _, [], _, h, _ => h.elim

section
variable {P : Program} {w : World}

theorem part_run {t : TypeId} {pre mid post : List Value} {ag : Bool} (hag : aggT P t = some ag) (hs : szT P t = some mid.length) (h1 : ag = false → mid.length = 1) :
    (part t (pre ++ mid ++ post).toArray pre.length).run P w = .ok (pack P t mid) w := by
  unfold part
  simp only [Sem.run_bind, run_isAgg' P w hag, Result.andThen_ok]
  cases ag with
  | true =>
    simp only [if_true, run_sizeOf' P w hs, Sem.run_bind, Result.andThen_ok, Sem.run_pure, pack, hag]
    congr 2
    apply Array.ext'
    simp
  | false =>
    obtain ⟨v, rfl⟩ := List.length_eq_one_iff.1 (h1 rfl)
    simp [pack, hag]

theorem aggT_leaf {d : Nat} {t : TypeId} {l : List Leaf} (h : leavesOf P d t = some l) : ∃ ag, aggT P t = some ag ∧ (ag = false → l.length = 1) := by
  cases d with
  | zero => simp [leavesOf] at h
  | succ d =>
    unfold leavesOf at h
    unfold aggT
    split at h
    · rename_i hu; simp [hu]; cases h; rfl
    · rename_i hu; simp [hu]; cases h; rfl
    · rename_i hu; simp [hu]; cases h; rfl
    · rename_i hu; simp [hu]
    · rename_i hu; simp [hu]
    · cases h

theorem cellsOf_of {t : TypeId} {n : Nat} (h : szT P t = some n) : P.cellsOf t = n := by
  unfold szT at h
  cases hi : P.info? t with
  | none => simp [hi] at h
  | some i => simp [hi] at h; simp [Program.cellsOf, hi, h]

mutual
theorem eq_leaves {ρ : Ren} : ∀ (d : Nat) (t : TypeId) (ls : List Leaf), leavesOf P d t = some ls → ∀ (D : Nat), d ≤ D → ∀ (xs ys : List SV) (vs us : List Value) (b : Bool),
    relL ρ xs vs → relL ρ ys us → cellsEq ls xs ys = some b → (Op.equalIn D t (pack P t vs) (pack P t us)).run P w = .ok b w
  | 0, t, ls, h, _, _, _, _, _, _, _, _, _, _ => by simp [leavesOf] at h
  | d + 1, t, ls, h, D, hD, xs, ys, vs, us, b, hx, hy, he => by
    obtain ⟨D, rfl⟩ : ∃ D', D = D' + 1 := ⟨D - 1, by omega⟩
    have leaf : ∀ {l : Leaf}, ls = [l] → aggT P t = some false → (∀ (x y : SV) (v u : Value) (b : Bool), leafEq l x y = some b → relS ρ x v → relS ρ y u → (Op.equalIn (D + 1) t v u).run P w = .ok b w) →
        (Op.equalIn (D + 1) t (pack P t vs) (pack P t us)).run P w = .ok b w := by
      rintro l rfl hag k
      obtain ⟨h1, h2⟩ := cellsEq_len he
      obtain ⟨x, rfl⟩ := List.length_eq_one_iff.1 h1
      obtain ⟨y, rfl⟩ := List.length_eq_one_iff.1 h2
      obtain ⟨v, rfl⟩ := List.length_eq_one_iff.1 hx.len
      obtain ⟨u, rfl⟩ := List.length_eq_one_iff.1 hy.len
      simp only [cellsEq] at he
      split at he
      · rename_i b0 hb0
        simp at he
        subst he
        simp only [pack, hag]
        exact k x y v u b0 hb0 hx.1 hy.1
      · cases he
    unfold leavesOf at h
    split at h
    · rename_i k hu
      cases h
      refine leaf rfl (by simp [aggT, hu]) fun x y v u b hl h1 h2 => ?_
      obtain ⟨a, c, rfl, rfl, rfl⟩ := leafEq_int hl
      obtain ⟨rfl, _⟩ := h1; obtain ⟨rfl, _⟩ := h2
      simp [Op.equalIn, run_underlying' P w hu]
    · rename_i hu
      cases h
      refine leaf rfl (by simp [aggT, hu]) fun x y v u b hl h1 h2 => ?_
      obtain ⟨a, c, rfl, rfl, rfl⟩ := leafEq_bool hl
      obtain ⟨rfl, _⟩ := h1; obtain ⟨rfl, _⟩ := h2
      simp [Op.equalIn, run_underlying' P w hu]
    · rename_i hu
      cases h
      refine leaf rfl (by simp [aggT, hu]) fun x y v u b hl h1 h2 => ?_
      obtain ⟨a, c, rfl, rfl, rfl⟩ := leafEq_string hl
      obtain ⟨rfl, _⟩ := h1; obtain ⟨rfl, _⟩ := h2
      simp [Op.equalIn, run_underlying' P w hu, beq_toListBytes]
    · rename_i n e hu
      split at h
      · rename_i l hl
        split at h
        · rename_i hsz2
          have hsz := hsz2.1
          cases h
          have hag : aggT P t = some true := by simp [aggT, hu]
          simp only [pack, hag, if_true]
          have hinfo : ∃ i, P.info? e = some i := by
            unfold szT at hsz
            cases hi : P.info? e with
            | none => simp [hi] at hsz
            | some i => exact ⟨i, rfl⟩
          obtain ⟨i, hi⟩ := hinfo
          rw [run_equalIn_array (P := P) w D vs.toArray us.toArray hu hi, cellsOf_of hsz, List.range_eq_range']
          obtain ⟨ag, hage, h1⟩ := aggT_leaf hl
          -- the items, from the i-th on
          have items : ∀ (n : Nat) (pv pu vs us : List Value) (xs ys : List SV) (k : Nat) (b : Bool), pv.length = k * l.length → pu.length = k * l.length → relL ρ xs vs → relL ρ ys us → cellsEq (List.replicate n l).flatten xs ys = some b →
              (Op.eqItems D e l.length (pv ++ vs).toArray (pu ++ us).toArray (List.range' k n)).run P w = .ok b w := by
            intro n
            induction n with
            | zero =>
              intro pv pu vs us xs ys k b _ _ _ _ hc
              have := cellsEq_len hc
              simp at this
              obtain ⟨rfl, rfl⟩ := this
              simp [cellsEq] at hc; subst hc
              simp [Op.eqItems]
            | succ n ih =>
              intro pv pu vs us xs ys k b hpv hpu hx hy hc
              rw [List.replicate_succ, List.flatten_cons] at hc
              obtain ⟨x1, x2, y1, y2, b1, b2, rfl, rfl, hlx, hly, hc1, hc2, rfl⟩ := cellsEq_append hc
              obtain ⟨v1, v2, rfl, hv1, hv2⟩ := relL_append hx
              obtain ⟨u1, u2, rfl, hu1, hu2⟩ := relL_append hy
              have ev1 : v1.length = l.length := by rw [hv1.len, hlx]
              have eu1 : u1.length = l.length := by rw [hu1.len, hly]
              have p1 := part_run (P := P) (w := w) (t := e) (pre := pv) (mid := v1) (post := v2) hage (by rw [ev1]; exact hsz) (fun h => by rw [ev1]; exact h1 h)
              have p2 := part_run (P := P) (w := w) (t := e) (pre := pu) (mid := u1) (post := u2) hage (by rw [eu1]; exact hsz) (fun h => by rw [eu1]; exact h1 h)
              rw [hpv, List.append_assoc] at p1
              rw [hpu, List.append_assoc] at p2
              have p3 := eq_leaves d e l hl D (by omega) x1 y1 v1 u1 b1 hv1 hu1 hc1
              have p4 := ih (pv ++ v1) (pu ++ u1) v2 u2 x2 y2 (k + 1) b2 (by simp [hpv, ev1, Nat.add_mul]) (by simp [hpu, eu1, Nat.add_mul]) hv2 hu2 hc2
              simp only [List.append_assoc] at p4
              rw [List.range'_succ]
              simp only [Op.eqItems, Sem.run_bind, p1, p2, p3, Result.andThen_ok]
              cases b1
              · simp
              · simpa using p4
          exact items n [] [] vs us xs ys 0 b (by simp) (by simp) hx hy he
        · cases h
      · cases h
    · rename_i fs hu
      split at h
      · cases h
      · rename_i hst
        have hag : aggT P t = some true := by simp [aggT, hu]
        simp only [pack, hag, if_true]
        have hf : P.fieldsOf t = fs := by simp [Program.fieldsOf, hu]
        rw [run_equalIn_struct (P := P) w D t vs.toArray us.toArray (by rw [hf]; exact hu) (by simpa using hst), hf]
        split at h
        · rename_i ls' hls
          split at h
          · cases h
            exact eq_fields d 0 fs.toList ls hls D (by omega) [] [] xs ys vs us b rfl rfl hx hy he
          · cases h
        · cases h
    · cases h
theorem eq_fields {ρ : Ren} : ∀ (d off : Nat) (fs : List Field) (ls : List Leaf), leavesFields P d off fs = some ls → ∀ (D : Nat), d ≤ D → ∀ (pv pu : List Value) (xs ys : List SV) (vs us : List Value) (b : Bool),
    pv.length = off → pu.length = off → relL ρ xs vs → relL ρ ys us → cellsEq ls xs ys = some b → (Op.eqFields D (pv ++ vs).toArray (pu ++ us).toArray fs).run P w = .ok b w
  | 0, off, fs, ls, h, _, _, _, _, _, _, _, _, _, _, _, _, _, _ => by simp [leavesFields] at h
  | d + 1, off, [], ls, h, D, _, pv, pu, xs, ys, vs, us, b, _, _, hx, hy, he => by
    simp [leavesFields] at h; subst h
    have := cellsEq_len he
    simp at this
    obtain ⟨rfl, rfl⟩ := this
    simp [cellsEq] at he; subst he
    simp [Op.eqFields]
  | d + 1, off, f :: fs, ls, h, D, hD, pv, pu, xs, ys, vs, us, b, hpv, hpu, hx, hy, he => by
    unfold leavesFields at h
    simp only at h
    split at h
    · rename_i hfo
      split at h
      · rename_i l hl
        split at h
        · rename_i hsz
          split at h
          · rename_i l2 hl2
            cases h
            obtain ⟨x1, x2, y1, y2, b1, b2, rfl, rfl, hlx, hly, hc1, hc2, rfl⟩ := cellsEq_append he
            obtain ⟨v1, v2, rfl, hv1, hv2⟩ := relL_append hx
            obtain ⟨u1, u2, rfl, hu1, hu2⟩ := relL_append hy
            have ev1 : v1.length = l.length := by rw [hv1.len, hlx]
            have eu1 : u1.length = l.length := by rw [hu1.len, hly]
            obtain ⟨ag, hage, h1⟩ := aggT_leaf hl
            have p1 := part_run (P := P) (w := w) (t := f.type) (pre := pv) (mid := v1) (post := v2) hage (by rw [ev1]; exact hsz) (fun h => by rw [ev1]; exact h1 h)
            have p2 := part_run (P := P) (w := w) (t := f.type) (pre := pu) (mid := u1) (post := u2) hage (by rw [eu1]; exact hsz) (fun h => by rw [eu1]; exact h1 h)
            rw [hpv, List.append_assoc, ← hfo.2] at p1
            rw [hpu, List.append_assoc, ← hfo.2] at p2
            have p3 := eq_leaves d f.type l hl D (by omega) x1 y1 v1 u1 b1 hv1 hu1 hc1
            have p4 := eq_fields d (off + l.length) fs l2 hl2 D (by omega) (pv ++ v1) (pu ++ u1) x2 y2 v2 u2 b2 (by simp [hpv, ev1]) (by simp [hpu, eu1]) hv2 hu2 hc2
            simp only [List.append_assoc] at p4
            simp only [Op.eqFields, if_pos hfo.1, Sem.run_bind, p1, p2, p3, Result.andThen_ok]
            cases b1
            · simp
            · simpa using p4
          · cases h
        · cases h
      · cases h
    · cases h
end
end
end Go.Ev

/- Arithmetic, comparisons, conversions, indexes, ideally. -/
namespace Go.Ev
open Go.RowKit

/-! #### bits, by names -/
def bAnd (k : IntKind) (a b : Int) : Int := k.wrap ((BitVec.ofInt k.bits a &&& BitVec.ofInt k.bits b).toNat : Int)
def bOr (k : IntKind) (a b : Int) : Int := k.wrap ((BitVec.ofInt k.bits a ||| BitVec.ofInt k.bits b).toNat : Int)
def bXor (k : IntKind) (a b : Int) : Int := k.wrap ((BitVec.ofInt k.bits a ^^^ BitVec.ofInt k.bits b).toNat : Int)
def bAndNot (k : IntKind) (a b : Int) : Int := k.wrap ((BitVec.ofInt k.bits a &&& ~~~(BitVec.ofInt k.bits b)).toNat : Int)
def shL (k : IntKind) (a b : Int) : Int := k.wrap (a * 2 ^ (min b.toNat k.bits))
def shR (k : IntKind) (a b : Int) : Int := a.fdiv (2 ^ (min b.toNat k.bits))

def binInt (op : BinOp) (k : IntKind) (a b : Int) : Option (Prop × SV) :=
  match op with
  | .add => some (True, .raw (.int k (k.wrap (a + b))))
  | .sub => some (True, .raw (.int k (k.wrap (a - b))))
  | .mul => some (True, .raw (.int k (k.wrap (a * b))))
  | .quo => some (b ≠ 0, .raw (.int k (k.wrap (a.tdiv b))))
  | .rem => some (b ≠ 0, .raw (.int k (a.tmod b)))
  | .and => some (True, .raw (.int k (bAnd k a b)))
  | .or => some (True, .raw (.int k (bOr k a b)))
  | .xor => some (True, .raw (.int k (bXor k a b)))
  | .andNot => some (True, .raw (.int k (bAndNot k a b)))
  | .shl => some (0 ≤ b, .raw (.int k (shL k a b)))
  | .shr => some (0 ≤ b, .raw (.int k (shR k a b)))
  | .eql => some (True, .raw (.bool (a == b)))
  | .neq => some (True, .raw (.bool (a != b)))
  | .lss => some (True, .raw (.bool (a < b)))
  | .leq => some (True, .raw (.bool (a ≤ b)))
  | .gtr => some (True, .raw (.bool (b < a)))
  | .geq => some (True, .raw (.bool (b ≤ a)))

/-- Are two strings one? -/
def strEq (a b : ByteArray) : Bool := a.toList == b.toList
def strLt (a b : ByteArray) : Bool := Op.bytesLess a.toList b.toList

def binStr (op : BinOp) (a b : ByteArray) : Option (Prop × SV) :=
  match op with
  | .add => some (((a.size + b.size : Nat) : Int) ≤ 9223372036854775807, .raw (.string (a ++ b)))
  | .eql => some (True, .raw (.bool (strEq a b)))
  | .neq => some (True, .raw (.bool (!strEq a b)))
  | .lss => some (True, .raw (.bool (strLt a b)))
  | .leq => some (True, .raw (.bool (strLt a b || strEq a b)))
  | .gtr => some (True, .raw (.bool (!(strLt a b || strEq a b))))
  | .geq => some (True, .raw (.bool (!strLt a b)))
  | _ => none

/-- Equality of what is no number and no string: bools, aggregates, a pointer and nil. -/
def eqI (P : Program) (T : TypeId) (x y : IV) : Option Bool :=
  match x, y with
  | .s (.raw (.bool a)), .s (.raw (.bool b)) => match P.underlying T with | some .bool => some (a == b) | _ => none
  | .a xs, .a ys => if aggT P T = some true ∧ P.eqGuardType P.depth T = false then match leavesOf P 60 T with
    | some ls => cellsEq ls xs ys
    | none => none
    else none
  | .s (.ptr _ _ _), .s (.raw (.pointer none)) => match P.underlying T with | some (.pointer _) => some false | _ => none
  | .s (.raw (.pointer none)), .s (.raw (.pointer none)) => match P.underlying T with | some (.pointer _) => some true | _ => none
  | _, _ => none

def stBin (P : Program) (op : BinOp) (T : TypeId) (x y : IV) : Res :=
  match x, y with
  | .s (.raw (.int k a)), .s (.raw (.int k' b)) =>
    match op with
    | .shl | .shr => match binInt op k a b with | some (c, v) => some (c, .s v, []) | none => none
    | _ => if k = k' then match binInt op k a b with | some (c, v) => some (c, .s v, []) | none => none else none
  | .s (.raw (.string a)), .s (.raw (.string b)) => match binStr op a b with | some (c, v) => some (c, .s v, []) | none => none
  | x, y => match op, eqI P T x y with
    | .eql, some b => some (True, .s (.raw (.bool b)), [])
    | .neq, some b => some (True, .s (.raw (.bool !b)), [])
    | _, _ => none

def stUn (op : UnOp) (x : IV) : Res :=
  match op, x with
  | .not, .s (.raw (.bool b)) => some (True, .s (.raw (.bool !b)), [])
  | .neg, .s (.raw (.int k n)) => some (True, .s (.raw (.int k (k.wrap (0 - n)))), [])
  | .xor, .s (.raw (.int k n)) => some (True, .s (.raw (.int k (bXor k (if k.signed then -1 else k.max) n))), [])
  | _, _ => none

def stConv (P : Program) (src dst : TypeId) (x : IV) : Res :=
  match x with
  | .s (.raw (.int _ n)) => match P.underlying src, P.underlying dst with
    | some (.int _), some (.int k) => some (True, .s (.raw (.int k (k.wrap n))), [])
    | _, _ => none
  | _ => none

def stNilCheck (x : IV) : Res :=
  match x with
  | .s (.ptr c i o) => some (True, .s (.ptr c i o), [])
  | .s (.raw (.func (.func f) u v)) => some (True, .s (.raw (.func (.func f) u v)), [])
  | _ => none

section
variable {P : Program} {X : Ctx} {ρ : Ren} {H : Heap} {W : List (Nat × Chunk)} {w : World} {n : Nat} {tm : TM} {a : Act} {c : Prop} {v : IV}

theorem binInt_run {op : BinOp} {k : IntKind} {x y : Int} {v : SV} (T : TypeId) (k' : IntKind) (hk : k = k' ∨ op = .shl ∨ op = .shr) (h : binInt op k x y = some (c, v)) (hc : c) :
    ∃ u, v = .raw u ∧ u.oneCell' = true ∧ (binOp op T (.int k x) (.int k' y)).run P w = .ok u w := by
  unfold binInt at h
  split at h <;> first
    | (cases h
       rcases hk with rfl | hk | hk
       · refine ⟨_, rfl, rfl, ?_⟩
         first
           | (simp [binOp, Op.intArith]; done)
           | (simp [binOp, Op.intDiv, hc]; done)
           | (simp [binOp, Op.intBits, bAnd, bOr, bXor, bAndNot]; done)
           | (simp [binOp, Op.intCmp]; done)
           | (simp only [binOp, Op.shift]; rw [if_neg (by omega)]; rfl)
       · first
           | (cases hk; done)
           | (refine ⟨_, rfl, rfl, ?_⟩; simp only [binOp, Op.shift]; rw [if_neg (by omega)]; rfl)
       · first
           | (cases hk; done)
           | (refine ⟨_, rfl, rfl, ?_⟩; simp only [binOp, Op.shift]; rw [if_neg (by omega)]; rfl))
    | cases h

theorem run_eq_ptr_nil (d : Nat) {T e : TypeId} (a : Addr) (hu : P.underlying T = some (.pointer e)) : (Op.equalIn (d + 1) T (.pointer (some a)) (.pointer none)).run P w = .ok false w := by
  simp [Op.equalIn, run_underlying' P w hu]
theorem run_eq_nil_nil (d : Nat) {T e : TypeId} (hu : P.underlying T = some (.pointer e)) : (Op.equalIn (d + 1) T (.pointer none) (.pointer none)).run P w = .ok true w := by
  simp [Op.equalIn, run_underlying' P w hu]

theorem eqI_run {T : TypeId} {x y : IV} {xv yv : Value} {ox oy : Operand} {b : Bool} (hx : relI ρ x xv) (hy : relI ρ y yv) (h : eqI P T x y = some b) :
    (∀ op, (eqGuard op T ox oy xv yv).run P w = .ok () w) ∧ (binOp .eql T xv yv).run P w = .ok (.bool b) w ∧ (binOp .neq T xv yv).run P w = .ok (.bool !b) w := by
  unfold eqI at h
  split at h
  · rename_i p q
    obtain ⟨rfl, _⟩ := hx
    obtain ⟨rfl, _⟩ := hy
    split at h
    · rename_i hu
      cases h
      have e : (Op.equal T (.bool p) (.bool q)).run P w = .ok (p == q) w := run_equalIn_bool' w 9999 T p q hu
      exact ⟨fun op => by unfold eqGuard; split <;> rfl, by simp only [binOp, Sem.run_bind, e]; rfl, by simp only [binOp, Sem.run_bind, e]; rfl⟩
    · cases h
  · rename_i xs ys
    obtain ⟨vs, rfl, hx⟩ := hx
    obtain ⟨us, rfl, hy⟩ := hy
    split at h
    · rename_i hc
      split at h
      · rename_i ls hls
        have e := eq_leaves (P := P) (w := w) 60 T ls hls 10000 (by omega) xs ys vs us b hx hy h
        simp only [pack, hc.1, if_true] at e
        refine ⟨fun op => run_eqGuard_agg w op T ox oy _ _ hc.2, ?_, ?_⟩
        · rw [run_eql_struct, e]; rfl
        · rw [run_neq_struct, e]; rfl
      · cases h
    · cases h
  · rename_i ci i o
    obtain ⟨b', base, sz, lim, hρ, rfl⟩ := hx
    obtain ⟨rfl, _⟩ := hy
    split at h
    · rename_i e hu
      cases h
      have e := run_eq_ptr_nil (P := P) (w := w) 9999 (T := T) ⟨b', base + i * sz + o, none⟩ hu
      replace e : (Op.equal T _ _).run P w = _ := e
      exact ⟨fun op => by unfold eqGuard; split <;> rfl, by simp only [binOp, Sem.run_bind, e]; rfl, by simp only [binOp, Sem.run_bind, e]; rfl⟩
    · cases h
  · obtain ⟨rfl, _⟩ := hx
    obtain ⟨rfl, _⟩ := hy
    split at h
    · rename_i e hu
      cases h
      have e := run_eq_nil_nil (P := P) (w := w) 9999 (T := T) hu
      replace e : (Op.equal T _ _).run P w = _ := e
      exact ⟨fun op => by unfold eqGuard; split <;> rfl, by simp only [binOp, Sem.run_bind, e]; rfl, by simp only [binOp, Sem.run_bind, e]; rfl⟩
    · cases h
  · cases h

theorem stBin_sound {op : BinOp} {T : TypeId} {x y : IV} {xv yv : Value} {ox oy : Operand} (hi : Inv X ρ H w) (hx : relI ρ x xv) (hy : relI ρ y yv) (h : stBin P op T x y = some (c, v, W)) (hc : c) :
    StepOK P X ρ (do pure (.value (← (do eqGuard op T ox oy xv yv; binOp op T xv yv)))) w v H W := by
  have guard : ∀ {u1 u2 : Value}, (u1.oneCell' = true) → u1 ≠ .nilIface → (eqGuard op T ox oy u1 u2).run P w = .ok () w := by
    intro u1 u2 h1 h2
    unfold eqGuard
    cases u1 <;> first | (exact absurd rfl h2) | (cases h1; done) | (split <;> rfl)
  unfold stBin at h
  split at h
  · rename_i k x k' y
    obtain ⟨rfl, _⟩ := hx
    obtain ⟨rfl, _⟩ := hy
    have g := guard (u1 := .int k x) (u2 := .int k' y) rfl (by simp)
    have fin : ∀ {s : SV}, (k = k' ∨ op = .shl ∨ op = .shr) → binInt op k x y = some (c, s) → v = .s s → W = [] → StepOK P X ρ (do pure (.value (← (do eqGuard op T ox oy (.int k x) (.int k' y); binOp op T (.int k x) (.int k' y))))) w v H W := by
      rintro s hk hb rfl rfl
      obtain ⟨u, rfl, hu, hrun⟩ := binInt_run (P := P) (w := w) T k' hk hb hc
      refine StepOK.pure hi (x := u) ⟨rfl, hu⟩ ?_
      simp [g, hrun]
    split at h
    · split at h
      · rename_i heq; cases h; exact fin (.inr (.inl rfl)) heq rfl rfl
      · cases h
    · split at h
      · rename_i heq; cases h; exact fin (.inr (.inr rfl)) heq rfl rfl
      · cases h
    · split at h
      · rename_i hk
        split at h
        · rename_i heq; cases h; exact fin (.inl hk) heq rfl rfl
        · cases h
      · cases h
  · rename_i x y
    obtain ⟨rfl, _⟩ := hx
    obtain ⟨rfl, _⟩ := hy
    have g := guard (u1 := .string x) (u2 := .string y) rfl (by simp)
    split at h
    · rename_i heq
      cases h
      unfold binStr at heq
      split at heq <;> first
        | (cases heq
           refine StepOK.pure hi ⟨rfl, rfl⟩ ?_
           simp only [Sem.run_bind, g, Result.andThen_ok, binOp, Op.stringOp, strEq, strLt]
           first
             | (simp; done)
             | (rw [if_neg (by rw [show IntKind.i64.max = 9223372036854775807 from rfl]; omega)]; rfl))
        | (cases heq; done)
    · cases h
  · split at h <;> first
      | (rename_i b heq
         cases h
         obtain ⟨h1, h2⟩ := eqI_run (ox := ox) (oy := oy) (w := w) hx hy heq
         refine StepOK.pure hi ⟨rfl, rfl⟩ ?_
         simp [h1 .eql, h1 .neq, h2])
      | (cases h; done)

theorem stUn_sound {op : UnOp} {x : IV} {xv : Value} (hi : Inv X ρ H w) (hx : relI ρ x xv) (h : stUn op x = some (c, v, W)) :
    StepOK P X ρ (do pure (.value (← Op.unary op xv))) w v H W := by
  unfold stUn at h
  split at h <;> first
    | (cases h; obtain ⟨rfl, _⟩ := hx; exact StepOK.pure hi ⟨rfl, rfl⟩ (by simp [Op.unary, Op.intArith, Op.intBits, bXor]))
    | cases h

theorem stConv_sound {src dst : TypeId} {x : IV} {xv : Value} (hi : Inv X ρ H w) (hx : relI ρ x xv) (h : stConv P src dst x = some (c, v, W)) :
    StepOK P X ρ (do pure (.value (← convert src dst xv))) w v H W := by
  unfold stConv at h
  split at h
  · split at h
    · rename_i k0 k h1 h2
      cases h
      obtain ⟨rfl, _⟩ := hx
      exact StepOK.pure hi ⟨rfl, rfl⟩ (by simp [convert, run_underlying' P w h1, run_underlying' P w h2, Conv.intToInt])
    · cases h
  · cases h

theorem stNilCheck_sound {x : IV} {xv : Value} {o : Operand} {dst : Option Tmp} {t : TypeId} {pos : String} {af : Array Edge} {g : Option (Nat × Bool)} {ev : Operand → Value} (hev : ev o = xv) (hi : Inv X ρ H w) (hx : relI ρ x xv) (h : stNilCheck x = some (c, v, W)) :
    StepOK P X ρ (execOp ev ⟨dst, .nilCheck o, t, pos, af, g⟩) w v H W := by
  unfold stNilCheck at h
  split at h
  · cases h
    have hx' := hx
    obtain ⟨b, base, sz, lim, hρ, rfl⟩ := hx'
    exact StepOK.pure hi hx (by simp [execOp, hev])
  · cases h
    obtain ⟨rfl, _⟩ := hx
    exact StepOK.pure hi ⟨rfl, rfl⟩ (by simp [execOp, hev])
  · cases h
end
end Go.Ev

/- Fields, indexes, lengths, literals, ideally. -/
namespace Go.Ev
open Go.RowKit

/-- A part of an aggregate: where it lies, how many cells it has, whether it is an aggregate itself. -/
def partT (P : Program) (T : TypeId) : Option (Nat × Bool) :=
  match szT P T, aggT P T with
  | some n, some ag => if ag = false ∧ n ≠ 1 then none else some (n, ag)
  | _, _ => none
def fldT (P : Program) (T : TypeId) (f : Nat) : Option (Nat × Nat × Bool) :=
  match P.underlying T with
  | some (.struct fs) => match fs[f]? with
    | some f => match partT P f.type with
      | some (n, ag) => some (f.offset, n, ag)
      | none => none
    | none => none
  | _ => none
/-- An array's length, its elements' size and whether these are aggregates. -/
def arrT (P : Program) (T : TypeId) : Option (Nat × Nat × Bool) :=
  match P.underlying T with
  | some (.array n e) => match partT P e with
    | some (k, ag) => some (n, k, ag)
    | none => none
  | _ => none
/-- A slice's element size. -/
def slT (P : Program) (T : TypeId) : Option Nat :=
  match P.underlying T with
  | some (.slice e) => szT P e
  | _ => none
def strT (P : Program) (T : TypeId) : Bool :=
  match P.underlying T with
  | some .string => true
  | _ => false

def byteAt (s : ByteArray) (i : Nat) : Int := ((s.data[i]?).getD 0).toNat

def stFieldV (P : Program) (T : TypeId) (x : IV) (f : Nat) : Res :=
  match x, fldT P T f with
  | .a l, some (off, n, ag) => match seg l off n with
    | some r => some (True, ldIV ag r, [])
    | none => none
  | _, _ => none

def stIndex (P : Program) (T : TypeId) (x ix : IV) : Res :=
  match x, ix with
  | .a l, .s (.raw (.int _ i)) => match arrT P T with
    | some (n, k, ag) => match seg l (i.toNat * k) k with
      | some r => some (0 ≤ i ∧ i < n, ldIV ag r, [])
      | none => none
    | none => none
  | .s (.raw (.string s)), .s (.raw (.int _ i)) => if strT P T then some (0 ≤ i ∧ i < s.size, .s (.raw (.int .u8 (byteAt s i.toNat))), []) else none
  | _, _ => none

def stIndexAddr (P : Program) (T : TypeId) (x ix : IV) (H : Heap) : Res :=
  match x, ix with
  | .s (.ptr c i o), .s (.raw (.int _ j)) => match arrT P T with
    | some (n, k, _) => some (0 ≤ j ∧ j < n, .s (.ptr c i (o + j.toNat * k)), [])
    | none => none
  | .s (.slice c s n), .s (.raw (.int _ j)) => match H[c]?, slT P T with
    | some (.rows _ sz _), some k => if sz = k then some (0 ≤ j ∧ j < n, .s (.ptr c (s + j.toNat) 0), []) else none
    | _, _ => none
  | .s (.sub c i o k n), .s (.raw (.int _ j)) => if slT P T = some k then some (0 ≤ j ∧ j < n, .s (.ptr c i (o + j.toNat * k)), []) else none
  | _, _ => none

def stLen (P : Program) (t : TypeId) (x : IV) : Res :=
  match x with
  | .s (.slice _ _ n) => match slT P t with
    | some _ => some (True, .s (.raw (.int .i64 n)), [])
    | none => none
  | .s (.raw (.slice none 0 0)) => match slT P t with
    | some _ => some (True, .s (.raw (.int .i64 0)), [])
    | none => none
  | .s (.sub _ _ _ _ n) => match slT P t with
    | some _ => some (True, .s (.raw (.int .i64 n)), [])
    | none => none
  | .s (.raw (.string s)) => if strT P t then some (True, .s (.raw (.int .i64 s.size)), []) else none
  | _ => match P.underlying t with
    | some (.array n _) => some (True, .s (.raw (.int .i64 n)), [])
    | _ => none

def stMin : List IV → Res
  | [.s (.raw (.int k a)), .s (.raw (.int _ b))] => some (True, .s (.raw (.int k (if b < a then b else a))), [])
  | _ => none
def stMax : List IV → Res
  | [.s (.raw (.int k a)), .s (.raw (.int _ b))] => some (True, .s (.raw (.int k (if a < b then b else a))), [])
  | _ => none

/-- Where the i-th part of an aggregate stands. -/
def plT (P : Program) (T : TypeId) (i : Nat) : Option (Nat × Nat) :=
  match P.underlying T with
  | some (.struct fs) => match fs[i]? with
    | some f => match szT P f.type with
      | some n => some (f.offset, n)
      | none => none
    | none => none
  | some (.array _ e) => match szT P e with
    | some n => some (i * n, n)
    | none => none
  | _ => none

/-- All parts of an aggregate have their places (a struct's fields have sizes). -/
def plOk (P : Program) (T : TypeId) : Bool :=
  match P.underlying T with
  | some (.struct fs) => fs.toList.all fun f => (szT P f.type).isSome
  | some (.array _ e) => (szT P e).isSome
  | _ => false

def fillI (P : Program) (T : TypeId) : List (Nat × IV) → List SV → Option (List SV)
  | [], z => some z
  | (i, v) :: ps, z => match plT P T i with
    | some (off, n) => if v.cells.length = n ∧ n ≠ 0 then match spl z off v.cells with
      | some z' => fillI P T ps z'
      | none => none
      else none
    | none => none

def stBuild (P : Program) (T : TypeId) (ps : List (Nat × IV)) : Res :=
  if plOk P T then match zeroT P T with
    | some z => match fillI P T ps z with
      | some l => some (True, .a l, [])
      | none => none
    | none => none
  else none

def relA (ρ : Ren) : List IV → List Value → Prop
  | [], [] => True
  | x :: xs, v :: vs => relI ρ x v ∧ relA ρ xs vs
  | _, _ => False

section
variable {P : Program} {X : Ctx} {ρ : Ren} {H : Heap} {W : List (Nat × Chunk)} {w : World} {n : Nat} {tm : TM} {a : Act} {c : Prop} {v : IV}

theorem partT_spec {T : TypeId} {n : Nat} {ag : Bool} (h : partT P T = some (n, ag)) : szT P T = some n ∧ aggT P T = some ag ∧ (ag = false → n = 1) := by
  unfold partT at h
  split at h
  · rename_i m b h1 h2
    split at h
    · cases h
    · rename_i hne
      cases h
      exact ⟨h1, h2, fun e => Decidable.byContradiction fun e2 => hne ⟨e, e2⟩⟩
  · cases h

theorem part_seg {T : TypeId} {n off : Nat} {ag : Bool} {l r : List SV} {cs : List Value} (hp : partT P T = some (n, ag)) (hr : relL ρ l cs) (hs : seg l off n = some r) :
    ∃ x, (part T cs.toArray off).run P w = .ok x w ∧ relI ρ (ldIV ag r) x := by
  obtain ⟨h1, h2, h3⟩ := partT_spec hp
  obtain ⟨hl, hle, hget⟩ := seg_spec hs
  have hlen := hr.len
  have e : cs = cs.take off ++ (cs.drop off).take n ++ cs.drop (off + n) := by
    rw [List.append_assoc, ← List.drop_drop, List.take_append_drop, List.take_append_drop]
  have hmid : ((cs.drop off).take n).length = n := by simp; omega
  have hpre : (cs.take off).length = off := by simp; omega
  have hrel : relL ρ r ((cs.drop off).take n) := by
    refine relL_of_get (by rw [hmid, hl]) fun i x hx => ?_
    obtain ⟨v, hv, hrv⟩ := hr.get (hget i x hx)
    have hi : i < n := by have := (List.getElem?_eq_some_iff.1 hx).1; omega
    exact ⟨v, by rw [List.getElem?_take_of_lt hi, List.getElem?_drop]; exact hv, hrv⟩
  have hrun := part_run (P := P) (w := w) (t := T) (pre := cs.take off) (mid := (cs.drop off).take n) (post := cs.drop (off + n)) h2 (by rw [hmid]; exact h1) (fun e => by rw [hmid]; exact h3 e)
  rw [hpre, ← e] at hrun
  refine ⟨_, hrun, ?_⟩
  cases ag with
  | true => simp only [pack, h2, if_true, ldIV]; exact ⟨_, rfl, hrel⟩
  | false =>
    have hn := h3 rfl
    subst hn
    obtain ⟨x0, rfl⟩ := List.length_eq_one_iff.1 hl
    obtain ⟨v0, hv0⟩ := List.length_eq_one_iff.1 hmid
    rw [hv0] at hrel ⊢
    simp only [pack, h2, ldIV]
    exact hrel.1

theorem stFieldV_sound {T : TypeId} {x : IV} {xv : Value} {f : Nat} (hi : Inv X ρ H w) (hx : relI ρ x xv) (h : stFieldV P T x f = some (c, v, W)) :
    StepOK P X ρ (do pure (.value (← Instr.field T xv f))) w v H W := by
  unfold stFieldV at h
  split at h
  · rename_i l off n ag hf
    split at h
    · rename_i r hs
      cases h
      obtain ⟨cs, rfl, hr⟩ := hx
      unfold fldT at hf
      split at hf
      · rename_i fs hu
        split at hf
        · rename_i fl hfl
          split at hf
          · rename_i n' ag' hp
            cases hf
            obtain ⟨y, hrun, hy⟩ := part_seg (P := P) (w := w) hp hr hs
            refine StepOK.pure hi hy ?_
            simp [Instr.field, run_underlying' P w hu, hfl, asAgg, hrun]
          · cases hf
        · cases hf
      · cases hf
    · cases h
  · cases h

theorem stIndex_sound {T : TypeId} {x ix : IV} {xv iv : Value} (hi : Inv X ρ H w) (hx : relI ρ x xv) (hix : relI ρ ix iv) (h : stIndex P T x ix = some (c, v, W)) (hc : c) :
    StepOK P X ρ (do pure (.value (← Instr.index T xv iv))) w v H W := by
  unfold stIndex at h
  split at h
  · rename_i l k i
    obtain ⟨rfl, _⟩ := hix
    obtain ⟨cs, rfl, hr⟩ := hx
    split at h
    · rename_i n e ag ha
      split at h
      · rename_i r hs
        cases h
        unfold arrT at ha
        split at ha
        · rename_i n' el hu
          split at ha
          · rename_i n2 ag2 hp
            cases ha
            obtain ⟨y, hrun, hy⟩ := part_seg (P := P) (w := w) hp hr hs
            refine StepOK.pure hi hy ?_
            have hsz := run_sizeOf' P w (partT_spec hp).1
            simp [Instr.index, run_underlying' P w hu, asIntOf, hc, hsz, hrun]
          · cases ha
        · cases ha
      · cases h
    · cases h
  · rename_i s k i
    obtain ⟨rfl, _⟩ := hix
    obtain ⟨rfl, _⟩ := hx
    split at h
    · rename_i hs
      cases h
      have hu : P.underlying T = some .string := by
        unfold strT at hs
        split at hs
        · assumption
        · cases hs
      have hlt : i.toNat < s.size := by omega
      refine StepOK.pure hi (x := .int .u8 (byteAt s i.toNat)) ⟨rfl, rfl⟩ ?_
      have e : s[i.toNat]? = some (s[i.toNat]) := by
        exact getElem?_pos s i.toNat hlt
      have e2 : byteAt s i.toNat = (s[i.toNat]).toNat := by
        have hd : i.toNat < s.data.size := hlt
        simp only [byteAt, Array.getElem?_eq_getElem hd, Option.getD_some]; rfl
      simp [Instr.index, run_underlying' P w hu, asIntOf, hc.1, e, e2]
    · cases h
  · cases h

theorem stIndexAddr_sound {T : TypeId} {x ix : IV} {xv iv : Value} (hi : Inv X ρ H w) (hx : relI ρ x xv) (hix : relI ρ ix iv) (h : stIndexAddr P T x ix H = some (c, v, W)) (hc : c) :
    StepOK P X ρ (do pure (.value (← Instr.indexAt T xv iv))) w v H W := by
  unfold stIndexAddr at h
  split at h
  · rename_i ci i o k j
    obtain ⟨rfl, _⟩ := hix
    obtain ⟨b, base, sz, lim, hρ, rfl⟩ := hx
    split at h
    · rename_i n e ag ha
      cases h
      unfold arrT at ha
      split at ha
      · rename_i n' el hu
        split at ha
        · rename_i n2 ag2 hp
          cases ha
          refine StepOK.pure hi (x := .pointer (some ⟨b, base + i * sz + (o + j.toNat * e), none⟩)) ⟨b, base, sz, lim, hρ, rfl⟩ ?_
          have hsz := run_sizeOf' P w (partT_spec hp).1
          simp [Instr.indexAt, run_underlying' P w hu, asIntOf, Instr.sureAddr, hc, hsz, addr_add, Nat.add_assoc]
        · cases ha
      · cases ha
    · cases h
  · rename_i ci s n k j
    obtain ⟨rfl, _⟩ := hix
    split at h
    · rename_i own sz els e hH hsl
      split at h
      · rename_i hek
        cases h
        obtain ⟨l, hl, hsat⟩ := hi.sat ci _ hH
        unfold slT at hsl
        split at hsl
        · rename_i el hu
          have hsz := run_sizeOf' P w hsl
          rcases hx with ⟨hρ, rfl, rfl, rfl⟩ | ⟨b, base, sz', lim, cap, hρ, rfl, hle, hcap⟩ | ⟨b, base, sz', lim, off, hρ, rfl, rfl⟩
          · omega
          · rw [hρ] at hl; cases hl
            rcases hsat with ⟨h, _⟩ | ⟨b', base', lim', cells, T', lo, hi', he, _⟩
            · cases h
            · cases he
              refine StepOK.pure hi (x := .pointer (some ⟨b, base + (s + j.toNat) * sz + 0, none⟩)) ⟨b, base, sz, lim, hρ, rfl⟩ ?_
              subst hek
              simp [Instr.indexAt, run_underlying' P w hu, asIntOf, hc, hsz, addr_add, Nat.add_mul, Nat.add_assoc]
          · omega
        · cases hsl
      · cases h
    · cases h
  · rename_i ci i o k n k' j
    obtain ⟨rfl, _⟩ := hix
    split at h
    · rename_i hsl
      cases h
      unfold slT at hsl
      split at hsl
      · rename_i el hu
        have hsz := run_sizeOf' P w hsl
        rcases hx with ⟨b, base, sz', lim, cap, hρ, rfl, hle⟩ | ⟨b, base, sz', lim, off, hρ, rfl, rfl⟩
        · refine StepOK.pure hi (x := .pointer (some ⟨b, base + i * sz' + (o + j.toNat * k), none⟩)) ⟨b, base, sz', lim, hρ, rfl⟩ ?_
          simp [Instr.indexAt, run_underlying' P w hu, asIntOf, hc, hsz, addr_add, Nat.add_assoc]
        · omega
      · cases hsl
    · cases h
  · cases h

theorem stLen_sound {t T : TypeId} {x : IV} {xv : Value} (hi : Inv X ρ H w) (hx : relI ρ x xv) (h : stLen P t x = some (c, v, W)) :
    StepOK P X ρ (do pure (.value (← Builtin.len_ #[t] T #[xv]))) w v H W := by
  have sl : ∀ {k}, slT P t = some k → ∃ e, P.underlying t = some (.slice e) := fun h => by
    unfold slT at h
    split at h
    · exact ⟨_, by assumption⟩
    · cases h
  unfold stLen at h
  split at h
  · rename_i ci s n
    split at h
    · rename_i k hk
      cases h
      obtain ⟨e, hu⟩ := sl hk
      refine StepOK.pure hi (x := .int .i64 n) ⟨rfl, rfl⟩ ?_
      rcases hx with ⟨_, _, rfl, rfl⟩ | ⟨_, _, _, _, _, _, rfl, _⟩ | ⟨_, _, _, _, _, _, rfl, rfl⟩ <;> simp [Builtin.len_, run_underlying' P w hu, goInt]
    · cases h
  · split at h
    · rename_i k hk
      cases h
      obtain ⟨e, hu⟩ := sl hk
      obtain ⟨rfl, _⟩ := hx
      exact StepOK.pure hi ⟨rfl, rfl⟩ (by simp [Builtin.len_, run_underlying' P w hu, goInt])
    · cases h
  · rename_i ci i o k' n
    split at h
    · rename_i k hk
      cases h
      obtain ⟨e, hu⟩ := sl hk
      refine StepOK.pure hi (x := .int .i64 n) ⟨rfl, rfl⟩ ?_
      rcases hx with ⟨_, _, _, _, _, _, rfl, _⟩ | ⟨_, _, _, _, _, _, rfl, rfl⟩ <;> simp [Builtin.len_, run_underlying' P w hu, goInt]
    · cases h
  · rename_i s
    split at h
    · rename_i hs
      cases h
      obtain ⟨rfl, _⟩ := hx
      have hu : P.underlying t = some .string := by
        unfold strT at hs
        split at hs
        · assumption
        · cases hs
      exact StepOK.pure hi ⟨rfl, rfl⟩ (by simp [Builtin.len_, run_underlying' P w hu, goInt])
    · cases h
  · split at h
    · rename_i n e hu
      cases h
      exact StepOK.pure hi ⟨rfl, rfl⟩ (by simp [Builtin.len_, run_underlying' P w hu, goInt])
    · cases h

theorem stMin_sound {xs : List IV} {vs : List Value} {ts : Array TypeId} {T : TypeId} (hi : Inv X ρ H w) (hx : relA ρ xs vs) (h : stMin xs = some (c, v, W)) :
    StepOK P X ρ (do pure (.value (← Builtin.min_ ts T vs.toArray))) w v H W := by
  unfold stMin at h
  split at h
  · cases h
    match vs, hx with
    | [v1, v2], ⟨⟨h1, _⟩, ⟨h2, _⟩, _⟩ =>
      subst h1; subst h2
      exact StepOK.pure hi ⟨rfl, rfl⟩ (by simp [Builtin.min_, Builtin.min2])
  · cases h
theorem stMax_sound {xs : List IV} {vs : List Value} {ts : Array TypeId} {T : TypeId} (hi : Inv X ρ H w) (hx : relA ρ xs vs) (h : stMax xs = some (c, v, W)) :
    StepOK P X ρ (do pure (.value (← Builtin.max_ ts T vs.toArray))) w v H W := by
  unfold stMax at h
  split at h
  · cases h
    match vs, hx with
    | [v1, v2], ⟨⟨h1, _⟩, ⟨h2, _⟩, _⟩ =>
      subst h1; subst h2
      exact StepOK.pure hi ⟨rfl, rfl⟩ (by simp [Builtin.max_, Builtin.max2])
  · cases h
end
end Go.Ev

/- Literals of structs, arrays and slices; make; slice expressions, ideally. -/
namespace Go.Ev
open Go.RowKit

theorem fold_set : ∀ (l : List Value) (k off : Nat) (cs : Array Value),
    ((l.zipIdx k).foldl (fun cs (x : Value × Nat) => cs.setIfInBounds (off + x.2) x.1) cs).size = cs.size ∧
    ∀ j, ((l.zipIdx k).foldl (fun cs (x : Value × Nat) => cs.setIfInBounds (off + x.2) x.1) cs)[j]? = if off + k ≤ j ∧ j < off + k + l.length ∧ j < cs.size then l[j - (off + k)]? else cs[j]?
  | [], k, off, cs => by
    refine ⟨rfl, fun j => ?_⟩
    rw [if_neg (by simp; omega)]; rfl
  | v :: l, k, off, cs => by
    obtain ⟨h1, h2⟩ := fold_set l (k + 1) off (cs.setIfInBounds (off + k) v)
    simp only [List.zipIdx_cons, List.foldl_cons]
    refine ⟨by rw [h1]; simp, fun j => ?_⟩
    rw [h2 j]
    simp only [Array.size_setIfInBounds, List.length_cons]
    by_cases e : j = off + k
    · subst e
      rw [if_neg (by omega)]
      by_cases hlt : off + k < cs.size
      · rw [if_pos (by omega)]; simp [hlt]
      · rw [if_neg (by omega), Array.getElem?_setIfInBounds, if_pos rfl, if_neg hlt, Array.getElem?_eq_none (by omega)]
    · by_cases hr : off + (k + 1) ≤ j ∧ j < off + (k + 1) + l.length ∧ j < cs.size
      · rw [if_pos hr, if_pos (by omega), show j - (off + k) = (j - (off + (k + 1))) + 1 by omega]; simp
      · rw [if_neg hr, if_neg (by omega), Array.getElem?_setIfInBounds, if_neg (by omega)]

theorem fold_set_array (v : Array Value) (off : Nat) (cs : Array Value) :
    v.zipIdx.foldl (fun cs (x : Value × Nat) => cs.setIfInBounds (off + x.2) x.1) cs = (v.toList.zipIdx).foldl (fun cs (x : Value × Nat) => cs.setIfInBounds (off + x.2) x.1) cs := by
  rw [← Array.foldl_toList]; simp

section
variable {P : Program} {X : Ctx} {ρ : Ren} {H : Heap} {W : List (Nat × Chunk)} {w : World} {n : Nat} {tm : TM} {a : Act} {c : Prop} {v : IV}

theorem relL_splice {z l : List SV} {cs : Array Value} {off : Nat} {xs : List SV} {u : Array Value} (hz : relL ρ z cs.toList) (hu : relL ρ xs u.toList) (h : spl z off xs = some l) :
    relL ρ l (u.zipIdx.foldl (fun cs (x : Value × Nat) => cs.setIfInBounds (off + x.2) x.1) cs).toList := by
  obtain ⟨h1, h2, h3⟩ := spl_spec h
  rw [fold_set_array]
  obtain ⟨f1, f2⟩ := fold_set u.toList 0 off cs
  have hzl := hz.len
  have hul := hu.len
  simp at hzl hul
  refine relL_of_get (by simp [f1]; omega) fun i x hx => ?_
  have hi := (List.getElem?_eq_some_iff.1 hx).1
  have e := f2 i
  rcases h3 i x hx with ⟨a1, a2, a3⟩ | ⟨a1, a2⟩
  · obtain ⟨y, hy, hr⟩ := hu.get a3
    refine ⟨y, ?_, hr⟩
    rw [if_pos (by simp; omega)] at e
    simp only [Nat.add_zero] at e
    rw [hy] at e
    simpa using e
  · obtain ⟨y, hy, hr⟩ := hz.get a2
    refine ⟨y, ?_, hr⟩
    rw [if_neg (by simp; omega)] at e
    rw [Array.getElem?_toList] at hy
    rw [hy] at e
    simpa using e

def relP (ρ : Ren) : List (Nat × IV) → List (Nat × Value) → Prop
  | [], [] => True
  | (i, x) :: xs, (j, v) :: vs => i = j ∧ relI ρ x v ∧ relP ρ xs vs
  | _, _ => False

theorem relP_list {n : Nat} {tm : TM} {a : Act} (ha : RelA X n ρ tm a) : ∀ (l : List (Nat × Operand)), relP ρ (l.map fun p => (p.1, rd tm p.2)) (l.map fun p => (p.1, a.eval p.2))
  | [] => trivial
  | o :: l => ⟨rfl, rd_rel ha o.2, relP_list ha l⟩

theorem fill_run {place : Nat → Option (Nat × Nat)} {T : TypeId} (hpl : ∀ i x, plT P T i = some x → place i = some x) (hobj : ∀ (c b : Nat) (u : Value), ρ[c]? = some (Pl.obj b u) → u.oneCell' = true) :
    ∀ (ps : List (Nat × IV)) (vs : List (Nat × Value)) (z l : List SV) (cs : Array Value), relP ρ ps vs → relL ρ z cs.toList → fillI P T ps z = some l →
      ∃ cs', Instr.fill place cs vs = some cs' ∧ relL ρ l cs'.toList
  | [], [], z, l, cs, _, hz, h => by simp [fillI] at h; subst h; exact ⟨cs, rfl, hz⟩
  | (i, x) :: ps, (j, v) :: vs, z, l, cs, hp, hz, h => by
    obtain ⟨rfl, hx, hp⟩ := hp
    simp only [fillI] at h
    split at h
    · rename_i off n hpt
      split at h
      · rename_i hc
        split at h
        · rename_i z' hs
          have hu := relI_cells hx (by omega) hobj
          have hul := hu.len
          have hzl := hz.len
          obtain ⟨h1, h2, _⟩ := spl_spec hs
          obtain ⟨cs', hf, hr⟩ := fill_run hpl hobj ps vs z' l _ hp (relL_splice hz hu hs) h
          refine ⟨cs', ?_, hr⟩
          simp only [Instr.fill, hpl i _ hpt]
          rw [if_neg]
          · exact hf
          · simp at hul hzl; simp; omega
        · cases h
      · cases h
    · cases h
  | [], _ :: _, _, _, _, h, _, _ => h.elim
  | _ :: _, [], _, _, _, h, _, _ => h.elim

theorem places_run : ∀ (fs : List Field), (fs.all fun f => (szT P f.type).isSome) = true →
    ∃ ps : List (Nat × Nat), (fs.mapM (fun f => do let __x ← sizeOf f.type; pure (f.offset, __x)) : Sem (List (Nat × Nat))).run P w = .ok ps w ∧ ∀ (i : Nat) (f : Field) (n : Nat), fs[i]? = some f → szT P f.type = some n → ps[i]? = some (f.offset, n)
  | [], _ => ⟨[], by simp, fun i f n h => by simp at h⟩
  | f :: fs, h => by
    simp only [List.all_cons, Bool.and_eq_true, Option.isSome_iff_exists] at h
    obtain ⟨⟨n, hn⟩, hr⟩ := h
    obtain ⟨ps, hrun, hget⟩ := places_run fs hr
    refine ⟨(f.offset, n) :: ps, by simp only [List.mapM_cons, Sem.run_bind, run_sizeOf' P w hn, Result.andThen_ok, Sem.run_pure, hrun], fun i g m hi hm => ?_⟩
    cases i with
    | zero => simp at hi; subst hi; rw [hn] at hm; cases hm; simp
    | succ i => simp at hi; simpa using hget i g m hi hm

theorem zeroT_spec {T : TypeId} {z : List SV} (h : zeroT P T = some z) : ∃ zv, (zeroValue T).run P w = .ok zv w ∧ relL ρ z zv.cells.toList ∧ szT P T = some z.length := by
  unfold zeroT at h
  split at h
  · rename_i i hi
    split at h
    · rename_i zv hz
      split at h
      · rename_i hs
        refine ⟨zv, run_zeroValue' P w hi hz, rawCells_rel h, ?_⟩
        have hl := (rawCells_rel (ρ := ρ) h).len
        simp at hl
        simp [szT, hi, ← hs, hl]
      · cases h
    · cases h
  · cases h

theorem stBuild_sound {T : TypeId} {ps : List (Nat × IV)} {vs : List (Nat × Value)} (hi : Inv X ρ H w) (hp : relP ρ ps vs) (h : stBuild P T ps = some (c, v, W)) :
    StepOK P X ρ (do pure (.value (← Instr.build T vs.toArray))) w v H W := by
  unfold stBuild at h
  split at h
  · rename_i hok
    split at h
    · rename_i z hz
      split at h
      · rename_i l hl
        cases h
        obtain ⟨zv, hzr, hzrel, _⟩ := zeroT_spec (P := P) (w := w) (ρ := ρ) hz
        unfold plOk at hok
        split at hok
        · rename_i fs hu
          obtain ⟨pls, hprun, hpget⟩ := places_run (P := P) (w := w) fs.toList hok
          have hpl : ∀ i x, plT P T i = some x → pls.toArray[i]? = some x := by
            intro i x hx
            unfold plT at hx
            rw [hu] at hx
            simp only at hx
            split at hx
            · rename_i f hf
              split at hx
              · rename_i n hn
                cases hx
                simpa using hpget i f n (by simpa using hf) hn
              · cases hx
            · cases hx
          obtain ⟨cs', hf, hr⟩ := fill_run (place := fun i => pls.toArray[i]?) hpl hi.obj1 ps vs z l zv.cells hp hzrel hl
          refine StepOK.pure hi (x := .agg cs') ⟨cs'.toList, by simp, hr⟩ ?_
          have hm : (fs.mapM (fun f => do let __x ← sizeOf f.type; pure (f.offset, __x)) : Sem (Array (Nat × Nat))).run P w = .ok pls.toArray w := by
            rw [Array.mapM_eq_mapM_toList]
            simp only [Sem.run_map, hprun, Result.andThen_ok]
          simp only [Instr.build, Sem.run_bind, hzr, Result.andThen_ok, run_underlying' P w hu, hm, hf, Sem.run_pure]
        · rename_i k e hu
          obtain ⟨n, hn⟩ := Option.isSome_iff_exists.1 hok
          have hpl : ∀ i x, plT P T i = some x → (fun i => some (i * n, n)) i = some x := by
            intro i x hx
            unfold plT at hx
            rw [hu] at hx
            simp only [hn] at hx
            exact hx
          obtain ⟨cs', hf, hr⟩ := fill_run (place := fun i => some (i * n, n)) hpl hi.obj1 ps vs z l zv.cells hp hzrel hl
          refine StepOK.pure hi (x := .agg cs') ⟨cs'.toList, by simp, hr⟩ ?_
          simp only [Instr.build, Sem.run_bind, hzr, Result.andThen_ok, run_underlying' P w hu, run_sizeOf' P w hn, hf, Sem.run_pure]
        · cases hok
      · cases h
    · cases h
  · cases h
end
end Go.Ev

/- New slices: literals, make, append, ideally. -/
namespace Go.Ev
open Go.RowKit

def setRows (k : Nat) : List (Nat × IV) → List (List SV) → Option (List (List SV))
  | [], els => some els
  | (i, v) :: ps, els => if v.cells.length = k ∧ i < els.length then setRows k ps (els.set i v.cells) else none

/-- A slice type's elements' zero cells. -/
def zeroE (P : Program) (T : TypeId) : Option (List SV) :=
  match P.underlying T with
  | some (.slice e) => zeroT P e
  | _ => none
def bytesE (P : Program) (T : TypeId) : Option Nat :=
  match P.underlying T with
  | some (.slice e) => (P.info? e).map (·.bytes)
  | _ => none

def stBuildSlice (P : Program) (m : Nat) (T : TypeId) (len : Nat) (ps : List (Nat × IV)) : Res :=
  match zeroE P T with
  | some z => if z.length ≠ 0 ∧ len * z.length ≤ 16777216 then match setRows z.length ps (List.replicate len z) with
    | some els => some (True, .s (.slice m 0 len), [(m, .rows true z.length els)])
    | none => none
    else none
  | none => none

def stMakeSlice (P : Program) (m : Nat) (T : TypeId) (x y : IV) : Res :=
  match x, y with
  | .s (.raw (.int .i64 a)), .s (.raw (.int .i64 b)) => match zeroE P T, bytesE P T with
    | some z, some k => if z.length ≠ 0 then some (a = b ∧ 0 ≤ a ∧ k * a ≤ 281474976710656 ∧ a ≤ 281474976710656, .s (.slice m 0 a.toNat), [(m, .rows true z.length (List.replicate a.toNat z))]) else none
    | _, _ => none
  | _, _ => none

section
variable {P : Program} {X : Ctx} {ρ : Ren} {H : Heap} {W : List (Nat × Chunk)} {m : Nat} {w : World} {n : Nat} {tm : TM} {a : Act} {c : Prop} {v : IV}

theorem mul_lt_of {i n k o : Nat} (hi : i < n) (ho : o < k) : i * k + o < n * k := by
  have : (i + 1) * k ≤ n * k := Nat.mul_le_mul_right _ hi
  rw [Nat.add_mul, Nat.one_mul] at this
  omega

theorem rowsAt_zero {z : List SV} {zc : Array Value} {len : Nat} (hz : relL ρ z zc.toList) :
    rowsAt ρ ((Array.range (len * z.length)).map (fun i => zc[i % zc.size]!)) 0 z.length (List.replicate len z) := by
  have hl := hz.len
  simp at hl
  intro i row hr
  rw [List.getElem?_replicate] at hr
  split at hr
  · rename_i hi
    cases hr
    refine ⟨rfl, fun o x ho => ?_⟩
    obtain ⟨u, hu, hrel⟩ := hz.get ho
    have ho' := (List.getElem?_eq_some_iff.1 ho).1
    refine ⟨u, ?_, hrel⟩
    have hlt : 0 + i * z.length + o < len * z.length := by rw [Nat.zero_add]; exact mul_lt_of hi ho'
    rw [Array.getElem?_eq_getElem (by simpa using hlt)]
    simp only [Array.getElem_map, Array.getElem_range]
    have e : (0 + i * z.length + o) % zc.size = o := by
      rw [hl, Nat.zero_add, Nat.mul_comm, Nat.mul_add_mod, Nat.mod_eq_of_lt ho']
    rw [e]
    rw [Array.getElem?_toList] at hu
    rw [getElem!_def, hu]
  · cases hr

/-- A new block of so many elements, and the slice of it. -/
theorem newRows (hi : Inv X ρ H w) (hp : PlaceOK ρ H m) {els : List (List SV)} {k r : Nat} {cells : Array Value} (T : TypeId) (hk : 0 < k) (hr : rowsAt ρ cells 0 k els) (hm : els.length ≤ r) (hs : r * k ≤ cells.size)
    (hone : ∀ v ∈ cells, v.oneCell' = true) :
    Inv X (addR ρ m (.mem w.heap.size 0 k r)) (up1 H m (.rows true k els)) (w.alloc (.cells cells T)) ∧
      ∀ n, n ≤ r → relI (addR ρ m (.mem w.heap.size 0 k r)) (.s (.slice m 0 n)) (.slice (some ⟨w.heap.size, 0, none⟩) n r) := by
  refine ⟨hi.add hp _ _ rfl rfl rfl (by simp) (fun b hb => heap_push_old w _ hb) (fun _ _ h => by cases h) ?_ (fun _ b hb => by simp [Pl.blk] at hb; omega) (fun _ _ h => by cases h), fun n hn => ?_⟩
  · exact .inr ⟨_, _, _, cells, T, 0, 0, rfl, heap_push_new _ _, hk, hm, by simpa using hs, fun _ o _ => by omega, fun _ => hone, hr.pre (addR_le hi.len hp _)⟩
  · exact .inr (.inl ⟨w.heap.size, 0, k, r, r, addR_get hi.len hp _, by simp, hn, by omega⟩)

theorem fill_rows {k : Nat} (hobj : ∀ (c b : Nat) (u : Value), ρ[c]? = some (Pl.obj b u) → u.oneCell' = true) (hk : 0 < k) :
    ∀ (ps : List (Nat × IV)) (vs : List (Nat × Value)) (els els' : List (List SV)) (cs : Array Value), relP ρ ps vs → rowsAt ρ cs 0 k els → els.length * k ≤ cs.size → (∀ v ∈ cs, v.oneCell' = true) → setRows k ps els = some els' →
      ∃ cs', Instr.fill (fun i => some (i * k, k)) cs vs = some cs' ∧ rowsAt ρ cs' 0 k els' ∧ cs'.size = cs.size ∧ els'.length = els.length ∧ (∀ v ∈ cs', v.oneCell' = true)
  | [], [], els, els', cs, _, hr, _, ho, h => by simp [setRows] at h; subst h; exact ⟨cs, rfl, hr, rfl, rfl, ho⟩
  | (i, x) :: ps, (j, v) :: vs, els, els', cs, hp, hr, hsz, ho, h => by
    obtain ⟨rfl, hx, hp⟩ := hp
    simp only [setRows] at h
    split at h
    · rename_i hc
      have hu := relI_cells hx (by omega) hobj
      have hul := hu.len
      simp at hul
      obtain ⟨f1, f2⟩ := fold_set v.cells.toList 0 (i * k) cs
      have hik : i * k + k ≤ els.length * k := by
        have : (i + 1) * k ≤ els.length * k := Nat.mul_le_mul_right _ hc.2
        rw [Nat.add_mul, Nat.one_mul] at this; exact this
      have hrow : rowsAt ρ (v.cells.toList.zipIdx.foldl (fun cs (x : Value × Nat) => cs.setIfInBounds (i * k + x.2) x.1) cs) 0 k (els.set i x.cells) := by
        intro i' row hr'
        by_cases e : i' = i
        · subst e
          rw [List.getElem?_set_self hc.2] at hr'; cases hr'
          refine ⟨hc.1, fun o y hy => ?_⟩
          obtain ⟨u, hu2, hrel⟩ := hu.get hy
          have ho' := (List.getElem?_eq_some_iff.1 hy).1
          refine ⟨u, ?_, hrel⟩
          rw [Nat.zero_add, f2, if_pos (by simp; omega), ← hu2]
          congr 1; omega
        · rw [List.getElem?_set_ne (Ne.symm e)] at hr'
          obtain ⟨h1, h2⟩ := hr i' row hr'
          refine ⟨h1, fun o y hy => ?_⟩
          obtain ⟨u, hu2, hrel⟩ := h2 o y hy
          have ho' := (List.getElem?_eq_some_iff.1 hy).1
          refine ⟨u, ?_, hrel⟩
          rw [f2, if_neg, hu2]
          simp only [Nat.zero_add, Nat.add_zero, Array.length_toList]
          rcases Nat.lt_or_gt_of_ne e with hlt | hgt
          · have := mul_lt_of hlt (h1 ▸ ho'); omega
          · have : (i + 1) * k ≤ i' * k := Nat.mul_le_mul_right _ hgt
            rw [Nat.add_mul, Nat.one_mul] at this
            omega
      obtain ⟨cs', hf, hr2, hs2, hl2, ho2⟩ := fill_rows hobj hk ps vs (els.set i x.cells) els' _ hp hrow (by simp [f1]; exact hsz) (fun u hu3 => by
        obtain ⟨j, hj⟩ := Array.mem_iff_getElem?.1 hu3
        rw [f2] at hj
        split at hj
        · exact relL_one hobj hu u (List.mem_of_getElem? hj)
        · exact ho u (Array.mem_of_getElem? hj)) h
      refine ⟨cs', ?_, hr2, by rw [hs2, f1], by simpa using hl2, ho2⟩
      simp only [Instr.fill]
      rw [if_neg, fold_set_array]
      · exact hf
      · simp; omega
    · cases h
  | [], _ :: _, _, _, _, h, _, _, _, _ => h.elim
  | _ :: _, [], _, _, _, h, _, _, _, _ => h.elim

theorem stBuildSlice_sound {T : TypeId} {len : Nat} {ps : List (Nat × IV)} {vs : List (Nat × Value)} (hi : Inv X ρ H w) (hp : relP ρ ps vs) (hm : PlaceOK ρ H m) (h : stBuildSlice P m T len ps = some (c, v, W)) :
    StepOK P X ρ (do pure (.value (← Instr.buildSlice T len vs.toArray))) w v H W := by
  unfold stBuildSlice at h
  split at h
  · rename_i z hz
    split at h
    · rename_i hc
      split at h
      · rename_i els hels
        cases h
        unfold zeroE at hz
        split at hz
        · rename_i e hu
          obtain ⟨zv, hzr, hzrel, hsz⟩ := zeroT_spec (P := P) (w := w) (ρ := ρ) hz
          have hzl := hzrel.len
          simp at hzl
          have hr0 := rowsAt_zero (ρ := ρ) (len := len) hzrel
          have hone0 : ∀ v ∈ (Array.range (len * z.length)).map (fun i => zv.cells[i % zv.cells.size]!), v.oneCell' = true := by
            intro u hu
            simp only [Array.mem_map, Array.mem_range] at hu
            obtain ⟨i, hi', rfl⟩ := hu
            have hpos : 0 < zv.cells.size := by omega
            have hlt : i % zv.cells.size < zv.cells.size := Nat.mod_lt _ hpos
            rw [getElem!_pos zv.cells _ hlt]
            exact relL_one hi.obj1 hzrel _ (by simp)
          obtain ⟨cs', hf, hr, hcs, hel, hone⟩ := fill_rows hi.obj1 (by omega) ps vs _ els _ hp hr0 (by simp) hone0 hels
          have hlen : els.length = len := by rw [hel]; simp
          obtain ⟨h1, h2⟩ := newRows hi hm e (by omega) hr (r := len) (by omega) (by rw [hcs]; simp) hone
          refine ⟨_, _, _, addR_le hi.len hm _, VK.add, h2 len (Nat.le_refl _), h1, .inl ?_⟩
          have hbig : ¬ len * z.length > 2 ^ 24 := by have := hc.2; omega
          simp only [Instr.buildSlice, Sem.run_bind, run_underlying' P w hu, Result.andThen_ok, run_sizeOf' P w hsz, if_neg hbig, Sem.run_pure]
          by_cases e0 : len * z.length = 0
          · rw [if_pos e0]
            have e1 : ∀ f : Nat → Value, (Array.range (len * z.length)).map f = #[] := fun f => by rw [e0]; simp
            rw [e1] at hf
            simp only [Sem.run_bind, Sem.run_pure, Result.andThen_ok, e1, hf]
            simp [newRow]
          · rw [if_neg e0]
            simp only [Sem.run_bind, hzr, Sem.run_pure, Result.andThen_ok, hf]
            simp [newRow]
        · cases hz
      · cases h
    · cases h
  · cases h

theorem stMakeSlice_sound {T : TypeId} {x y : IV} {xv yv : Value} (hi : Inv X ρ H w) (hx : relI ρ x xv) (hy : relI ρ y yv) (hm : PlaceOK ρ H m) (h : stMakeSlice P m T x y = some (c, v, W)) (hc : c) :
    StepOK P X ρ (do pure (.value (← Instr.makeSlice T xv yv))) w v H W := by
  unfold stMakeSlice at h
  split at h
  · rename_i p q
    obtain ⟨rfl, _⟩ := hx
    obtain ⟨rfl, _⟩ := hy
    split at h
    · rename_i z k hz hk
      split at h
      · rename_i h0
        cases h
        obtain ⟨rfl, hp0, hpk, hpm⟩ := hc
        obtain ⟨r, rfl⟩ := Int.eq_ofNat_of_zero_le hp0
        unfold zeroE at hz
        split at hz
        · rename_i e hu
          unfold bytesE at hk
          rw [hu] at hk
          simp only [Option.map_eq_some_iff] at hk
          obtain ⟨inf, hinf, rfl⟩ := hk
          obtain ⟨zv, hzr, hzrel, hsz⟩ := zeroT_spec (P := P) (w := w) (ρ := ρ) hz
          have hzl := hzrel.len
          simp at hzl
          have hr0 := rowsAt_zero (ρ := ρ) (len := r) hzrel
          have hone0 : ∀ v ∈ (Array.range (r * z.length)).map (fun i => zv.cells[i % zv.cells.size]!), v.oneCell' = true := by
            intro u hu
            simp only [Array.mem_map, Array.mem_range] at hu
            obtain ⟨i, hi', rfl⟩ := hu
            have hpos : 0 < zv.cells.size := by omega
            have hlt : i % zv.cells.size < zv.cells.size := Nat.mod_lt _ hpos
            rw [getElem!_pos zv.cells _ hlt]
            exact relL_one hi.obj1 hzrel _ (by simp)
          obtain ⟨h1, h2⟩ := newRows hi hm e (by omega) hr0 (r := r) (by simp) (by simp) hone0
          refine ⟨_, _, _, addR_le hi.len hm _, VK.add, by simpa using h2 r (Nat.le_refl _), by simpa only [upd, Int.toNat_natCast] using h1, .inl ?_⟩
          have hw : IntKind.i64.wrap (r : Int) = r := by
            simp only [IntKind.wrap, IntKind.signed, IntKind.bits]
            simp
            omega
          simp only [Instr.makeSlice, Sem.run_bind, run_underlying' P w hu, Result.andThen_ok, asInt, asIntOf, Sem.run_pure, run_typeInfo' P w hinf, hw]
          rw [if_neg (by simp; omega)]
          simp only [Sem.run_bind, run_askRoom, Result.andThen_ok, run_sizeOf' P w hsz, Int.toNat_natCast]
          by_cases e0 : r * z.length = 0
          · rw [if_pos e0]
            have e1 : ∀ f : Nat → Value, (Array.range (r * z.length)).map f = #[] := fun f => by rw [e0]; simp
            simp only [Sem.run_bind, Sem.run_pure, Result.andThen_ok, e1]
            simp [newRow]
          · rw [if_neg e0]
            simp only [Sem.run_bind, hzr, Sem.run_pure, Result.andThen_ok]
            simp [newRow]
        · cases hz
      · cases h
    · cases h
  · cases h
end
end Go.Ev

/- A chunk's memory goes to another chunk: what append does where there is room. -/
namespace Go.Ev
open Go.RowKit

/-- A chunk that is let go. -/
theorem Inv.drop {X : Ctx} {ρ : Ren} {H : Heap} {w : World} (h : Inv X ρ H w) (c : Nat) : Inv X ρ (H.set c .gone) w := by
  have get_o : ∀ {d : Nat}, d ≠ c → (H.set c .gone)[d]? = H[d]? := fun hd => by rw [List.getElem?_set_ne (Ne.symm hd)]
  have get_c : ∀ {x : Chunk}, (H.set c .gone)[c]? = some x → x = .gone := fun {x} hx => by
    rw [List.getElem?_set] at hx
    simp at hx
    exact hx.2.symm
  refine ⟨h.os, h.tape, h.output, h.drawn, h.size, h.old, by simp [h.len], h.obj1, ?_, ?_, ?_, ?_⟩
  · intro d x hd
    by_cases e : d = c
    · subst e
      have := get_c hd; subst this
      have hlt : d < H.length := by have := (List.getElem?_eq_some_iff.1 hd).1; simpa using this
      exact ⟨ρ[d]'(by rw [h.len]; exact hlt), List.getElem?_eq_getElem _, trivial⟩
    · rw [get_o e] at hd; exact h.sat d x hd
  · intro d x l b hd ho hl hb
    by_cases e : d = c
    · subst e; have := get_c hd; subst this; cases ho
    · rw [get_o e] at hd; exact h.own d x l b hd ho hl hb
  · intro d sz els l b hd hl hb
    by_cases e : d = c
    · subst e; have := get_c hd; cases this
    · rw [get_o e] at hd; exact h.ro d sz els l b hd hl hb
  · intro d e x y l m b hde hd he hox hoy hl hm hb hmb
    by_cases e1 : d = c
    · subst e1; have := get_c hd; subst this; cases hox
    · by_cases e2 : e = c
      · subst e2; have := get_c he; subst this; cases hoy
      · rw [get_o e1] at hd; rw [get_o e2] at he
        exact h.apart d e x y l m b hde hd he hox hoy hl hm hb hmb

/-- A new chunk over a block that no chunk owns any more, but that was owned. -/
theorem Inv.take {X : Ctx} {ρ : Ren} {H : Heap} {w : World} (h : Inv X ρ H w) {m : Nat} (hm : PlaceOK ρ H m) (l : Pl) (ch : Chunk) (hobj : ∀ b u, l ≠ .obj b u)
    (hsat : SatC (addR ρ m l) w l ch) (hown : ∀ b, l.blk = some b → X.F0 b ∨ X.w0.heap.size ≤ b) (hro : ∀ sz els, ch ≠ .rows false sz els)
    (hfree : ∀ (d : Nat) (x : Chunk) (k : Pl) (b : Nat), H[d]? = some x → x.owned = true → ρ[d]? = some k → k.blk = some b → l.blk ≠ some b) :
    Inv X (addR ρ m l) (up1 H m ch) w := by
  have hle := addR_le h.len hm l
  have hlen : (addR ρ m l).length = (up1 H m ch).length := by
    unfold addR up1
    rw [h.len]
    split <;> simp [h.len]
  have get_new : (up1 H m ch)[m]? = some ch ∧ (addR ρ m l)[m]? = some l := by
    refine ⟨?_, addR_get h.len hm l⟩
    rcases hm with rfl | ⟨h1, h2⟩
    · unfold up1; rw [if_pos rfl]; simp
    · have hlt := (List.getElem?_eq_some_iff.1 h1).1
      unfold up1; rw [if_neg (by omega)]; simp [hlt]
  have get_old : ∀ {d : Nat} {x : Chunk}, d ≠ m → (up1 H m ch)[d]? = some x → H[d]? = some x := fun {d x} hd hx => by
    rcases hm with rfl | ⟨h1, h2⟩
    · unfold up1 at hx; rw [if_pos rfl] at hx
      rw [List.getElem?_append] at hx
      split at hx
      · exact hx
      · rename_i hge
        have : d - H.length ≠ 0 := by omega
        rw [List.getElem?_singleton] at hx
        rw [if_neg this] at hx; cases hx
    · have hlt := (List.getElem?_eq_some_iff.1 h1).1
      unfold up1 at hx; rw [if_neg (by omega), List.getElem?_set_ne (Ne.symm hd)] at hx; exact hx
  have ren_old : ∀ {d : Nat} {k : Pl}, d ≠ m → (addR ρ m l)[d]? = some k → ρ[d]? = some k := fun {d k} hd hx => by
    rcases hm with rfl | ⟨h1, h2⟩
    · unfold addR at hx; rw [if_pos h.len.symm] at hx
      rw [List.getElem?_append] at hx
      split at hx
      · exact hx
      · rename_i hge
        have : d - ρ.length ≠ 0 := by have := h.len; omega
        rw [List.getElem?_singleton] at hx
        rw [if_neg this] at hx; cases hx
    · have hlt := (List.getElem?_eq_some_iff.1 h2).1
      unfold addR at hx; rw [if_neg (by omega), List.getElem?_set_ne (Ne.symm hd)] at hx; exact hx
  refine ⟨h.os, h.tape, h.output, h.drawn, h.size, h.old, hlen, ?_, ?_, ?_, ?_, ?_⟩
  · intro c b u hc
    by_cases e : c = m
    · subst e; rw [get_new.2] at hc; cases hc; exact absurd rfl (hobj b u)
    · exact h.obj1 c b u (ren_old e hc)
  · intro c x hc
    by_cases e : c = m
    · subst e; rw [get_new.1] at hc; cases hc; exact ⟨l, get_new.2, hsat⟩
    · have hx := get_old e hc
      obtain ⟨l', hl', hs⟩ := h.sat c x hx
      cases x with
      | gone =>
        have hlt : c < (addR ρ m l).length := by rw [hlen]; exact (List.getElem?_eq_some_iff.1 hc).1
        exact ⟨_, List.getElem?_eq_getElem hlt, trivial⟩
      | rows o sz els =>
        have hne : l' ≠ .void := fun e => by
          subst e
          rcases hs with ⟨h1, _⟩ | ⟨_, _, _, _, _, _, _, h1, _⟩ <;> cases h1
        exact ⟨l', hle.get _ _ hl' hne, hs.ext hle fun _ _ => rfl⟩
      | map _ es =>
        have hne : l' ≠ .void := fun e => by
          subst e
          obtain ⟨_, _, h1, _⟩ := hs; cases h1
        exact ⟨l', hle.get _ _ hl' hne, hs.ext hle fun _ _ => rfl⟩
      | iter _ _ _ _ =>
        have hne : l' ≠ .void := fun e => by
          subst e
          obtain ⟨_, _, h1, _⟩ := hs; cases h1
        exact ⟨l', hle.get _ _ hl' hne, hs.ext hle fun _ _ => rfl⟩
      | clo fn f c' =>
        obtain ⟨f', c'', rfl, h1, h2⟩ := hs
        exact ⟨_, hle.get _ _ hl' (by simp), f', c'', rfl, h1.pre hle, h2.pre hle⟩
  · intro c x l' b hc ho hl hb
    by_cases e : c = m
    · subst e; rw [get_new.2] at hl; cases hl; exact hown b hb
    · exact h.own c x l' b (get_old e hc) ho (ren_old e hl) hb
  · intro c sz els l' b hc hl hb
    by_cases e : c = m
    · subst e; rw [get_new.1] at hc; cases hc; exact absurd rfl (hro sz els)
    · exact h.ro c sz els l' b (get_old e hc) (ren_old e hl) hb
  · intro c d x y l' k b hcd hc hd hox hoy hl hk hb hkb
    by_cases e : c = m
    · subst e
      rw [get_new.2] at hl; cases hl
      exact hfree d y k b (get_old (Ne.symm hcd) hd) hoy (ren_old (Ne.symm hcd) hk) hkb hb
    · by_cases e2 : d = m
      · subst e2
        rw [get_new.2] at hk; cases hk
        exact hfree c x l' b (get_old e hc) hox (ren_old e hl) hb hkb
      · exact h.apart c d x y l' k b hcd (get_old e hc) (get_old e2 hd) hox hoy (ren_old e hl) (ren_old e2 hk) hb hkb
end Go.Ev

/- Append, ideally: the slice's elements and the new ones are a new chunk; the old chunk is let go. -/
namespace Go.Ev
open Go.RowKit

/-- Values, row by row. -/
def rowsV (ρ : Ren) (sz : Nat) (r : List (List SV)) (vs : List Value) : Prop :=
  vs.length = r.length * sz ∧ ∀ (i : Nat) (row : List SV), r[i]? = some row → row.length = sz ∧ ∀ (o : Nat) (x : SV), row[o]? = some x → ∃ v, vs[i * sz + o]? = some v ∧ relS ρ x v

theorem rowsV.pre {ρ ρ' : Ren} (p : Le ρ ρ') {sz : Nat} {r : List (List SV)} {vs : List Value} (h : rowsV ρ sz r vs) : rowsV ρ' sz r vs :=
  ⟨h.1, fun i row hr => ⟨(h.2 i row hr).1, fun o x hx => let ⟨v, hv, hs⟩ := (h.2 i row hr).2 o x hx; ⟨v, hv, hs.pre p⟩⟩⟩

theorem rowsV.nil {ρ : Ren} {sz : Nat} : rowsV ρ sz [] [] := ⟨by simp, fun i row h => by simp at h⟩

theorem rowsV.append {ρ : Ren} {sz : Nat} {r1 r2 : List (List SV)} {v1 v2 : List Value} (h1 : rowsV ρ sz r1 v1) (h2 : rowsV ρ sz r2 v2) : rowsV ρ sz (r1 ++ r2) (v1 ++ v2) := by
  refine ⟨by rw [List.length_append, List.length_append, h1.1, h2.1, Nat.add_mul], fun i row hr => ?_⟩
  rw [List.getElem?_append] at hr
  split at hr
  · rename_i hlt
    obtain ⟨hl, hx⟩ := h1.2 i row hr
    refine ⟨hl, fun o x ho => ?_⟩
    obtain ⟨v, hv, hs⟩ := hx o x ho
    exact ⟨v, by rw [List.getElem?_append_left (List.getElem?_eq_some_iff.1 hv).1]; exact hv, hs⟩
  · rename_i hge
    obtain ⟨hl, hx⟩ := h2.2 _ row hr
    refine ⟨hl, fun o x ho => ?_⟩
    obtain ⟨v, hv, hs⟩ := hx o x ho
    have e : i * sz = r1.length * sz + (i - r1.length) * sz := by rw [← Nat.add_mul]; congr 1; omega
    refine ⟨v, ?_, hs⟩
    rw [List.getElem?_append_right (by rw [h1.1]; omega), h1.1]
    rw [show i * sz + o - r1.length * sz = (i - r1.length) * sz + o by omega]; exact hv

theorem rowsV.at {ρ : Ren} {sz base : Nat} {r : List (List SV)} {vs : List Value} {cells : Array Value} (h : rowsV ρ sz r vs) (hc : ∀ (j : Nat) (v : Value), vs[j]? = some v → cells[base + j]? = some v) : rowsAt ρ cells base sz r := by
  intro i row hr
  obtain ⟨hl, hx⟩ := h.2 i row hr
  refine ⟨hl, fun o x ho => ?_⟩
  obtain ⟨v, hv, hs⟩ := hx o x ho
  exact ⟨v, by rw [Nat.add_assoc]; exact hc _ _ hv, hs⟩

section
variable {P : Program} {X : Ctx} {ρ : Ren} {H : Heap} {W : List (Nat × Chunk)} {m : Nat} {w : World} {c : Prop} {v : IV}

/-- A slice's rows, read. -/
theorem read_rows (hi : Inv X ρ H w) {c s n : Nat} {own : Bool} {els r : List (List SV)} {b base sz sz' lim : Nat} (hc : H[c]? = some (.rows own sz' els)) (hρ : ρ[c]? = some (.mem b base sz lim)) (hs : segR els s n = some r) :
    ∃ vs : List Value, rowsV ρ sz' r vs ∧ sz = sz' ∧ (∀ v ∈ vs, own = true → v.oneCell' = true) ∧ ∀ j v, vs[j]? = some v → w.cell? ⟨b, base + s * sz + j, none⟩ = some v := by
  obtain ⟨l', hl', hsat⟩ := hi.sat c _ hc
  rw [hρ] at hl'; cases hl'
  rcases hsat with ⟨h, _⟩ | ⟨b', base', lim', cells, T, lo, hi', he, hw, hsz, hlen, hfit, hfz, hone, hrows⟩
  · cases h
  · cases he
    obtain ⟨hl, hle, hget⟩ := segR_spec hs
    have hm : (s + n) * sz ≤ lim * sz := Nat.mul_le_mul_right _ (by omega)
    have hm2 : (s + n) * sz = s * sz + n * sz := Nat.add_mul _ _ _
    have hv : ∀ (j : Nat) (v : Value), ((List.range (n * sz)).map fun j => cells.getD (base + s * sz + j) undef)[j]? = some v → cells[base + s * sz + j]? = some v := by
      intro j v hj
      have hlt := (List.getElem?_eq_some_iff.1 hj).1
      simp at hlt
      have hlt2 : base + s * sz + j < cells.size := by omega
      simp [hlt, hlt2] at hj
      rw [Array.getElem?_eq_getElem hlt2, hj]
    refine ⟨(List.range (n * sz)).map fun j => cells.getD (base + s * sz + j) undef, ⟨by simp [hl], fun i row hr => ?_⟩, rfl, fun v hvm ho => ?_, fun j v hj => ?_⟩
    · have hil := (List.getElem?_eq_some_iff.1 hr).1
      obtain ⟨hrl, hx⟩ := hrows (s + i) row (hget i row hr)
      refine ⟨hrl, fun o x ho => ?_⟩
      obtain ⟨u, hu, hrel⟩ := hx o x ho
      have hol := (List.getElem?_eq_some_iff.1 ho).1
      have hlt : i * sz + o < n * sz := mul_lt_of (by omega) (by omega)
      refine ⟨u, ?_, hrel⟩
      have e : base + (s + i) * sz + o = base + s * sz + (i * sz + o) := by rw [Nat.add_mul]; omega
      rw [e] at hu
      simp [hlt, hu]
    · obtain ⟨j, hj⟩ := List.mem_iff_getElem?.1 hvm
      exact hone ho v (Array.mem_of_getElem? (hv j v hj))
    · simp only [World.cell?, hw, Option.isSome_none, Bool.false_eq_true, if_false]
      exact hv j v hj

theorem rowsV.one {sz : Nat} {r : List (List SV)} {vs : List Value} (hobj : ∀ (c b : Nat) (u : Value), ρ[c]? = some (Pl.obj b u) → u.oneCell' = true) (h : rowsV ρ sz r vs) (hsz : 0 < sz) : ∀ v ∈ vs, v.oneCell' = true := by
  intro v hv
  obtain ⟨j, hj⟩ := List.mem_iff_getElem?.1 hv
  have hlt := (List.getElem?_eq_some_iff.1 hj).1
  rw [h.1] at hlt
  have hi : j / sz < r.length := by rw [Nat.div_lt_iff_lt_mul hsz]; exact hlt
  obtain ⟨hl, hx⟩ := h.2 (j / sz) r[j / sz] (List.getElem?_eq_getElem hi)
  have hm : j % sz < (r[j / sz]).length := by rw [hl]; exact Nat.mod_lt _ hsz
  obtain ⟨u, hu, hs⟩ := hx (j % sz) _ (List.getElem?_eq_getElem hm)
  have e : j / sz * sz + j % sz = j := by rw [Nat.mul_comm]; exact Nat.div_add_mod j sz
  rw [e, hj] at hu; cases hu
  exact relS_one hs hobj

/-! #### append, run -/
/-- A source of so many elements: its length, its cells. -/
def SrcOK (P : Program) (w : World) (sz : Nat) (news : List (List SV)) (yv : Value) (vs : List Value) : Prop :=
  (∀ w' : World, (Builtin.lenOf yv).run P w' = .ok news.length w') ∧
    ∀ (w' : World) (n : Nat), w'.heap = w.heap → n ≤ news.length → (Builtin.firstCells sz n yv).run P w' = .ok (vs.take (n * sz)).toArray w'

theorem run_app_grow {t t2 ty e : TypeId} {d2 : TypeDesc} {i : TypeInfo} {z : Value} (ht : P.underlying t = some (.slice e)) (ht2 : P.underlying t2 = some d2) (hd2 : (∃ e2, d2 = .slice e2) ∨ d2 = .string) (hi : P.info? e = some i) (hz : i.zero = some z)
    {base : Option Addr} {sLen sCap n : Nat} {yv : Value} {olds news : List Value} (ho : (Builtin.firstCells i.size sLen (.slice base sLen sCap)).run P w.drew = .ok olds.toArray w.drew)
    (hlen : ∀ w' : World, (Builtin.lenOf yv).run P w' = .ok n w')
    (hn : (Builtin.firstCells i.size n yv).run P w.drew = .ok news.toArray w.drew) (hg : sCap < sLen + n) (h63 : ((sLen + n : Nat) : Int) ≤ 9223372036854775807)
    (hfit : Builtin.nextslicecap (sLen + n) sCap * i.bytes ≤ 281474976710656) :
    (Builtin.append_ #[t, t2] ty #[.slice base sLen sCap, yv]).run P w =
      .ok (.slice (some ⟨w.heap.size, 0, none⟩) (sLen + n) (grownCap w (sLen + n) sCap e))
        (w.drew.alloc (.cells (olds.toArray ++ news.toArray ++ Builtin.zeroCells z.cells (grownCap w (sLen + n) sCap e - (sLen + n))) e)) := by
  have hn' : ¬ (sLen + n ≤ sCap) := by omega
  have h63' : ¬ (9223372036854775807 < ((sLen : Int) + (n : Int))) := by omega
  have h48' : ¬ (281474976710656 < Builtin.nextslicecap (sLen + n) sCap * i.bytes) := by omega
  rcases hd2 with ⟨e2, rfl⟩ | rfl
  all_goals
    simp [Builtin.append_, run_underlying ht, run_underlying ht2, sizeOf, typeInfo, zeroValue, hi, hz, hlen, hn', h63', h48', Question.forced, hn, ho, newRow, grownCap]
    congr 2
    apply Array.ext'
    simp [List.append_assoc]

theorem run_app_room {t t2 ty e : TypeId} {d2 : TypeDesc} {i : TypeInfo} (ht : P.underlying t = some (.slice e)) (ht2 : P.underlying t2 = some d2) (hd2 : (∃ e2, d2 = .slice e2) ∨ d2 = .string) (hi : P.info? e = some i)
    {a : Addr} {sLen sCap n : Nat} {yv : Value} {news : List Value} {w' : World} (hlen : ∀ w' : World, (Builtin.lenOf yv).run P w' = .ok n w') (hn : (Builtin.firstCells i.size n yv).run P w = .ok news.toArray w)
    (hst : (storeCells (a.add (sLen * i.size)) news).run P w = .ok () w') (hroom : sLen + n ≤ sCap) :
    (Builtin.append_ #[t, t2] ty #[.slice (some a) sLen sCap, yv]).run P w = .ok (.slice (some a) (sLen + n) sCap) w' := by
  rcases hd2 with ⟨e2, rfl⟩ | rfl <;> simp [Builtin.append_, run_underlying ht, run_underlying ht2, sizeOf, typeInfo, hi, hlen, hroom, hn, hst]

theorem run_app_nil0 {t t2 ty e : TypeId} {d2 : TypeDesc} {i : TypeInfo} (ht : P.underlying t = some (.slice e)) (ht2 : P.underlying t2 = some d2) (hd2 : (∃ e2, d2 = .slice e2) ∨ d2 = .string) (hi : P.info? e = some i) {yv : Value}
    (hlen : ∀ w' : World, (Builtin.lenOf yv).run P w' = .ok 0 w') (hn : (Builtin.firstCells i.size 0 yv).run P w = .ok #[] w) :
    (Builtin.append_ #[t, t2] ty #[.slice none 0 0, yv]).run P w = .ok (.slice none 0 0) w := by
  rcases hd2 with ⟨e2, rfl⟩ | rfl <;> simp [Builtin.append_, run_underlying ht, run_underlying ht2, sizeOf, typeInfo, hi, hlen, hn]

/-! #### append, ideally -/
/-- A string's bytes, as rows. -/
def bytesR (s : ByteArray) : List (List SV) := s.toList.map fun b => [.raw (.int .u8 (b.toNat : Int))]
/-- So many rows of so many cells. -/
def cutR (k : Nat) : Nat → List SV → List (List SV)
  | 0, _ => []
  | n + 1, l => l.take k :: cutR k n (l.drop k)

theorem bytesR_len (s : ByteArray) : (bytesR s).length = s.size := by
  rw [bytesR, List.length_map, ByteArray.toList_eq]; rfl

theorem bytesR_rows (s : ByteArray) : rowsV ρ 1 (bytesR s) (s.toList.map fun b => Value.int .u8 (b.toNat : Int)) := by
  refine ⟨by simp [bytesR], fun i row hr => ?_⟩
  simp only [bytesR, List.getElem?_map] at hr
  cases hb : s.toList[i]? with
  | none => rw [hb] at hr; cases hr
  | some b =>
    rw [hb] at hr
    simp at hr
    subst hr
    refine ⟨rfl, fun o x hx => ?_⟩
    cases o with
    | zero =>
      simp at hx; subst hx
      exact ⟨.int .u8 b.toNat, by simp [hb], rfl, rfl⟩
    | succ o => simp at hx

theorem cutR_len (k : Nat) : ∀ (n : Nat) (l : List SV), (cutR k n l).length = n
  | 0, _ => rfl
  | n + 1, l => by simp [cutR, cutR_len k n]

theorem cutR_rows {k : Nat} : ∀ {n : Nat} {l : List SV} {vs : List Value}, l.length = n * k → relL ρ l vs → rowsV ρ k (cutR k n l) vs
  | 0, l, vs, hl, hr => by
    have : l = [] := List.eq_nil_of_length_eq_zero (by simpa using hl)
    subst this
    cases vs with
    | nil => exact rowsV.nil
    | cons _ _ => exact hr.elim
  | n + 1, l, vs, hl, hr => by
    have hle : k ≤ l.length := by rw [hl, Nat.add_mul]; omega
    have e : l = l.take k ++ l.drop k := (List.take_append_drop k l).symm
    rw [e] at hr
    obtain ⟨v1, v2, rfl, h1, h2⟩ := relL_append hr
    have ih := cutR_rows (k := k) (n := n) (l := l.drop k) (vs := v2) (by simp [hl, Nat.add_mul]) h2
    have hl1 := h1.len
    have ht : (l.take k).length = k := by simp; omega
    rw [ht] at hl1
    have one : rowsV ρ k [l.take k] v1 := by
      refine ⟨by simp [hl1], fun i row hr => ?_⟩
      cases i with
      | zero =>
        simp at hr; subst hr
        refine ⟨ht, fun o x hx => ?_⟩
        obtain ⟨u, hu, hs⟩ := h1.get hx
        exact ⟨u, by simpa using hu, hs⟩
      | succ i => simp at hr
    exact one.append ih

def srcR (sz : Nat) (y : IV) (H : Heap) : Option (List (List SV)) :=
  match y with
  | .s (.raw (.slice none 0 0)) => some []
  | .s (.raw (.string s)) => if sz = 1 then some (bytesR s) else none
  | .s (.slice c s n) => match H[c]? with
    | some (.rows _ sz' els) => if sz' = sz then segR els s n else none
    | _ => none
  | .s (.sub c i o k n) => match H[c]? with
    | some (.rows _ _ els) => if k = sz then match rdCells els i o (n * k) with
      | some l => some (cutR k n l)
      | none => none
      else none
    | _ => none
  | _ => none

theorem firstCells_take {sz n len cap m : Nat} {a : Addr} {vs : List Value} {w' : World} (hl : vs.length = m * sz) (hn : n ≤ m) (h : ∀ j v, vs[j]? = some v → w'.cell? (a.add j) = some v) :
    (Builtin.firstCells sz n (.slice (some a) len cap)).run P w' = .ok (vs.take (n * sz)).toArray w' := by
  have : n * sz ≤ m * sz := Nat.mul_le_mul_right _ hn
  refine run_firstCells_some w' _ _ _ _ _ _ (by simp; omega) fun j v hj => ?_
  have hlt := (List.getElem?_eq_some_iff.1 hj).1
  simp at hlt
  rw [List.getElem?_take_of_lt (by omega)] at hj
  exact h j v hj

theorem extract_data (s : ByteArray) (n : Nat) : (s.extract 0 n).data.map (fun b => Value.int .u8 (b.toNat : Int)) = ((s.toList.map fun b => Value.int .u8 (b.toNat : Int)).take n).toArray := by
  have e : s = ByteArray.mk s.data.toList.toArray := by simp
  rw [ByteArray.toList_eq]
  conv => lhs; rw [e, ByteArray.extract_mk]
  apply Array.ext'
  simp

theorem src_spec {sz : Nat} {y : IV} {yv : Value} {news : List (List SV)} (hi : Inv X ρ H w) (hy : relI ρ y yv) (h : srcR sz y H = some news) : ∃ vs : List Value, rowsV ρ sz news vs ∧ SrcOK P w sz news yv vs := by
  unfold srcR at h
  have empty : ∀ {b2 : Option Addr} {c2 : Nat}, news = [] → ∃ vs : List Value, rowsV ρ sz news vs ∧ SrcOK P w sz news (.slice b2 0 c2) vs := by
    rintro b2 c2 rfl
    refine ⟨[], rowsV.nil, fun w' => by simp [Builtin.lenOf], fun w' n _ hn => ?_⟩
    have : n = 0 := by simpa using hn
    subst this
    cases b2 with
    | none => simp [run_firstCells_none]
    | some a => simpa using run_firstCells_some (P := P) w' sz 0 a 0 c2 [] (by simp) fun j u hj => by simp at hj
  split at h
  · cases h
    obtain ⟨rfl, _⟩ := hy
    exact empty rfl
  · rename_i s
    split at h
    · rename_i h1
      cases h
      subst h1
      obtain ⟨rfl, _⟩ := hy
      refine ⟨_, bytesR_rows s, fun w' => by simp [Builtin.lenOf, bytesR_len], fun w' n _ hn => ?_⟩
      simp only [Builtin.firstCells, Nat.mul_one, Sem.run_pure, extract_data]
    · cases h
  · rename_i c s n
    split at h
    · rename_i own sz' els hc
      split at h
      · rename_i hsz; subst hsz
        obtain ⟨hl, hle, _⟩ := segR_spec h
        rcases hy with ⟨hρ, rfl, rfl, rfl⟩ | ⟨b, base, sz1, lim, cap, hρ, rfl, _, _⟩ | ⟨b, base, sz1, lim, off, hρ, rfl, rfl⟩
        · exact empty (List.eq_nil_of_length_eq_zero hl)
        · obtain ⟨vs, hv, rfl, _, hcell⟩ := read_rows hi hc hρ h
          refine ⟨vs, hv, fun w' => by simp [Builtin.lenOf, hl], fun w' n' hw hn => ?_⟩
          refine firstCells_take hv.1 hn fun j u hj => ?_
          rw [addr_add, ← hcell j u hj]
          simp [World.cell?, hw]
        · exact empty (List.eq_nil_of_length_eq_zero hl)
      · cases h
    · cases h
  · rename_i c i o k n
    split at h
    · rename_i own sz' els hc
      split at h
      · rename_i hk; subst hk
        split at h
        · rename_i l hl
          cases h
          rcases hy with ⟨b, base, sz1, lim, cap, hρ, rfl, _⟩ | ⟨b, base, sz1, lim, off, hρ, rfl, rfl⟩
          · obtain ⟨hll, vs, hv, hcell⟩ := read_cells2 hi hc hρ hl
            have hr := cutR_rows hll hv
            refine ⟨vs, hr, fun w' => by simp [Builtin.lenOf, cutR_len], fun w' n' hw hn => ?_⟩
            refine firstCells_take (m := n) (by rw [hv.len, hll]) (by simpa [cutR_len] using hn) fun j u hj => ?_
            rw [addr_add, ← hcell j u hj]
            simp [World.cell?, hw]
          · exact empty rfl
        · cases h
      · cases h
    · cases h
  · cases h

/-- What append and copy take from: a slice or a string. -/
def srcT (P : Program) (T : TypeId) : Bool :=
  match P.underlying T with
  | some (.slice _) => true
  | some .string => true
  | _ => false
theorem srcT_spec {T : TypeId} (h : srcT P T = true) : ∃ d, P.underlying T = some d ∧ ((∃ e2, d = .slice e2) ∨ d = .string) := by
  unfold srcT at h
  split at h
  · rename_i e hu; exact ⟨_, hu, .inl ⟨_, rfl⟩⟩
  · rename_i hu; exact ⟨_, hu, .inr rfl⟩
  · cases h

def stAppend (P : Program) (m : Nat) (T T2 : TypeId) (x y : IV) (H : Heap) : Res :=
  match zeroE P T, bytesE P T, srcT P T2 with
  | some z, some k, true => if z.length ≠ 0 ∧ k ≠ 0 then match srcR z.length y H with
    | some news => match x with
      | .s (.raw (.slice none 0 0)) => some (news.length * k ≤ 140737488355328, .s (.slice m 0 news.length), [(m, .rows true z.length news)])
      | .s (.slice c s n) => match H[c]? with
        | some (.rows true sz els) => if sz = z.length then match segR els s n with
          | some olds => some ((n + news.length) * k ≤ 140737488355328, .s (.slice m 0 (n + news.length)), [(c, .gone), (m, .rows true z.length (olds ++ news))])
          | none => none
          else none
        | _ => none
      | _ => none
    | none => none
    else none
  | _, _, _ => none
end
end Go.Ev

/- Append is sound. -/
namespace Go.Ev
open Go.RowKit
section
variable {P : Program} {X : Ctx} {ρ : Ren} {H : Heap} {W : List (Nat × Chunk)} {m : Nat} {w : World} {c : Prop} {v : IV}

theorem zeroT_spec2 {T : TypeId} {z : List SV} (h : zeroT P T = some z) : ∃ i zv, P.info? T = some i ∧ i.zero = some zv ∧ relL ρ z zv.cells.toList ∧ i.size = z.length := by
  unfold zeroT at h
  split at h
  · rename_i i hi
    split at h
    · rename_i zv hz
      split at h
      · rename_i hs
        have hl := (rawCells_rel (ρ := ρ) h).len
        simp at hl
        exact ⟨i, zv, hi, hz, rawCells_rel h, by omega⟩
      · cases h
    · cases h
  · cases h

theorem VK.put {l : Pl} {W : List (Nat × Chunk)} (h : m ∈ W.map (·.1)) : VK ρ (addR ρ m l) W := fun c hc hn => by
  have e : c ≠ m := fun e => hn (e ▸ h)
  unfold addR
  split
  · rw [List.getElem?_append_left (List.getElem?_eq_some_iff.1 hc).1]; exact hc
  · rw [List.getElem?_set_ne (Ne.symm e)]; exact hc

theorem PlaceOK.drop {c0 : Nat} {ch : Chunk} (h : PlaceOK ρ H m) (hc : H[c0]? = some ch) (hne : ch ≠ .gone) : PlaceOK ρ (H.set c0 .gone) m := by
  rcases h with rfl | ⟨h1, h2⟩
  · exact .inl (by simp)
  · refine .inr ⟨?_, h2⟩
    have : c0 ≠ m := fun e => by subst e; rw [hc] at h1; cases h1; exact hne rfl
    rw [List.getElem?_set_ne this]; exact h1

/-- A block that is new, with the old rows and the new ones, and some room. -/
theorem grow_ok {Hx : Heap} (hi : Inv X ρ Hx w) (hm : PlaceOK ρ Hx m) (T : TypeId) {olds news : List (List SV)} {vo vn : List Value} {z : List SV} {zv : Value} (hz : relL ρ z zv.cells.toList) (hz0 : 0 < z.length)
    (ho : rowsV ρ z.length olds vo) (hn : rowsV ρ z.length news vn) {n cap : Nat} (hl : n = olds.length + news.length) (hcap : n ≤ cap) :
    Inv X (addR ρ m (.mem w.heap.size 0 z.length cap)) (up1 Hx m (.rows true z.length (olds ++ news))) (w.drew.alloc (.cells (vo.toArray ++ vn.toArray ++ Builtin.zeroCells zv.cells (cap - n)) T)) ∧
      relI (addR ρ m (.mem w.heap.size 0 z.length cap)) (.s (.slice m 0 n)) (.slice (some ⟨w.heap.size, 0, none⟩) n cap) := by
  have hall := ho.append hn
  have hzl := hz.len
  simp at hzl
  have hsize : (vo.toArray ++ vn.toArray ++ Builtin.zeroCells zv.cells (cap - n)).size = cap * z.length := by
    simp only [Array.size_append, List.size_toArray, size_zeroCells, ho.1, hn.1, hzl, ← Nat.add_mul]
    congr 1; omega
  have hrows : rowsAt ρ (vo.toArray ++ vn.toArray ++ Builtin.zeroCells zv.cells (cap - n)) 0 z.length (olds ++ news) := by
    refine hall.at fun j u hj => ?_
    have hlt := (List.getElem?_eq_some_iff.1 hj).1
    rw [Nat.zero_add, Array.getElem?_append_left (by simpa using hlt)]
    simpa using hj
  have hone : ∀ u ∈ (vo.toArray ++ vn.toArray ++ Builtin.zeroCells zv.cells (cap - n)), u.oneCell' = true := by
    intro u hu
    rcases Array.mem_append.1 hu with h | h
    · rcases Array.mem_append.1 h with h | h
      · exact ho.one hi.obj1 hz0 u (by simpa using h)
      · exact hn.one hi.obj1 hz0 u (by simpa using h)
    · have : u ∈ zv.cells := by
        unfold Builtin.zeroCells at h
        simp only [Array.mem_map, Array.mem_range] at h
        obtain ⟨i, hi', rfl⟩ := h
        have hlt : i % zv.cells.size < zv.cells.size := Nat.mod_lt _ (by omega)
        rw [getElem!_pos zv.cells _ hlt]
        simp
      exact relL_one hi.obj1 hz u (by simpa using this)
  obtain ⟨h1, h2⟩ := newRows hi.drew hm (k := z.length) (r := cap) T hz0 hrows (by simp; omega) (by rw [hsize]; exact Nat.le_refl _) hone
  exact ⟨h1, h2 n hcap⟩

/-- Append where there is room. -/
theorem room_ok {c0 s n cap b base lim : Nat} {sz : Nat} {els olds news : List (List SV)} {vn : List Value} (hi : Inv X ρ H w) (hm : PlaceOK ρ H m) (hc : H[c0]? = some (.rows true sz els)) (hρ : ρ[c0]? = some (.mem b base sz lim))
    (hs : segR els s n = some olds) (hn : rowsV ρ sz news vn) (hcap : n + news.length ≤ cap) (hlim : s + cap ≤ lim) :
    ∃ w', (storeCells ((⟨b, base + s * sz, none⟩ : Addr).add (n * sz)) vn).run P w = .ok () w' ∧ Inv X (addR ρ m (.mem b (base + s * sz) sz cap)) (up1 (H.set c0 .gone) m (.rows true sz (olds ++ news))) w' := by
  obtain ⟨l', hl', hsat⟩ := hi.sat c0 _ hc
  rw [hρ] at hl'; cases hl'
  rcases hsat with ⟨h, _⟩ | ⟨b', base', lim', cells, T, lo, hi', he, hw, hsz, hlen, hfit, hfz, hone, hrows⟩
  · cases h
  · cases he
    obtain ⟨vo, ho, _, _, hcell⟩ := read_rows hi hc hρ hs
    obtain ⟨hol, hle, _⟩ := segR_spec hs
    have hmul : (s + cap) * sz ≤ lim * sz := Nat.mul_le_mul_right _ hlim
    have hmul2 : (s + cap) * sz = s * sz + cap * sz := Nat.add_mul _ _ _
    have hmul3 : (n + news.length) * sz ≤ cap * sz := Nat.mul_le_mul_right _ hcap
    have hmul4 : (n + news.length) * sz = n * sz + news.length * sz := Nat.add_mul _ _ _
    have hvn := hn.1
    have hvo := ho.1
    rw [hol] at hvo
    have honeN := hn.one hi.obj1 hsz
    obtain ⟨cs', hrun, hcsz, hin, hout⟩ := run_storeList P (T := T) vn 0 (base + s * sz + n * sz) w cells hw (by omega) (hfz rfl) honeN
    have hb : b < w.heap.size := (Array.getElem?_eq_some_iff.1 hw).1
    have h1 : Inv X ρ (H.set c0 (.rows true sz [])) (setBlk w b (.cells cs' T (lo, hi'))) := by
      have hone' : ∀ v ∈ cs', v.oneCell' = true := fun u hu => by
        obtain ⟨j, hj⟩ := Array.mem_iff_getElem?.1 hu
        by_cases h1 : base + s * sz + n * sz + 0 ≤ j ∧ j < base + s * sz + n * sz + 0 + vn.length
        · rw [hin j h1.1 h1.2] at hj; exact honeN u (List.mem_of_getElem? hj)
        · rw [hout j (by omega)] at hj; exact hone rfl u (Array.mem_of_getElem? hj)
      refine hi.upd hc hρ rfl rfl rfl rfl (by simp [setBlk]) (fun b' hb' => ?_) (.inr ⟨b, base, lim, cs', T, lo, hi', rfl, ?_, hsz, by simp, by omega, fun _ => by rw [hcsz]; exact hfz rfl, fun _ => hone', fun i row h => by simp at h⟩) rfl
      · have : b ≠ b' := fun e => hb' (by rw [e]; rfl)
        simp [setBlk, this]
      · simp [setBlk, hb]
    have h2 := h1.drop c0
    rw [List.set_set] at h2
    refine ⟨_, by rw [addr_add]; simpa using hrun, h2.take (hm.drop hc (by simp)) _ _ (fun _ _ => by simp) ?_ (fun b' hb' => ?_) (fun _ _ => by simp) ?_⟩
    · have hone' : ∀ v ∈ cs', v.oneCell' = true := fun u hu => by
        obtain ⟨j, hj⟩ := Array.mem_iff_getElem?.1 hu
        by_cases h1 : base + s * sz + n * sz + 0 ≤ j ∧ j < base + s * sz + n * sz + 0 + vn.length
        · rw [hin j h1.1 h1.2] at hj; exact honeN u (List.mem_of_getElem? hj)
        · rw [hout j (by omega)] at hj; exact hone rfl u (Array.mem_of_getElem? hj)
      refine .inr ⟨b, base + s * sz, cap, cs', T, lo, hi', rfl, by simp [setBlk, hb], hsz, by simp [hol]; exact hcap, by omega, fun _ => by rw [hcsz]; exact hfz rfl, fun _ => hone', ?_⟩
      have hall := (ho.append hn).pre (addR_le hi.len hm (.mem b (base + s * sz) sz cap))
      refine hall.at fun j u hj => ?_
      by_cases hlt : j < n * sz
      · rw [hout _ (by omega)]
        rw [List.getElem?_append_left (by omega)] at hj
        have := hcell j u hj
        simpa [World.cell?, hw] using this
      · have hjl := (List.getElem?_eq_some_iff.1 hj).1
        rw [List.length_append] at hjl
        rw [List.getElem?_append_right (by omega)] at hj
        rw [hin _ (by omega) (by omega), ← hj]
        congr 1; omega
    · simp only [Pl.blk, Option.some.injEq] at hb'
      subst hb'
      exact hi.own c0 _ _ b hc rfl hρ rfl
    · intro d x k b' hd hox hk hkb hbb
      simp only [Pl.blk, Option.some.injEq] at hbb
      subst hbb
      by_cases e : d = c0
      · subst e
        rw [List.getElem?_set] at hd
        simp at hd
        rw [← hd.2] at hox; cases hox
      · rw [List.getElem?_set_ne (Ne.symm e)] at hd
        exact hi.apart d c0 _ _ _ _ b e hd hc hox rfl hk hρ hkb rfl

theorem nowhere_ok (hi : Inv X ρ H w) (hm : PlaceOK ρ H m) (sz : Nat) : Inv X (addR ρ m .nowhere) (up1 H m (.rows true sz [])) w ∧ relI (addR ρ m .nowhere) (.s (.slice m 0 0)) (.slice none 0 0) :=
  ⟨hi.take hm _ _ (fun _ _ => by simp) (.inl ⟨rfl, rfl⟩) (fun b hb => by cases hb) (fun _ _ => by simp) (fun _ _ _ _ _ _ _ _ => by simp [Pl.blk]), .inl ⟨addR_get hi.len hm _, rfl, rfl, rfl⟩⟩

theorem firstCells_zero {sz : Nat} {bs : Option Addr} {cap : Nat} {w : World} : (Builtin.firstCells sz 0 (.slice bs 0 cap)).run P w = .ok #[] w := by
  cases bs with
  | none => simp [run_firstCells_none]
  | some a => exact run_firstCells_some w _ _ _ _ _ [] (by simp) fun j u hj => by simp at hj

theorem stAppend_sound {T T2 ty : TypeId} {x y : IV} {xv yv : Value} (hi : Inv X ρ H w) (hx : relI ρ x xv) (hy : relI ρ y yv) (hm : PlaceOK ρ H m) (h : stAppend P m T T2 x y H = some (c, v, W)) (hc : c) :
    StepOK P X ρ (do pure (.value (← Builtin.append_ #[T, T2] ty #[xv, yv]))) w v H W := by
  unfold stAppend at h
  split at h
  · rename_i z k hz hk hq
    split at h
    · rename_i h0
      obtain ⟨hz0, hk0⟩ := h0
      split at h
      · rename_i news hnews
        unfold zeroE at hz
        split at hz
        · rename_i e hu
          unfold bytesE at hk
          rw [hu] at hk
          obtain ⟨i, zv, hinf, hzero, hzrel, hisz⟩ := zeroT_spec2 (ρ := ρ) hz
          simp only [hinf, Option.map_some, Option.some.injEq] at hk
          obtain ⟨e2, hu2, hd2⟩ := srcT_spec hq
          obtain ⟨vn, hvn, hlenY, hread0⟩ := src_spec (P := P) (w := w) hi hy hnews
          have hread : ∀ w' : World, w'.heap = w.heap → (Builtin.firstCells z.length news.length yv).run P w' = .ok vn.toArray w' := fun w' hw => by
            have := hread0 w' news.length hw (Nat.le_refl _)
            rwa [List.take_of_length_le (by rw [hvn.1]; exact Nat.le_refl _)] at this
          clear hread0
          have hpos : 0 < z.length := by omega
          have hkpos : 0 < k := by omega
          have bound : ∀ n : Nat, n * k ≤ 140737488355328 → (n : Int) ≤ 9223372036854775807 := fun n h => by
            have : n * 1 ≤ n * k := Nat.mul_le_mul_left _ hkpos
            omega
          -- the way of the new block
          have grow : ∀ (Hx : Heap) (base : Option Addr) (n cap : Nat) (olds : List (List SV)) (vo : List Value), Inv X ρ Hx w → PlaceOK ρ Hx m → rowsV ρ z.length olds vo → olds.length = n → cap < n + news.length → (n + news.length) * k ≤ 140737488355328 →
              (∀ w' : World, w'.heap = w.heap → (Builtin.firstCells z.length n (.slice base n cap)).run P w' = .ok vo.toArray w') →
              ∃ ρ' xr w', Le ρ ρ' ∧ (∀ W : List (Nat × Chunk), m ∈ W.map (·.1) → VK ρ ρ' W) ∧ relI ρ' (.s (.slice m 0 (n + news.length))) xr ∧ Inv X ρ' (up1 Hx m (.rows true z.length (olds ++ news))) w' ∧
                (Builtin.append_ #[T, T2] ty #[.slice base n cap, yv]).run P w = .ok xr w' := by
            intro Hx base n cap olds vo hiH hmH hvo hol hlt hb hfo
            obtain ⟨g1, g2⟩ := grow_ok hiH hmH e hzrel hpos hvo hvn (n := n + news.length) (by omega) (grownCap_ge w (n + news.length) cap e)
            refine ⟨_, _, _, addR_le hiH.len hmH _, fun W h => VK.put h, g2, g1, ?_⟩
            refine run_app_grow hu hu2 hd2 hinf hzero (by rw [hisz]; exact hfo w.drew rfl) hlenY (by rw [hisz]; exact hread w.drew rfl) hlt (bound _ hb) ?_
            rw [hk]; exact growslice_fits hlt hb
          have fin : ∀ {xw : Value} {W : List (Nat × Chunk)} {vv : IV}, m ∈ W.map (·.1) → (∃ ρ' xr w', Le ρ ρ' ∧ (∀ W : List (Nat × Chunk), m ∈ W.map (·.1) → VK ρ ρ' W) ∧ relI ρ' vv xr ∧ Inv X ρ' (upd H W) w' ∧
                (Builtin.append_ #[T, T2] ty #[xw, yv]).run P w = .ok xr w') → StepOK P X ρ (do pure (.value (← Builtin.append_ #[T, T2] ty #[xw, yv]))) w vv H W := by
            rintro xw W vv hmW ⟨ρ', xr, w', h1, h2, h3, h4, h5⟩
            exact ⟨ρ', xr, w', h1, h2 W hmW, h3, h4, .inl (by simp [h5])⟩
          have empty : news = [] → ∀ {Hx : Heap}, Inv X ρ Hx w → PlaceOK ρ Hx m → ∃ ρ' xr w', Le ρ ρ' ∧ (∀ W : List (Nat × Chunk), m ∈ W.map (·.1) → VK ρ ρ' W) ∧ relI ρ' (.s (.slice m 0 0)) xr ∧ Inv X ρ' (up1 Hx m (.rows true z.length [])) w' ∧
                (Builtin.append_ #[T, T2] ty #[.slice none 0 0, yv]).run P w = .ok xr w' := by
            intro hn Hx hiH hmH
            obtain ⟨g1, g2⟩ := nowhere_ok hiH hmH z.length
            refine ⟨_, _, _, addR_le hiH.len hmH _, fun W h => VK.put h, g2, g1, ?_⟩
            have h0 : (Builtin.firstCells z.length 0 yv).run P w = .ok #[] w := by
              have := hread w rfl
              rw [hn] at this
              have hv0 : vn = [] := List.eq_nil_of_length_eq_zero (by rw [hvn.1, hn]; simp)
              rw [hv0] at this
              simpa using this
            exact run_app_nil0 hu hu2 hd2 hinf (by rw [hn] at hlenY; exact hlenY) (by rw [hisz]; exact h0)
          have fromNil : ∀ {Hx : Heap}, Inv X ρ Hx w → PlaceOK ρ Hx m → news.length * k ≤ 140737488355328 → ∃ ρ' xr w', Le ρ ρ' ∧ (∀ W : List (Nat × Chunk), m ∈ W.map (·.1) → VK ρ ρ' W) ∧ relI ρ' (.s (.slice m 0 news.length)) xr ∧
                Inv X ρ' (up1 Hx m (.rows true z.length news)) w' ∧ (Builtin.append_ #[T, T2] ty #[.slice none 0 0, yv]).run P w = .ok xr w' := by
            intro Hx hiH hmH hb
            by_cases hn : news = []
            · have := empty hn hiH hmH
              rw [hn]; exact this
            · have hlt : 0 < news.length := List.length_pos_iff.2 hn
              have := grow Hx none 0 0 [] [] hiH hmH rowsV.nil rfl (by omega) (by simpa using hb) (fun w' _ => firstCells_zero)
              simpa using this
          split at h
          · cases h
            obtain ⟨rfl, _⟩ := hx
            exact fin (by simp) (fromNil hi hm hc)
          · rename_i c0 s n
            split at h
            · rename_i sz els hch
              split at h
              · rename_i hsz; subst hsz
                split at h
                · rename_i olds holds
                  cases h
                  have hlt : c0 < H.length := (List.getElem?_eq_some_iff.1 hch).1
                  have eu : up1 H c0 .gone = H.set c0 .gone := by unfold up1; rw [if_neg (by omega)]
                  have hmd := hm.drop hch (by simp)
                  obtain ⟨hol, hle, _⟩ := segR_spec holds
                  refine fin (by simp) ?_
                  simp only [upd, eu]
                  rcases hx with ⟨hρ, rfl, rfl, rfl⟩ | ⟨b, base, sz1, lim, cap, hρ, rfl, hcap, hlim⟩ | ⟨b, base, sz1, lim, off, hρ, rfl, rfl⟩
                  · have : olds = [] := List.eq_nil_of_length_eq_zero hol
                    subst this
                    simpa using fromNil (hi.drop c0) hmd (by simpa using hc)
                  · obtain ⟨vo, hvo, rfl, _, hcell⟩ := read_rows hi hch hρ holds
                    by_cases hroom : n + news.length ≤ cap
                    · obtain ⟨w', hst, hinv⟩ := room_ok (P := P) hi hm hch hρ holds hvn hroom hlim
                      refine ⟨_, _, w', addR_le hi.len hm _, fun W h => VK.put h, .inr (.inl ⟨b, base + s * z.length, z.length, cap, cap, addR_get hi.len hm _, rfl, hroom, by omega⟩), hinv, ?_⟩
                      rw [Nat.zero_mul, Nat.add_zero]
                      exact run_app_room hu hu2 hd2 hinf hlenY (by rw [hisz]; exact hread w rfl) (by rw [hisz]; exact hst) hroom
                    · refine grow _ _ n cap olds vo (hi.drop c0) hmd hvo hol (by omega) hc fun w' hw => run_firstCells_some w' _ _ _ _ _ vo (by rw [hvo.1, hol]) fun j u hj => ?_
                      rw [addr_add, ← hcell j u hj]
                      simp [World.cell?, hw]
                  · have : olds = [] := List.eq_nil_of_length_eq_zero hol
                    subst this
                    by_cases hn : news = []
                    · obtain ⟨l', hl', hsat⟩ := hi.sat c0 _ hch
                      rw [hρ] at hl'; cases hl'
                      rcases hsat with ⟨h, _⟩ | ⟨b', base', lim', cells, T', lo, hi', he, hw, hsz1, hlen, hfit, hfz, hone, hrows⟩
                      · cases h
                      · cases he
                        subst hn
                        refine ⟨_, _, w, addR_le hi.len hm (.mem b 0 z.length 0), fun W h => VK.put h, .inr (.inr ⟨b, 0, z.length, 0, off, addR_get hi.len hm _, rfl, rfl⟩), (hi.drop c0).take hmd _ _ (fun _ _ => by simp)
                          (.inr ⟨b, 0, 0, cells, T', lo, hi', rfl, hw, hsz1, by simp, by simp, hfz, hone, fun i row h => by simp at h⟩) (fun b' hb' => ?_) (fun _ _ => by simp) ?_, ?_⟩
                        · simp only [Pl.blk, Option.some.injEq] at hb'
                          subst hb'
                          exact hi.own c0 _ _ b hch rfl hρ rfl
                        · intro d x k' b' hd hox hk' hkb hbb
                          simp only [Pl.blk, Option.some.injEq] at hbb
                          subst hbb
                          by_cases e : d = c0
                          · subst e
                            rw [List.getElem?_set] at hd
                            simp at hd
                            rw [← hd.2] at hox; cases hox
                          · rw [List.getElem?_set_ne (Ne.symm e)] at hd
                            exact hi.apart d c0 _ _ _ _ b e hd hch hox rfl hk' hρ hkb rfl
                        · have hv0 : vn = [] := List.eq_nil_of_length_eq_zero (by rw [hvn.1]; simp)
                          subst hv0
                          exact run_app_room (w' := w) hu hu2 hd2 hinf hlenY (by rw [hisz]; exact hread w rfl) (by simp only [storeCells]; rfl) (by simp)
                    · have hl0 : 0 < news.length := List.length_pos_iff.2 hn
                      exact grow _ _ 0 0 [] [] (hi.drop c0) hmd rowsV.nil rfl (by omega) hc (fun w' _ => firstCells_zero)
                · cases h
              · cases h
            · cases h
          · cases h
        · cases hz
      · cases h
    · cases h
  · cases h
end
end Go.Ev
