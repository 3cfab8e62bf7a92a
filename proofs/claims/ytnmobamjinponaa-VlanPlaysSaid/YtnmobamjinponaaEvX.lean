/- A law's argument that is a struct whose fields are plain data or slices of plain data. -/
import Derived.Test.YtnmobamjinponaaEvC
import Derived.Test.YtnmobamjinponaaEvD
import Derived.Test.YtnmobamjinponaaEvB
import Derived.RangeFuncWrites
import Derived.RangeFuncLeaves
namespace Go.Ev
open Go.RowKit Go.ChangeShapes Go.WideShapes Go.ChangeAt
inductive MK where
  | sc (ls : List Leaf)
  | sl (e : TypeId) (ls : List Leaf)
def MK.n : MK → Nat
  | .sc ls => ls.length
  | .sl _ _ => 1
section
variable {H : Type} {enc : TypeId × Value → H} {P : Program} {W : World} {b0 : Nat}

/-! #### arguments: plain data, slices of plain data, structs of both -/
inductive AQ where
  | scal (ls : List Leaf) (ag : Bool)
  | sl (e : TypeId) (ls : List Leaf)
  | mix (ms : List MK)

end
end Go.Ev

/- A range over a function: the law, in the evaluator's terms. -/
set_option linter.unusedVariables false
set_option linter.unusedSimpArgs false
namespace Go.Ev
open Go.RowKit

section
variable {P : Program} {X : Ctx}

theorem SatC.other {ρ : Ren} {w w' : World} {l : Pl} {ch : Chunk} (h : SatC ρ w l ch) (hh : ∀ (b : Nat) (o : Obj), w.heap[b]? = some o → (o.isCells = true ∨ o.isWalk = true) → w'.heap[b]? = some o) : SatC ρ w' l ch := by
  cases ch with
  | rows own sz els =>
    rcases h with h | ⟨b, base, lim, cells, T, lo, hi, e, hb, rest⟩
    · exact .inl h
    · exact .inr ⟨b, base, lim, cells, T, lo, hi, e, hh _ _ hb (.inl rfl), rest⟩
  | map clock es =>
    obtain ⟨b, ents, e, hb, rest⟩ := h
    exact ⟨b, ents, e, hh _ _ hb (.inr rfl), rest⟩
  | iter _ _ _ _ =>
    obtain ⟨b, mo, e, hb, rest⟩ := h
    exact ⟨b, mo, e, hh _ _ hb (.inr rfl), rest⟩
  | clo _ _ _ => exact h
  | gone => trivial

/-- Only what no chunk is was changed. -/
theorem Inv.other {ρ : Ren} {H : Heap} {w w' : World} (h : Inv X ρ H w) (hos : w'.os = w.os) (htape : w'.tape = w.tape) (hout : w'.output = w.output) (hdr : w.drawn ≤ w'.drawn) (hsize : w.heap.size ≤ w'.heap.size)
    (hh : ∀ (b : Nat) (o : Obj), w.heap[b]? = some o → (o.isCells = true ∨ o.isWalk = true ∨ b < X.w0.heap.size) → w'.heap[b]? = some o) : Inv X ρ H w' where
  os := hos.trans h.os
  tape := htape.trans h.tape
  output := hout.trans h.output
  drawn := Nat.le_trans h.drawn hdr
  size := Nat.le_trans h.size hsize
  old := fun b hb hF => by
    have e := h.old b hb hF
    rw [← e]
    have hlt : b < w.heap.size := Nat.lt_of_lt_of_le hb h.size
    exact (hh b _ (Array.getElem?_eq_getElem hlt) (.inr (.inr hb))).trans (Array.getElem?_eq_getElem hlt).symm
  len := h.len
  obj1 := h.obj1
  sat := fun c ch hc => let ⟨l, hl, hs⟩ := h.sat c ch hc; ⟨l, hl, hs.other fun b o hb ho => hh b o hb (ho.elim .inl fun h => .inr (.inl h))⟩
  own := h.own
  ro := h.ro
  apart := h.apart

/-- The blocks of all chunks that may be written. -/
def FA (ρ : Ren) (H : Heap) (b : Nat) : Prop := ∃ (c : Nat) (ch : Chunk) (l : Pl), H[c]? = some ch ∧ Chunk.owned ch = true ∧ ρ[c]? = some l ∧ l.blk = some b

theorem Inv.rebase {ρ : Ren} {H : Heap} {w : World} (h : Inv X ρ H w) (N : Nat) (dl : List Deferred) (ro : Option Nat) : Inv ⟨w, FA ρ H, N, dl, ro, fun _ _ _ => False⟩ ρ H w where
  os := rfl
  tape := rfl
  output := rfl
  drawn := Nat.le_refl _
  size := Nat.le_refl _
  old := fun _ _ _ => rfl
  len := h.len
  obj1 := h.obj1
  sat := h.sat
  own := fun c ch l b hc ho hl hb => .inl ⟨c, ch, l, hc, ho, hl, hb⟩
  ro := fun c sz els l b hc hl hb => by
    obtain ⟨l', hl', hs⟩ := h.sat c _ hc
    rw [hl] at hl'; cases hl'
    refine ⟨hs.blk_lt (.inr ⟨sz, els, rfl⟩) hb, ?_⟩
    rintro ⟨d, dh, m, h1, h2, h3, h4⟩
    have h5 := h.ro c sz els l b hc hl hb
    rcases h.own d dh m b h1 h2 h3 h4 with h6 | h6
    · exact h5.2 h6
    · omega
  apart := h.apart

theorem Inv.unbase {ρ ρ2 : Ren} {H H2 : Heap} {w w2 : World} {N N' : Nat} {dl : List Deferred} {ro : Option Nat} (h : Inv X ρ H w) (h2 : Inv ⟨w, FA ρ H, N, dl, ro, fun _ _ _ => False⟩ ρ2 H2 w2) (hle : LeN N' ρ ρ2)
    (hro : ∀ (c sz : Nat) (els : List (List SV)), H2[c]? = some (.rows false sz els) → c < N' ∧ ∃ sz els, H[c]? = some (.rows false sz els)) : Inv X ρ2 H2 w2 where
  os := h2.os.trans h.os
  tape := h2.tape.trans h.tape
  output := h2.output.trans h.output
  drawn := Nat.le_trans h.drawn h2.drawn
  size := Nat.le_trans h.size h2.size
  old := fun b hb hF => by
    rw [← h.old b hb hF]
    refine h2.old b (Nat.lt_of_lt_of_le hb h.size) ?_
    rintro ⟨d, dh, m, h1, h3, h4, h5⟩
    rcases h.own d dh m b h1 h3 h4 h5 with h6 | h6
    · exact hF h6
    · omega
  len := h2.len
  obj1 := h2.obj1
  sat := h2.sat
  own := fun c ch l b hc ho hl hb => by
    rcases h2.own c ch l b hc ho hl hb with ⟨d, dh, m, h1, h3, h4, h5⟩ | h6
    · exact h.own d dh m b h1 h3 h4 h5
    · exact .inr (Nat.le_trans h.size h6)
  ro := fun c sz els l b hc hl hb => by
    obtain ⟨hlt, sz', els', hc'⟩ := hro c sz els hc
    obtain ⟨l', hl', hs⟩ := h.sat c _ hc'
    by_cases hv : l' = .void
    · subst hv
      exact absurd hs (by rintro (⟨h, _⟩ | ⟨_, _, _, _, _, _, _, h, _⟩) <;> cases h)
    · have := hle.get c l' hlt hl' hv
      rw [hl] at this; cases this
      exact h.ro c sz' els' l b hc' hl' hb
  apart := h2.apart

theorem notFA {ρ : Ren} {H : Heap} {w : World} {b : Nat} {o : Obj} (h : Inv X ρ H w) (hb : w.heap[b]? = some o) (hc : o.isCells = false) (hw : o.isWalk = false) : ¬ FA ρ H b := by
  rintro ⟨c, ch, l, h1, h2, h3, h4⟩
  obtain ⟨l', hl', hs⟩ := h.sat c ch h1
  rw [h3] at hl'; cases hl'
  cases ch with
  | rows own sz els =>
    rcases hs with ⟨rfl, _⟩ | ⟨b', base, lim, cells, T, lo, hi, rfl, hb', _⟩
    · cases h4
    · cases h4; rw [hb] at hb'; cases hb'; cases hc
  | map clock es => obtain ⟨b', ents, rfl, hb', _⟩ := hs; cases h4; rw [hb] at hb'; cases hb'; cases hw
  | iter _ _ _ _ => obtain ⟨b', mo, rfl, hb', _⟩ := hs; cases h4; rw [hb] at hb'; cases hb'; cases hw
  | clo _ _ _ => cases h2
  | gone => cases h2

/-- An iterator without a state of its own: it hands one value after the other to the round, whatever the rounds do to the world, as long as the world keeps what it reads. -/
def Iter (P : Program) (gf : FuncId) (lb : Array Value) {α : Type} (v : α → Value) (xs : List α) (IC : World → Prop) : Prop :=
  ∀ (l : Nat) (Js : List α → World → Prop), (∀ pre W W', Js pre W → BelowD W.heap.size W W' → Js pre W') → (∀ pre W, Js pre W → IC W) →
    (∀ pre x W, Js pre W → (pre ++ [x]) <+: xs → YieldAt Fence.wide 0 P l #[v x] W fun e W' => e = .returned (.bool true) ∧ Js (pre ++ [x]) W') →
    ∀ W, Js [] W → CallsIn Fence.wide 0 P gf (#[.func (.yield l) #[] #[]] ++ lb) W fun e W' => (∃ u, e = .returned u) ∧ Js xs W'

theorem inv_put {ρ : Ren} {H : Heap} {w : World} {l : Nat} {r : Go.Loop} {o : Obj} (h : Inv X ρ H w) (hl : w.heap[l]? = some (.loop r)) (hX : X.w0.heap.size ≤ l) : Inv X ρ H (w.putObj l o) := by
  refine h.other rfl rfl rfl (Nat.le_refl _) (by rw [World.putObj_size]; exact Nat.le_refl _) fun b o' hb ho => ?_
  have hne : b ≠ l := by
    rintro rfl
    rw [hl] at hb; cases hb
    rcases ho with ho | ho | ho
    · cases ho
    · cases ho
    · omega
  rw [World.putObj_heap_other hne]; exact hb

/-- One round of a range over a function. -/
theorem round_sound {α : Type} {n N p d rid l D : Nat} {T : TypeId} {pos : String} {ρ : Ren} {tm : TM} {H : Heap} {tmps : Array Value} {body : Code} {fn : FuncId} {v : α → Value} (J : List α → Heap → Prop) {pre : List α} {x : α} {W : World}
    (hsz : tmps.size = n) (htm : ∀ ρ1, LeN N ρ ρ1 → ∀ t, relI ρ1 (get tm t) (tmps.getD t undef)) (hv : ∀ x ρ1, relI ρ1 (.s (.raw (v x))) (v x)) (hp : p < n) (hd : d < n)
    (hJro : ∀ pre pre' H1 H2, J pre H1 → J pre' H2 → ∀ (c sz : Nat) (els : List (List SV)), H2[c]? = some (.rows false sz els) → c < N ∧ ∃ sz els, H1[c]? = some (.rows false sz els))
    (hX : X.w0.heap.size ≤ l) (hXD : X.w0.heap.size ≤ D)
    (hbody : ∀ H1, J pre H1 → ∀ X1 : Ctx, X1.N = N → X1.dl = [] → IW P n X1 body (fun e tm' H' => e = .normal ∧ ∃ tm1 H2, Wk N tm' H' tm1 H2 ∧ J (pre ++ [x]) H2) ((d, .s (.raw (v x))) :: (p, .s (.raw (v x))) :: tm) H1)
    (Js : List α → World → Prop) (hJs : Js = fun pre W => ∃ ρ1 H1, J pre H1 ∧ LeN N ρ ρ1 ∧ Inv X ρ1 H1 W ∧
      W.heap[l]? = some (.loop { state := .ready, pending := none, fn := fn, tmps := tmps, params := #[p], assign := .region rid #[{ dst := some d, op := .assign (.tmp p), type := T, pos := pos, after := #[], guard := none }] false, body := body, defers := D }) ∧
      W.heap[D]? = some (.deferred (some [])))
    (h : Js pre W) : YieldAt Fence.wide 0 P l #[v x] W fun e W' => e = .returned (.bool true) ∧ Js (pre ++ [x]) W' := by
  subst hJs
  obtain ⟨ρ1, H1, hJ, hle, hi, hl, hD⟩ := h
  refine ⟨fn, _, _, body, run_yield hl rfl, ?_⟩
  refine roundIn_of_wpIn trivial ?_
  show wpR (some l) P _ _ _ _
  have hlD : l ≠ D := by rintro rfl; rw [hl] at hD; cases hD
  have hllt : l < W.heap.size := (Array.getElem?_eq_some_iff.1 hl).1
  refine wpR_region (fun j q hj => ?_) (fun ⟨_, _, h⟩ => h) ?_
  · cases j with
    | zero => simp at hj; subst hj; rfl
    | succ j => simp at hj
  simp only [List.size_toArray, List.length_cons, List.length_nil, List.range, List.range.loop, Nat.reduceAdd]
  rw [wpOps.eq_2]
  simp only [List.getElem?_toArray, List.getElem?_cons_zero, Region.wanted]
  refine .inl ?_
  unfold Oper.wp
  simp only [execOp, Act.eval, Sem.run_pure, Oper.upon_value, wpOps.eq_1, Exit.then]
  have hp' : (tmps.setIfInBounds p (v x)).getD p undef = v x := by simp [Array.getD_eq_getD_getElem?, Array.getElem?_setIfInBounds, hsz, hp]
  refine ⟨_, run_beginRound hl rfl, ?_⟩
  have hi2 := inv_put (o := .loop { state := .busy, pending := none, fn := fn, tmps := tmps, params := #[p], assign := .region rid #[{ dst := some d, op := .assign (.tmp p), type := T, pos := pos, after := #[], guard := none }] false, body := body, defers := D }) hi hl hX
  have hb := hbody H1 hJ ⟨_, FA ρ1 H1, N, [], some l, fun _ _ _ => False⟩ rfl rfl ρ1 ⟨(tmps.setIfInBounds p (v x)).setIfInBounds d (v x), []⟩ _ ⟨by simp [hsz], rfl, fun t => by
    simp only [get]
    by_cases e1 : d = t
    · subst e1; rw [if_pos rfl]
      have : ((tmps.setIfInBounds p (v x)).setIfInBounds d (v x)).getD d undef = v x := by simp [Array.getD_eq_getD_getElem?, Array.getElem?_setIfInBounds, hsz, hd]
      rw [this]; exact hv x ρ1
    · rw [if_neg e1]
      by_cases e2 : p = t
      · subst e2; rw [if_pos rfl]
        have : ((tmps.setIfInBounds p (v x)).setIfInBounds d (v x)).getD p undef = v x := by simp [Array.getD_eq_getD_getElem?, Array.getElem?_setIfInBounds, hsz, hp, e1]
        rw [this]; exact hv x ρ1
      · rw [if_neg e2]
        have : ((tmps.setIfInBounds p (v x)).setIfInBounds d (v x)).getD t undef = tmps.getD t undef := by simp [Array.getD_eq_getD_getElem?, Array.getElem?_setIfInBounds, e1, e2]
        rw [this]; exact htm ρ1 hle t⟩ (hi2.rebase N [] (some l))
  have hact : ({ tmps := tmps.setIfInBounds p (v x), defers := [] } : Act).put (some d) ((tmps.setIfInBounds p (v x)).getD p undef) = ⟨(tmps.setIfInBounds p (v x)).setIfInBounds d (v x), []⟩ := by rw [hp']; rfl
  have hf : Array.foldl (fun (tmps : Array Value) (x : Tmp × Value) => tmps.setIfInBounds x.fst x.snd) tmps (#[p].zip #[v x]) = tmps.setIfInBounds p (v x) := by simp
  rw [hf]
  show wpR (some l) P body _ (({ tmps := tmps.setIfInBounds p (v x), defers := [] } : Act).put (some d) ((tmps.setIfInBounds p (v x)).getD p undef)) _
  rw [hact]
  refine wpIn_mono hb ?_
  rintro e a' w' (⟨ρ2, tm2, H2', ⟨rfl, tm3, H3, hwk, hJ3⟩, hle2, ha2, hi3⟩ | ⟨_, _, _, hal⟩)
  rotate_left
  · exact hal.elim
  obtain ⟨ρ3, hle3, _, hi4⟩ := hwk _ _ _ _ _ ha2 hi3
  have hle13 : LeN N ρ1 ρ3 := hle2.trans hle3
  have hl' : w'.heap[l]? = _ := (hi4.old l (by rw [World.putObj_size]; exact hllt) (notFA hi2 (World.putObj_heap_same hllt) rfl rfl)).trans (World.putObj_heap_same hllt)
  have hD2 : (W.putObj l (.loop { state := .busy, pending := none, fn := fn, tmps := tmps, params := #[p], assign := .region rid #[{ dst := some d, op := .assign (.tmp p), type := T, pos := pos, after := #[], guard := none }] false, body := body, defers := D })).heap[D]? = some (.deferred (some [])) := by
    rw [World.putObj_heap_other (Ne.symm hlD)]; exact hD
  have hD' : w'.heap[D]? = _ := (hi4.old D (Array.getElem?_eq_some_iff.1 hD2).1 (notFA hi2 hD2 rfl rfl)).trans hD2
  have hi5 := hi2.unbase hi4 hle13 (hJro _ _ _ _ hJ hJ3)
  refine ⟨_, _, run_endRound none hl', rfl, ρ3, H3, hJ3, hle.trans hle13, inv_put hi5 hl' hX, ?_, ?_⟩
  · exact World.putObj_heap_same (Array.getElem?_eq_some_iff.1 hl').1
  · rw [World.putObj_heap_other (Ne.symm hlD)]; exact hD'

theorem below_alloc {w : World} {o : Obj} : BelowD w.heap.size w (w.alloc o) where
  os := rfl
  tape := rfl
  output := rfl
  size := by show w.heap.size ≤ (w.heap.push o).size; simp
  block := fun k hk => by
    show (w.heap.push o)[k]? = _
    rw [Array.getElem?_push, if_neg (by omega)]
  drawn := Nat.le_refl _
theorem below_alloc2 {w : World} {o1 o2 : Obj} : BelowD w.heap.size w ((w.alloc o1).alloc o2) where
  os := rfl
  tape := rfl
  output := rfl
  size := Nat.le_trans (below_alloc (o := o1)).size (below_alloc (o := o2)).size
  block := fun k hk => ((below_alloc (o := o2)).block k (Nat.lt_of_lt_of_le hk (below_alloc (o := o1)).size)).trans ((below_alloc (o := o1)).block k hk)
  drawn := Nat.le_refl _

/-- A range over a function whose rounds all go on: what holds of the ideal heap at each round's head (a fixed list of chunks for each list of values that came). Behind it the act has put something off. -/
theorem range_sound {α : Type} {n N p d rid : Nat} {T : TypeId} {pos : String} {ρ : Ren} {tm : TM} {H : Heap} {a : Act} {w : World} {g : Operand} {body : Code} {v : α → Value} {gf : FuncId} {lb : Array Value} {Q : Exit → Act → World → Prop}
    (xs : List α) (IC : World → Prop) (J : List α → Heap → Prop) (hsz : a.tmps.size = n) (hi : Inv X ρ H w) (hg : a.eval g = .func (.func gf) #[] lb) (hgf : enters P gf = true) (hiter : Iter P gf lb v xs IC)
    (htm : ∀ ρ1, LeN N ρ ρ1 → ∀ t, relI ρ1 (get tm t) (a.tmps.getD t undef)) (hv : ∀ x ρ1, relI ρ1 (.s (.raw (v x))) (v x)) (hp : p < n) (hd : d < n) (h0 : J [] H)
    (hJro : ∀ pre pre' H1 H2, J pre H1 → J pre' H2 → ∀ (c sz : Nat) (els : List (List SV)), H2[c]? = some (.rows false sz els) → c < N ∧ ∃ sz els, H1[c]? = some (.rows false sz els))
    (hIC : ∀ pre H1 ρ1 W, J pre H1 → LeN N ρ ρ1 → Inv X ρ1 H1 W → IC W)
    (hbody : ∀ pre x, (pre ++ [x]) <+: xs → ∀ H1, J pre H1 → ∀ X1 : Ctx, X1.N = N → X1.dl = [] → IW P n X1 body (fun e tm' H' => e = .normal ∧ ∃ tm1 H2, Wk N tm' H' tm1 H2 ∧ J (pre ++ [x]) H2) ((d, .s (.raw (v x))) :: (p, .s (.raw (v x))) :: tm) H1)
    (hout : ∀ D W ρ1 H1, J xs H1 → LeN N ρ ρ1 → Inv X ρ1 H1 W → W.heap[D]? = some (.deferred (some [])) → X.w0.heap.size ≤ D → Q .normal { tmps := a.tmps, defers := { target := .collected D, args := #[] } :: a.defers } W) :
    Code.wp P (.rangeFunc g #[p] (.region rid #[{ dst := some d, op := .assign (.tmp p), type := T, pos := pos, after := #[], guard := none }] false) body) Q a w := by
  refine (wpIn_wide (n := 0)).1 (wpIn_rangeFunc fun fn _ => ?_)
  have hw := hi.size
  have hb := below_alloc2 (w := w) (o1 := .deferred (some [])) (o2 := .loop { state := .ready, pending := none, fn := fn, tmps := a.tmps, params := #[p], assign := .region rid #[{ dst := some d, op := .assign (.tmp p), type := T, pos := pos, after := #[], guard := none }] false, body := body, defers := w.heap.size })
  have hsz1 : (w.alloc (.deferred (some []))).heap.size = w.heap.size + 1 := by show (w.heap.push _).size = _; simp
  have hl2 := World.alloc_heap_new (w.alloc (.deferred (some []))) (.loop { state := .ready, pending := none, fn := fn, tmps := a.tmps, params := #[p], assign := .region rid #[{ dst := some d, op := .assign (.tmp p), type := T, pos := pos, after := #[], guard := none }] false, body := body, defers := w.heap.size })
  rw [hsz1] at hl2
  have hD2 : ((w.alloc (.deferred (some []))).alloc (.loop { state := .ready, pending := none, fn := fn, tmps := a.tmps, params := #[p], assign := .region rid #[{ dst := some d, op := .assign (.tmp p), type := T, pos := pos, after := #[], guard := none }] false, body := body, defers := w.heap.size })).heap[w.heap.size]? = some (.deferred (some [])) :=
    (below_alloc.block _ (by rw [hsz1]; omega)).trans (World.alloc_heap_new _ _)
  refine ⟨_, _, _, ⟨.fn (.func gf) lb, #[.func (.yield (w.heap.size + 1)) #[] #[]]⟩, ((w.alloc (.deferred (some []))).alloc (.loop { state := .ready, pending := none, fn := fn, tmps := a.tmps, params := #[p], assign := .region rid #[{ dst := some d, op := .assign (.tmp p), type := T, pos := pos, after := #[], guard := none }] false, body := body, defers := w.heap.size })), gf, #[.func (.yield (w.heap.size + 1)) #[] #[]] ++ lb, ((w.alloc (.deferred (some []))).alloc (.loop { state := .ready, pending := none, fn := fn, tmps := a.tmps, params := #[p], assign := .region rid #[{ dst := some d, op := .assign (.tmp p), type := T, pos := pos, after := #[], guard := none }] false, body := body, defers := w.heap.size })), run_enterLoop_outer _ _ _ _ _, ?_, fun _ _ => trivial, ?_, fun h => (Bool.false_ne_true h).elim, ?_⟩
  · unfold resolve
    simp only [rangeCall, hg, Deferred.ofValue]
    have e : Array.map a.eval #[Operand.const (.func (.yield (w.heap.size + 1)) #[] #[])] = #[.func (.yield (w.heap.size + 1)) #[] #[]] := by simp [Act.eval]
    rw [e]
    simp
  · show (callFunc gf (#[.func (.yield (w.heap.size + 1)) #[] #[]] ++ lb)).run P _ = _
    exact enter_run hgf _ _
  refine (hiter (w.heap.size + 1) (fun pre W => ∃ ρ1 H1, J pre H1 ∧ LeN N ρ ρ1 ∧ Inv X ρ1 H1 W ∧
      W.heap[w.heap.size + 1]? = some (.loop { state := .ready, pending := none, fn := fn, tmps := a.tmps, params := #[p], assign := .region rid #[{ dst := some d, op := .assign (.tmp p), type := T, pos := pos, after := #[], guard := none }] false, body := body, defers := w.heap.size }) ∧
      W.heap[w.heap.size]? = some (.deferred (some []))) ?_ ?_ ?_ _ ⟨ρ, H, h0, LeN.refl _ _, hi.below hb, hl2, hD2⟩).mono ?_
  · rintro pre W W' ⟨ρ1, H1, hJ, hle, hi1, hl1, hD1⟩ hbw
    exact ⟨ρ1, H1, hJ, hle, hi1.below hbw, (hbw.block _ (Array.getElem?_eq_some_iff.1 hl1).1).trans hl1, (hbw.block _ (Array.getElem?_eq_some_iff.1 hD1).1).trans hD1⟩
  · rintro pre W ⟨ρ1, H1, hJ, hle, hi1, _⟩
    exact hIC pre H1 ρ1 W hJ hle hi1
  · intro pre x W hJ hpre
    exact round_sound (tm := tm) (H := H) J hsz htm hv hp hd hJro (by omega) hw (hbody pre x hpre) _ rfl hJ
  · rintro _ W' ⟨⟨u, rfl⟩, ρ1, H1, hJ, hle, hi1, hl1, hD1⟩
    refine ⟨none, _, run_endLoop hl1 (by simp), ?_⟩
    refine hout w.heap.size _ ρ1 H1 hJ hle (inv_put hi1 hl1 (by omega)) ?_ hw
    rw [World.putObj_heap_other (by omega)]; exact hD1
end
end Go.Ev

/- A function whose act has put something off behind a range over a function: its walk along the spine of its code, and its end. -/
set_option linter.unusedVariables false
namespace Go.Ev
open Go.RowKit

section
variable {P : Program} {n : Nat} {X : Ctx}

/-- The first k parts of a code's spine by the evaluator; what stands behind them is left. -/
def evS (P : Program) (n : Nat) (X : Ctx) : Nat → Code → (Exit → TM → Heap → Prop) → TM → Heap → Prop
  | 0, c, Q, tm, H => IW P n X c Q tm H
  | k + 1, .seq a b, Q, tm, H => ev P n X a (seqQ (evS P n X k b Q) Q) tm H
  | _ + 1, c, Q, tm, H => IW P n X c Q tm H
def spineOk (n : Nat) : Nat → Code → Bool
  | 0, _ => true
  | k + 1, .seq a b => codeOk n a && spineOk n k b
  | _ + 1, _ => true

theorem evS_sound : ∀ (k : Nat) (c : Code), spineOk n k c = true → ∀ (Q : Exit → TM → Heap → Prop) (tm : TM) (H : Heap), evS P n X k c Q tm H → IW P n X c Q tm H
  | 0, _, _, _, _, _, h => h
  | k + 1, .seq a b, hok, Q, tm, H, h => by
    simp only [spineOk, Bool.and_eq_true] at hok
    exact IW_seq (K := evS P n X k b Q) (fun tm H k' => evS_sound k b hok.2 Q tm H k') (ev_sound a hok.1 _ tm H h)
  | k + 1, .skip, _, Q, tm, H, h => h
  | k + 1, .region _ _ _, _, Q, tm, H, h => h
  | k + 1, .cond _ _ _, _, Q, tm, H, h => h
  | k + 1, .block _ _, _, Q, tm, H, h => h
  | k + 1, .exit _, _, Q, tm, H, h => h
  | k + 1, .ret, _, Q, tm, H, h => h
  | k + 1, .label _, _, Q, tm, H, h => h
  | k + 1, .loop _, _, Q, tm, H, h => h
  | k + 1, .rangeFunc _ _ _ _, _, Q, tm, H, h => h
  | k + 1, .scope _, _, Q, tm, H, h => h
  | k + 1, .goto _, _, Q, tm, H, h => h
  | k + 1, .refuse _, _, Q, tm, H, h => h

theorem Inv.ctx {X Y : Ctx} {ρ : Ren} {H : Heap} {w : World} (h : Inv X ρ H w) (e1 : Y.w0 = X.w0) (e2 : Y.F0 = X.F0) : Inv Y ρ H w := by
  obtain ⟨w0, F0, N, dl, ro, alt⟩ := X
  obtain ⟨w0', F0', N', dl', ro', alt'⟩ := Y
  cases e1; cases e2
  exact ⟨h.os, h.tape, h.output, h.drawn, h.size, h.old, h.len, h.obj1, h.sat, h.own, h.ro, h.apart⟩

theorem resK_any {Y : Ctx} {ρ : Ren} {tm : TM} {a : Act} {H : Heap} {w : World} {fn : Func} {k : IV → Heap → Prop} (ha : RelA Y n ρ tm a) (hi : Inv X ρ H w) (h : resK (resI P tm H fn.results.toList) k H) :
    ∃ v r, (results fn a.tmps).run P w = .ok v w ∧ k r H ∧ relI ρ r v :=
  resK_run (X := { X with dl := Y.dl }) ⟨ha.size, ha.defers, ha.rel⟩ (hi.ctx rfl rfl) h

/-- How a function leaves whose act has put off what the range's rounds put off: nothing. -/
def leftG (P : Program) (n : Nat) (X : Ctx) (rs : List ResultVar) (k : IV → Heap → Prop) (ρ' : Ren) (a : Act) (w : World) : Prop :=
  ∃ D X' tm' H', a.defers = [{ target := .collected D, args := #[] }] ∧ w.heap[D]? = some (.deferred (some [])) ∧ X.w0.heap.size ≤ D ∧ resK (resI P tm' H' rs) k H' ∧ RelA X' n ρ' tm' a ∧ Inv X ρ' H' w

/-- A call of such a function, walked in place: early returns as always, the late ones by leftG. -/
theorem callK_inlineM {f : FuncId} {fn : Func} {c : Code} {args : List IV} {k : IV → Heap → Prop} {H : Heap} {rs : List ResultVar} (hf : P.funcs[f]? = some fn) (hb : fn.body = some c) (hrs : fn.results.toList = rs) (hnt : fn.ntmps = n) (he : enters P f = true)
    (hn : args.length ≤ n) (h : IW P n { X.at H.length with alt := leftG P n X rs k } c (retQ P rs k) (argsTM 0 args) H) : callK P X f args k H := by
  subst hrs; subst hnt
  refine ⟨he, fun ρ vs w hargs hi => ?_⟩
  refine (callsIn_wide (n := 0)).1 (callsIn_of_wp_marks hf hb trivial ?_ rfl)
  refine wpIn_mono (h ρ _ w ⟨(relA_enter (X := X) (N := H.length) hargs hn).size, rfl, (relA_enter (X := X) (N := H.length) hargs hn).rel⟩ ⟨hi.os, hi.tape, hi.output, hi.drawn, hi.size, hi.old, hi.len, hi.obj1, hi.sat, hi.own, hi.ro, hi.apart⟩) ?_
  rintro e a w' (⟨ρ', tm, H', q, hp, ha, hi'⟩ | ⟨rfl, ρ', hp, D, X', tm, H', hdef, hD, hX, hk, ha, hi'⟩)
  · have hi2 : Inv X ρ' H' w' := hi'.ctx rfl rfl
    have fin : resK (resI P tm H' fn.results.toList) k H' → LeavesInM Fence.wide 0 P fn a.tmps (fun e w' => ∃ v r H' ρ', e = .returned v ∧ k r H' ∧ relI ρ' r v ∧ Le ρ ρ' ∧ Inv X ρ' H' w') a.defers .returning w' := by
      intro hk
      obtain ⟨v, r, hrun, hkr, hr⟩ := resK_any ha hi2 hk
      have hp' : LeN ρ.length ρ ρ' := by rw [hi.len]; exact hp
      rw [show a.defers = [] from ha.defers, LeavesInM.eq_1, LeavesIn.eq_1]
      exact ⟨v, hrun, v, r, H', ρ', rfl, hkr, hr, hp'.full, hi2⟩
    cases e with
    | normal => exact fin q
    | ret => exact fin q
    | _ => exact q.elim
  · have hp' : LeN ρ.length ρ ρ' := by rw [hi.len]; exact hp
    have hi2 : Inv X ρ' H' (w'.putObj D (.deferred none)) := by
      refine hi'.other rfl rfl rfl (Nat.le_refl _) (by rw [World.putObj_size]; exact Nat.le_refl _) fun b o hb ho => ?_
      have hne : b ≠ D := by
        rintro rfl
        rw [hD] at hb; cases hb
        rcases ho with ho | ho | ho
        · cases ho
        · cases ho
        · omega
      rw [World.putObj_heap_other hne]; exact hb
    obtain ⟨v, r, hrun, hkr, hr⟩ := resK_any ha hi2 hk
    show LeavesInM _ _ _ _ _ _ _ _ _
    rw [hdef, LeavesInM.eq_2]
    refine ⟨by simp, .inl ⟨D, _, rfl, run_takeDeferred hD, ?_⟩⟩
    rw [LeavesInM.eq_1, LeavesIn.eq_1]
    exact ⟨v, hrun, v, r, H', ρ', rfl, hkr, hr, hp'.full, hi2⟩

theorem LeN.down {M N : Nat} {ρ ρ' : Ren} (h : LeN N ρ ρ') (hl : N ≤ ρ.length) (hm : M ≤ N) : LeN M ρ ρ' :=
  ⟨fun _ => Nat.le_trans hm (h.len hl), fun c l hc => h.get c l (Nat.lt_of_lt_of_le hc hm)⟩

/-- Only the first N chunks are spoken of. -/
def svLt (N : Nat) : SV → Bool
  | .ptr c _ _ => decide (c < N)
  | .slice c _ _ => decide (c < N)
  | .ref c => decide (c < N)
  | .sub c _ _ _ _ => decide (c < N)
  | _ => true
def icLt (N : Nat) : IV → Bool
  | .s x => svLt N x
  | .a l => l.all (svLt N)
  | _ => true
def ivLt (N : Nat) : IV → Bool
  | .t l => l.all (icLt N)
  | x => icLt N x
def tmLt (N : Nat) (tm : TM) : Bool := tm.all fun p => ivLt N p.2

theorem relS_lt {N : Nat} {ρ ρ' : Ren} (p : LeN N ρ ρ') {x : SV} {v : Value} (hx : svLt N x = true) (h : relS ρ x v) : relS ρ' x v := by
  cases x with
  | raw _ => exact h
  | ptr c i o => have hx := of_decide_eq_true hx; obtain ⟨b, base, sz, lim, hc, hx'⟩ := h; exact ⟨b, base, sz, lim, p.get _ _ hx hc (by simp), hx'⟩
  | slice c s n =>
    have hx := of_decide_eq_true hx
    rcases h with ⟨hc, h⟩ | ⟨b, base, sz, lim, cap, hc, h⟩ | ⟨b, base, sz, lim, off, hc, h⟩
    · exact .inl ⟨p.get _ _ hx hc (by simp), h⟩
    · exact .inr (.inl ⟨b, base, sz, lim, cap, p.get _ _ hx hc (by simp), h⟩)
    · exact .inr (.inr ⟨b, base, sz, lim, off, p.get _ _ hx hc (by simp), h⟩)
  | ref c =>
    have hx := of_decide_eq_true hx
    rcases h with ⟨b, h⟩ | ⟨h, h2⟩
    · exact .inl ⟨b, p.get _ _ hx h (by simp)⟩
    · exact .inr ⟨p.get _ _ hx h (by simp), h2⟩
  | sub c i o k n =>
    have hx := of_decide_eq_true hx
    rcases h with ⟨b, base, sz, lim, cap, hc, h⟩ | ⟨b, base, sz, lim, off, hc, h⟩
    · exact .inl ⟨b, base, sz, lim, cap, p.get _ _ hx hc (by simp), h⟩
    · exact .inr ⟨b, base, sz, lim, off, p.get _ _ hx hc (by simp), h⟩
  | junk => exact h
theorem relL_lt {N : Nat} {ρ ρ' : Ren} (p : LeN N ρ ρ') : ∀ {l : List SV} {vs : List Value}, l.all (svLt N) = true → relL ρ l vs → relL ρ' l vs
  | [], [], _, _ => trivial
  | x :: xs, _ :: _, hx, h => by
    simp only [List.all_cons, Bool.and_eq_true] at hx
    exact ⟨relS_lt p hx.1 h.1, relL_lt p hx.2 h.2⟩
  | [], _ :: _, _, h => h.elim
  | _ :: _, [], _, h => h.elim
theorem relC_lt {N : Nat} {ρ ρ' : Ren} (p : LeN N ρ ρ') {x : IV} {v : Value} (hx : icLt N x = true) (h : relC ρ x v) : relC ρ' x v := by
  cases x with
  | s x => exact relS_lt (x := x) p hx h
  | a l => obtain ⟨cs, e, h⟩ := h; exact ⟨cs, e, relL_lt p hx h⟩
  | t l => exact h.elim
  | j => trivial
theorem relT_lt {N : Nat} {ρ ρ' : Ren} (p : LeN N ρ ρ') : ∀ {l : List IV} {vs : List Value}, l.all (icLt N) = true → relT ρ l vs → relT ρ' l vs
  | [], [], _, _ => trivial
  | x :: xs, _ :: _, hx, h => by
    simp only [List.all_cons, Bool.and_eq_true] at hx
    exact ⟨relC_lt p hx.1 h.1, relT_lt p hx.2 h.2⟩
  | [], _ :: _, _, h => h.elim
  | _ :: _, [], _, h => h.elim
theorem relI_lt {N : Nat} {ρ ρ' : Ren} (p : LeN N ρ ρ') {x : IV} {v : Value} (hx : ivLt N x = true) (h : relI ρ x v) : relI ρ' x v := by
  cases x with
  | s x => exact relC_lt (x := .s x) p hx h
  | a l => exact relC_lt (x := .a l) p hx h
  | t l => obtain ⟨vs, e, h⟩ := h; exact ⟨vs, e, relT_lt p hx h⟩
  | j => trivial
theorem get_lt {N t : Nat} : ∀ {tm : TM}, tmLt N tm = true → ivLt N (get tm t) = true
  | [], _ => rfl
  | (s, v) :: tm, h => by
    simp only [tmLt, List.all_cons, Bool.and_eq_true] at h
    simp only [get]
    split
    · exact h.1
    · exact get_lt (tm := tm) h.2
/-- Temporaries that speak of the first N chunks alone hold on. -/
theorem tm_holds {N : Nat} {tm : TM} {ρ : Ren} {a : Act} (ht : tmLt N tm = true) (ha : RelA X n ρ tm a) : ∀ ρ1, LeN N ρ ρ1 → ∀ t, relI ρ1 (get tm t) (a.tmps.getD t undef) :=
  fun _ p t => relI_lt p (get_lt ht) (ha.rel t)

/-- The range and what stands behind it, up to the function's end: from a canonical state ahead of the range. -/
theorem range_tail {α : Type} {N p d rid bid : Nat} {T : TypeId} {pos : String} {ρ : Ren} {tm : TM} {H : Heap} {a : Act} {w : World} {g : Operand} {body tail : Code} {v : α → Value} {gf : FuncId} {lb : Array Value} {Q : Exit → TM → Heap → Prop}
    {Y : Ctx} {rs : List ResultVar} {k : IV → Heap → Prop} (hro : Y.ro = none) (hdl : Y.dl = []) (hw0 : Y.w0 = X.w0) (hF : Y.F0 = X.F0) (hN : Y.N ≤ N) (hNH : N ≤ H.length) (halt : Y.alt = leftG P n X rs k)
    (xs : List α) (IC : World → Prop) (J : List α → Heap → Prop) (ha : RelA Y n ρ tm a) (hi : Inv Y ρ H w) (hg : a.eval g = .func (.func gf) #[] lb) (hgf : enters P gf = true) (hiter : Iter P gf lb v xs IC)
    (htm : ∀ ρ1, LeN N ρ ρ1 → ∀ t, relI ρ1 (get tm t) (a.tmps.getD t undef)) (hv : ∀ x ρ1, relI ρ1 (.s (.raw (v x))) (v x)) (hp : p < n) (hd : d < n) (h0 : J [] H)
    (hJro : ∀ pre pre' H1 H2, J pre H1 → J pre' H2 → ∀ (c sz : Nat) (els : List (List SV)), H2[c]? = some (.rows false sz els) → c < N ∧ ∃ sz els, H1[c]? = some (.rows false sz els))
    (hIC : ∀ pre H1 ρ1 W, J pre H1 → LeN N ρ ρ1 → Inv Y ρ1 H1 W → IC W)
    (hbody : ∀ pre x, (pre ++ [x]) <+: xs → ∀ H1, J pre H1 → ∀ X1 : Ctx, X1.N = N → X1.dl = [] → IW P n X1 body (fun e tm' H' => e = .normal ∧ ∃ tm1 H2, Wk N tm' H' tm1 H2 ∧ J (pre ++ [x]) H2) ((d, .s (.raw (v x))) :: (p, .s (.raw (v x))) :: tm) H1)
    (htail : ∀ H1, J xs H1 → ∀ X1 : Ctx, X1.N = N → X1.ro = none → IW P n X1 tail (fun e tm' H' => e = .ret ∧ ∃ tm1 H2, Wk N tm' H' tm1 H2 ∧ resK (resI P tm1 H2 rs) k H2 ∧ ∀ (c sz : Nat) (els : List (List SV)), H2[c]? = some (.rows false sz els) → c < N ∧ ∃ sz els, H1[c]? = some (.rows false sz els)) tm H1) :
    Code.wp P (.block bid (.rangeFunc g #[p] (.region rid #[{ dst := some d, op := .assign (.tmp p), type := T, pos := pos, after := #[], guard := none }] false) body)) (Exit.then (Code.wp P tail (LQ n Y ρ Q)) (LQ n Y ρ Q)) a w := by
  refine wp_block ?_
  refine range_sound (n := n) (N := N) (ρ := ρ) (tm := tm) (H := H) xs IC J ha.size hi hg hgf hiter htm hv hp hd h0 hJro hIC hbody fun D W ρ1 H1 hJ hle hi1 hD hDge => ?_
  have hdef : a.defers = [] := by rw [ha.defers, hdl]
  show Code.wp P tail _ _ _
  have ht := htail H1 hJ ⟨W, FA ρ1 H1, N, [{ target := .collected D, args := #[] }], none, fun _ _ _ => False⟩ rfl rfl ρ1 { tmps := a.tmps, defers := { target := .collected D, args := #[] } :: a.defers } W ⟨ha.size, by rw [hdef], htm ρ1 hle⟩ (hi1.rebase N _ none)
  refine wp_mono (wpR_none.1 ht) ?_
  rintro e a' w' (⟨ρ2, tm2, H2', ⟨rfl, tm3, H3, hwk, hk, hro3⟩, hle2, ha2, hi2⟩ | ⟨_, _, _, hal⟩)
  rotate_left
  · exact hal.elim
  obtain ⟨ρ3, hle3, ha3, hi3⟩ := hwk _ _ _ _ _ ha2 hi2
  have hle13 : LeN N ρ1 ρ3 := hle2.trans hle3
  have hD' : w'.heap[D]? = _ := (hi3.old D (Array.getElem?_eq_some_iff.1 hD).1 (notFA hi1 hD rfl rfl)).trans hD
  refine .inr ⟨rfl, ρ3, (hle.trans hle13).down (by rw [hi.len]; exact hNH) hN, ?_⟩
  rw [halt]
  exact ⟨D, _, tm3, H3, ha3.defers, hD', by rw [← hw0]; exact hDge, hk, ha3, (hi1.unbase hi3 hle13 hro3).ctx hw0.symm hF.symm⟩
end
end Go.Ev

/- The range's surroundings taken apart: what stands ahead of it in the same part of the spine. -/
set_option linter.unusedVariables false
namespace Go.Ev
open Go.RowKit

section
variable {P : Program} {n : Nat} {X : Ctx}

/-- (r ; block {range}) ; tail: the first part by the evaluator, to a canonical state; the rest as range_tail tells it. -/
theorem IW_part {N : Nat} {r B tail : Code} {Q : Exit → TM → Heap → Prop} {tm : TM} {H : Heap} (tm1 : TM) (H1 : Heap) (hN : X.N ≤ N) (hNH : N ≤ H1.length) (hro : X.ro = none) (hok : codeOk n r = true)
    (h : ev P n X r (seqQ (fun tm H => Wk X.N tm H tm1 H1) fun _ _ _ => False) tm H)
    (hB : ∀ ρ a w, RelA X n ρ tm1 a → Inv X ρ H1 w → Code.wp P B (Exit.then (Code.wp P tail (LQ n X ρ Q)) (LQ n X ρ Q)) a w) : IW P n X (.seq (.seq r B) tail) Q tm H := by
  intro ρ a w ha hi
  rw [hro]
  refine wpR_none.2 (wp_seq (wp_seq ?_))
  have hr := ev_sound r hok _ _ _ h ρ a w ha hi
  rw [hro] at hr
  refine wp_mono (wpR_none.1 hr) ?_
  rintro e a' w' (⟨ρ', tm', H', q, hp, ha', hi'⟩ | ⟨rfl, ρ2, l2, hal⟩)
  · cases e with
    | normal =>
      obtain ⟨ρ1, l1, a1, i1⟩ := q X n ρ' a' w' ha' hi'
      have hb := hB ρ1 a' w' a1 i1
      have back : ∀ e a w, LQ n X ρ1 Q e a w → LQ n X ρ Q e a w := fun _ _ _ k => LQ.back (hp.trans l1) k
      refine wp_mono hb fun e a w k => ?_
      cases e with
      | normal => exact wp_mono (show Code.wp P tail (LQ n X ρ1 Q) a w from k) back
      | _ => exact back _ _ _ k
    | _ => exact q.elim
  · exact .inr ⟨rfl, ρ2, l2, hal⟩
end
end Go.Ev

/- A range over a function whose iterator has a state of its own, and may hand out its values in any order (the keys of a map). -/
set_option linter.unusedVariables false
set_option linter.unusedSimpArgs false
namespace Go.Ev
open Go.RowKit

section
variable {P : Program} {X : Ctx}

/-- The iterator's own blocks: none of the caller's chunks lies there. -/
def KP (X : Ctx) (ρ : Ren) (H : Heap) (W : World) (l D : Nat) (K : Nat → Prop) : Prop := ∀ b, K b → X.w0.heap.size ≤ b ∧ b < W.heap.size ∧ b ≠ l ∧ b ≠ D ∧ ¬ FA ρ H b

theorem Inv.keepB {ρ : Ren} {H : Heap} {w w' : World} (h : Inv X ρ H w) {B : Nat} (hos : w'.os = w.os) (htape : w'.tape = w.tape) (hout : w'.output = w.output) (hdr : w.drawn ≤ w'.drawn) (hsize : w.heap.size ≤ w'.heap.size)
    (hh : ∀ b, b ≠ B → b < w.heap.size → w'.heap[b]? = w.heap[b]?) (hB : X.w0.heap.size ≤ B) (hF : ¬ FA ρ H B) : Inv X ρ H w' where
  os := hos.trans h.os
  tape := htape.trans h.tape
  output := hout.trans h.output
  drawn := Nat.le_trans h.drawn hdr
  size := Nat.le_trans h.size hsize
  old := fun b hb hF0 => (hh b (by omega) (Nat.lt_of_lt_of_le hb h.size)).trans (h.old b hb hF0)
  len := h.len
  obj1 := h.obj1
  sat := fun c ch hc => by
    obtain ⟨l, hl, hs⟩ := h.sat c ch hc
    refine ⟨l, hl, ?_⟩
    cases ch with
    | rows own sz els =>
      rcases hs with hs | ⟨b, base, lim, cells, T, lo, hi, rfl, hb, rest⟩
      · exact .inl hs
      · refine .inr ⟨b, base, lim, cells, T, lo, hi, rfl, ?_, rest⟩
        have hne : b ≠ B := by
          rintro rfl
          cases own with
          | true => exact hF ⟨c, _, _, hc, rfl, hl, rfl⟩
          | false => have := (h.ro c sz els _ b hc hl rfl).1; omega
        exact (hh b hne (Array.getElem?_eq_some_iff.1 hb).1).trans hb
    | map clock es =>
      obtain ⟨b, ents, rfl, hb, rest⟩ := hs
      have hne : b ≠ B := by
        rintro rfl
        exact hF ⟨c, _, _, hc, rfl, hl, rfl⟩
      exact ⟨b, ents, rfl, (hh b hne (Array.getElem?_eq_some_iff.1 hb).1).trans hb, rest⟩
    | iter _ _ _ _ =>
      obtain ⟨b, mo, rfl, hb, rest⟩ := hs
      have hne : b ≠ B := by
        rintro rfl
        exact hF ⟨c, _, _, hc, rfl, hl, rfl⟩
      exact ⟨b, mo, rfl, (hh b hne (Array.getElem?_eq_some_iff.1 hb).1).trans hb, rest⟩
    | clo _ _ _ => exact hs
    | gone => trivial
  own := h.own
  ro := h.ro
  apart := h.apart

/-- An iterator with blocks of its own (K): a round leaves them as they are; which value comes next is not said: only that all come, each once. -/
def IterK (P : Program) (gf : FuncId) (lb : Array Value) {α : Type} (v : α → Value) (xs : List α) (IC : World → Prop) : Prop :=
  ∀ (l : Nat) (Js : (Nat → Prop) → List α → World → Prop), (∀ K pre W W', Js K pre W → BelowD W.heap.size W W' → Js K pre W') → (∀ K pre W o, Js K pre W → Js (fun b => K b ∨ b = W.heap.size) pre (W.alloc o)) →
    (∀ K pre W b o, Js K pre W → K b → Js K pre (W.putObj b o)) → (∀ K pre W, Js K pre W → IC W) →
    (∀ K pre x W, Js K pre W → (∃ rest, (pre ++ x :: rest).Perm xs) → YieldAt Fence.wide 0 P l #[v x] W fun e W' => e = .returned (.bool true) ∧ Js K (pre ++ [x]) W' ∧ ∀ b, K b → W'.heap[b]? = W.heap[b]?) →
    ∀ W, Js (fun _ => False) [] W → CallsIn Fence.wide 0 P gf (#[.func (.yield l) #[] #[]] ++ lb) W fun e W' => (∃ u, e = .returned u) ∧ ∃ K ys, ys.Perm xs ∧ Js K ys W'

/-- One round of a range over a function. -/
theorem roundK_sound {α : Type} {n N p d rid l D : Nat} {T : TypeId} {pos : String} {ρ : Ren} {tm : TM} {H : Heap} {tmps : Array Value} {body : Code} {fn : FuncId} {v : α → Value} (J : List α → Heap → Prop) {pre : List α} {x : α} {W : World} {K : Nat → Prop}
    (hsz : tmps.size = n) (htm : ∀ ρ1, LeN N ρ ρ1 → ∀ t, relI ρ1 (get tm t) (tmps.getD t undef)) (hv : ∀ x ρ1, relI ρ1 (.s (.raw (v x))) (v x)) (hp : p < n) (hd : d < n)
    (hJro : ∀ pre pre' H1 H2, J pre H1 → J pre' H2 → ∀ (c sz : Nat) (els : List (List SV)), H2[c]? = some (.rows false sz els) → c < N ∧ ∃ sz els, H1[c]? = some (.rows false sz els))
    (hX : X.w0.heap.size ≤ l) (hXD : X.w0.heap.size ≤ D)
    (hbody : ∀ H1, J pre H1 → ∀ X1 : Ctx, X1.N = N → X1.dl = [] → IW P n X1 body (fun e tm' H' => e = .normal ∧ ∃ tm1 H2, Wk N tm' H' tm1 H2 ∧ J (pre ++ [x]) H2) ((d, .s (.raw (v x))) :: (p, .s (.raw (v x))) :: tm) H1)
    (Js : (Nat → Prop) → List α → World → Prop) (hJs : Js = fun K pre W => ∃ ρ1 H1, J pre H1 ∧ LeN N ρ ρ1 ∧ Inv X ρ1 H1 W ∧
      W.heap[l]? = some (.loop { state := .ready, pending := none, fn := fn, tmps := tmps, params := #[p], assign := .region rid #[{ dst := some d, op := .assign (.tmp p), type := T, pos := pos, after := #[], guard := none }] false, body := body, defers := D }) ∧
      W.heap[D]? = some (.deferred (some [])) ∧ KP X ρ1 H1 W l D K)
    (h : Js K pre W) : YieldAt Fence.wide 0 P l #[v x] W fun e W' => e = .returned (.bool true) ∧ Js K (pre ++ [x]) W' ∧ ∀ b, K b → W'.heap[b]? = W.heap[b]? := by
  subst hJs
  obtain ⟨ρ1, H1, hJ, hle, hi, hl, hD, hKP⟩ := h
  refine ⟨fn, _, _, body, run_yield hl rfl, ?_⟩
  refine roundIn_of_wpIn trivial ?_
  show wpR (some l) P _ _ _ _
  have hlD : l ≠ D := by rintro rfl; rw [hl] at hD; cases hD
  have hllt : l < W.heap.size := (Array.getElem?_eq_some_iff.1 hl).1
  refine wpR_region (fun j q hj => ?_) (fun ⟨_, _, h⟩ => h) ?_
  · cases j with
    | zero => simp at hj; subst hj; rfl
    | succ j => simp at hj
  simp only [List.size_toArray, List.length_cons, List.length_nil, List.range, List.range.loop, Nat.reduceAdd]
  rw [wpOps.eq_2]
  simp only [List.getElem?_toArray, List.getElem?_cons_zero, Region.wanted]
  refine .inl ?_
  unfold Oper.wp
  simp only [execOp, Act.eval, Sem.run_pure, Oper.upon_value, wpOps.eq_1, Exit.then]
  have hp' : (tmps.setIfInBounds p (v x)).getD p undef = v x := by simp [Array.getD_eq_getD_getElem?, Array.getElem?_setIfInBounds, hsz, hp]
  refine ⟨_, run_beginRound hl rfl, ?_⟩
  have hi2 := inv_put (o := .loop { state := .busy, pending := none, fn := fn, tmps := tmps, params := #[p], assign := .region rid #[{ dst := some d, op := .assign (.tmp p), type := T, pos := pos, after := #[], guard := none }] false, body := body, defers := D }) hi hl hX
  have hb := hbody H1 hJ ⟨_, FA ρ1 H1, N, [], some l, fun _ _ _ => False⟩ rfl rfl ρ1 ⟨(tmps.setIfInBounds p (v x)).setIfInBounds d (v x), []⟩ _ ⟨by simp [hsz], rfl, fun t => by
    simp only [get]
    by_cases e1 : d = t
    · subst e1; rw [if_pos rfl]
      have : ((tmps.setIfInBounds p (v x)).setIfInBounds d (v x)).getD d undef = v x := by simp [Array.getD_eq_getD_getElem?, Array.getElem?_setIfInBounds, hsz, hd]
      rw [this]; exact hv x ρ1
    · rw [if_neg e1]
      by_cases e2 : p = t
      · subst e2; rw [if_pos rfl]
        have : ((tmps.setIfInBounds p (v x)).setIfInBounds d (v x)).getD p undef = v x := by simp [Array.getD_eq_getD_getElem?, Array.getElem?_setIfInBounds, hsz, hp, e1]
        rw [this]; exact hv x ρ1
      · rw [if_neg e2]
        have : ((tmps.setIfInBounds p (v x)).setIfInBounds d (v x)).getD t undef = tmps.getD t undef := by simp [Array.getD_eq_getD_getElem?, Array.getElem?_setIfInBounds, e1, e2]
        rw [this]; exact htm ρ1 hle t⟩ (hi2.rebase N [] (some l))
  have hact : ({ tmps := tmps.setIfInBounds p (v x), defers := [] } : Act).put (some d) ((tmps.setIfInBounds p (v x)).getD p undef) = ⟨(tmps.setIfInBounds p (v x)).setIfInBounds d (v x), []⟩ := by rw [hp']; rfl
  have hf : Array.foldl (fun (tmps : Array Value) (x : Tmp × Value) => tmps.setIfInBounds x.fst x.snd) tmps (#[p].zip #[v x]) = tmps.setIfInBounds p (v x) := by simp
  rw [hf]
  show wpR (some l) P body _ (({ tmps := tmps.setIfInBounds p (v x), defers := [] } : Act).put (some d) ((tmps.setIfInBounds p (v x)).getD p undef)) _
  rw [hact]
  refine wpIn_mono hb ?_
  rintro e a' w' (⟨ρ2, tm2, H2', ⟨rfl, tm3, H3, hwk, hJ3⟩, hle2, ha2, hi3⟩ | ⟨_, _, _, hal⟩)
  rotate_left
  · exact hal.elim
  obtain ⟨ρ3, hle3, _, hi4⟩ := hwk _ _ _ _ _ ha2 hi3
  have hle13 : LeN N ρ1 ρ3 := hle2.trans hle3
  have hl' : w'.heap[l]? = _ := (hi4.old l (by rw [World.putObj_size]; exact hllt) (notFA hi2 (World.putObj_heap_same hllt) rfl rfl)).trans (World.putObj_heap_same hllt)
  have hD2 : (W.putObj l (.loop { state := .busy, pending := none, fn := fn, tmps := tmps, params := #[p], assign := .region rid #[{ dst := some d, op := .assign (.tmp p), type := T, pos := pos, after := #[], guard := none }] false, body := body, defers := D })).heap[D]? = some (.deferred (some [])) := by
    rw [World.putObj_heap_other (Ne.symm hlD)]; exact hD
  have hD' : w'.heap[D]? = _ := (hi4.old D (Array.getElem?_eq_some_iff.1 hD2).1 (notFA hi2 hD2 rfl rfl)).trans hD2
  have hi5 := hi2.unbase hi4 hle13 (hJro _ _ _ _ hJ hJ3)
  have hkeep : ∀ b, K b → w'.heap[b]? = W.heap[b]? := fun b hb => by
    obtain ⟨k1, k2, k3, k4, k5⟩ := hKP b hb
    refine (hi4.old b (by rw [World.putObj_size]; exact k2) k5).trans ?_
    exact World.putObj_heap_other k3
  refine ⟨_, _, run_endRound none hl', rfl, ⟨ρ3, H3, hJ3, hle.trans hle13, inv_put hi5 hl' hX, ?_, ?_, ?_⟩, ?_⟩
  · exact World.putObj_heap_same (Array.getElem?_eq_some_iff.1 hl').1
  · rw [World.putObj_heap_other (Ne.symm hlD)]; exact hD'
  · intro b hb
    obtain ⟨k1, k2, k3, k4, k5⟩ := hKP b hb
    have hsz4 := hi4.size
    simp only [World.putObj_size] at hsz4
    refine ⟨k1, by rw [World.putObj_size]; omega, k3, k4, ?_⟩
    rintro ⟨c, ch, l2, f1, f2, f3, f4⟩
    rcases hi4.own c ch l2 b f1 f2 f3 f4 with h6 | h6
    · exact k5 h6
    · simp only [World.putObj_size] at h6; omega
  · intro b hb
    rw [World.putObj_heap_other (hKP b hb).2.2.1]
    exact hkeep b hb

/-- A range over a function whose rounds all go on: what holds of the ideal heap at each round's head (a fixed list of chunks for each list of values that came). Behind it the act has put something off. -/
theorem rangeK_sound {α : Type} {n N p d rid : Nat} {T : TypeId} {pos : String} {ρ : Ren} {tm : TM} {H : Heap} {a : Act} {w : World} {g : Operand} {body : Code} {v : α → Value} {gf : FuncId} {lb : Array Value} {Q : Exit → Act → World → Prop}
    (xs : List α) (IC : World → Prop) (J : List α → Heap → Prop) (hsz : a.tmps.size = n) (hi : Inv X ρ H w) (hg : a.eval g = .func (.func gf) #[] lb) (hgf : enters P gf = true) (hiter : IterK P gf lb v xs IC)
    (htm : ∀ ρ1, LeN N ρ ρ1 → ∀ t, relI ρ1 (get tm t) (a.tmps.getD t undef)) (hv : ∀ x ρ1, relI ρ1 (.s (.raw (v x))) (v x)) (hp : p < n) (hd : d < n) (h0 : J [] H)
    (hJro : ∀ pre pre' H1 H2, J pre H1 → J pre' H2 → ∀ (c sz : Nat) (els : List (List SV)), H2[c]? = some (.rows false sz els) → c < N ∧ ∃ sz els, H1[c]? = some (.rows false sz els))
    (hIC : ∀ pre H1 ρ1 W, J pre H1 → LeN N ρ ρ1 → Inv X ρ1 H1 W → IC W)
    (hbody : ∀ pre x, (∃ rest, (pre ++ x :: rest).Perm xs) → ∀ H1, J pre H1 → ∀ X1 : Ctx, X1.N = N → X1.dl = [] → IW P n X1 body (fun e tm' H' => e = .normal ∧ ∃ tm1 H2, Wk N tm' H' tm1 H2 ∧ J (pre ++ [x]) H2) ((d, .s (.raw (v x))) :: (p, .s (.raw (v x))) :: tm) H1)
    (hout : ∀ ys D W ρ1 H1, ys.Perm xs → J ys H1 → LeN N ρ ρ1 → Inv X ρ1 H1 W → W.heap[D]? = some (.deferred (some [])) → X.w0.heap.size ≤ D → Q .normal { tmps := a.tmps, defers := { target := .collected D, args := #[] } :: a.defers } W) :
    Code.wp P (.rangeFunc g #[p] (.region rid #[{ dst := some d, op := .assign (.tmp p), type := T, pos := pos, after := #[], guard := none }] false) body) Q a w := by
  refine (wpIn_wide (n := 0)).1 (wpIn_rangeFunc fun fn _ => ?_)
  have hw := hi.size
  have hb := below_alloc2 (w := w) (o1 := .deferred (some [])) (o2 := .loop { state := .ready, pending := none, fn := fn, tmps := a.tmps, params := #[p], assign := .region rid #[{ dst := some d, op := .assign (.tmp p), type := T, pos := pos, after := #[], guard := none }] false, body := body, defers := w.heap.size })
  have hsz1 : (w.alloc (.deferred (some []))).heap.size = w.heap.size + 1 := by show (w.heap.push _).size = _; simp
  have hl2 := World.alloc_heap_new (w.alloc (.deferred (some []))) (.loop { state := .ready, pending := none, fn := fn, tmps := a.tmps, params := #[p], assign := .region rid #[{ dst := some d, op := .assign (.tmp p), type := T, pos := pos, after := #[], guard := none }] false, body := body, defers := w.heap.size })
  rw [hsz1] at hl2
  have hD2 : ((w.alloc (.deferred (some []))).alloc (.loop { state := .ready, pending := none, fn := fn, tmps := a.tmps, params := #[p], assign := .region rid #[{ dst := some d, op := .assign (.tmp p), type := T, pos := pos, after := #[], guard := none }] false, body := body, defers := w.heap.size })).heap[w.heap.size]? = some (.deferred (some [])) :=
    (below_alloc.block _ (by rw [hsz1]; omega)).trans (World.alloc_heap_new _ _)
  refine ⟨_, _, _, ⟨.fn (.func gf) lb, #[.func (.yield (w.heap.size + 1)) #[] #[]]⟩, ((w.alloc (.deferred (some []))).alloc (.loop { state := .ready, pending := none, fn := fn, tmps := a.tmps, params := #[p], assign := .region rid #[{ dst := some d, op := .assign (.tmp p), type := T, pos := pos, after := #[], guard := none }] false, body := body, defers := w.heap.size })), gf, #[.func (.yield (w.heap.size + 1)) #[] #[]] ++ lb, ((w.alloc (.deferred (some []))).alloc (.loop { state := .ready, pending := none, fn := fn, tmps := a.tmps, params := #[p], assign := .region rid #[{ dst := some d, op := .assign (.tmp p), type := T, pos := pos, after := #[], guard := none }] false, body := body, defers := w.heap.size })), run_enterLoop_outer _ _ _ _ _, ?_, fun _ _ => trivial, ?_, fun h => (Bool.false_ne_true h).elim, ?_⟩
  · unfold resolve
    simp only [rangeCall, hg, Deferred.ofValue]
    have e : Array.map a.eval #[Operand.const (.func (.yield (w.heap.size + 1)) #[] #[])] = #[.func (.yield (w.heap.size + 1)) #[] #[]] := by simp [Act.eval]
    rw [e]
    simp
  · show (callFunc gf (#[.func (.yield (w.heap.size + 1)) #[] #[]] ++ lb)).run P _ = _
    exact enter_run hgf _ _
  refine (hiter (w.heap.size + 1) (fun K pre W => ∃ ρ1 H1, J pre H1 ∧ LeN N ρ ρ1 ∧ Inv X ρ1 H1 W ∧
      W.heap[w.heap.size + 1]? = some (.loop { state := .ready, pending := none, fn := fn, tmps := a.tmps, params := #[p], assign := .region rid #[{ dst := some d, op := .assign (.tmp p), type := T, pos := pos, after := #[], guard := none }] false, body := body, defers := w.heap.size }) ∧
      W.heap[w.heap.size]? = some (.deferred (some [])) ∧ KP X ρ1 H1 W (w.heap.size + 1) w.heap.size K) ?_ ?_ ?_ ?_ ?_ _ ⟨ρ, H, h0, LeN.refl _ _, hi.below hb, hl2, hD2, fun b hb => hb.elim⟩).mono ?_
  · rintro K pre W W' ⟨ρ1, H1, hJ, hle, hi1, hl1, hD1, hK⟩ hbw
    refine ⟨ρ1, H1, hJ, hle, hi1.below hbw, (hbw.block _ (Array.getElem?_eq_some_iff.1 hl1).1).trans hl1, (hbw.block _ (Array.getElem?_eq_some_iff.1 hD1).1).trans hD1, fun b hb => ?_⟩
    obtain ⟨k1, k2, k3, k4, k5⟩ := hK b hb
    exact ⟨k1, Nat.lt_of_lt_of_le k2 hbw.size, k3, k4, k5⟩
  · rintro K pre W o ⟨ρ1, H1, hJ, hle, hi1, hl1, hD1, hK⟩
    have hbw : BelowD W.heap.size W (W.alloc o) := below_alloc
    have hlt1 := (Array.getElem?_eq_some_iff.1 hl1).1
    have hs1 : (W.alloc o).heap.size = W.heap.size + 1 := by show (W.heap.push _).size = _; simp
    refine ⟨ρ1, H1, hJ, hle, hi1.below hbw, (hbw.block _ hlt1).trans hl1, (hbw.block _ (Array.getElem?_eq_some_iff.1 hD1).1).trans hD1, fun b hb => ?_⟩
    rcases hb with hb | rfl
    · obtain ⟨k1, k2, k3, k4, k5⟩ := hK b hb
      exact ⟨k1, by omega, k3, k4, k5⟩
    · refine ⟨hi1.size, by omega, by omega, by omega, ?_⟩
      rintro ⟨c, ch, l2, f1, f2, f3, f4⟩
      obtain ⟨l3, g1, hs⟩ := hi1.sat c ch f1
      rw [f3] at g1; cases g1
      have : W.heap.size < W.heap.size := by
        cases ch with
        | rows own sz els =>
          rcases hs with ⟨rfl, _⟩ | ⟨b', base, lim, cells, T', lo, hi', rfl, hb', _⟩
          · cases f4
          · cases f4; exact (Array.getElem?_eq_some_iff.1 hb').1
        | map clock es => obtain ⟨b', ents, rfl, hb', _⟩ := hs; cases f4; exact (Array.getElem?_eq_some_iff.1 hb').1
        | iter _ _ _ _ => obtain ⟨b', mo, rfl, hb', _⟩ := hs; cases f4; exact (Array.getElem?_eq_some_iff.1 hb').1
        | clo _ _ _ => cases f2
        | gone => cases f2
      omega
  · rintro K pre W b o ⟨ρ1, H1, hJ, hle, hi1, hl1, hD1, hK⟩ hKb
    obtain ⟨k1, k2, k3, k4, k5⟩ := hK b hKb
    refine ⟨ρ1, H1, hJ, hle, hi1.keepB (B := b) rfl rfl rfl (Nat.le_refl _) (by rw [World.putObj_size]; exact Nat.le_refl _) (fun b' hne _ => World.putObj_heap_other hne) k1 k5, ?_, ?_, fun b' hb' => ?_⟩
    · rw [World.putObj_heap_other (Ne.symm k3)]; exact hl1
    · rw [World.putObj_heap_other (Ne.symm k4)]; exact hD1
    · obtain ⟨j1, j2, j3, j4, j5⟩ := hK b' hb'
      exact ⟨j1, by rw [World.putObj_size]; exact j2, j3, j4, j5⟩
  · rintro K pre W ⟨ρ1, H1, hJ, hle, hi1, _⟩
    exact hIC pre H1 ρ1 W hJ hle hi1
  · intro K pre x W hJ hpre
    exact roundK_sound (tm := tm) (H := H) J hsz htm hv hp hd hJro (by omega) hw (hbody pre x hpre) _ rfl hJ
  · rintro _ W' ⟨⟨u, rfl⟩, K, ys, hys, ρ1, H1, hJ, hle, hi1, hl1, hD1, _⟩
    refine ⟨none, _, run_endLoop hl1 (by simp), ?_⟩
    refine hout ys w.heap.size _ ρ1 H1 hys hJ hle (inv_put hi1 hl1 (by omega)) ?_ hw
    rw [World.putObj_heap_other (by omega)]; exact hD1

variable {n : Nat}
/-- The range and what stands behind it, up to the function's end: from a canonical state ahead of the range. -/
theorem rangeK_tail {α : Type} {N p d rid bid : Nat} {T : TypeId} {pos : String} {ρ : Ren} {tm : TM} {H : Heap} {a : Act} {w : World} {g : Operand} {body tail : Code} {v : α → Value} {gf : FuncId} {lb : Array Value} {Q : Exit → TM → Heap → Prop}
    {Y : Ctx} {rs : List ResultVar} {k : IV → Heap → Prop} (hro : Y.ro = none) (hdl : Y.dl = []) (hw0 : Y.w0 = X.w0) (hF : Y.F0 = X.F0) (hN : Y.N ≤ N) (hNH : N ≤ H.length) (halt : Y.alt = leftG P n X rs k)
    (xs : List α) (IC : World → Prop) (J : List α → Heap → Prop) (ha : RelA Y n ρ tm a) (hi : Inv Y ρ H w) (hg : a.eval g = .func (.func gf) #[] lb) (hgf : enters P gf = true) (hiter : IterK P gf lb v xs IC)
    (htm : ∀ ρ1, LeN N ρ ρ1 → ∀ t, relI ρ1 (get tm t) (a.tmps.getD t undef)) (hv : ∀ x ρ1, relI ρ1 (.s (.raw (v x))) (v x)) (hp : p < n) (hd : d < n) (h0 : J [] H)
    (hJro : ∀ pre pre' H1 H2, J pre H1 → J pre' H2 → ∀ (c sz : Nat) (els : List (List SV)), H2[c]? = some (.rows false sz els) → c < N ∧ ∃ sz els, H1[c]? = some (.rows false sz els))
    (hIC : ∀ pre H1 ρ1 W, J pre H1 → LeN N ρ ρ1 → Inv Y ρ1 H1 W → IC W)
    (hbody : ∀ pre x, (∃ rest, (pre ++ x :: rest).Perm xs) → ∀ H1, J pre H1 → ∀ X1 : Ctx, X1.N = N → X1.dl = [] → IW P n X1 body (fun e tm' H' => e = .normal ∧ ∃ tm1 H2, Wk N tm' H' tm1 H2 ∧ J (pre ++ [x]) H2) ((d, .s (.raw (v x))) :: (p, .s (.raw (v x))) :: tm) H1)
    (htail : ∀ ys H1, ys.Perm xs → J ys H1 → ∀ X1 : Ctx, X1.N = N → X1.ro = none → IW P n X1 tail (fun e tm' H' => e = .ret ∧ ∃ tm1 H2, Wk N tm' H' tm1 H2 ∧ resK (resI P tm1 H2 rs) k H2 ∧ ∀ (c sz : Nat) (els : List (List SV)), H2[c]? = some (.rows false sz els) → c < N ∧ ∃ sz els, H1[c]? = some (.rows false sz els)) tm H1) :
    Code.wp P (.block bid (.rangeFunc g #[p] (.region rid #[{ dst := some d, op := .assign (.tmp p), type := T, pos := pos, after := #[], guard := none }] false) body)) (Exit.then (Code.wp P tail (LQ n Y ρ Q)) (LQ n Y ρ Q)) a w := by
  refine wp_block ?_
  refine rangeK_sound (n := n) (N := N) (ρ := ρ) (tm := tm) (H := H) xs IC J ha.size hi hg hgf hiter htm hv hp hd h0 hJro hIC hbody fun ys D W ρ1 H1 hys hJ hle hi1 hD hDge => ?_
  have hdef : a.defers = [] := by rw [ha.defers, hdl]
  show Code.wp P tail _ _ _
  have ht := htail ys H1 hys hJ ⟨W, FA ρ1 H1, N, [{ target := .collected D, args := #[] }], none, fun _ _ _ => False⟩ rfl rfl ρ1 { tmps := a.tmps, defers := { target := .collected D, args := #[] } :: a.defers } W ⟨ha.size, by rw [hdef], htm ρ1 hle⟩ (hi1.rebase N _ none)
  refine wp_mono (wpR_none.1 ht) ?_
  rintro e a' w' (⟨ρ2, tm2, H2', ⟨rfl, tm3, H3, hwk, hk, hro3⟩, hle2, ha2, hi2⟩ | ⟨_, _, _, hal⟩)
  rotate_left
  · exact hal.elim
  obtain ⟨ρ3, hle3, ha3, hi3⟩ := hwk _ _ _ _ _ ha2 hi2
  have hle13 : LeN N ρ1 ρ3 := hle2.trans hle3
  have hD' : w'.heap[D]? = _ := (hi3.old D (Array.getElem?_eq_some_iff.1 hD).1 (notFA hi1 hD rfl rfl)).trans hD
  refine .inr ⟨rfl, ρ3, (hle.trans hle13).down (by rw [hi.len]; exact hNH) hN, ?_⟩
  rw [halt]
  exact ⟨D, _, tm3, H3, ha3.defers, hD', by rw [← hw0]; exact hDge, hk, ha3, (hi1.unbase hi3 hle13 hro3).ctx hw0.symm hF.symm⟩
end
end Go.Ev

/- Package variables: an element's address, and what lies there as long as the world keeps it. -/
set_option linter.unusedVariables false
namespace Go.Ev
open Go.RowKit Go.ChangeShapes Go.WideShapes Go.ChangeAt
section
variable {P : Program} {X : Ctx} {d : Option Nat} {t : TypeId} {p : String} {af : Array Edge} {gu : Option (Nat × Bool)} {tm : TM} {H : Heap} {k : TM → Heap → Prop}

/-- The variable's block lies in the world from the start, and nothing that may be written is in it. -/
structure KeepG (g : Nat) (o : Obj) (X : Ctx) : Prop where
  lt : g < X.w0.heap.size
  no : ¬ X.F0 g
  eq : X.w0.heap[g]? = some o
variable {g : Nat} {o : Obj}
theorem KeepG.same {X Y : Ctx} (h : KeepG g o X) (e1 : Y.w0 = X.w0) (e2 : Y.F0 = X.F0) : KeepG g o Y := ⟨by rw [e1]; exact h.lt, by rw [e2]; exact h.no, by rw [e1]; exact h.eq⟩
theorem KeepG.at (h : KeepG g o X) (N : Nat) : KeepG g o (X.at N) := h.same rfl rfl
theorem KeepG.has (h : KeepG g o X) {ρ : Ren} {w : World} (hi : Inv X ρ H w) : w.heap[g]? = some o := (hi.old g h.lt h.no).trans h.eq
theorem KeepG.sub (h : KeepG g o X) {ρ : Ren} {w : World} (hi : Inv X ρ H w) (σw : List Nat) (N : Nat) (dl : List Deferred) (ro : Option Nat) (alt : Ren → Act → World → Prop) : KeepG g o ⟨w, FW ρ H σw, N, dl, ro, alt⟩ where
  lt := Nat.lt_of_lt_of_le h.lt hi.size
  no := fun hF => (FW_lt hi hF).elim h.no fun hge => Nat.lt_irrefl _ (Nat.lt_of_lt_of_le h.lt hge)
  eq := h.has hi
theorem KeepG.start {w : World} (h : w.heap[g]? = some o) : KeepG g o (ctx0 w) := ⟨(Array.getElem?_eq_some_iff.1 h).1, fun h => h, h⟩

end
end Go.Ev
