/- Functions that only reckon: a contract without memory. -/
import Derived.Test.YtnmobamjinponaaEvFn
namespace Go.Ev
open Go.RowKit

def rawS : SV → Bool
  | .raw _ => true
  | _ => false
def rawL : List SV → Bool
  | [] => true
  | x :: xs => rawS x && rawL xs
def rawC : IV → Bool
  | .s x => rawS x
  | .a l => rawL l
  | _ => false
def rawT : List IV → Bool
  | [] => true
  | x :: xs => rawC x && rawT xs
def rawI : IV → Bool
  | .t l => rawT l
  | x => rawC x

theorem rawS_rel {ρ ρ' : Ren} {x : SV} {v : Value} (h : rawS x = true) (hr : relS ρ x v) : relS ρ' x v := by
  cases x <;> first | exact hr | cases h
theorem rawL_rel {ρ ρ' : Ren} : ∀ {l : List SV} {vs : List Value}, rawL l = true → relL ρ l vs → relL ρ' l vs
  | [], [], _, _ => trivial
  | x :: l, v :: vs, h, hr => by
    simp only [rawL, Bool.and_eq_true] at h
    exact ⟨rawS_rel h.1 hr.1, rawL_rel h.2 hr.2⟩
  | [], _ :: _, _, h => h.elim
  | _ :: _, [], _, h => h.elim
theorem rawC_rel {ρ ρ' : Ren} {x : IV} {v : Value} (h : rawC x = true) (hr : relC ρ x v) : relC ρ' x v := by
  cases x with
  | s x => exact rawS_rel (x := x) h hr
  | a l => obtain ⟨cs, e, hr⟩ := hr; exact ⟨cs, e, rawL_rel h hr⟩
  | t l => cases h
  | j => cases h
theorem rawT_rel {ρ ρ' : Ren} : ∀ {l : List IV} {vs : List Value}, rawT l = true → relT ρ l vs → relT ρ' l vs
  | [], [], _, _ => trivial
  | x :: l, v :: vs, h, hr => by
    simp only [rawT, Bool.and_eq_true] at h
    exact ⟨rawC_rel h.1 hr.1, rawT_rel h.2 hr.2⟩
  | [], _ :: _, _, h => h.elim
  | _ :: _, [], _, h => h.elim
theorem rawI_rel {ρ ρ' : Ren} {x : IV} {v : Value} (h : rawI x = true) (hr : relI ρ x v) : relI ρ' x v := by
  cases x with
  | s x => exact rawS_rel (x := x) h hr
  | a l => exact rawC_rel (x := .a l) h hr
  | t l => obtain ⟨vs, e, hr⟩ := hr; exact ⟨vs, e, rawT_rel h hr⟩
  | j => cases h
theorem rawA_rel {ρ ρ' : Ren} : ∀ {l : List IV} {vs : List Value}, rawT l = true → relA ρ l vs → relA ρ' l vs
  | [], [], _, _ => trivial
  | x :: l, v :: vs, h, hr => by
    simp only [rawT, Bool.and_eq_true] at h
    refine ⟨rawI_rel ?_ hr.1, rawA_rel h.2 hr.2⟩
    cases x with
    | t l => cases h.1
    | _ => exact h.1
  | [], _ :: _, _, h => h.elim
  | _ :: _, [], _, h => h.elim

section
variable {P : Program} {X : Ctx}

/-- What is as it was below the world's end, and satisfies the ideal heap still. -/
theorem Inv.below {ρ : Ren} {H : Heap} {w w' : World} (h : Inv X ρ H w) (b : BelowD w.heap.size w w') : Inv X ρ H w' := by
  refine ⟨b.os.trans h.os, b.tape.trans h.tape, b.output.trans h.output, Nat.le_trans h.drawn b.drawn, Nat.le_trans h.size b.size, fun i hi hF => ?_, h.len, h.obj1, fun c ch hc => ?_, h.own, h.ro, h.apart⟩
  · rw [b.block i (Nat.lt_of_lt_of_le hi h.size)]; exact h.old i hi hF
  · obtain ⟨l, hl, hs⟩ := h.sat c ch hc
    refine ⟨l, hl, ?_⟩
    cases ch with
    | clo _ _ _ => exact hs
    | gone => trivial
    | rows o sz els => exact hs.ext (Le.refl _) fun i hi => b.block i (hs.blk_lt (by cases o <;> simp [Chunk.owned]) hi)
    | map _ es => exact hs.ext (Le.refl _) fun i hi => b.block i (hs.blk_lt (by simp [Chunk.owned]) hi)
    | iter _ _ _ _ => exact hs.ext (Le.refl _) fun i hi => b.block i (hs.blk_lt (by simp [Chunk.owned]) hi)

def ctx0 (w : World) : Ctx := ⟨w, fun _ => False, 0⟩

theorem Inv.zero (w : World) : Inv (ctx0 w) [] [] w :=
  ⟨rfl, rfl, rfl, Nat.le_refl _, Nat.le_refl _, fun _ _ _ => rfl, rfl, fun _ _ _ h => by simp at h, fun _ _ h => by simp at h, fun _ _ _ _ h => by simp at h, fun _ _ _ _ _ h => by simp at h, fun _ _ _ _ _ _ _ _ h => by simp at h⟩

/-- A function's contract, if it only reckons: the result for these arguments; of what was there nothing is turned. -/
def Fun (P : Program) (f : FuncId) (args : List IV) (r : IV) : Prop :=
  enters P f = true ∧ ∀ w vs, relA [] args vs → Calls P f vs.toArray w fun e w' => ∃ v, e = .returned v ∧ relI [] r v ∧ BelowD w.heap.size w w'

theorem fun_of {f : FuncId} {args : List IV} {r : IV} (hr : rawI r = true) (h : ∀ X, callK P X f args (fun r' _ => r' = r) []) : Fun P f args r := by
  refine ⟨(h (ctx0 default)).1, fun w vs ha => ((h (ctx0 w)).2 [] vs w ha (Inv.zero w)).mono ?_⟩
  rintro e w' ⟨v, r', H', ρ', rfl, rfl, hrel, _, hi⟩
  exact ⟨v, rfl, rawI_rel hr hrel, ⟨hi.os, hi.tape, hi.output, hi.size, fun k hk => hi.old k hk (fun h => h)⟩, hi.drawn⟩

theorem callK_fun {f : FuncId} {args : List IV} {r : IV} {k : IV → Heap → Prop} {H : Heap} (h : Fun P f args r) (ha : rawT args = true) (hr : rawI r = true) (hk : k r H) : callK P X f args k H := by
  refine ⟨h.1, fun ρ vs w hargs hi => (h.2 w vs (rawA_rel ha hargs)).mono ?_⟩
  rintro e w' ⟨v, rfl, hrel, hb⟩
  exact ⟨v, r, H, ρ, rfl, hk, rawI_rel hr hrel, Le.refl _, hi.below hb⟩
end
end Go.Ev
