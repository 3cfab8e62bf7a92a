/- Functions that read chunks and look at what lies in the world from the start. -/
import Derived.Test.YtnmobamjinponaaEvTab
namespace Go.Ev
open Go.RowKit Go.ChangeShapes Go.WideShapes Go.ChangeAt
def FunRT (T : World → Prop) (P : Program) (f : FuncId) (H0 : Heap) (args : List IV) (r : IV) : Prop :=
  enters P f = true ∧ ∀ w ρ vs, T w → Inv (ctx0 w) ρ H0 w → relA ρ args vs → Calls P f vs.toArray w fun e w' => ∃ v, e = .returned v ∧ relI [] r v ∧ BelowD w.heap.size w w'
theorem funRT_of {T : World → Prop} {P : Program} {f : FuncId} {H0 : Heap} {args : List IV} {r : IV} (hS : StaysT T) (hr : rawI r = true) (he : enters P f = true) (h : ∀ X, KeepT T X → callK P X f args (fun r' _ => r' = r) H0) : FunRT T P f H0 args r := by
  refine ⟨he, fun w ρ vs ht hi ha => ((h (ctx0 w) (keep0 hS ht)).2 ρ vs w ha hi).mono ?_⟩
  rintro e w' ⟨v, r', H', ρ', rfl, rfl, hrel, _, hi⟩
  exact ⟨v, rfl, rawI_rel hr hrel, ⟨hi.os, hi.tape, hi.output, hi.size, fun k hk => hi.old k hk (fun h => h)⟩, hi.drawn⟩
theorem hcall_genT {P : Program} {H : Type} {enc : TypeId × Value → H} {T : World → Prop} {XL : World → Prop} (hTX : ∀ W, XL W → T W) {f : FuncId} {fn : Func} (L : List (TypeId × AK)) (hts : fn.params.toList = L.map (·.1)) (hL : ∀ e ∈ L, okB P e)
    (hf : ∀ ivs H0, TypedB 0 L ivs H0 → FunRT T P f H0 ivs (.s (.raw (.bool true)))) (W : World) (base : Nat) (args : Array Value) (ds : List (DataW H)) (p : List MemPlace) (hX : XL W)
    (h : DataW.TrodAll enc P W 0 (fun _ => true) true fn.params.toList args.toList ds p) (hv : ∀ (j : Nat) t v, fn.params[j]? = some t → args[j]? = some v → Value.okWide P W .any base t v) :
    Calls P f args W fun e W' => e = .returned (.bool true) ∧ Below W.heap.size W W' := by
  obtain ⟨ivs, H0, pls, ht, hlen, hr, hsat⟩ := args_gen L 0 hts hL h (fun j t v h1 h2 => hv j t v (by simpa using h1) (by simpa using h2))
  have hro : ∀ (c : Nat) (ch : Chunk), H0[c]? = some ch → ch.owned = false := fun c ch hc => by
    obtain ⟨_, _, _, _, rfl, _⟩ := hsat c ch hc; rfl
  have hi : Inv (ctx0 W) pls H0 W := by
    refine ⟨rfl, rfl, rfl, Nat.le_refl _, Nat.le_refl _, fun _ _ _ => rfl, hlen, ?_, ?_, ?_, ?_, ?_⟩
    · intro c b u hc
      have hlt : c < H0.length := by rw [← hlen]; exact (List.getElem?_eq_some_iff.1 hc).1
      obtain ⟨pl, _, _, hpl, _, _, ho⟩ := hsat c _ (List.getElem?_eq_getElem hlt)
      rw [hc] at hpl; cases hpl
      exact absurd rfl (ho b u)
    · intro c ch hc
      obtain ⟨pl, _, _, hpl, _, hs, _⟩ := hsat c ch hc
      exact ⟨pl, hpl, hs _⟩
    · intro c ch l b hc ho; rw [hro c ch hc] at ho; cases ho
    · intro c sz els l b hc hl hb
      obtain ⟨pl, _, _, hpl, _, hs, _⟩ := hsat c _ hc
      rw [hl] at hpl; cases hpl
      refine ⟨?_, fun h => h⟩
      rcases hs [] with ⟨rfl, _⟩ | ⟨b', base, lim, cells, T, lo, hi, rfl, h2, _⟩
      · cases hb
      · simp only [Pl.blk, Option.some.injEq] at hb
        subst hb
        exact (Array.getElem?_eq_some_iff.1 h2).1
    · intro c d ch dh l m b _ hc _ ho; rw [hro c ch hc] at ho; cases ho
  refine ((hf ivs H0 ht).2 W pls args.toList (hTX W hX) hi (hr pls fun i pl h => by simpa using h)).mono ?_
  rintro e w' ⟨v, rfl, hv, hb⟩
  exact ⟨by rw [show v = .bool true from hv.1], hb.toBelow⟩

section
variable {T : World → Prop} {P : Program} {X : Ctx} {H : Heap}
theorem callOK_funT {f : FuncId} {args : List IV} {r : IV} (hX : KeepT T X) (h : FunT T P f args r) (ha : rawT args = true) (hr : rawI r = true) : CallOK P X f args H [] r [] := by
  refine ⟨h.1, fun k hk => by simp at hk, fun ρ H' w vs _ hargs hi => ?_⟩
  refine (h.2 w vs (hX ρ H' w hi) (rawA_rel ha hargs)).mono ?_
  rintro _ w' ⟨v, rfl, hrel, hb⟩
  exact ⟨v, ρ, rfl, Le.refl _, VK.refl _ _, rawI_rel hr hrel, hi.below hb⟩
theorem callD_funT {f : FuncId} {args : List IV} {r : IV} {k : List Nat → IV → List (Nat × Chunk) → Prop} (hX : KeepT T X) (h : FunT T P f args r) (ha : rawT args = true) (hr : rawI r = true) (hk : k [] r []) : callD P X f args H k :=
  ⟨[], r, [], callOK_funT hX h ha hr, hk⟩
end
end Go.Ev
