/- Functions that only reckon, but look at what lies in the world from the start: a contract under a condition on the world that stays. -/
import Derived.Test.YtnmobamjinponaaEvAny
namespace Go.Ev
open Go.RowKit Go.ChangeShapes Go.WideShapes Go.ChangeAt

/-- A condition that stays, whatever is new. -/
def StaysT (T : World → Prop) : Prop := ∀ w w', Below w.heap.size w w' → T w → T w'
/-- In whatever state that the function comes to, it holds. -/
def KeepT (T : World → Prop) (X : Ctx) : Prop := ∀ (ρ : Ren) (H : Heap) (w : World), Inv X ρ H w → T w
def FunT (T : World → Prop) (P : Program) (f : FuncId) (args : List IV) (r : IV) : Prop :=
  enters P f = true ∧ ∀ w vs, T w → relA [] args vs → Calls P f vs.toArray w fun e w' => ∃ v, e = .returned v ∧ relI [] r v ∧ BelowD w.heap.size w w'

section
variable {T : World → Prop} {P : Program} {X : Ctx}
theorem KeepT.at (h : KeepT T X) (N : Nat) : KeepT T (X.at N) := fun ρ H w hi => h ρ H w hi.un
theorem keep0 (hS : StaysT T) {w : World} (h : T w) : KeepT T (ctx0 w) := fun _ _ w' hi =>
  hS w w' ⟨hi.os, hi.tape, hi.output, hi.size, fun k hk => hi.old k hk (fun h => h)⟩ h

theorem funT_of {f : FuncId} {args : List IV} {r : IV} (hS : StaysT T) (hr : rawI r = true) (he : enters P f = true) (h : ∀ X, KeepT T X → callK P X f args (fun r' _ => r' = r) []) : FunT T P f args r := by
  refine ⟨he, fun w vs ht ha => ((h (ctx0 w) (keep0 hS ht)).2 [] vs w ha (Inv.zero w)).mono ?_⟩
  rintro e w' ⟨v, r', H', ρ', rfl, rfl, hrel, _, hi⟩
  exact ⟨v, rfl, rawI_rel hr hrel, ⟨hi.os, hi.tape, hi.output, hi.size, fun k hk => hi.old k hk (fun h => h)⟩, hi.drawn⟩

theorem callK_funT {f : FuncId} {args : List IV} {r : IV} {k : IV → Heap → Prop} {H : Heap} (hX : KeepT T X) (h : FunT T P f args r) (ha : rawT args = true) (hr : rawI r = true) (hk : k r H) : callK P X f args k H := by
  refine ⟨h.1, fun ρ vs w hargs hi => (h.2 w vs (hX ρ H w hi) (rawA_rel ha hargs)).mono ?_⟩
  rintro e w' ⟨v, rfl, hrel, hb⟩
  exact ⟨v, r, H, ρ, rfl, hk, rawI_rel hr hrel, Le.refl _, hi.below hb⟩
theorem Fun.toT {f : FuncId} {args : List IV} {r : IV} (h : Fun P f args r) : FunT T P f args r := ⟨h.1, fun w vs _ ha => h.2 w vs ha⟩
end
/-- A law's row under a condition on the world, but for its call. -/
theorem law_liftedT {H : Type} {enc : TypeId × Value → H} {C : Checked} {os : Os} {f : FuncId} {fn : Func} {s : ChangeSpec} {bt : TypeId} {XL : World → Prop} (hXL : ∀ w w' : World, w.heap = w'.heap → XL w → XL w') (own : ownKnob C.prog.godebug = none) (started : os.Started)
    (noInit : C.prog.inits.idxOf? f = none) (hfn : C.prog.funcs[f]? = some fn)
    (witness : ∃ (w : World) (tape : Tape) (i : Input), w.os = os ∧ (w.forCall tape i).Shaped C.prog ∧ i.vars = [] ∧ Input.okWide C.prog (w.forCall tape i) .any w.heap.size f i ∧
      ((s.pre enc C.prog fn [] false (w.forCall tape i).memory i.args ∧ XL (w.forCall tape i).memory) ∧ sizedMet enc C.prog fn (OpenSpec.ofChange s) false (w.forCall tape i).memory i.args) ∧ ({} : Assume).holds C.prog (lone (Frame.enter C.prog f i.args .normal) [] (w.forCall tape i)))
    (hbt : fn.resultTypes = #[bt]) (hbool : C.prog.underlying bt = some .bool) (hl : laidOutB C.prog = true) (hvars : s.vars = [])
    (hpar : (fn.params.toList.all fun t => C.prog.readableRec t && decide (t < C.prog.types.size)) = true)
    (hspec : ∀ ds : List (DataW H), ds.length = fn.params.size → s.fn H ds = { results := [.lit (.bool true)], args := ds })
    (hcall : ∀ (W : World) (base : Nat) (args : Array Value) (ds : List (DataW H)) (p : List MemPlace), XL W → DataW.TrodAll enc C.prog W 0 (fun _ => true) true fn.params.toList args.toList ds p →
      (∀ (j : Nat) t v, fn.params[j]? = some t → args[j]? = some v → Value.okWide C.prog W .any base t v) → Calls C.prog f args W fun e W' => e = .returned (.bool true) ∧ Below W.heap.size W W') :
    ReturnsInHanded {} C os f .any (fun w args => (s.pre enc C.prog fn [] false w args ∧ XL w) ∧ sizedMet enc C.prog fn (OpenSpec.ofChange s) false w args) (s.post enc C.prog fn false true false false) := by
  refine returnsInHanded_of_change_and (X := fun w _ => XL w) (fun w w' _ h hx => hXL w w' h hx) own started noInit hfn witness ?_
  intro W base args ds gs before hval hW _ _ hX _
  have hW' := hW
  obtain ⟨p, q, hA, hV, rfl, hfz, hnd⟩ := hW
  rw [hvars] at hV
  have hgs : gs = [] ∧ q = [] := by
    cases gs with
    | nil => exact ⟨rfl, hV⟩
    | cons _ _ => exact hV.elim
  obtain ⟨rfl, rfl⟩ := hgs
  refine (hcall W base args ds p hX hA hval).mono ?_
  rintro e W' ⟨rfl, hb⟩
  have hlt := hW'.lt
  rw [List.append_nil] at hlt
  have hsp := hspec ds (by rw [trodAll_len hA]; simp)
  refine ⟨_, rfl, ds, [], p ++ [], [], p, [], hW', ?_, ?_, ?_, hb.frame _, fun h => by cases h⟩
  · rw [List.append_nil, hsp, hbt]
    exact trodAll_mk1 (shut_bool hbool true)
  · rw [List.append_nil, hsp]
    exact trodAll_below hl hpar hA hb hlt
  · rw [hvars, List.append_nil, hsp]; rfl

theorem hcall_scalT {P : Program} {H : Type} {enc : TypeId × Value → H} {T : World → Prop} {XL : World → Prop} {f : FuncId} {fn : Func} (hTX : ∀ W, XL W → T W) (L : List (TypeId × List Leaf × Bool)) (hts : fn.params.toList = L.map (·.1)) (hL : ∀ e ∈ L, leavesOf P 60 e.1 = some e.2.1 ∧ aggT P e.1 = some e.2.2)
    (hf : ∀ ivs, TypedA L ivs → FunT T P f ivs (.s (.raw (.bool true)))) (W : World) (base : Nat) (args : Array Value) (ds : List (DataW H)) (p : List MemPlace) (hX : XL W)
    (h : DataW.TrodAll enc P W 0 (fun _ => true) true fn.params.toList args.toList ds p) (hv : ∀ (j : Nat) t v, fn.params[j]? = some t → args[j]? = some v → Value.okWide P W .any base t v) :
    Calls P f args W fun e W' => e = .returned (.bool true) ∧ Below W.heap.size W W' := by
  obtain ⟨ivs, ht, hr⟩ := args_scal L hts hL h (fun j t v h1 h2 => hv j t v (by simpa using h1) (by simpa using h2))
  refine ((hf ivs ht).2 W args.toList (hTX W hX) (hr [])).mono ?_
  rintro e w' ⟨v, rfl, hv, hb⟩
  exact ⟨by rw [show v = .bool true from hv.1], hb.toBelow⟩
end Go.Ev
