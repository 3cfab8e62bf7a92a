/- A law that takes plain data alone: its call, from its contract. -/
import Derived.Test.YtnmobamjinponaaEvRules2
namespace Go.Ev
open Go.RowKit Go.ChangeShapes Go.WideShapes
section
variable {P : Program} {W : World} {base b0 : Nat} {H : Type} {enc : TypeId × Value → H} {spare : Nat → Bool} {held : Bool}
def TypedA : List (TypeId × List Leaf × Bool) → List IV → Prop
  | [], [] => True
  | e :: L, v :: vs => (∃ xs, TypedL e.2.1 xs ∧ v = ldIV e.2.2 xs) ∧ TypedA L vs
  | _, _ => False

theorem args_scal : ∀ (L : List (TypeId × List Leaf × Bool)) {ts : List TypeId} {vs : List Value} {ds : List (DataW H)} {p : List MemPlace}, ts = L.map (·.1) →
    (∀ e ∈ L, leavesOf P 60 e.1 = some e.2.1 ∧ aggT P e.1 = some e.2.2) → DataW.TrodAll enc P W base spare held ts vs ds p →
    (∀ (j : Nat) t v, ts[j]? = some t → vs[j]? = some v → Value.okWide P W .any b0 t v) → ∃ ivs, TypedA L ivs ∧ (∀ ρ, relA ρ ivs vs)
  | [], ts, vs, ds, p, e, _, h, _ => by
    subst e
    cases vs with
    | nil => exact ⟨[], trivial, fun _ => trivial⟩
    | cons _ _ => cases ds <;> exact h.elim
  | ⟨t, ls, ag⟩ :: L, ts, vs, ds, p, e, hL, h, hv => by
    subst e
    cases vs with
    | nil => cases ds <;> exact h.elim
    | cons v vs =>
      cases ds with
      | nil => exact h.elim
      | cons d ds =>
        obtain ⟨p1, p2, h1, h2, _⟩ := h
        obtain ⟨hl, ha⟩ := hL _ List.mem_cons_self
        obtain ⟨xs, hx, hr, _⟩ := arg_scal hl ha (hv 0 t v rfl rfl) h1
        obtain ⟨ivs, ht, hrs⟩ := args_scal L rfl (fun e he => hL e (List.mem_cons_of_mem _ he)) h2 (fun j t v h1 h2 => hv (j + 1) t v (by simpa using h1) (by simpa using h2))
        exact ⟨_ :: ivs, ⟨⟨xs, hx, rfl⟩, ht⟩, fun ρ => ⟨hr ρ, hrs ρ⟩⟩

theorem hcall_scal {f : FuncId} {fn : Func} (L : List (TypeId × List Leaf × Bool)) (hts : fn.params.toList = L.map (·.1)) (hL : ∀ e ∈ L, leavesOf P 60 e.1 = some e.2.1 ∧ aggT P e.1 = some e.2.2)
    (hf : ∀ ivs, TypedA L ivs → Fun P f ivs (.s (.raw (.bool true)))) (W : World) (base : Nat) (args : Array Value) (ds : List (DataW H)) (p : List MemPlace)
    (h : DataW.TrodAll enc P W 0 (fun _ => true) true fn.params.toList args.toList ds p) (hv : ∀ (j : Nat) t v, fn.params[j]? = some t → args[j]? = some v → Value.okWide P W .any base t v) :
    Calls P f args W fun e W' => e = .returned (.bool true) ∧ Below W.heap.size W W' := by
  obtain ⟨ivs, ht, hr⟩ := args_scal L hts hL h (fun j t v h1 h2 => hv j t v (by simpa using h1) (by simpa using h2))
  refine ((hf ivs ht).2 W args.toList (hr [])).mono ?_
  rintro e w' ⟨v, rfl, hv, hb⟩
  exact ⟨by rw [show v = .bool true from hv.1], hb.toBelow⟩

theorem t_one {t : TypeId} {ls : List Leaf} {ag : Bool} {ivs : List IV} (h : TypedA [(t, ls, ag)] ivs) : ∃ xs, TypedL ls xs ∧ ivs = [ldIV ag xs] := by
  cases ivs with
  | nil => exact h.elim
  | cons v vs => cases vs with
    | cons _ _ => exact h.2.elim
    | nil => obtain ⟨⟨xs, h1, rfl⟩, _⟩ := h; exact ⟨xs, h1, rfl⟩
theorem t_nil {ivs : List IV} (h : TypedA [] ivs) : ivs = [] := by
  cases ivs with
  | nil => rfl
  | cons _ _ => exact h.elim
theorem t_cons {e : TypeId × List Leaf × Bool} {L : List (TypeId × List Leaf × Bool)} {ivs : List IV} (h : TypedA (e :: L) ivs) : ∃ xs ivs', TypedL e.2.1 xs ∧ ivs = ldIV e.2.2 xs :: ivs' ∧ TypedA L ivs' := by
  cases ivs with
  | nil => exact h.elim
  | cons v vs => obtain ⟨⟨xs, h1, rfl⟩, h2⟩ := h; exact ⟨xs, vs, h1, rfl, h2⟩
theorem ds_1 {α : Type} {n : Nat} {ds : List α} (h : ds.length = n) (hn : n = 1 := by rfl) : ∃ a, ds = [a] := by
  subst hn; exact List.length_eq_one_iff.1 h
theorem ds_2 {α : Type} {n : Nat} {ds : List α} (h : ds.length = n) (hn : n = 2 := by rfl) : ∃ a b, ds = [a, b] := by
  subst hn
  match ds, h with
  | [a, b], _ => exact ⟨a, b, rfl⟩
theorem ds_3 {α : Type} {n : Nat} {ds : List α} (h : ds.length = n) (hn : n = 3 := by rfl) : ∃ a b c, ds = [a, b, c] := by
  subst hn
  match ds, h with
  | [a, b, c], _ => exact ⟨a, b, c, rfl⟩
theorem ds_4 {α : Type} {n : Nat} {ds : List α} (h : ds.length = n) (hn : n = 4 := by rfl) : ∃ a b c d, ds = [a, b, c, d] := by
  subst hn
  match ds, h with
  | [a, b, c, d], _ => exact ⟨a, b, c, d, rfl⟩
/-! #### how guards are split -/
section
variable {A B : TM → Heap → Prop} {tm : TM} {H : Heap}
theorem callK_id {P : Program} {X : Ctx} {f : FuncId} {args : List IV} {k : IV → Heap → Prop} (h : callK P X f args k H) : callK P X f args k H := h
theorem callD_id {P : Program} {X : Ctx} {f : FuncId} {args : List IV} {k : List Nat → IV → List (Nat × Chunk) → Prop} (h : callD P X f args H k) : callD P X f args H k := h
theorem drawK_id {P : Program} {n : Nat} {X : Ctx} {id : Nat} {ops : Array Oper} {K : TM → Heap → Prop} (h : drawK P n X id ops K tm H) : drawK P n X id ops K tm H := h
theorem draw_fin {all : Array Oper} {acc : List Inf} {c : Prop} (h1 : drawOk all acc = true) (h2 : c) : drawOk all acc = true ∧ c := ⟨h1, h2⟩
theorem draw_id {all : Array Oper} {acc : List Inf} (h1 : drawOk all acc = true) : drawOk all acc = true := h1
theorem g_not {b : Bool} : gdb (!b) A B tm H = gdb b B A tm H := by cases b <;> simp [gdb]
theorem g_and {a b : Bool} : gdb (a && b) A B tm H = gdb a (gdb b A B) B tm H := by cases a <;> cases b <;> simp [gdb]
theorem g_eq {α : Type} [BEq α] [LawfulBEq α] {a b : α} (h1 : a = b → A tm H) (h2 : (a == b) = false → B tm H) : gdb (a == b) A B tm H :=
  gdb_split (fun h => h1 (by simpa using h)) h2
end
end
end Go.Ev
