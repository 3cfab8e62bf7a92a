/- A law's argument that is a slice of plain data: a chunk to be read. -/
import Derived.Test.YtnmobamjinponaaEvLoop
namespace Go.Ev
open Go.RowKit Go.ChangeShapes Go.WideShapes Go.ChangeAt
section
variable {H : Type} {enc : TypeId × Value → H} {P : Program} {W : World}

theorem add_none {a : Addr} (h : a.spot = none) (n : Nat) : a.add n = ⟨a.block, a.off + n, none⟩ := by
  obtain ⟨b, o, s⟩ := a
  simp only at h; subst h; simp [Addr.add]

theorem TypedL.raw : ∀ {ls : List Leaf} {xs : List SV}, TypedL ls xs → rawL xs = true
  | [], [], _ => rfl
  | l :: ls, x :: xs, h => by
    simp only [rawL, h.2.raw, Bool.and_true]
    cases l with
    | int k => obtain ⟨n, rfl, _⟩ := h.1; rfl
    | bool => obtain ⟨b, rfl⟩ := h.1; rfl
    | string => obtain ⟨b, rfl, _⟩ := h.1; rfl
  | [], _ :: _, h => h.elim
  | _ :: _, [], h => h.elim

theorem arg_slice {T e : TypeId} {ls : List Leaf} {v : Value} {d : DataW H} {p : List MemPlace} {b0 : Nat} (ht : P.underlying T = some (.slice e)) (hl : leavesOf P 60 e = some ls) (hsz : szT P e = some ls.length)
    (hpos : 0 < ls.length) (hok : Value.okWide P W .any b0 T v) (h : DataW.Trod enc P W 0 (fun _ => true) true T v d p) :
    ∃ (els : List (List SV)) (pl : Pl), (∀ row ∈ els, TypedL ls row) ∧ (∀ (ρ : Ren) (c : Nat), ρ[c]? = some pl → relS ρ (.slice c 0 els.length) v) ∧ (∀ ρ : Ren, SatC ρ W pl (.rows false ls.length els)) ∧ (∀ b u, pl ≠ .obj b u) := by
  obtain ⟨fuel, hf⟩ := h
  have hce : P.cellsOf e = ls.length := cellsOf_of hsz
  unfold Value.okWide at hok
  rw [ht] at hok
  simp only at hok
  unfold Cell.okWide at hok
  rw [ht] at hok
  cases v with
  | slice a len cap =>
    simp only at hok
    unfold Cell.ok at hok
    rw [ht] at hok
    have hcs : (Value.slice a len cap).cells.toList = [.slice a len cap] := by simp [Value.cells]
    rw [hcs] at hf
    rcases DataW.trod_slice ht hf with ⟨h1, _⟩ | ⟨a', len', cap', elems, rest, n, _, h1, _, hb, hlc, _, hlen, hel, hsp, _⟩
    · simp only [List.cons.injEq, Value.slice.injEq, and_true] at h1
      obtain ⟨rfl, rfl, rfl⟩ := h1
      exact ⟨[], .nowhere, (fun _ h => by cases h), fun ρ c hc => .inl ⟨hc, rfl, rfl, rfl⟩, fun ρ => .inl ⟨rfl, rfl⟩, fun b u h => by cases h⟩
    · simp only [List.cons.injEq, Value.slice.injEq, and_true] at h1
      obtain ⟨rfl, rfl, rfl⟩ := h1
      simp only at hok
      obtain ⟨_, _, _, hspot, row, csz, hshape, _⟩ := hok
      have hblk : ∃ cells TT lo hi, W.heap[a'.block]? = some (.cells cells TT (lo, hi)) := by
        unfold World.shape? at hshape
        split at hshape
        · rename_i c el fr hh; exact ⟨c, el, fr.1, fr.2, hh⟩
        · cases hshape
      obtain ⟨cells, TT, lo, hi, hheap⟩ := hblk
      have hrest := hsp rfl
      have each : ∀ i, i < cap → ∃ xs : List SV, TypedL ls xs ∧ ∀ (o : Nat) (x : SV), xs[o]? = some x → ∃ v, cells[a'.off + i * ls.length + o]? = some v ∧ relS [] x v := by
        intro i hi'
        have hb' : ∃ y, (W.cells? 0 (a'.add (i * P.cellsOf e)) (P.cellsOf e)).bind (DataW.trod enc P W 0 (fun _ => true) true n e) = some y := by
          by_cases hil : i < len
          · rw [hel i hil]; exact ⟨_, List.getElem?_eq_getElem (by omega)⟩
          · have := hrest.2 (i - len) (by omega)
            rw [show len + (i - len) = i by omega] at this
            rw [this]; exact ⟨_, List.getElem?_eq_getElem (by omega)⟩
        obtain ⟨y, hy⟩ := hb'
        rw [Option.bind_eq_some_iff] at hy
        obtain ⟨cs', hcs', hy'⟩ := hy
        obtain ⟨xs, hr, hty, _⟩ := (trod_leaves 60).1 e ls hl n cs' y hy'
        obtain ⟨_, hcl, hcell⟩ := World.cells?_some hcs'
        refine ⟨xs, hty, fun o x hx => ?_⟩
        obtain ⟨v, hv, hrel⟩ := hr.get hx
        have ho : o < P.cellsOf e := by rw [← hcl]; exact (List.getElem?_eq_some_iff.1 hv).1
        have := hcell o ho
        rw [hv, add_none hspot, add_none rfl, hce] at this
        refine ⟨v, ?_, hrel⟩
        simpa [World.cell?, hheap] using this
      let f : Nat → List SV := fun i => if h : i < cap then Classical.choose (each i h) else []
      have hf' : ∀ i, i < cap → TypedL ls (f i) ∧ ∀ (o : Nat) (x : SV), (f i)[o]? = some x → ∃ v, cells[a'.off + i * ls.length + o]? = some v ∧ relS [] x v := by
        intro i h
        simp only [f, dif_pos h]
        exact Classical.choose_spec (each i h)
      have helsg : ∀ (i : Nat) (row : List SV), ((List.range len).map f)[i]? = some row → i < len ∧ row = f i := by
        intro i row hrow
        rw [List.getElem?_map] at hrow
        cases hr : (List.range len)[i]? with
        | none => rw [hr] at hrow; cases hrow
        | some j =>
          obtain ⟨hlt, hj⟩ := List.getElem?_eq_some_iff.1 hr
          simp at hlt hj; subst hj
          rw [hr] at hrow; simp at hrow; exact ⟨hlt, hrow.symm⟩
      have hty : ∀ row ∈ (List.range len).map f, TypedL ls row := by
        intro row hrow
        obtain ⟨i, hi', rfl⟩ := List.mem_map.1 hrow
        exact (hf' i (by simp at hi'; omega)).1
      have hrows : ∀ ρ : Ren, rowsAt ρ cells a'.off ls.length ((List.range len).map f) := by
        intro ρ i row hrow
        obtain ⟨hlt, rfl⟩ := helsg i row hrow
        obtain ⟨h1, h2⟩ := hf' i (by omega)
        refine ⟨h1.len, fun o x hx => ?_⟩
        obtain ⟨v, hv, hs⟩ := h2 o x hx
        refine ⟨v, hv, rawS_rel ?_ hs⟩
        have hraw := h1.raw
        have : ∀ (l : List SV), rawL l = true → ∀ x ∈ l, rawS x = true := by
          intro l
          induction l with
          | nil => intro _ x h; cases h
          | cons y l ih =>
            intro h x hx
            simp only [rawL, Bool.and_eq_true] at h
            rcases List.mem_cons.1 hx with rfl | hx
            · exact h.1
            · exact ih h.2 x hx
        exact this _ hraw x (List.mem_of_getElem? hx)
      have hspot' : a' = ⟨a'.block, a'.off, none⟩ := by
        obtain ⟨b, o, s⟩ := a'
        simp only at hspot; subst hspot; rfl
      by_cases hcap : cap = 0
      · subst hcap
        have hl0 : len = 0 := by omega
        subst hl0
        refine ⟨[], .mem a'.block 0 ls.length 0, (fun _ h => by cases h), fun ρ c hc => .inr (.inr ⟨a'.block, 0, ls.length, 0, a'.off, hc, rfl, by rw [hspot']⟩), fun ρ => .inr ⟨a'.block, 0, 0, cells, TT, lo, hi, rfl, hheap, hpos, Nat.le_refl _, by simp, (fun h => by cases h), (fun h => by cases h), fun i row h => by simp at h⟩, fun b u h => by cases h⟩
      · refine ⟨(List.range len).map f, .mem a'.block a'.off ls.length cap, hty, fun ρ c hc => .inr (.inl ⟨a'.block, a'.off, ls.length, cap, cap, hc, ?_, by simpa using hlc, by simp⟩),
          fun ρ => .inr ⟨a'.block, a'.off, cap, cells, TT, lo, hi, rfl, hheap, hpos, by simpa using hlc, ?_, (fun h => by cases h), (fun h => by cases h), hrows ρ⟩, fun b u h => by cases h⟩
        · rw [hspot']; simp
        · obtain ⟨h1, h2⟩ := hf' (cap - 1) (by omega)
          obtain ⟨x, hx⟩ : ∃ x, (f (cap - 1))[ls.length - 1]? = some x := ⟨_, List.getElem?_eq_getElem (by rw [h1.len]; omega)⟩
          obtain ⟨v, hv, _⟩ := h2 _ x hx
          have hlt := (Array.getElem?_eq_some_iff.1 hv).1
          have : cap * ls.length = (cap - 1) * ls.length + ls.length := by
            conv => lhs; rw [show cap = (cap - 1) + 1 by omega, Nat.add_mul, Nat.one_mul]
          omega
  | _ => first | exact hok.elim | (simp only at hok; unfold Cell.ok at hok; rw [ht] at hok; exact hok.elim)

/-! #### arguments of a law: plain data, or slices of plain data -/
inductive AK where
  | scal (ls : List Leaf) (ag : Bool)
  | sl (e : TypeId) (ls : List Leaf)

def TypedB : Nat → List (TypeId × AK) → List IV → Heap → Prop
  | _, [], [], [] => True
  | k, (_, .scal ls ag) :: L, v :: vs, H => (∃ xs, TypedL ls xs ∧ v = ldIV ag xs) ∧ TypedB k L vs H
  | k, (_, .sl _ ls) :: L, v :: vs, ch :: H => (∃ els : List (List SV), (∀ row ∈ els, TypedL ls row) ∧ v = .s (.slice k 0 els.length) ∧ ch = .rows false ls.length els) ∧ TypedB (k + 1) L vs H
  | _, _, _, _ => False

def okB (P : Program) : TypeId × AK → Prop
  | (t, .scal ls ag) => leavesOf P 60 t = some ls ∧ aggT P t = some ag
  | (t, .sl e ls) => P.underlying t = some (.slice e) ∧ leavesOf P 60 e = some ls ∧ szT P e = some ls.length ∧ 0 < ls.length

theorem args_gen {b0 : Nat} : ∀ (L : List (TypeId × AK)) (k : Nat) {ts : List TypeId} {vs : List Value} {ds : List (DataW H)} {p : List MemPlace}, ts = L.map (·.1) → (∀ e ∈ L, okB P e) →
    DataW.TrodAll enc P W 0 (fun _ => true) true ts vs ds p → (∀ (j : Nat) t v, ts[j]? = some t → vs[j]? = some v → Value.okWide P W .any b0 t v) →
    ∃ (ivs : List IV) (H0 : Heap) (pls : List Pl), TypedB k L ivs H0 ∧ pls.length = H0.length ∧ (∀ ρ : Ren, (∀ (i : Nat) (pl : Pl), pls[i]? = some pl → ρ[k + i]? = some pl) → relA ρ ivs vs) ∧
      (∀ (i : Nat) (ch : Chunk), H0[i]? = some ch → ∃ pl sz els, pls[i]? = some pl ∧ ch = .rows false sz els ∧ (∀ ρ : Ren, SatC ρ W pl ch) ∧ ∀ b u, pl ≠ .obj b u)
  | [], k, ts, vs, ds, p, e, _, h, _ => by
    subst e
    cases vs with
    | nil => exact ⟨[], [], [], trivial, rfl, fun _ _ => trivial, fun i ch h => by simp at h⟩
    | cons _ _ => cases ds <;> exact h.elim
  | ⟨t, kd⟩ :: L, k, ts, vs, ds, p, e, hL, h, hv => by
    subst e
    cases vs with
    | nil => cases ds <;> exact h.elim
    | cons v vs =>
      cases ds with
      | nil => exact h.elim
      | cons d ds =>
        obtain ⟨p1, p2, h1, h2, _⟩ := h
        have hvs : ∀ (j : Nat) t v, (L.map (·.1))[j]? = some t → vs[j]? = some v → Value.okWide P W .any b0 t v := fun j t v h1 h2 => hv (j + 1) t v (by simpa using h1) (by simpa using h2)
        have hL' := fun e he => hL e (List.mem_cons_of_mem _ he)
        have h0 := hL _ List.mem_cons_self
        cases kd with
        | scal ls ag =>
          obtain ⟨hl, ha⟩ := h0
          obtain ⟨xs, hx, hr, _⟩ := arg_scal hl ha (hv 0 t v rfl rfl) h1
          obtain ⟨ivs, H0, pls, ht, hlen, hrs, hsat⟩ := args_gen L k rfl hL' h2 hvs
          exact ⟨_ :: ivs, H0, pls, ⟨⟨xs, hx, rfl⟩, ht⟩, hlen, fun ρ hρ => ⟨hr ρ, hrs ρ hρ⟩, hsat⟩
        | sl e ls =>
          obtain ⟨hu, hl, hsz, hpos⟩ := h0
          obtain ⟨els, pl, hty, hrel, hs, ho⟩ := arg_slice hu hl hsz hpos (hv 0 t v rfl rfl) h1
          obtain ⟨ivs, H0, pls, ht, hlen, hrs, hsat⟩ := args_gen L (k + 1) rfl hL' h2 hvs
          refine ⟨.s (.slice k 0 els.length) :: ivs, .rows false ls.length els :: H0, pl :: pls, ⟨⟨els, hty, rfl, rfl⟩, ht⟩, by simp [hlen], fun ρ hρ => ⟨?_, hrs ρ fun i q hq => ?_⟩, fun i ch hi => ?_⟩
          · exact hrel ρ k (by simpa using hρ 0 pl rfl)
          · have := hρ (i + 1) q (by simpa using hq)
            rwa [show k + (i + 1) = k + 1 + i by omega] at this
          · cases i with
            | zero => simp at hi; subst hi; exact ⟨pl, _, _, rfl, rfl, hs, ho⟩
            | succ i => exact hsat i ch (by simpa using hi)

theorem hcall_gen {f : FuncId} {fn : Func} (L : List (TypeId × AK)) (hts : fn.params.toList = L.map (·.1)) (hL : ∀ e ∈ L, okB P e)
    (hf : ∀ ivs H0, TypedB 0 L ivs H0 → FunR P f H0 ivs (.s (.raw (.bool true)))) (W : World) (base : Nat) (args : Array Value) (ds : List (DataW H)) (p : List MemPlace)
    (h : DataW.TrodAll enc P W 0 (fun _ => true) true fn.params.toList args.toList ds p) (hv : ∀ (j : Nat) t v, fn.params[j]? = some t → args[j]? = some v → Value.okWide P W .any base t v) :
    Calls P f args W fun e W' => e = .returned (.bool true) ∧ Below W.heap.size W W' := by
  obtain ⟨ivs, H0, pls, ht, hlen, hr, hsat⟩ := args_gen L 0 hts hL h (fun j t v h1 h2 => hv j t v (by simpa using h1) (by simpa using h2))
  have hro : ∀ (c : Nat) (ch : Chunk), H0[c]? = some ch → ch.owned = false := fun c ch hc => by
    obtain ⟨_, _, _, _, rfl, _⟩ := hsat c ch hc; rfl
  have hi : Inv (ctx0 W) pls H0 W := by
    refine ⟨rfl, rfl, rfl, Nat.le_refl _, Nat.le_refl _, fun _ _ _ => rfl, hlen, ?_, ?_, ?_, ?_, ?_⟩
    · intro c b u hc
      have hlt : c < H0.length := by rw [← hlen]; exact (List.getElem?_eq_some_iff.1 hc).1
      obtain ⟨pl, _, _, hpl, _, _, ho⟩ := hsat c _ (List.getElem?_eq_getElem hlt)
      rw [hc] at hpl; cases hpl
      exact absurd rfl (ho b u)
    · intro c ch hc
      obtain ⟨pl, _, _, hpl, _, hs, _⟩ := hsat c ch hc
      exact ⟨pl, hpl, hs _⟩
    · intro c ch l b hc ho; rw [hro c ch hc] at ho; cases ho
    · intro c sz els l b hc hl hb
      obtain ⟨pl, _, _, hpl, _, hs, _⟩ := hsat c _ hc
      rw [hl] at hpl; cases hpl
      refine ⟨?_, fun h => h⟩
      rcases hs [] with ⟨rfl, _⟩ | ⟨b', base, lim, cells, T, lo, hi, rfl, h2, _⟩
      · cases hb
      · simp only [Pl.blk, Option.some.injEq] at hb
        subst hb
        exact (Array.getElem?_eq_some_iff.1 h2).1
    · intro c d ch dh l m b _ hc _ ho; rw [hro c ch hc] at ho; cases ho
  refine ((hf ivs H0 ht).2 W pls args.toList hi (hr pls fun i pl h => by simpa using h)).mono ?_
  rintro e w' ⟨v, rfl, hv, hb⟩
  exact ⟨by rw [show v = .bool true from hv.1], hb.toBelow⟩
theorem b_scal {k : Nat} {t : TypeId} {ls : List Leaf} {ag : Bool} {L : List (TypeId × AK)} {ivs : List IV} {H0 : Heap} (h : TypedB k ((t, .scal ls ag) :: L) ivs H0) :
    ∃ xs ivs', TypedL ls xs ∧ ivs = ldIV ag xs :: ivs' ∧ TypedB k L ivs' H0 := by
  cases ivs with
  | nil => simp [TypedB] at h
  | cons v vs =>
    simp only [TypedB] at h
    obtain ⟨⟨xs, h1, rfl⟩, h2⟩ := h
    exact ⟨xs, vs, h1, rfl, h2⟩
theorem b_sl {k : Nat} {t e : TypeId} {ls : List Leaf} {L : List (TypeId × AK)} {ivs : List IV} {H0 : Heap} (h : TypedB k ((t, .sl e ls) :: L) ivs H0) :
    ∃ els ivs' H', (∀ row ∈ els, TypedL ls row) ∧ ivs = .s (.slice k 0 els.length) :: ivs' ∧ H0 = .rows false ls.length els :: H' ∧ TypedB (k + 1) L ivs' H' := by
  cases ivs with
  | nil => simp [TypedB] at h
  | cons v vs => cases H0 with
    | nil => simp [TypedB] at h
    | cons ch H' =>
      simp only [TypedB] at h
      obtain ⟨⟨els, h1, rfl, rfl⟩, h2⟩ := h
      exact ⟨els, vs, H', h1, rfl, rfl, h2⟩
theorem b_nil {k : Nat} {ivs : List IV} {H0 : Heap} (h : TypedB k [] ivs H0) : ivs = [] ∧ H0 = [] := by
  cases ivs <;> cases H0 <;> simp [TypedB] at h ⊢
end
end Go.Ev
