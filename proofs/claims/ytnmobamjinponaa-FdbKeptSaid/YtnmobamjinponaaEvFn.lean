/- Functions: their arguments, their results, their calls. -/
import Derived.Test.YtnmobamjinponaaEvRun
namespace Go.Ev
open Go.RowKit

def argsTM : Nat → List IV → TM
  | _, [] => []
  | i, x :: xs => (i, x) :: argsTM (i + 1) xs

def resI (P : Program) (tm : TM) (H : Heap) : List ResultVar → Option (List IV)
  | [] => some []
  | .tmp t :: rs => match resI P tm H rs with
    | some l => some (get tm t :: l)
    | none => none
  | .cell a T :: rs => match stLoad P T (get tm a) H with
    | some (_, v, _) => match resI P tm H rs with
      | some l => some (v :: l)
      | none => none
    | none => none

def isT : IV → Bool
  | .t _ => true
  | _ => false

/-- Results that are no tuples. -/
def flat : List IV → Bool
  | [] => true
  | x :: xs => !isT x && flat xs

def resK (r : Option (List IV)) (k : IV → Heap → Prop) (H : Heap) : Prop :=
  match r with
  | some [x] => k x H
  | some l => flat l = true ∧ k (.t l) H
  | none => False

def retQ (P : Program) (rs : List ResultVar) (k : IV → Heap → Prop) : Exit → TM → Heap → Prop
  | .ret, tm, H => resK (resI P tm H rs) k H
  | .normal, tm, H => resK (resI P tm H rs) k H
  | _, _, _ => False

section
variable {P : Program} {X : Ctx}

theorem get_argsTM {ρ : Ren} : ∀ (args : List IV) (vs : List Value) (i : Nat), relA ρ args vs → ∀ t, relI ρ (get (argsTM i args) t) (if i ≤ t then vs.getD (t - i) undef else undef) ∨ (get (argsTM i args) t = .j)
  | [], vs, i, _, t => .inr rfl
  | x :: xs, v :: vs, i, h, t => by
    simp only [argsTM, get]
    by_cases e : i = t
    · subst e; left; simp; exact h.1
    · rw [if_neg e]
      rcases get_argsTM xs vs (i + 1) h.2 t with h' | h'
      · left
        by_cases hle : i ≤ t
        · have : i + 1 ≤ t := by omega
          rw [if_pos hle]
          rw [if_pos this] at h'
          rw [show t - i = (t - (i + 1)) + 1 by omega]
          simpa using h'
        · rw [if_neg hle]; rw [if_neg (by omega)] at h'; exact h'
      · exact .inr h'
  | _ :: _, [], _, h, _ => h.elim

theorem relA.len {ρ : Ren} : ∀ {args : List IV} {vs : List Value}, relA ρ args vs → vs.length = args.length
  | [], [], _ => rfl
  | _ :: _, _ :: _, h => by simp [h.2.len]
  | [], _ :: _, h => h.elim
  | _ :: _, [], h => h.elim

theorem relA_enter {ρ : Ren} {args : List IV} {vs : List Value} {n : Nat} (h : relA ρ args vs) (hn : args.length ≤ n) :
    RelA n ρ (argsTM 0 args) { tmps := vs.toArray ++ Array.replicate (n - vs.toArray.size) undef, defers := [] } := by
  have hl := h.len
  refine ⟨by simp; omega, rfl, fun t => ?_⟩
  rcases get_argsTM args vs 0 h t with h' | h'
  · simp only [Nat.zero_le, if_true, Nat.sub_zero] at h'
    by_cases ht : t < vs.length
    · simpa [Array.getD_eq_getD_getElem?, Array.getElem?_append, ht] using h'
    · by_cases ht2 : t < n
      · have : (vs.toArray ++ Array.replicate (n - vs.toArray.size) undef).getD t undef = undef := by
          simp [Array.getD_eq_getD_getElem?, Array.getElem?_append, ht]
          rw [Array.getElem?_replicate]; split <;> rfl
        rw [this]
        have e : vs.getD t undef = undef := by simp [List.getD, List.getElem?_eq_none (Nat.le_of_not_lt ht)]
        rw [e] at h'; exact h'
      · have : (vs.toArray ++ Array.replicate (n - vs.toArray.size) undef).getD t undef = undef := by
          simp [Array.getD_eq_getD_getElem?, Array.getElem?_append, ht]
          rw [Array.getElem?_replicate]; split <;> rfl
        rw [this]
        have e : vs.getD t undef = undef := by simp [List.getD, List.getElem?_eq_none (Nat.le_of_not_lt ht)]
        rw [e] at h'; exact h'
  · rw [h']; trivial

theorem stLoad_run {ρ : Ren} {H : Heap} {W : List (Nat × Chunk)} {w : World} {T : TypeId} {p v : IV} {pv : Value} {c : Prop} (hi : Inv X ρ H w) (hp : relI ρ p pv) (h : stLoad P T p H = some (c, v, W)) :
    ∃ x a, pv = .pointer (some a) ∧ relI ρ v x ∧ isT v = false ∧ (loadVar T a).run P w = .ok x w := by
  unfold stLoad at h
  split at h
  · rename_i ci i o
    split at h
    · rename_i own sz' els hc
      split at h
      · rename_i n ag hsz hag
        split at h
        · rename_i l hs
          cases h
          obtain ⟨b, base, sz, lim, hρ, rfl⟩ := hp
          obtain ⟨hl, vs, hrel, hcell⟩ := read_cells2 hi hc hρ hs
          have hlen := hrel.len
          cases ag with
          | true =>
            refine ⟨.agg vs.toArray, _, rfl, ⟨vs, rfl, hrel⟩, rfl, ?_⟩
            have hld : (loadCells ⟨b, base + i * sz + o, none⟩ n).run P w = .ok vs.toArray w := by
              have := run_loadCells_list (P := P) w ⟨b, base + i * sz + o, none⟩ vs (fun j v hj => by rw [addr_add]; exact hcell j v hj)
              rw [show vs.length = n by rw [hlen, hl]; rfl] at this; exact this
            simp [loadVar, run_isAgg' P w hag, run_sizeOf' P w hsz, hld]
          | false =>
            obtain ⟨x0, rfl⟩ := List.length_eq_one_iff.1 (hl.trans rfl)
            obtain ⟨v0, rfl⟩ := List.length_eq_one_iff.1 hlen
            refine ⟨v0, _, rfl, hrel.1, rfl, ?_⟩
            have hc0 := hcell 0 v0 rfl
            simp only [Nat.add_zero] at hc0
            simp [loadVar, run_isAgg' P w hag, hc0]
        · cases h
      · cases h
    · cases h
  · cases h

theorem relC_of {ρ : Ren} {x : IV} {v : Value} (h : relI ρ x v) (hx : isT x = false) : relC ρ x v := by
  cases x with
  | t l => cases hx
  | _ => exact h

def resOne (tmps : Array Value) : ResultVar → Sem Value
  | .tmp t => pure (tmps.getD t undef)
  | .cell a t => do loadVar t (← asAddr (tmps.getD a undef))

theorem results_eq (fn : Func) (tmps : Array Value) : results fn tmps = (fn.results.mapM (resOne tmps) >>= fun vs => pure (if h : vs.size = 1 then vs[0] else .tuple vs)) := by
  unfold results
  congr 1

theorem resI_run {n : Nat} {ρ : Ren} {tm : TM} {a : Act} {H : Heap} {w : World} (ha : RelA n ρ tm a) (hi : Inv X ρ H w) : ∀ (rs : List ResultVar) (l : List IV), resI P tm H rs = some l →
    ∃ vs : List Value, relA ρ l vs ∧ (rs.mapM (resOne a.tmps)).run P w = .ok vs w
  | [], l, h => by simp [resI] at h; subst h; exact ⟨[], trivial, by simp⟩
  | .tmp t :: rs, l, h => by
    simp only [resI] at h
    split at h
    · rename_i l' hl'
      cases h
      obtain ⟨vs, hr, hrun⟩ := resI_run ha hi rs l' hl'
      exact ⟨_ :: vs, ⟨ha.rel t, hr⟩, by simp [List.mapM_cons, resOne, hrun]⟩
    · cases h
  | .cell p T :: rs, l, h => by
    simp only [resI] at h
    split at h
    · rename_i c v H' hld
      split at h
      · rename_i l' hl'
        cases h
        obtain ⟨vs, hr, hrun⟩ := resI_run ha hi rs l' hl'
        obtain ⟨x, ad, hp, hx, _, hload⟩ := stLoad_run hi (ha.rel p) hld
        exact ⟨x :: vs, ⟨hx, hr⟩, by simp [List.mapM_cons, resOne, hp, asAddr, hload, hrun]⟩
      · cases h
    · cases h

theorem relT_of_relA {ρ : Ren} : ∀ {l : List IV} {vs : List Value}, flat l = true → relA ρ l vs → relT ρ l vs
  | [], [], _, _ => trivial
  | x :: xs, v :: vs, hf, h => by
    simp only [flat, Bool.and_eq_true, Bool.not_eq_true'] at hf
    exact ⟨relC_of h.1 hf.1, relT_of_relA hf.2 h.2⟩
  | [], _ :: _, _, h => h.elim
  | _ :: _, [], _, h => h.elim

theorem resK_run {n : Nat} {ρ : Ren} {tm : TM} {a : Act} {H : Heap} {w : World} {fn : Func} {k : IV → Heap → Prop} (ha : RelA n ρ tm a) (hi : Inv X ρ H w)
    (h : resK (resI P tm H fn.results.toList) k H) : ∃ v r, (results fn a.tmps).run P w = .ok v w ∧ k r H ∧ relI ρ r v := by
  unfold resK at h
  have hm : ∀ {l : List IV}, resI P tm H fn.results.toList = some l → ∃ vs : List Value, relA ρ l vs ∧ (fn.results.mapM (resOne a.tmps)).run P w = .ok vs.toArray w := by
    intro l hl
    obtain ⟨vs, hr, hrun⟩ := resI_run ha hi _ _ hl
    exact ⟨vs, hr, by rw [Array.mapM_eq_mapM_toList]; simp [hrun]⟩
  rw [results_eq]
  split at h
  · rename_i x hl
    obtain ⟨vs, hr, hrun⟩ := hm hl
    match vs, hr, hrun with
    | [v], hr, hrun => exact ⟨v, x, by simp [hrun], h, hr.1⟩
  · rename_i l hne hl
    obtain ⟨vs, hr, hrun⟩ := hm hl
    have hlen := hr.len
    have h1 : vs.length ≠ 1 := fun e => by
      rw [hlen] at e
      obtain ⟨y, rfl⟩ := List.length_eq_one_iff.1 e
      exact hne y rfl
    refine ⟨.tuple vs.toArray, .t l, ?_, h.2, ⟨vs, rfl, relT_of_relA h.1 hr⟩⟩
    simp only [Sem.run_bind, hrun, Result.andThen_ok, Sem.run_pure]
    rw [dif_neg (by simpa using h1)]
  · exact h.elim

/-- A call walked in place. -/
theorem callK_inline {f : FuncId} {fn : Func} {c : Code} {args : List IV} {k : IV → Heap → Prop} {H : Heap} {n : Nat} {rs : List ResultVar} (hf : P.funcs[f]? = some fn) (hb : fn.body = some c) (hrs : fn.results.toList = rs) (hnt : fn.ntmps = n) (he : enters P f = true)
    (hok : codeOk n c = true) (hn : args.length ≤ n) (h : ev P n (X.at H.length) c (retQ P rs k) (argsTM 0 args) H) : callK P X f args k H := by
  subst hrs; subst hnt
  refine ⟨he, fun ρ vs w hargs hi => ?_⟩
  refine calls_of_wp hf hb ?_
  refine wp_mono (ev_sound c hok _ _ _ h ρ _ w (relA_enter hargs hn) (hi.at _)) ?_
  rintro e a w' ⟨ρ', tm, H', q, hp, ha, hi'⟩
  have fin : resK (resI P tm H' fn.results.toList) k H' → a.defers = [] ∧ ∃ v, (results fn a.tmps).run P w' = .ok v w' ∧ ∃ v' r H' ρ', Ending.returned v = .returned v' ∧ k r H' ∧ relI ρ' r v' ∧ Le ρ ρ' ∧ Inv X ρ' H' w' := by
    intro hk
    obtain ⟨v, r, hrun, hkr, hr⟩ := resK_run ha hi' hk
    have hp' : LeN ρ.length ρ ρ' := by rw [hi.len]; exact hp
    exact ⟨ha.defers, v, hrun, v, r, H', ρ', rfl, hkr, hr, hp'.full, hi'.un⟩
  cases e with
  | normal => exact fin q
  | ret => exact fin q
  | _ => exact q.elim

/-- A contract: the call's result and what the ideal heap becomes, whatever the frame. -/
theorem callK_mono {f : FuncId} {args : List IV} {k k' : IV → Heap → Prop} {H : Heap} (h : callK P X f args k H) (hk : ∀ r H', k r H' → k' r H') : callK P X f args k' H :=
  ⟨h.1, fun ρ vs w hargs hi => (h.2 ρ vs w hargs hi).mono fun _ _ ⟨v, r, H', ρ', e, q, rest⟩ => ⟨v, r, H', ρ', e, hk _ _ q, rest⟩⟩

/-- A function that only reckons: its result, from any state; nothing of the heap is touched. -/
def Pure (P : Program) (f : FuncId) (args : List IV) (r : IV) : Prop :=
  ∀ (X : Ctx) (H : Heap), callK P X f args (fun r' H' => r' = r ∧ H' = H) H

theorem callK_pure {f : FuncId} {args : List IV} {r : IV} {k : IV → Heap → Prop} {H : Heap} (h : Pure P f args r) (hk : k r H) : callK P X f args k H :=
  callK_mono (h X H) fun _ _ ⟨e1, e2⟩ => by subst e1; subst e2; exact hk
end
end Go.Ev
