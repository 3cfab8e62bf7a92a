/- Literals of structs, arrays and slices; make; slice expressions, ideally. -/
import Derived.Test.YtnmobamjinponaaEvStep3
namespace Go.Ev
open Go.RowKit

theorem fold_set : ∀ (l : List Value) (k off : Nat) (cs : Array Value),
    ((l.zipIdx k).foldl (fun cs (x : Value × Nat) => cs.setIfInBounds (off + x.2) x.1) cs).size = cs.size ∧
    ∀ j, ((l.zipIdx k).foldl (fun cs (x : Value × Nat) => cs.setIfInBounds (off + x.2) x.1) cs)[j]? = if off + k ≤ j ∧ j < off + k + l.length ∧ j < cs.size then l[j - (off + k)]? else cs[j]?
  | [], k, off, cs => by
    refine ⟨rfl, fun j => ?_⟩
    rw [if_neg (by simp; omega)]; rfl
  | v :: l, k, off, cs => by
    obtain ⟨h1, h2⟩ := fold_set l (k + 1) off (cs.setIfInBounds (off + k) v)
    simp only [List.zipIdx_cons, List.foldl_cons]
    refine ⟨by rw [h1]; simp, fun j => ?_⟩
    rw [h2 j]
    simp only [Array.size_setIfInBounds, List.length_cons]
    by_cases e : j = off + k
    · subst e
      rw [if_neg (by omega)]
      by_cases hlt : off + k < cs.size
      · rw [if_pos (by omega)]; simp [hlt]
      · rw [if_neg (by omega), Array.getElem?_setIfInBounds, if_pos rfl, if_neg hlt, Array.getElem?_eq_none (by omega)]
    · by_cases hr : off + (k + 1) ≤ j ∧ j < off + (k + 1) + l.length ∧ j < cs.size
      · rw [if_pos hr, if_pos (by omega), show j - (off + k) = (j - (off + (k + 1))) + 1 by omega]; simp
      · rw [if_neg hr, if_neg (by omega), Array.getElem?_setIfInBounds, if_neg (by omega)]

theorem fold_set_array (v : Array Value) (off : Nat) (cs : Array Value) :
    v.zipIdx.foldl (fun cs (x : Value × Nat) => cs.setIfInBounds (off + x.2) x.1) cs = (v.toList.zipIdx).foldl (fun cs (x : Value × Nat) => cs.setIfInBounds (off + x.2) x.1) cs := by
  rw [← Array.foldl_toList]; simp

section
variable {P : Program} {X : Ctx} {ρ : Ren} {H : Heap} {W : List (Nat × Chunk)} {w : World} {n : Nat} {tm : TM} {a : Act} {c : Prop} {v : IV}

theorem relL_splice {z l : List SV} {cs : Array Value} {off : Nat} {xs : List SV} {u : Array Value} (hz : relL ρ z cs.toList) (hu : relL ρ xs u.toList) (h : spl z off xs = some l) :
    relL ρ l (u.zipIdx.foldl (fun cs (x : Value × Nat) => cs.setIfInBounds (off + x.2) x.1) cs).toList := by
  obtain ⟨h1, h2, h3⟩ := spl_spec h
  rw [fold_set_array]
  obtain ⟨f1, f2⟩ := fold_set u.toList 0 off cs
  have hzl := hz.len
  have hul := hu.len
  simp at hzl hul
  refine relL_of_get (by simp [f1]; omega) fun i x hx => ?_
  have hi := (List.getElem?_eq_some_iff.1 hx).1
  have e := f2 i
  rcases h3 i x hx with ⟨a1, a2, a3⟩ | ⟨a1, a2⟩
  · obtain ⟨y, hy, hr⟩ := hu.get a3
    refine ⟨y, ?_, hr⟩
    rw [if_pos (by simp; omega)] at e
    simp only [Nat.add_zero] at e
    rw [hy] at e
    simpa using e
  · obtain ⟨y, hy, hr⟩ := hz.get a2
    refine ⟨y, ?_, hr⟩
    rw [if_neg (by simp; omega)] at e
    rw [Array.getElem?_toList] at hy
    rw [hy] at e
    simpa using e

def relP (ρ : Ren) : List (Nat × IV) → List (Nat × Value) → Prop
  | [], [] => True
  | (i, x) :: xs, (j, v) :: vs => i = j ∧ relI ρ x v ∧ relP ρ xs vs
  | _, _ => False

theorem relP_list {n : Nat} {tm : TM} {a : Act} (ha : RelA n ρ tm a) : ∀ (l : List (Nat × Operand)), relP ρ (l.map fun p => (p.1, rd tm p.2)) (l.map fun p => (p.1, a.eval p.2))
  | [] => trivial
  | o :: l => ⟨rfl, rd_rel ha o.2, relP_list ha l⟩

theorem fill_run {place : Nat → Option (Nat × Nat)} {T : TypeId} (hpl : ∀ i x, plT P T i = some x → place i = some x) (hobj : ∀ (c b : Nat) (u : Value), ρ[c]? = some (Pl.obj b u) → u.oneCell' = true) :
    ∀ (ps : List (Nat × IV)) (vs : List (Nat × Value)) (z l : List SV) (cs : Array Value), relP ρ ps vs → relL ρ z cs.toList → fillI P T ps z = some l →
      ∃ cs', Instr.fill place cs vs = some cs' ∧ relL ρ l cs'.toList
  | [], [], z, l, cs, _, hz, h => by simp [fillI] at h; subst h; exact ⟨cs, rfl, hz⟩
  | (i, x) :: ps, (j, v) :: vs, z, l, cs, hp, hz, h => by
    obtain ⟨rfl, hx, hp⟩ := hp
    simp only [fillI] at h
    split at h
    · rename_i off n hpt
      split at h
      · rename_i hc
        split at h
        · rename_i z' hs
          have hu := relI_cells hx (by omega) hobj
          have hul := hu.len
          have hzl := hz.len
          obtain ⟨h1, h2, _⟩ := spl_spec hs
          obtain ⟨cs', hf, hr⟩ := fill_run hpl hobj ps vs z' l _ hp (relL_splice hz hu hs) h
          refine ⟨cs', ?_, hr⟩
          simp only [Instr.fill, hpl i _ hpt]
          rw [if_neg]
          · exact hf
          · simp at hul hzl; simp; omega
        · cases h
      · cases h
    · cases h
  | [], _ :: _, _, _, _, h, _, _ => h.elim
  | _ :: _, [], _, _, _, h, _, _ => h.elim

theorem places_run : ∀ (fs : List Field), (fs.all fun f => (szT P f.type).isSome) = true →
    ∃ ps : List (Nat × Nat), (fs.mapM (fun f => do let __x ← sizeOf f.type; pure (f.offset, __x)) : Sem (List (Nat × Nat))).run P w = .ok ps w ∧ ∀ (i : Nat) (f : Field) (n : Nat), fs[i]? = some f → szT P f.type = some n → ps[i]? = some (f.offset, n)
  | [], _ => ⟨[], by simp, fun i f n h => by simp at h⟩
  | f :: fs, h => by
    simp only [List.all_cons, Bool.and_eq_true, Option.isSome_iff_exists] at h
    obtain ⟨⟨n, hn⟩, hr⟩ := h
    obtain ⟨ps, hrun, hget⟩ := places_run fs hr
    refine ⟨(f.offset, n) :: ps, by simp only [List.mapM_cons, Sem.run_bind, run_sizeOf' P w hn, Result.andThen_ok, Sem.run_pure, hrun], fun i g m hi hm => ?_⟩
    cases i with
    | zero => simp at hi; subst hi; rw [hn] at hm; cases hm; simp
    | succ i => simp at hi; simpa using hget i g m hi hm

theorem zeroT_spec {T : TypeId} {z : List SV} (h : zeroT P T = some z) : ∃ zv, (zeroValue T).run P w = .ok zv w ∧ relL ρ z zv.cells.toList ∧ szT P T = some z.length := by
  unfold zeroT at h
  split at h
  · rename_i i hi
    split at h
    · rename_i zv hz
      split at h
      · rename_i hs
        refine ⟨zv, run_zeroValue' P w hi hz, rawCells_rel h, ?_⟩
        have hl := (rawCells_rel (ρ := ρ) h).len
        simp at hl
        simp [szT, hi, ← hs, hl]
      · cases h
    · cases h
  · cases h

theorem stBuild_sound {T : TypeId} {ps : List (Nat × IV)} {vs : List (Nat × Value)} (hi : Inv X ρ H w) (hp : relP ρ ps vs) (h : stBuild P T ps = some (c, v, W)) :
    StepOK P X ρ (do pure (.value (← Instr.build T vs.toArray))) w v H W := by
  unfold stBuild at h
  split at h
  · rename_i hok
    split at h
    · rename_i z hz
      split at h
      · rename_i l hl
        cases h
        obtain ⟨zv, hzr, hzrel, _⟩ := zeroT_spec (P := P) (w := w) (ρ := ρ) hz
        unfold plOk at hok
        split at hok
        · rename_i fs hu
          obtain ⟨pls, hprun, hpget⟩ := places_run (P := P) (w := w) fs.toList hok
          have hpl : ∀ i x, plT P T i = some x → pls.toArray[i]? = some x := by
            intro i x hx
            unfold plT at hx
            rw [hu] at hx
            simp only at hx
            split at hx
            · rename_i f hf
              split at hx
              · rename_i n hn
                cases hx
                simpa using hpget i f n (by simpa using hf) hn
              · cases hx
            · cases hx
          obtain ⟨cs', hf, hr⟩ := fill_run (place := fun i => pls.toArray[i]?) hpl hi.obj1 ps vs z l zv.cells hp hzrel hl
          refine StepOK.pure hi (x := .agg cs') ⟨cs'.toList, by simp, hr⟩ ?_
          have hm : (fs.mapM (fun f => do let __x ← sizeOf f.type; pure (f.offset, __x)) : Sem (Array (Nat × Nat))).run P w = .ok pls.toArray w := by
            rw [Array.mapM_eq_mapM_toList]
            simp only [Sem.run_map, hprun, Result.andThen_ok]
          simp only [Instr.build, Sem.run_bind, hzr, Result.andThen_ok, run_underlying' P w hu, hm, hf, Sem.run_pure]
        · rename_i k e hu
          obtain ⟨n, hn⟩ := Option.isSome_iff_exists.1 hok
          have hpl : ∀ i x, plT P T i = some x → (fun i => some (i * n, n)) i = some x := by
            intro i x hx
            unfold plT at hx
            rw [hu] at hx
            simp only [hn] at hx
            exact hx
          obtain ⟨cs', hf, hr⟩ := fill_run (place := fun i => some (i * n, n)) hpl hi.obj1 ps vs z l zv.cells hp hzrel hl
          refine StepOK.pure hi (x := .agg cs') ⟨cs'.toList, by simp, hr⟩ ?_
          simp only [Instr.build, Sem.run_bind, hzr, Result.andThen_ok, run_underlying' P w hu, run_sizeOf' P w hn, hf, Sem.run_pure]
        · cases hok
      · cases h
    · cases h
  · cases h
end
end Go.Ev
