/- New slices: literals, make, append, ideally. -/
import Derived.Test.YtnmobamjinponaaEvStep4
import Derived.Laws.Append
namespace Go.Ev
open Go.RowKit

def setRows (k : Nat) : List (Nat × IV) → List (List SV) → Option (List (List SV))
  | [], els => some els
  | (i, v) :: ps, els => if v.cells.length = k ∧ i < els.length then setRows k ps (els.set i v.cells) else none

/-- A slice type's elements' zero cells. -/
def zeroE (P : Program) (T : TypeId) : Option (List SV) :=
  match P.underlying T with
  | some (.slice e) => zeroT P e
  | _ => none
def bytesE (P : Program) (T : TypeId) : Option Nat :=
  match P.underlying T with
  | some (.slice e) => (P.info? e).map (·.bytes)
  | _ => none

def stBuildSlice (P : Program) (m : Nat) (T : TypeId) (len : Nat) (ps : List (Nat × IV)) : Res :=
  match zeroE P T with
  | some z => if z.length ≠ 0 ∧ len * z.length ≤ 16777216 then match setRows z.length ps (List.replicate len z) with
    | some els => some (True, .s (.slice m 0 len), [(m, .rows true z.length els)])
    | none => none
    else none
  | none => none

def stMakeSlice (P : Program) (m : Nat) (T : TypeId) (x y : IV) : Res :=
  match x, y with
  | .s (.raw (.int .i64 a)), .s (.raw (.int .i64 b)) => match zeroE P T, bytesE P T with
    | some z, some k => if z.length ≠ 0 then some (a = b ∧ 0 ≤ a ∧ k * a ≤ 281474976710656 ∧ a ≤ 281474976710656, .s (.slice m 0 a.toNat), [(m, .rows true z.length (List.replicate a.toNat z))]) else none
    | _, _ => none
  | _, _ => none

section
variable {P : Program} {X : Ctx} {ρ : Ren} {H : Heap} {W : List (Nat × Chunk)} {m : Nat} {w : World} {n : Nat} {tm : TM} {a : Act} {c : Prop} {v : IV}

theorem mul_lt_of {i n k o : Nat} (hi : i < n) (ho : o < k) : i * k + o < n * k := by
  have : (i + 1) * k ≤ n * k := Nat.mul_le_mul_right _ hi
  rw [Nat.add_mul, Nat.one_mul] at this
  omega

theorem rowsAt_zero {z : List SV} {zc : Array Value} {len : Nat} (hz : relL ρ z zc.toList) :
    rowsAt ρ ((Array.range (len * z.length)).map (fun i => zc[i % zc.size]!)) 0 z.length (List.replicate len z) := by
  have hl := hz.len
  simp at hl
  intro i row hr
  rw [List.getElem?_replicate] at hr
  split at hr
  · rename_i hi
    cases hr
    refine ⟨rfl, fun o x ho => ?_⟩
    obtain ⟨u, hu, hrel⟩ := hz.get ho
    have ho' := (List.getElem?_eq_some_iff.1 ho).1
    refine ⟨u, ?_, hrel⟩
    have hlt : 0 + i * z.length + o < len * z.length := by rw [Nat.zero_add]; exact mul_lt_of hi ho'
    rw [Array.getElem?_eq_getElem (by simpa using hlt)]
    simp only [Array.getElem_map, Array.getElem_range]
    have e : (0 + i * z.length + o) % zc.size = o := by
      rw [hl, Nat.zero_add, Nat.mul_comm, Nat.mul_add_mod, Nat.mod_eq_of_lt ho']
    rw [e]
    rw [Array.getElem?_toList] at hu
    rw [getElem!_def, hu]
  · cases hr

/-- A new block of so many elements, and the slice of it. -/
theorem newRows (hi : Inv X ρ H w) (hp : PlaceOK ρ H m) {els : List (List SV)} {k r : Nat} {cells : Array Value} (T : TypeId) (hk : 0 < k) (hr : rowsAt ρ cells 0 k els) (hm : els.length ≤ r) (hs : r * k ≤ cells.size)
    (hone : ∀ v ∈ cells, v.oneCell' = true) :
    Inv X (addR ρ m (.mem w.heap.size 0 k r)) (up1 H m (.rows true k els)) (w.alloc (.cells cells T)) ∧
      ∀ n, n ≤ r → relI (addR ρ m (.mem w.heap.size 0 k r)) (.s (.slice m 0 n)) (.slice (some ⟨w.heap.size, 0, none⟩) n r) := by
  refine ⟨hi.add hp _ _ rfl rfl rfl (by simp) (fun b hb => heap_push_old w _ hb) (fun _ _ h => by cases h) ?_ (fun _ b hb => by simp [Pl.blk] at hb; omega) (fun _ _ h => by cases h), fun n hn => ?_⟩
  · exact .inr ⟨_, _, _, cells, T, 0, 0, rfl, heap_push_new _ _, hk, hm, by simpa using hs, fun _ o _ => by omega, fun _ => hone, hr.pre (addR_le hi.len hp _)⟩
  · exact .inr (.inl ⟨w.heap.size, 0, k, r, r, addR_get hi.len hp _, by simp, hn, by omega⟩)

theorem fill_rows {k : Nat} (hobj : ∀ (c b : Nat) (u : Value), ρ[c]? = some (Pl.obj b u) → u.oneCell' = true) (hk : 0 < k) :
    ∀ (ps : List (Nat × IV)) (vs : List (Nat × Value)) (els els' : List (List SV)) (cs : Array Value), relP ρ ps vs → rowsAt ρ cs 0 k els → els.length * k ≤ cs.size → (∀ v ∈ cs, v.oneCell' = true) → setRows k ps els = some els' →
      ∃ cs', Instr.fill (fun i => some (i * k, k)) cs vs = some cs' ∧ rowsAt ρ cs' 0 k els' ∧ cs'.size = cs.size ∧ els'.length = els.length ∧ (∀ v ∈ cs', v.oneCell' = true)
  | [], [], els, els', cs, _, hr, _, ho, h => by simp [setRows] at h; subst h; exact ⟨cs, rfl, hr, rfl, rfl, ho⟩
  | (i, x) :: ps, (j, v) :: vs, els, els', cs, hp, hr, hsz, ho, h => by
    obtain ⟨rfl, hx, hp⟩ := hp
    simp only [setRows] at h
    split at h
    · rename_i hc
      have hu := relI_cells hx (by omega) hobj
      have hul := hu.len
      simp at hul
      obtain ⟨f1, f2⟩ := fold_set v.cells.toList 0 (i * k) cs
      have hik : i * k + k ≤ els.length * k := by
        have : (i + 1) * k ≤ els.length * k := Nat.mul_le_mul_right _ hc.2
        rw [Nat.add_mul, Nat.one_mul] at this; exact this
      have hrow : rowsAt ρ (v.cells.toList.zipIdx.foldl (fun cs (x : Value × Nat) => cs.setIfInBounds (i * k + x.2) x.1) cs) 0 k (els.set i x.cells) := by
        intro i' row hr'
        by_cases e : i' = i
        · subst e
          rw [List.getElem?_set_self hc.2] at hr'; cases hr'
          refine ⟨hc.1, fun o y hy => ?_⟩
          obtain ⟨u, hu2, hrel⟩ := hu.get hy
          have ho' := (List.getElem?_eq_some_iff.1 hy).1
          refine ⟨u, ?_, hrel⟩
          rw [Nat.zero_add, f2, if_pos (by simp; omega), ← hu2]
          congr 1; omega
        · rw [List.getElem?_set_ne (Ne.symm e)] at hr'
          obtain ⟨h1, h2⟩ := hr i' row hr'
          refine ⟨h1, fun o y hy => ?_⟩
          obtain ⟨u, hu2, hrel⟩ := h2 o y hy
          have ho' := (List.getElem?_eq_some_iff.1 hy).1
          refine ⟨u, ?_, hrel⟩
          rw [f2, if_neg, hu2]
          simp only [Nat.zero_add, Nat.add_zero, Array.length_toList]
          rcases Nat.lt_or_gt_of_ne e with hlt | hgt
          · have := mul_lt_of hlt (h1 ▸ ho'); omega
          · have : (i + 1) * k ≤ i' * k := Nat.mul_le_mul_right _ hgt
            rw [Nat.add_mul, Nat.one_mul] at this
            omega
      obtain ⟨cs', hf, hr2, hs2, hl2, ho2⟩ := fill_rows hobj hk ps vs (els.set i x.cells) els' _ hp hrow (by simp [f1]; exact hsz) (fun u hu3 => by
        obtain ⟨j, hj⟩ := Array.mem_iff_getElem?.1 hu3
        rw [f2] at hj
        split at hj
        · exact relL_one hobj hu u (List.mem_of_getElem? hj)
        · exact ho u (Array.mem_of_getElem? hj)) h
      refine ⟨cs', ?_, hr2, by rw [hs2, f1], by simpa using hl2, ho2⟩
      simp only [Instr.fill]
      rw [if_neg, fold_set_array]
      · exact hf
      · simp; omega
    · cases h
  | [], _ :: _, _, _, _, h, _, _, _, _ => h.elim
  | _ :: _, [], _, _, _, h, _, _, _, _ => h.elim

theorem stBuildSlice_sound {T : TypeId} {len : Nat} {ps : List (Nat × IV)} {vs : List (Nat × Value)} (hi : Inv X ρ H w) (hp : relP ρ ps vs) (hm : PlaceOK ρ H m) (h : stBuildSlice P m T len ps = some (c, v, W)) :
    StepOK P X ρ (do pure (.value (← Instr.buildSlice T len vs.toArray))) w v H W := by
  unfold stBuildSlice at h
  split at h
  · rename_i z hz
    split at h
    · rename_i hc
      split at h
      · rename_i els hels
        cases h
        unfold zeroE at hz
        split at hz
        · rename_i e hu
          obtain ⟨zv, hzr, hzrel, hsz⟩ := zeroT_spec (P := P) (w := w) (ρ := ρ) hz
          have hzl := hzrel.len
          simp at hzl
          have hr0 := rowsAt_zero (ρ := ρ) (len := len) hzrel
          have hone0 : ∀ v ∈ (Array.range (len * z.length)).map (fun i => zv.cells[i % zv.cells.size]!), v.oneCell' = true := by
            intro u hu
            simp only [Array.mem_map, Array.mem_range] at hu
            obtain ⟨i, hi', rfl⟩ := hu
            have hpos : 0 < zv.cells.size := by omega
            have hlt : i % zv.cells.size < zv.cells.size := Nat.mod_lt _ hpos
            rw [getElem!_pos zv.cells _ hlt]
            exact relL_one hi.obj1 hzrel _ (by simp)
          obtain ⟨cs', hf, hr, hcs, hel, hone⟩ := fill_rows hi.obj1 (by omega) ps vs _ els _ hp hr0 (by simp) hone0 hels
          have hlen : els.length = len := by rw [hel]; simp
          obtain ⟨h1, h2⟩ := newRows hi hm e (by omega) hr (r := len) (by omega) (by rw [hcs]; simp) hone
          refine ⟨_, _, _, addR_le hi.len hm _, VK.add, h2 len (Nat.le_refl _), h1, .inl ?_⟩
          have hbig : ¬ len * z.length > 2 ^ 24 := by have := hc.2; omega
          simp only [Instr.buildSlice, Sem.run_bind, run_underlying' P w hu, Result.andThen_ok, run_sizeOf' P w hsz, if_neg hbig, Sem.run_pure]
          by_cases e0 : len * z.length = 0
          · rw [if_pos e0]
            have e1 : ∀ f : Nat → Value, (Array.range (len * z.length)).map f = #[] := fun f => by rw [e0]; simp
            rw [e1] at hf
            simp only [Sem.run_bind, Sem.run_pure, Result.andThen_ok, e1, hf]
            simp [newRow]
          · rw [if_neg e0]
            simp only [Sem.run_bind, hzr, Sem.run_pure, Result.andThen_ok, hf]
            simp [newRow]
        · cases hz
      · cases h
    · cases h
  · cases h

theorem stMakeSlice_sound {T : TypeId} {x y : IV} {xv yv : Value} (hi : Inv X ρ H w) (hx : relI ρ x xv) (hy : relI ρ y yv) (hm : PlaceOK ρ H m) (h : stMakeSlice P m T x y = some (c, v, W)) (hc : c) :
    StepOK P X ρ (do pure (.value (← Instr.makeSlice T xv yv))) w v H W := by
  unfold stMakeSlice at h
  split at h
  · rename_i p q
    obtain ⟨rfl, _⟩ := hx
    obtain ⟨rfl, _⟩ := hy
    split at h
    · rename_i z k hz hk
      split at h
      · rename_i h0
        cases h
        obtain ⟨rfl, hp0, hpk, hpm⟩ := hc
        obtain ⟨r, rfl⟩ := Int.eq_ofNat_of_zero_le hp0
        unfold zeroE at hz
        split at hz
        · rename_i e hu
          unfold bytesE at hk
          rw [hu] at hk
          simp only [Option.map_eq_some_iff] at hk
          obtain ⟨inf, hinf, rfl⟩ := hk
          obtain ⟨zv, hzr, hzrel, hsz⟩ := zeroT_spec (P := P) (w := w) (ρ := ρ) hz
          have hzl := hzrel.len
          simp at hzl
          have hr0 := rowsAt_zero (ρ := ρ) (len := r) hzrel
          have hone0 : ∀ v ∈ (Array.range (r * z.length)).map (fun i => zv.cells[i % zv.cells.size]!), v.oneCell' = true := by
            intro u hu
            simp only [Array.mem_map, Array.mem_range] at hu
            obtain ⟨i, hi', rfl⟩ := hu
            have hpos : 0 < zv.cells.size := by omega
            have hlt : i % zv.cells.size < zv.cells.size := Nat.mod_lt _ hpos
            rw [getElem!_pos zv.cells _ hlt]
            exact relL_one hi.obj1 hzrel _ (by simp)
          obtain ⟨h1, h2⟩ := newRows hi hm e (by omega) hr0 (r := r) (by simp) (by simp) hone0
          refine ⟨_, _, _, addR_le hi.len hm _, VK.add, by simpa using h2 r (Nat.le_refl _), by simpa only [upd, Int.toNat_natCast] using h1, .inl ?_⟩
          have hw : IntKind.i64.wrap (r : Int) = r := by
            simp only [IntKind.wrap, IntKind.signed, IntKind.bits]
            simp
            omega
          simp only [Instr.makeSlice, Sem.run_bind, run_underlying' P w hu, Result.andThen_ok, asInt, asIntOf, Sem.run_pure, run_typeInfo' P w hinf, hw]
          rw [if_neg (by simp; omega)]
          simp only [Sem.run_bind, run_askRoom, Result.andThen_ok, run_sizeOf' P w hsz, Int.toNat_natCast]
          by_cases e0 : r * z.length = 0
          · rw [if_pos e0]
            have e1 : ∀ f : Nat → Value, (Array.range (r * z.length)).map f = #[] := fun f => by rw [e0]; simp
            simp only [Sem.run_bind, Sem.run_pure, Result.andThen_ok, e1]
            simp [newRow]
          · rw [if_neg e0]
            simp only [Sem.run_bind, hzr, Sem.run_pure, Result.andThen_ok]
            simp [newRow]
        · cases hz
      · cases h
    · cases h
  · cases h
end
end Go.Ev
