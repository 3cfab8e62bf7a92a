/- slices.SortFunc at structs, as the shelf tells it, over an ideal chunk. -/
import Derived.Test.YtpjgbfddlagcaaaDoorEvD
import Derived.Shelf.SlSortCmp.NoneTotal
import Derived.Test.YtpjgbfddlagcaaaDoorEvA
namespace Go.Ev
open Go.RowKit Go.Sort Go.Proofs

section
variable {P : Program} {X : Ctx} {α : Type} [Inhabited α]

theorem belowD_grow {W w' : World} (h : BelowD W.heap.size W w') : ∃ q os, w' = grow (W.drewN q) os := by
  refine ⟨w'.drawn - W.drawn, w'.heap.extract W.heap.size w'.heap.size, ?_⟩
  have hh : W.heap ++ w'.heap.extract W.heap.size w'.heap.size = w'.heap := by
    apply Array.ext_getElem?
    intro i
    by_cases hi : i < W.heap.size
    · rw [Array.getElem?_append_left hi]; exact (h.block i hi).symm
    · rw [Array.getElem?_append_right (by omega), Array.getElem?_extract]
      by_cases hj : i < w'.heap.size
      · rw [if_pos (by omega)]; congr 1; omega
      · rw [if_neg (by omega), Array.getElem?_eq_none (by omega)]
  have hd := h.drawn
  have h1 := h.os
  have h2 := h.tape
  have h3 := h.output
  obtain ⟨heap, tape, drawn, os, output⟩ := w'
  obtain ⟨heap0, tape0, drawn0, os0, output0⟩ := W
  simp only at h1 h2 h3 hd hh
  subst h1 h2 h3
  simp only [grow, World.drewN, hh]
  congr 1
  omega

/-- An element's cells. -/
def encS (enc : α → List Value) (x : α) : List SV := (enc x).map .raw
theorem relL_raws_mk {ρ : Ren} : ∀ {l : List Value}, (∀ v ∈ l, v.oneCell' = true) → relL ρ (l.map .raw) l
  | [], _ => trivial
  | x :: l, h => ⟨⟨rfl, h x (by simp)⟩, relL_raws_mk fun v hv => h v (List.mem_cons_of_mem _ hv)⟩

theorem cmp_lays {g : FuncId} {enc : α → List Value} {k : Nat} {cf : α → α → Int} (h1 : ∀ x, ∀ v ∈ enc x, v.oneCell' = true) (hg : ∀ x y, Fun P g [.a (encS enc x), .a (encS enc y)] (.s (.raw (.int .i64 (cf x y))))) (blk off size : Nat) (w : World) :
    CmpLays P g #[] enc k cf blk off size w := by
  intro m os dk _ x y
  have := (hg x y).2 (sortWorldK enc k w blk off m dk os) [.agg (enc x).toArray, .agg (enc y).toArray] ⟨⟨_, rfl, relL_raws_mk (h1 x)⟩, ⟨_, rfl, relL_raws_mk (h1 y)⟩, trivial⟩
  refine this.mono ?_
  rintro e w' ⟨v, rfl, hv, hb⟩
  exact ⟨by rw [show v = .int .i64 (cf x y) from hv.1], belowD_grow hb⟩

theorem flat_at (enc : α → List Value) (k : Nat) (d : List α) (i o : Nat) (hi : i < d.length) (ho : o < k) : (flatK enc k d.toArray)[i * k + o]! = (enc d[i])[o]! := by
  rw [get_flatK]
  · have e1 : (i * k + o) / k = i := by rw [Nat.mul_comm, Nat.mul_add_div (by omega), Nat.div_eq_of_lt ho]; rfl
    have e2 : (i * k + o) % k = o := by rw [Nat.mul_comm, Nat.mul_add_mod, Nat.mod_eq_of_lt ho]
    rw [e1, e2]
    simp [hi]
  · have : (i + 1) * k ≤ d.length * k := Nat.mul_le_mul_right _ hi
    rw [Nat.add_mul] at this
    simp; omega

/-- slices.SortFunc over an ideal slice: some permutation, in order. -/
theorem sort_call {R : Go.Shelf.Ren} (L : SlLaysF0.n6 P R) (k : Nat) (hk0 : 0 < k) (aE : ∀ w, (isAgg (R.t 24)).run P w = .ok true w) (zE : ∀ w, (Go.sizeOf (R.t 24)).run P w = .ok k w) (enc : α → List Value) (hk : ∀ x, (enc x).length = k)
    (h1 : ∀ x, ∀ v ∈ enc x, v.oneCell' = true) (cf : α → α → Int) (hO : SWO (ltOf cf)) (g : FuncId) (hg : ∀ x y, Fun P g [.a (encS enc x), .a (encS enc y)] (.s (.raw (.int .i64 (cf x y))))) (hent : enters P (R.f 6) = true) {H : Heap} {c : Nat} {d : List α}
    (hc : H[c]? = some (.rows true k (d.map (encS enc)))) (hsz : d.length < 4611686018427387904) {kk : IV → Heap → Prop}
    (hkk : ∀ d' : List α, d'.Perm d → (∀ i j (hj : j < d'.length) (hij : i < j), ltOf cf d'[j] d'[i] = false) → kk (.t []) (H.set c (.rows true k (d'.map (encS enc))))) :
    callK P X (R.f 6) [.s (.slice c 0 d.length), .s (.raw (.func (.func g) #[] #[]))] kk H := by
  refine ⟨hent, fun ρ vs w hargs hi => ?_⟩
  match vs, hargs with
  | [v, fv], ⟨hv, hf, _⟩ =>
  obtain ⟨rfl, _⟩ := (hf : _ ∧ _)
  obtain ⟨l, hl, hs⟩ := hi.sat c _ hc
  have eg : ∀ args w, (callFunc g args).run P w = .ok (.enter g args) w := fun args w => enter_run (hg default default).1 args w
  have none_case : d = [] → ∀ p cap, v = .slice p 0 cap → Calls P (R.f 6) [v, .func (.func g) #[] #[]].toArray w fun e w' => ∃ v r H' ρ', e = .returned v ∧ kk r H' ∧ relI ρ' r v ∧ Le ρ ρ' ∧ Inv X ρ' H' w' := by
    rintro rfl p cap rfl
    refine (AnyF.slices_SortFunc_none L p cap (.func (.func g) #[] #[]) w).mono ?_
    rintro e w' ⟨rfl, rfl⟩
    have hset : H.set c (.rows true k (([] : List α).map (encS enc))) = H := by
      have hlt := (List.getElem?_eq_some_iff.1 hc).1
      apply List.ext_getElem?
      intro i
      by_cases h : c = i
      · subst h; rw [List.getElem?_set_self hlt, hc]
      · rw [List.getElem?_set_ne h]
    have := hkk [] (.refl _) (fun i j hj => by simp at hj)
    rw [hset] at this
    exact ⟨_, _, H, ρ, rfl, this, ⟨[], rfl, trivial⟩, Le.refl _, hi⟩
  rcases (hv : relS ρ (.slice c 0 d.length) v) with ⟨hn, _, hd, rfl⟩ | ⟨b, base, sz, lim, cap, hm, rfl, hcap, hlim⟩ | ⟨b, base, sz, lim, off, hm, hd, rfl⟩
  · exact none_case (List.length_eq_zero_iff.1 hd) _ _ rfl
  · rw [hl] at hm
    cases hm
    rcases hs with ⟨h, _⟩ | ⟨b', base', lim', cells, T, lo, hi', h, hheap, hsz0, hels, hroom, hfro, hone, hrows⟩
    · cases h
    cases h
    have hfro := hfro rfl
    have hone := hone rfl
    simp only [List.length_map] at hels
    rw [Nat.zero_mul, Nat.add_zero]
    -- what the cells hold
    have hcell : ∀ i o (hi : i < d.length) (ho : o < k), cells[base + i * k + o]? = some (enc d[i])[o]! := by
      intro i o hi ho
      obtain ⟨_, h2⟩ := hrows i (encS enc d[i]) (by rw [List.getElem?_map, List.getElem?_eq_getElem hi]; rfl)
      have hlo : o < (enc d[i]).length := by rw [hk]; exact ho
      obtain ⟨v, hv, hr⟩ := h2 o (.raw (enc d[i])[o]) (by simp [encS, hlo])
      rw [hv, show v = (enc d[i])[o] from hr.1]
      simp [hlo]
    have hdk : d.length * k ≤ lim * k := Nat.mul_le_mul_right _ hels
    have hH : HoldsK enc k w b base d.toArray := by
      intro j hj
      rw [size_flatK, List.size_toArray] at hj
      have hik : j / k < d.length := Nat.div_lt_of_lt_mul (by rw [Nat.mul_comm]; exact hj)
      have hok : j % k < k := Nat.mod_lt _ hk0
      have hj2 : j / k * k + j % k = j := by rw [Nat.mul_comm]; exact Nat.div_add_mod j k
      have e := flat_at enc k d (j / k) (j % k) hik hok
      rw [hj2] at e
      refine ⟨?_, ?_⟩
      · rw [e]
        have := hcell (j / k) (j % k) hik hok
        rw [Nat.add_assoc, hj2] at this
        simp [World.cell?, hheap, this]
      · simp only [World.frozen?, hheap]
        have := hfro (base + j) (by omega)
        simpa using this
    have hblk : b < w.heap.size := (Array.getElem?_eq_some_iff.1 hheap).1
    have := AnyQ.slices_SortFunc L k aE zE enc hk h1 cf hO g #[] b base cap d.toArray w eg (cmp_lays h1 hg b base d.toArray.size w) hH hblk (by simpa using hsz)
    rw [List.size_toArray] at this
    refine this.mono ?_
    rintro e w' ⟨rfl, d', n, os, hp, hso, rfl⟩
    have hps : d'.size = d.length := by simpa using hp.1
    have hperm : d'.toList.Perm d := by
      have := hp.2.2
      have e1 : List.take d.length d'.toList = d'.toList := List.take_of_length_le (by simp [hps])
      simpa [e1] using this
    have hsorted : ∀ i j (hj : j < d'.toList.length) (hij : i < j), ltOf cf d'.toList[j] d'.toList[i] = false := by
      intro i j hj hij
      have hj' : j < d'.size := by simpa using hj
      have := hso i j (Nat.zero_le _) hij (by simpa [hps] using hj')
      simpa [hj', show i < d'.size by omega] using this
    refine ⟨_, .t [], _, ρ, rfl, hkk d'.toList hperm hsorted, ⟨[], rfl, trivial⟩, Le.refl _, ?_⟩
    -- the world
    have hF : (flatK enc k d').size = d.length * k := by rw [size_flatK, hps]
    have i1 : Inv X ρ H (Sort.ahead w n) := hi.below ⟨⟨rfl, rfl, rfl, Nat.le_refl _, fun _ _ => rfl⟩, by simp [Sort.ahead]⟩
    have i2 : Inv X ρ (H.set c (.rows true k (d'.toList.map (encS enc)))) (putRowK enc k (Sort.ahead w n) b base d') := by
      have hheap2 : (putRowK enc k (Sort.ahead w n) b base d').heap[b]? = some (.cells (putCells id base (flatK enc k d') cells) T (lo, hi')) := by
        simp [putRowK, putRow, mapBlock, Array.getElem?_modify, hheap, onCells]
      refine i1.upd hc hl rfl rfl rfl rfl (by simp [putRowK]) (fun b2 hb2 => ?_) (.inr ⟨b, base, lim, putCells id base (flatK enc k d') cells, T, lo, hi', rfl, hheap2, hk0, by simpa [hps] using hels, by simpa [putCells] using hroom, fun _ o ho => hfro o (by simpa [putCells] using ho), fun _ v hv => ?_, ?_⟩) rfl (by simp [putRowK])
      · have : b ≠ b2 := fun e => hb2 (by rw [e]; rfl)
        simp [putRowK, putRow, mapBlock, Array.getElem?_modify, this]
      · simp only [putCells, Array.mem_mapIdx] at hv
        obtain ⟨i, hi2, rfl⟩ := hv
        split
        · rename_i hr
          have hlt : i - base < d'.size * k := by rw [← size_flatK enc k d']; omega
          rw [id, get_flatK _ _ _ _ hlt]
          have hq : (i - base) % k < (enc d'[(i - base) / k]!).length := by rw [hk]; exact Nat.mod_lt _ hk0
          rw [getElem!_pos (enc d'[(i - base) / k]!) ((i - base) % k) hq]
          exact h1 _ _ (List.getElem_mem hq)
        · exact hone _ (Array.getElem_mem hi2)
      · intro i row hrow
        rw [List.getElem?_map, Option.map_eq_some_iff] at hrow
        obtain ⟨x, hx, rfl⟩ := hrow
        have hilt : i < d'.toList.length := (List.getElem?_eq_some_iff.1 hx).1
        have hxe : d'.toList[i] = x := (List.getElem?_eq_some_iff.1 hx).2
        refine ⟨by simp [encS, hk], fun o y hy => ?_⟩
        have ho : o < k := by
          have := (List.getElem?_eq_some_iff.1 hy).1
          simpa [encS, hk] using this
        have hil : i < d.length := by rw [← hps]; simpa using hilt
        have hin : i * k + o < d.length * k := by
          have : (i + 1) * k ≤ d.length * k := Nat.mul_le_mul_right _ hil
          rw [Nat.add_mul] at this; omega
        have hlo : o < (enc x).length := by rw [hk]; exact ho
        have hy2 : y = .raw (enc x)[o] := by
          simp only [encS, List.getElem?_map, List.getElem?_eq_getElem hlo, Option.map_some, Option.some.injEq] at hy
          exact hy.symm
        subst hy2
        refine ⟨(enc x)[o], ?_, rfl, h1 _ _ (List.getElem_mem hlo)⟩
        have hcl : base + i * k + o < cells.size := by omega
        simp only [putCells, Array.getElem?_mapIdx, Array.getElem?_eq_getElem hcl, Option.map_some, id]
        rw [if_pos ⟨by omega, by rw [hF]; omega⟩, show base + i * k + o - base = i * k + o by omega]
        have := flat_at enc k d'.toList i o hilt ho
        rw [Array.toArray_toList] at this
        rw [this, hxe]
        simp [hlo]
    exact i2.below ⟨⟨rfl, rfl, rfl, by simp [sortWorldK, grow], fun q hq => by simp [sortWorldK, grow, Array.getElem?_append, hq]⟩, Nat.le_refl _⟩
  · exact none_case (List.length_eq_zero_iff.1 hd) _ _ rfl
end
end Go.Ev

/- Lists that are sorted by their keys, without a key twice: finding, taking out, putting in, and that there is just one such list of given entries. Plain Lean, no program. -/
namespace Go.Ev.Srt
set_option linter.unusedVariables false
set_option linter.unusedSectionVars false
variable {E K : Type} [DecidableEq K]

/-- A strict order of keys; those that are sound are told apart by it. -/
structure KO (lt : K → K → Bool) (V : K → Prop) : Prop where
  irrefl : ∀ a, lt a a = false
  trans : ∀ a b c, lt a b = true → lt b c = true → lt a c = true
  tri : ∀ a b, V a → V b → lt a b = false → lt b a = false → a = b

variable {key : E → K} {lt : K → K → Bool} {V : K → Prop}

end Go.Ev.Srt
