/- slices.SortFunc at structs, as the shelf tells it, over an ideal chunk. -/
import Derived.Test.YtpjgbfddlagcaaaEvD
import Derived.Shelf.SlSortCmp.NoneTotal
import Derived.Test.YtpjgbfddlagcaaaEvA
namespace Go.Ev
open Go.RowKit Go.Sort Go.Proofs

section
variable {P : Program} {X : Ctx} {α : Type} [Inhabited α]

theorem belowD_grow {W w' : World} (h : BelowD W.heap.size W w') : ∃ q os, w' = grow (W.drewN q) os := by
  refine ⟨w'.drawn - W.drawn, w'.heap.extract W.heap.size w'.heap.size, ?_⟩
  have hh : W.heap ++ w'.heap.extract W.heap.size w'.heap.size = w'.heap := by
    apply Array.ext_getElem?
    intro i
    by_cases hi : i < W.heap.size
    · rw [Array.getElem?_append_left hi]; exact (h.block i hi).symm
    · rw [Array.getElem?_append_right (by omega), Array.getElem?_extract]
      by_cases hj : i < w'.heap.size
      · rw [if_pos (by omega)]; congr 1; omega
      · rw [if_neg (by omega), Array.getElem?_eq_none (by omega)]
  have hd := h.drawn
  have h1 := h.os
  have h2 := h.tape
  have h3 := h.output
  obtain ⟨heap, tape, drawn, os, output⟩ := w'
  obtain ⟨heap0, tape0, drawn0, os0, output0⟩ := W
  simp only at h1 h2 h3 hd hh
  subst h1 h2 h3
  simp only [grow, World.drewN, hh]
  congr 1
  omega

/-- An element's cells. -/
def encS (enc : α → List Value) (x : α) : List SV := (enc x).map .raw
theorem relL_raws {ρ : Ren} : ∀ {l vs : List Value}, relL ρ (l.map .raw) vs → vs = l
  | [], [], _ => rfl
  | x :: l, v :: vs, h => by rw [show v = x from h.1.1, relL_raws h.2]
  | [], _ :: _, h => h.elim
  | _ :: _, [], h => h.elim
theorem relL_raws_mk {ρ : Ren} : ∀ {l : List Value}, (∀ v ∈ l, v.oneCell' = true) → relL ρ (l.map .raw) l
  | [], _ => trivial
  | x :: l, h => ⟨⟨rfl, h x (by simp)⟩, relL_raws_mk fun v hv => h v (List.mem_cons_of_mem _ hv)⟩

theorem cmp_lays {g : FuncId} {enc : α → List Value} {k : Nat} {cf : α → α → Int} (h1 : ∀ x, ∀ v ∈ enc x, v.oneCell' = true) (hg : ∀ x y, Fun P g [.a (encS enc x), .a (encS enc y)] (.s (.raw (.int .i64 (cf x y))))) (blk off size : Nat) (w : World) :
    CmpLays P g #[] enc k cf blk off size w := by
  intro m os dk _ x y
  have := (hg x y).2 (sortWorldK enc k w blk off m dk os) [.agg (enc x).toArray, .agg (enc y).toArray] ⟨⟨_, rfl, relL_raws_mk (h1 x)⟩, ⟨_, rfl, relL_raws_mk (h1 y)⟩, trivial⟩
  refine this.mono ?_
  rintro e w' ⟨v, rfl, hv, hb⟩
  exact ⟨by rw [show v = .int .i64 (cf x y) from hv.1], belowD_grow hb⟩

theorem flat_at (enc : α → List Value) (k : Nat) (d : List α) (i o : Nat) (hi : i < d.length) (ho : o < k) : (flatK enc k d.toArray)[i * k + o]! = (enc d[i])[o]! := by
  rw [get_flatK]
  · have e1 : (i * k + o) / k = i := by rw [Nat.mul_comm, Nat.mul_add_div (by omega), Nat.div_eq_of_lt ho]; rfl
    have e2 : (i * k + o) % k = o := by rw [Nat.mul_comm, Nat.mul_add_mod, Nat.mod_eq_of_lt ho]
    rw [e1, e2]
    simp [hi]
  · have : (i + 1) * k ≤ d.length * k := Nat.mul_le_mul_right _ hi
    rw [Nat.add_mul] at this
    simp; omega

/-- slices.SortFunc over an ideal slice: some permutation, in order. -/
theorem sort_call {R : Go.Shelf.Ren} (L : SlLaysF0.n6 P R) (k : Nat) (hk0 : 0 < k) (aE : ∀ w, (isAgg (R.t 24)).run P w = .ok true w) (zE : ∀ w, (Go.sizeOf (R.t 24)).run P w = .ok k w) (enc : α → List Value) (hk : ∀ x, (enc x).length = k)
    (h1 : ∀ x, ∀ v ∈ enc x, v.oneCell' = true) (cf : α → α → Int) (hO : SWO (ltOf cf)) (g : FuncId) (hg : ∀ x y, Fun P g [.a (encS enc x), .a (encS enc y)] (.s (.raw (.int .i64 (cf x y))))) (hent : enters P (R.f 6) = true) {H : Heap} {c : Nat} {d : List α}
    (hc : H[c]? = some (.rows true k (d.map (encS enc)))) (hsz : d.length < 4611686018427387904) {kk : IV → Heap → Prop}
    (hkk : ∀ d' : List α, d'.Perm d → (∀ i j (hj : j < d'.length) (hij : i < j), ltOf cf d'[j] d'[i] = false) → kk (.t []) (H.set c (.rows true k (d'.map (encS enc))))) :
    callK P X (R.f 6) [.s (.slice c 0 d.length), .s (.raw (.func (.func g) #[] #[]))] kk H := by
  refine ⟨hent, fun ρ vs w hargs hi => ?_⟩
  match vs, hargs with
  | [v, fv], ⟨hv, hf, _⟩ =>
  obtain ⟨rfl, _⟩ := (hf : _ ∧ _)
  obtain ⟨l, hl, hs⟩ := hi.sat c _ hc
  have eg : ∀ args w, (callFunc g args).run P w = .ok (.enter g args) w := fun args w => enter_run (hg default default).1 args w
  have none_case : d = [] → ∀ p cap, v = .slice p 0 cap → Calls P (R.f 6) [v, .func (.func g) #[] #[]].toArray w fun e w' => ∃ v r H' ρ', e = .returned v ∧ kk r H' ∧ relI ρ' r v ∧ Le ρ ρ' ∧ Inv X ρ' H' w' := by
    rintro rfl p cap rfl
    refine (AnyF.slices_SortFunc_none L p cap (.func (.func g) #[] #[]) w).mono ?_
    rintro e w' ⟨rfl, rfl⟩
    have hset : H.set c (.rows true k (([] : List α).map (encS enc))) = H := by
      have hlt := (List.getElem?_eq_some_iff.1 hc).1
      apply List.ext_getElem?
      intro i
      by_cases h : c = i
      · subst h; rw [List.getElem?_set_self hlt, hc]
      · rw [List.getElem?_set_ne h]
    have := hkk [] (.refl _) (fun i j hj => by simp at hj)
    rw [hset] at this
    exact ⟨_, _, H, ρ, rfl, this, ⟨[], rfl, trivial⟩, Le.refl _, hi⟩
  rcases (hv : relS ρ (.slice c 0 d.length) v) with ⟨hn, _, hd, rfl⟩ | ⟨b, base, sz, lim, cap, hm, rfl, hcap, hlim⟩ | ⟨b, base, sz, lim, off, hm, hd, rfl⟩
  · exact none_case (List.length_eq_zero_iff.1 hd) _ _ rfl
  · rw [hl] at hm
    cases hm
    rcases hs with ⟨h, _⟩ | ⟨b', base', lim', cells, T, lo, hi', h, hheap, hsz0, hels, hroom, hfro, hone, hrows⟩
    · cases h
    cases h
    have hfro := hfro rfl
    have hone := hone rfl
    simp only [List.length_map] at hels
    rw [Nat.zero_mul, Nat.add_zero]
    -- what the cells hold
    have hcell : ∀ i o (hi : i < d.length) (ho : o < k), cells[base + i * k + o]? = some (enc d[i])[o]! := by
      intro i o hi ho
      obtain ⟨_, h2⟩ := hrows i (encS enc d[i]) (by rw [List.getElem?_map, List.getElem?_eq_getElem hi]; rfl)
      have hlo : o < (enc d[i]).length := by rw [hk]; exact ho
      obtain ⟨v, hv, hr⟩ := h2 o (.raw (enc d[i])[o]) (by simp [encS, hlo])
      rw [hv, show v = (enc d[i])[o] from hr.1]
      simp [hlo]
    have hdk : d.length * k ≤ lim * k := Nat.mul_le_mul_right _ hels
    have hH : HoldsK enc k w b base d.toArray := by
      intro j hj
      rw [size_flatK, List.size_toArray] at hj
      have hik : j / k < d.length := Nat.div_lt_of_lt_mul (by rw [Nat.mul_comm]; exact hj)
      have hok : j % k < k := Nat.mod_lt _ hk0
      have hj2 : j / k * k + j % k = j := by rw [Nat.mul_comm]; exact Nat.div_add_mod j k
      have e := flat_at enc k d (j / k) (j % k) hik hok
      rw [hj2] at e
      refine ⟨?_, ?_⟩
      · rw [e]
        have := hcell (j / k) (j % k) hik hok
        rw [Nat.add_assoc, hj2] at this
        simp [World.cell?, hheap, this]
      · simp only [World.frozen?, hheap]
        have := hfro (base + j) (by omega)
        simpa using this
    have hblk : b < w.heap.size := (Array.getElem?_eq_some_iff.1 hheap).1
    have := AnyQ.slices_SortFunc L k aE zE enc hk h1 cf hO g #[] b base cap d.toArray w eg (cmp_lays h1 hg b base d.toArray.size w) hH hblk (by simpa using hsz)
    rw [List.size_toArray] at this
    refine this.mono ?_
    rintro e w' ⟨rfl, d', n, os, hp, hso, rfl⟩
    have hps : d'.size = d.length := by simpa using hp.1
    have hperm : d'.toList.Perm d := by
      have := hp.2.2
      have e1 : List.take d.length d'.toList = d'.toList := List.take_of_length_le (by simp [hps])
      simpa [e1] using this
    have hsorted : ∀ i j (hj : j < d'.toList.length) (hij : i < j), ltOf cf d'.toList[j] d'.toList[i] = false := by
      intro i j hj hij
      have hj' : j < d'.size := by simpa using hj
      have := hso i j (Nat.zero_le _) hij (by simpa [hps] using hj')
      simpa [hj', show i < d'.size by omega] using this
    refine ⟨_, .t [], _, ρ, rfl, hkk d'.toList hperm hsorted, ⟨[], rfl, trivial⟩, Le.refl _, ?_⟩
    -- the world
    have hF : (flatK enc k d').size = d.length * k := by rw [size_flatK, hps]
    have i1 : Inv X ρ H (Sort.ahead w n) := hi.below ⟨⟨rfl, rfl, rfl, Nat.le_refl _, fun _ _ => rfl⟩, by simp [Sort.ahead]⟩
    have i2 : Inv X ρ (H.set c (.rows true k (d'.toList.map (encS enc)))) (putRowK enc k (Sort.ahead w n) b base d') := by
      have hheap2 : (putRowK enc k (Sort.ahead w n) b base d').heap[b]? = some (.cells (putCells id base (flatK enc k d') cells) T (lo, hi')) := by
        simp [putRowK, putRow, mapBlock, Array.getElem?_modify, hheap, onCells]
      refine i1.upd hc hl rfl rfl rfl rfl (by simp [putRowK]) (fun b2 hb2 => ?_) (.inr ⟨b, base, lim, putCells id base (flatK enc k d') cells, T, lo, hi', rfl, hheap2, hk0, by simpa [hps] using hels, by simpa [putCells] using hroom, fun _ o ho => hfro o (by simpa [putCells] using ho), fun _ v hv => ?_, ?_⟩) rfl (by simp [putRowK])
      · have : b ≠ b2 := fun e => hb2 (by rw [e]; rfl)
        simp [putRowK, putRow, mapBlock, Array.getElem?_modify, this]
      · simp only [putCells, Array.mem_mapIdx] at hv
        obtain ⟨i, hi2, rfl⟩ := hv
        split
        · rename_i hr
          have hlt : i - base < d'.size * k := by rw [← size_flatK enc k d']; omega
          rw [id, get_flatK _ _ _ _ hlt]
          have hq : (i - base) % k < (enc d'[(i - base) / k]!).length := by rw [hk]; exact Nat.mod_lt _ hk0
          rw [getElem!_pos (enc d'[(i - base) / k]!) ((i - base) % k) hq]
          exact h1 _ _ (List.getElem_mem hq)
        · exact hone _ (Array.getElem_mem hi2)
      · intro i row hrow
        rw [List.getElem?_map, Option.map_eq_some_iff] at hrow
        obtain ⟨x, hx, rfl⟩ := hrow
        have hilt : i < d'.toList.length := (List.getElem?_eq_some_iff.1 hx).1
        have hxe : d'.toList[i] = x := (List.getElem?_eq_some_iff.1 hx).2
        refine ⟨by simp [encS, hk], fun o y hy => ?_⟩
        have ho : o < k := by
          have := (List.getElem?_eq_some_iff.1 hy).1
          simpa [encS, hk] using this
        have hil : i < d.length := by rw [← hps]; simpa using hilt
        have hin : i * k + o < d.length * k := by
          have : (i + 1) * k ≤ d.length * k := Nat.mul_le_mul_right _ hil
          rw [Nat.add_mul] at this; omega
        have hlo : o < (enc x).length := by rw [hk]; exact ho
        have hy2 : y = .raw (enc x)[o] := by
          simp only [encS, List.getElem?_map, List.getElem?_eq_getElem hlo, Option.map_some, Option.some.injEq] at hy
          exact hy.symm
        subst hy2
        refine ⟨(enc x)[o], ?_, rfl, h1 _ _ (List.getElem_mem hlo)⟩
        have hcl : base + i * k + o < cells.size := by omega
        simp only [putCells, Array.getElem?_mapIdx, Array.getElem?_eq_getElem hcl, Option.map_some, id]
        rw [if_pos ⟨by omega, by rw [hF]; omega⟩, show base + i * k + o - base = i * k + o by omega]
        have := flat_at enc k d'.toList i o hilt ho
        rw [Array.toArray_toList] at this
        rw [this, hxe]
        simp [hlo]
    exact i2.below ⟨⟨rfl, rfl, rfl, by simp [sortWorldK, grow], fun q hq => by simp [sortWorldK, grow, Array.getElem?_append, hq]⟩, Nat.le_refl _⟩
  · exact none_case (List.length_eq_zero_iff.1 hd) _ _ rfl
end
end Go.Ev

/- Lists that are sorted by their keys, without a key twice: finding, taking out, putting in, and that there is just one such list of given entries. Plain Lean, no program. -/
namespace Go.Ev.Srt
set_option linter.unusedVariables false
set_option linter.unusedSectionVars false
variable {E K : Type} [DecidableEq K]

/-- A strict order of keys; those that are sound are told apart by it. -/
structure KO (lt : K → K → Bool) (V : K → Prop) : Prop where
  irrefl : ∀ a, lt a a = false
  trans : ∀ a b c, lt a b = true → lt b c = true → lt a c = true
  tri : ∀ a b, V a → V b → lt a b = false → lt b a = false → a = b

def Sorted (key : E → K) (lt : K → K → Bool) (R : List E) : Prop := R.Pairwise fun a b => lt (key a) (key b) = true
/-- The place of a key; below 0: there is none. -/
def atI (key : E → K) (R : List E) (k : K) : Int := match R.findIdx? (fun e => decide (key e = k)) with
  | some i => (i : Int)
  | none => -1
/-- How many stand ahead of a key. -/
def upTo (key : E → K) (lt : K → K → Bool) (R : List E) (k : K) : Nat := (R.takeWhile fun e => lt (key e) k).length
def ins (key : E → K) (lt : K → K → Bool) (R : List E) (e : E) : List E := R.take (upTo key lt R (key e)) ++ e :: R.drop (upTo key lt R (key e))

variable {key : E → K} {lt : K → K → Bool} {V : K → Prop}

theorem atI_none {R : List E} {k : K} (h : ∀ e ∈ R, key e ≠ k) : atI key R k = -1 := by
  unfold atI
  rw [List.findIdx?_eq_none_iff.2 (fun x hx => by simp [h x hx])]
theorem atI_some {R1 R2 : List E} {e : E} (h : ∀ x ∈ R1, key x ≠ key e) : atI key (R1 ++ e :: R2) (key e) = (R1.length : Int) := by
  unfold atI
  have : (R1 ++ e :: R2).findIdx? (fun x => decide (key x = key e)) = some R1.length := by
    rw [List.findIdx?_append, List.findIdx?_eq_none_iff.2 (fun x hx => by simp [h x hx])]
    simp [List.findIdx?_cons]
  rw [this]

theorem sorted_ne (ko : KO lt V) {R : List E} (h : Sorted key lt R) : (R.map key).Nodup := by
  unfold Sorted at h
  rw [List.Nodup, List.pairwise_map]
  exact h.imp fun {a b} hab e => by rw [e, ko.irrefl] at hab; cases hab

/-- A key stands nowhere, or at one place alone. -/
theorem at_cases (ko : KO lt V) {R : List E} (h : Sorted key lt R) (k : K) :
    (atI key R k = -1 ∧ ∀ e ∈ R, key e ≠ k) ∨ ∃ R1 e R2, R = R1 ++ e :: R2 ∧ key e = k ∧ atI key R k = (R1.length : Int) ∧ ∀ x ∈ R1 ++ R2, key x ≠ k := by
  by_cases hk : ∃ e ∈ R, key e = k
  · obtain ⟨e, he, rfl⟩ := hk
    obtain ⟨R1, R2, rfl⟩ := List.append_of_mem he
    have hn := sorted_ne ko h
    rw [List.map_append, List.map_cons, List.nodup_append] at hn
    have h0 : ∀ x ∈ R1 ++ R2, key x ≠ key e := fun x hx hh => by
      rcases List.mem_append.1 hx with hx | hx
      · exact hn.2.2 _ (List.mem_map.2 ⟨x, hx, rfl⟩) _ (by simp) hh
      · exact (List.nodup_cons.1 hn.2.1).1 (List.mem_map.2 ⟨x, hx, hh⟩)
    exact .inr ⟨R1, e, R2, rfl, rfl, atI_some fun x hx => h0 x (by simp [hx]), h0⟩
  · exact .inl ⟨atI_none fun e he hh => hk ⟨e, he, hh⟩, fun e he hh => hk ⟨e, he, hh⟩⟩

theorem unique (ko : KO lt V) {R R' : List E} (h : Sorted key lt R) (h' : Sorted key lt R') (hp : R.Perm R') : R = R' := by
  refine List.Perm.eq_of_pairwise (le := fun a b => lt (key a) (key b) = true) (fun a b _ _ h1 h2 => ?_) h h' hp
  have := ko.trans _ _ _ h1 h2
  rw [ko.irrefl] at this; cases this

theorem sorted_del {R1 R2 : List E} {e : E} (h : Sorted key lt (R1 ++ e :: R2)) : Sorted key lt (R1 ++ R2) :=
  List.Pairwise.sublist (List.Sublist.append_left (List.sublist_cons_self e R2) R1) h
theorem sorted_filter {R : List E} (p : E → Bool) (h : Sorted key lt R) : Sorted key lt (R.filter p) := List.Pairwise.sublist List.filter_sublist h
theorem sorted_map {R : List E} {f : E → E} (hf : ∀ e, key (f e) = key e) (h : Sorted key lt R) : Sorted key lt (R.map f) := by
  unfold Sorted at *
  rw [List.pairwise_map]
  exact h.imp fun {a b} hab => by rw [hf, hf]; exact hab
theorem sorted_set {R1 R2 : List E} {e e' : E} (hk : key e' = key e) (h : Sorted key lt (R1 ++ e :: R2)) : Sorted key lt (R1 ++ e' :: R2) := by
  unfold Sorted at *
  rw [List.pairwise_append] at *
  refine ⟨h.1, ?_, fun a ha b hb => ?_⟩
  · have := List.pairwise_cons.1 h.2.1
    exact List.pairwise_cons.2 ⟨fun a ha => by rw [hk]; exact this.1 a ha, this.2⟩
  · rcases List.mem_cons.1 hb with rfl | hb
    · rw [hk]; exact h.2.2 a ha e (by simp)
    · exact h.2.2 a ha b (by simp [hb])

theorem takeWhile_take {p : E → Bool} : ∀ (R : List E), R.take (R.takeWhile p).length = R.takeWhile p
  | [] => rfl
  | x :: R => by
    rw [List.takeWhile_cons]
    cases p x
    · simp
    · simp [takeWhile_take R]
theorem takeWhile_drop {p : E → Bool} : ∀ (R : List E), R.drop (R.takeWhile p).length = R.dropWhile p
  | [] => rfl
  | x :: R => by
    rw [List.takeWhile_cons, List.dropWhile_cons]
    cases p x
    · simp
    · simp [takeWhile_drop R]
theorem upTo_le (R : List E) (k : K) : upTo key lt R k ≤ R.length := (List.takeWhile_sublist _).length_le
theorem upTo_lt {R : List E} {k : K} {i : Nat} {e : E} (h : i < upTo key lt R k) (he : R[i]? = some e) : lt (key e) k = true := by
  unfold upTo at h
  have h2 : e ∈ R.takeWhile fun e => lt (key e) k := by
    rw [← takeWhile_take R]
    have : (R.take (R.takeWhile fun e => lt (key e) k).length)[i]? = some e := by rw [List.getElem?_take_of_lt h]; exact he
    exact List.mem_of_getElem? this
  exact List.all_eq_true.1 (List.all_takeWhile (p := fun e => lt (key e) k) (l := R)) e h2
theorem upTo_stop {R : List E} {k : K} {e : E} (he : R[upTo key lt R k]? = some e) : lt (key e) k = false := by
  have h2 : (R.dropWhile fun e => lt (key e) k)[0]? = some e := by
    rw [← takeWhile_drop R, List.getElem?_drop]
    simpa [upTo] using he
  cases hd : (R.dropWhile fun e => lt (key e) k) with
  | nil => rw [hd] at h2; cases h2
  | cons x l =>
    rw [hd] at h2
    simp at h2
    subst h2
    have := List.head?_dropWhile_not (p := fun e => lt (key e) k) (l := R)
    rw [hd] at this
    simpa using this

theorem ins_perm (R : List E) (e : E) : (ins key lt R e).Perm (e :: R) := by
  unfold ins
  refine List.perm_middle.trans ?_
  rw [List.take_append_drop]
theorem ins_sorted (ko : KO lt V) {R : List E} {e : E} (h : Sorted key lt R) (hv : ∀ x ∈ R, V (key x)) (he : V (key e)) (h0 : ∀ x ∈ R, key x ≠ key e) : Sorted key lt (ins key lt R e) := by
  have hd : ∀ x ∈ R.drop (upTo key lt R (key e)), lt (key e) (key x) = true := by
    intro x hx
    obtain ⟨i, hi⟩ := List.getElem?_of_mem hx
    rw [List.getElem?_drop] at hi
    obtain ⟨y, hy⟩ : ∃ y, R[upTo key lt R (key e)]? = some y := by
      have h3 := (List.getElem?_eq_some_iff.1 hi).1
      exact ⟨_, List.getElem?_eq_getElem (show upTo key lt R (key e) < R.length by omega)⟩
    have hym := List.mem_of_getElem? hy
    have hs := upTo_stop hy
    have hyl : lt (key e) (key y) = true := by
      cases hq : lt (key e) (key y) with
      | true => rfl
      | false => exact absurd (ko.tri _ _ (hv y hym) he hs hq) (h0 y hym)
    cases i with
    | zero => rw [Nat.add_zero, hy] at hi; cases hi; exact hyl
    | succ i =>
      refine ko.trans _ _ _ hyl ?_
      have h3 := List.getElem?_eq_some_iff.1 hi
      have h4 := List.getElem?_eq_some_iff.1 hy
      have := List.pairwise_iff_getElem.1 h (upTo key lt R (key e)) (upTo key lt R (key e) + (i + 1)) h4.1 h3.1 (by omega)
      rw [h3.2, h4.2] at this
      exact this
  have ht : ∀ x ∈ R.take (upTo key lt R (key e)), lt (key x) (key e) = true := by
    intro x hx
    obtain ⟨i, hi⟩ := List.getElem?_of_mem hx
    rw [List.getElem?_take] at hi
    split at hi
    · rename_i hlt; exact upTo_lt hlt hi
    · cases hi
  unfold ins Sorted
  rw [List.pairwise_append]
  refine ⟨List.Pairwise.sublist (List.take_sublist ..) h, ?_, fun a ha b hb => ?_⟩
  · exact List.pairwise_cons.2 ⟨hd, List.Pairwise.sublist (List.drop_sublist ..) h⟩
  · rcases List.mem_cons.1 hb with rfl | hb
    · exact ht a ha
    · exact ko.trans _ _ _ (ht a ha) (hd b hb)
/-- Taken out, and put in again under the same key: in the same place. -/
theorem ins_same (ko : KO lt V) {R1 R2 : List E} {e e' : E} (h : Sorted key lt (R1 ++ e :: R2)) (hv : ∀ x ∈ R1 ++ e :: R2, V (key x)) (hk : key e' = key e) : ins key lt (R1 ++ R2) e' = R1 ++ e' :: R2 := by
  have hn := sorted_ne ko h
  rw [List.map_append, List.map_cons, List.nodup_append] at hn
  have h0 : ∀ x ∈ R1 ++ R2, key x ≠ key e' := fun x hx hh => by
    rw [hk] at hh
    rcases List.mem_append.1 hx with hx | hx
    · exact hn.2.2 _ (List.mem_map.2 ⟨x, hx, rfl⟩) _ (by simp) hh
    · exact (List.nodup_cons.1 hn.2.1).1 (List.mem_map.2 ⟨x, hx, hh⟩)
  have hv2 : ∀ x ∈ R1 ++ R2, V (key x) := fun x hx => hv x (by rcases List.mem_append.1 hx with h | h <;> simp [h])
  refine unique ko (ins_sorted ko (sorted_del h) hv2 (by rw [hk]; exact hv e (by simp)) h0) (sorted_set hk h) ?_
  exact (ins_perm _ _).trans List.perm_middle.symm
end Go.Ev.Srt
