/- slices.SortFunc at structs, as the shelf tells it, over an ideal chunk. -/
import Derived.Test.YtnmobamjinponaaEvD
import Derived.Shelf.SlSortCmp.NoneTotal
import Derived.Test.YtnmobamjinponaaEvA
namespace Go.Ev
open Go.RowKit Go.Sort Go.Proofs

section
variable {P : Program} {X : Ctx} {α : Type} [Inhabited α]

end
end Go.Ev

/- Lists that are sorted by their keys, without a key twice: finding, taking out, putting in, and that there is just one such list of given entries. Plain Lean, no program. -/
namespace Go.Ev.Srt
set_option linter.unusedVariables false
set_option linter.unusedSectionVars false
variable {E K : Type} [DecidableEq K]

/-- A strict order of keys; those that are sound are told apart by it. -/
structure KO (lt : K → K → Bool) (V : K → Prop) : Prop where
  irrefl : ∀ a, lt a a = false
  trans : ∀ a b c, lt a b = true → lt b c = true → lt a c = true
  tri : ∀ a b, V a → V b → lt a b = false → lt b a = false → a = b

def Sorted (key : E → K) (lt : K → K → Bool) (R : List E) : Prop := R.Pairwise fun a b => lt (key a) (key b) = true
/-- The place of a key; below 0: there is none. -/
def atI (key : E → K) (R : List E) (k : K) : Int := match R.findIdx? (fun e => decide (key e = k)) with
  | some i => (i : Int)
  | none => -1
/-- How many stand ahead of a key. -/
def upTo (key : E → K) (lt : K → K → Bool) (R : List E) (k : K) : Nat := (R.takeWhile fun e => lt (key e) k).length
def ins (key : E → K) (lt : K → K → Bool) (R : List E) (e : E) : List E := R.take (upTo key lt R (key e)) ++ e :: R.drop (upTo key lt R (key e))

variable {key : E → K} {lt : K → K → Bool} {V : K → Prop}

theorem atI_none {R : List E} {k : K} (h : ∀ e ∈ R, key e ≠ k) : atI key R k = -1 := by
  unfold atI
  rw [List.findIdx?_eq_none_iff.2 (fun x hx => by simp [h x hx])]
theorem atI_some {R1 R2 : List E} {e : E} (h : ∀ x ∈ R1, key x ≠ key e) : atI key (R1 ++ e :: R2) (key e) = (R1.length : Int) := by
  unfold atI
  have : (R1 ++ e :: R2).findIdx? (fun x => decide (key x = key e)) = some R1.length := by
    rw [List.findIdx?_append, List.findIdx?_eq_none_iff.2 (fun x hx => by simp [h x hx])]
    simp [List.findIdx?_cons]
  rw [this]

theorem sorted_ne (ko : KO lt V) {R : List E} (h : Sorted key lt R) : (R.map key).Nodup := by
  unfold Sorted at h
  rw [List.Nodup, List.pairwise_map]
  exact h.imp fun {a b} hab e => by rw [e, ko.irrefl] at hab; cases hab

/-- A key stands nowhere, or at one place alone. -/
theorem at_cases (ko : KO lt V) {R : List E} (h : Sorted key lt R) (k : K) :
    (atI key R k = -1 ∧ ∀ e ∈ R, key e ≠ k) ∨ ∃ R1 e R2, R = R1 ++ e :: R2 ∧ key e = k ∧ atI key R k = (R1.length : Int) ∧ ∀ x ∈ R1 ++ R2, key x ≠ k := by
  by_cases hk : ∃ e ∈ R, key e = k
  · obtain ⟨e, he, rfl⟩ := hk
    obtain ⟨R1, R2, rfl⟩ := List.append_of_mem he
    have hn := sorted_ne ko h
    rw [List.map_append, List.map_cons, List.nodup_append] at hn
    have h0 : ∀ x ∈ R1 ++ R2, key x ≠ key e := fun x hx hh => by
      rcases List.mem_append.1 hx with hx | hx
      · exact hn.2.2 _ (List.mem_map.2 ⟨x, hx, rfl⟩) _ (by simp) hh
      · exact (List.nodup_cons.1 hn.2.1).1 (List.mem_map.2 ⟨x, hx, hh⟩)
    exact .inr ⟨R1, e, R2, rfl, rfl, atI_some fun x hx => h0 x (by simp [hx]), h0⟩
  · exact .inl ⟨atI_none fun e he hh => hk ⟨e, he, hh⟩, fun e he hh => hk ⟨e, he, hh⟩⟩

theorem unique (ko : KO lt V) {R R' : List E} (h : Sorted key lt R) (h' : Sorted key lt R') (hp : R.Perm R') : R = R' := by
  refine List.Perm.eq_of_pairwise (le := fun a b => lt (key a) (key b) = true) (fun a b _ _ h1 h2 => ?_) h h' hp
  have := ko.trans _ _ _ h1 h2
  rw [ko.irrefl] at this; cases this

theorem sorted_del {R1 R2 : List E} {e : E} (h : Sorted key lt (R1 ++ e :: R2)) : Sorted key lt (R1 ++ R2) :=
  List.Pairwise.sublist (List.Sublist.append_left (List.sublist_cons_self e R2) R1) h
theorem sorted_set {R1 R2 : List E} {e e' : E} (hk : key e' = key e) (h : Sorted key lt (R1 ++ e :: R2)) : Sorted key lt (R1 ++ e' :: R2) := by
  unfold Sorted at *
  rw [List.pairwise_append] at *
  refine ⟨h.1, ?_, fun a ha b hb => ?_⟩
  · have := List.pairwise_cons.1 h.2.1
    exact List.pairwise_cons.2 ⟨fun a ha => by rw [hk]; exact this.1 a ha, this.2⟩
  · rcases List.mem_cons.1 hb with rfl | hb
    · rw [hk]; exact h.2.2 a ha e (by simp)
    · exact h.2.2 a ha b (by simp [hb])

theorem takeWhile_take {p : E → Bool} : ∀ (R : List E), R.take (R.takeWhile p).length = R.takeWhile p
  | [] => rfl
  | x :: R => by
    rw [List.takeWhile_cons]
    cases p x
    · simp
    · simp [takeWhile_take R]
theorem takeWhile_drop {p : E → Bool} : ∀ (R : List E), R.drop (R.takeWhile p).length = R.dropWhile p
  | [] => rfl
  | x :: R => by
    rw [List.takeWhile_cons, List.dropWhile_cons]
    cases p x
    · simp
    · simp [takeWhile_drop R]
theorem upTo_le (R : List E) (k : K) : upTo key lt R k ≤ R.length := (List.takeWhile_sublist _).length_le
theorem upTo_lt {R : List E} {k : K} {i : Nat} {e : E} (h : i < upTo key lt R k) (he : R[i]? = some e) : lt (key e) k = true := by
  unfold upTo at h
  have h2 : e ∈ R.takeWhile fun e => lt (key e) k := by
    rw [← takeWhile_take R]
    have : (R.take (R.takeWhile fun e => lt (key e) k).length)[i]? = some e := by rw [List.getElem?_take_of_lt h]; exact he
    exact List.mem_of_getElem? this
  exact List.all_eq_true.1 (List.all_takeWhile (p := fun e => lt (key e) k) (l := R)) e h2
theorem upTo_stop {R : List E} {k : K} {e : E} (he : R[upTo key lt R k]? = some e) : lt (key e) k = false := by
  have h2 : (R.dropWhile fun e => lt (key e) k)[0]? = some e := by
    rw [← takeWhile_drop R, List.getElem?_drop]
    simpa [upTo] using he
  cases hd : (R.dropWhile fun e => lt (key e) k) with
  | nil => rw [hd] at h2; cases h2
  | cons x l =>
    rw [hd] at h2
    simp at h2
    subst h2
    have := List.head?_dropWhile_not (p := fun e => lt (key e) k) (l := R)
    rw [hd] at this
    simpa using this

theorem ins_perm (R : List E) (e : E) : (ins key lt R e).Perm (e :: R) := by
  unfold ins
  refine List.perm_middle.trans ?_
  rw [List.take_append_drop]
theorem ins_sorted (ko : KO lt V) {R : List E} {e : E} (h : Sorted key lt R) (hv : ∀ x ∈ R, V (key x)) (he : V (key e)) (h0 : ∀ x ∈ R, key x ≠ key e) : Sorted key lt (ins key lt R e) := by
  have hd : ∀ x ∈ R.drop (upTo key lt R (key e)), lt (key e) (key x) = true := by
    intro x hx
    obtain ⟨i, hi⟩ := List.getElem?_of_mem hx
    rw [List.getElem?_drop] at hi
    obtain ⟨y, hy⟩ : ∃ y, R[upTo key lt R (key e)]? = some y := by
      have h3 := (List.getElem?_eq_some_iff.1 hi).1
      exact ⟨_, List.getElem?_eq_getElem (show upTo key lt R (key e) < R.length by omega)⟩
    have hym := List.mem_of_getElem? hy
    have hs := upTo_stop hy
    have hyl : lt (key e) (key y) = true := by
      cases hq : lt (key e) (key y) with
      | true => rfl
      | false => exact absurd (ko.tri _ _ (hv y hym) he hs hq) (h0 y hym)
    cases i with
    | zero => rw [Nat.add_zero, hy] at hi; cases hi; exact hyl
    | succ i =>
      refine ko.trans _ _ _ hyl ?_
      have h3 := List.getElem?_eq_some_iff.1 hi
      have h4 := List.getElem?_eq_some_iff.1 hy
      have := List.pairwise_iff_getElem.1 h (upTo key lt R (key e)) (upTo key lt R (key e) + (i + 1)) h4.1 h3.1 (by omega)
      rw [h3.2, h4.2] at this
      exact this
  have ht : ∀ x ∈ R.take (upTo key lt R (key e)), lt (key x) (key e) = true := by
    intro x hx
    obtain ⟨i, hi⟩ := List.getElem?_of_mem hx
    rw [List.getElem?_take] at hi
    split at hi
    · rename_i hlt; exact upTo_lt hlt hi
    · cases hi
  unfold ins Sorted
  rw [List.pairwise_append]
  refine ⟨List.Pairwise.sublist (List.take_sublist ..) h, ?_, fun a ha b hb => ?_⟩
  · exact List.pairwise_cons.2 ⟨hd, List.Pairwise.sublist (List.drop_sublist ..) h⟩
  · rcases List.mem_cons.1 hb with rfl | hb
    · exact ht a ha
    · exact ko.trans _ _ _ (ht a ha) (hd b hb)
end Go.Ev.Srt
