/- A part of the proof: contracts of the functions that the statement reaches. -/
import Derived.Test.YtadikegdadnahaaT17
namespace Go.Ev
open Go.Proofs
set_option maxRecDepth 100000
set_option linter.unusedSimpArgs false
set_option linter.unusedVariables false
set_option maxHeartbeats 4000000
/-- No port's state is below 0. -/
def NnA (a : AS) : Prop := ∀ p ∈ a.ps, 0 ≤ p.st
theorem NnA.at {a : AS} (h : NnA a) {i : Nat} {p : PE} (hp : a.ps[i]? = some p) : 0 ≤ p.st := h p (List.mem_of_getElem? hp)
theorem nn_set {l : List PE} {i : Nat} {q : PE} (h : ∀ p ∈ l, 0 ≤ p.st) (hq : 0 ≤ q.st) : ∀ p ∈ l.set i q, 0 ≤ p.st := fun p hp => by
  rcases List.mem_or_eq_of_mem_set hp with h1 | rfl
  · exact h p h1
  · exact hq
theorem nn_itA {f : AS → Nat → PE → AS} (hf : ∀ b i p, b.ps[i]? = some p → NnA b → NnA (f b i p)) {a : AS} (h : NnA a) : ∀ i, NnA (itA f a i)
  | 0 => h
  | i + 1 => by
    cases hp : (itA f a i).ps[i]? with
    | some p => rw [itA_next hp]; exact hf _ _ _ hp (nn_itA hf h i)
    | none => simp only [itA, hp]; exact nn_itA hf h i
theorem nn_allA {f : AS → Nat → AS} (hf : ∀ b i, NnA b → NnA (f b i)) (l : List Bool) {a : AS} (h : NnA a) : ∀ i, NnA (allA f l a i)
  | 0 => h
  | i + 1 => by unfold allA; split; exact hf _ _ (nn_allA hf l h i); exact nn_allA hf l h i
theorem nn_setA {a : AS} {i : Nat} {q : PE} (h : NnA a) (hq : 0 ≤ q.st) : NnA (setA a i q) := nn_set h hq
theorem nn_spr (but : Int) (al : Bool) (b : AS) (i : Nat) (p : PE) (hp : b.ps[i]? = some p) (h : NnA b) : NnA (sprI but al b i p) := by
  unfold sprI
  repeat' split
  all_goals first | exact h | exact nn_set h (show 0 ≤ p.st from h.at hp)
theorem nn_changed {a : AS} {i : Nat} {p : PE} (hp : a.ps[i]? = some p) (h : NnA a) : NnA (changedA a i p) := by
  unfold changedA
  split
  · exact h
  · exact nn_itA (nn_spr _ _) (a := chA a i p) (nn_set h (show 0 ≤ p.st from h.at hp)) _
theorem nn_changedI (a : AS) (i : Nat) (h : NnA a) : NnA (changedI a i) := by
  unfold changedI; split
  · rename_i p hp; exact nn_changed hp h
  · exact h
theorem nn_as {p : PE} (r : Int) (t : V4) (c : CF) (h : 0 ≤ p.st) : 0 ≤ (asP p r t c).st := by
  unfold asP desP des3 des2 des1
  repeat' split
  all_goals first | exact h | simp | (simp only []; first | exact h | simp)
theorem nn_asI (R : List Int) (T : List V4) (b : AS) (i : Nat) (p : PE) (hp : b.ps[i]? = some p) (h : NnA b) : NnA (asI R T b i p) := nn_set h (nn_as _ _ _ (h.at hp))
theorem nn_choose {a : AS} (h : NnA a) : NnA (chooseA a) := by
  refine nn_allA (f := tellI2) (fun b i hb => ?_) _ (nn_allA nn_changedI _ (nn_itA (nn_asI _ _) h _) _) _
  unfold tellI2; split
  · exact hb
  · exact hb
end Go.Ev
