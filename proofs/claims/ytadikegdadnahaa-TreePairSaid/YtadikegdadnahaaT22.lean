/- A part of the proof: contracts of the functions that the statement reaches. -/
import Derived.Test.YtadikegdadnahaaT21
namespace Go.Ev
open Go.Proofs
set_option maxRecDepth 100000
set_option linter.unusedSimpArgs false
set_option linter.unusedVariables false
set_option maxHeartbeats 4000000
theorem nn_agreeP (p : PE) (h : 0 ≤ p.st) : 0 ≤ (agreeP p).st := by
  unfold agreeP
  split
  · simp
  · exact h
theorem nn_blockP (p : PE) (c : CF) (h : 0 ≤ p.st) : 0 ≤ (blockP p c).st := by
  unfold blockP
  split
  · simp
  · exact h
theorem nn_hearP (p : PE) (v : V4) (g : Int) (c : CF) (h : 0 ≤ p.st) : 0 ≤ (hearP p v g c).st := by
  unfold hearP
  split <;> exact h
theorem nn_blkI (j : Nat) (b : AS) (i : Nat) (p : PE) (hp : b.ps[i]? = some p) (h : NnA b) : NnA (blkI j b i p) := by
  unfold blkI; split
  · exact h
  · exact nn_setA h (nn_blockP _ _ (h.at hp))
theorem nn_agree {a : AS} (i : Nat) (h : NnA a) : NnA (agreeA a i) := by
  unfold agreeA
  split <;> exact nn_itA (nn_blkI i) h _
theorem nn_reply {a : AS} {i : Nat} {p : PE} (hp : a.ps[i]? = some p) (d : PD) (h : NnA a) : NnA (replyA a i p d) := by
  have h1 := nn_setA (i := i) h (nn_agreeP p (h.at hp))
  unfold replyA
  repeat' split
  · exact nn_changed (by simp [setA, (List.getElem?_eq_some_iff.1 hp).1]) h1
  · exact h1
  all_goals exact h
theorem nn_news {a : AS} {i : Nat} {p : PE} (hp : a.ps[i]? = some p) (d : PD) (h : NnA a) : NnA (newsA a i p d) := by
  have h1 := nn_setA (i := i) h (nn_hearP p (vecD d) d.age a.cf (h.at hp))
  have h2 := nn_choose h1
  unfold newsA
  repeat' split
  all_goals first | exact h1 | exact h2 | exact nn_agree _ h2
theorem nn_hear1 {a : AS} {i : Nat} {p : PE} (hp : a.ps[i]? = some p) (d : PD) (h : NnA a) : NnA (hear1 a i p d) := by
  have h1 := nn_setA (i := i) (q := unplain p) h (show 0 ≤ p.st from h.at hp)
  unfold hear1
  by_cases hk : (if d.kind == 128 then true else d.top) = true
  · rw [if_pos hk]; exact nn_itA (nn_spr _ _) h1 _
  · rw [if_neg hk]; exact h1
theorem nn_hear2 {c : AS} (i : Nat) (d : PD) (h : NnA c) : NnA (hear2 c i d) := by
  unfold hear2
  split
  · exact h
  · cases hp2 : c.ps[i]? with
    | none => exact h
    | some p2 =>
      simp only []
      by_cases hk : (if d.kind == 2 then (if d.role == 2 then true else d.role == 1) else false) = true
      · rw [if_pos hk]; exact nn_reply hp2 d h
      · rw [if_neg hk]; exact nn_news hp2 d h
theorem nn_hear {a : AS} (port : Int) (d : PD) (h : NnA a) : NnA (hearT a port d) := by
  unfold hearT
  split
  · exact h
  split
  · exact h
  cases hp : a.ps[(port - 1).toNat]? with
  | none => exact h
  | some p =>
    simp only []
    split
    · exact nn_hear2 _ d (nn_hear1 hp d h)
    · exact h
theorem loopK_key {P : Program} {n N : Nat} {X : Ctx} {c : Code} {Q : Exit → TM → Heap → Prop} {tm tm1 : TM} {H H1 H2 : Heap} (h : Wk N tm H tm1 H1) (e : H1 = H2) (k : loopK P n (X.at N) c Q tm1 H2) : loopK P n (X.at N) c Q tm H := by
  subst e; exact IW_wk h k
end Go.Ev
