/- A part of the proof: contracts of the functions that the statement reaches. -/
import Derived.Test.YtadikegdadnahaaT20
namespace Go.Ev
open Go.Proofs
set_option maxRecDepth 100000
set_option linter.unusedSimpArgs false
set_option linter.unusedVariables false
set_option maxHeartbeats 4000000
theorem nn_fade2 (p : PE) (h : 0 ≤ p.st) : 0 ≤ (fade2 p).st := by
  unfold fade2 fadeP forgetP
  repeat' split
  all_goals exact h
theorem nn_stepP (p : PE) (c : CF) (h : 0 ≤ p.st) : 0 ≤ (stepP p c).st := by
  unfold stepP
  repeat' split
  all_goals first | exact h | simp
theorem nn_tick1I (b : AS) (i : Nat) (p : PE) (hp : b.ps[i]? = some p) (h : NnA b) : NnA (tick1I b i p) := nn_setA h (nn_fade2 _ (h.at hp))
theorem nn_stI (b : AS) (i : Nat) (p : PE) (hp : b.ps[i]? = some p) (h : NnA b) : NnA (stI b i p) := nn_setA h (nn_stepP _ _ (h.at hp))
theorem nn_beatI (b : AS) (i : Nat) (p : PE) (_ : b.ps[i]? = some p) (h : NnA b) : NnA (beatI b i p) := by
  unfold beatI
  repeat' split
  all_goals exact h
theorem nn_beat {a : AS} (h : NnA a) : NnA (beatA a) := by
  unfold beatA; split
  · exact h
  · exact nn_itA nn_beatI (a := beat1 a) h _
theorem nn_tick2 (k : Nat) {a : AS} (h : NnA a) : NnA (tick2 k a) := nn_beat (nn_allA nn_changedI _ (nn_itA nn_stI h _) _)
theorem nn_tick {a : AS} (h : NnA a) : NnA (tickA a) := nn_tick2 _ (nn_choose (nn_itA nn_tick1I h _))
end Go.Ev
