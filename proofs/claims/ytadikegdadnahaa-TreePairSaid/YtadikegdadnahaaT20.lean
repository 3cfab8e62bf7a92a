/- A part of the proof: contracts of the functions that the statement reaches. -/
import Derived.Test.YtadikegdadnahaaT19
namespace Go.Ev
open Go.Proofs
set_option maxRecDepth 100000
set_option linter.unusedSimpArgs false
set_option linter.unusedVariables false
set_option maxHeartbeats 4000000
theorem nn_switch (p : PE) (u d : Bool) (c : CF) (h : 0 ≤ p.st) : 0 ≤ (switchP p u d c).st := by
  unfold switchP offP
  repeat' split
  all_goals first | exact h | simp
theorem nn_startI (b : AS) (i : Nat) (p : PE) (hp : b.ps[i]? = some p) (h : NnA b) : NnA (startI b i p) := nn_setA h (nn_switch _ _ _ _ (nn_switch _ _ _ _ (h.at hp)))
theorem nn_start {a : AS} (h : NnA a) : NnA (startA a) := nn_choose (nn_itA nn_startI (a := zeroB a) h _)
end Go.Ev
