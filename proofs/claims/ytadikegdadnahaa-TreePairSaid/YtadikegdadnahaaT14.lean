/- A part of the proof: contracts of the functions that the statement reaches. -/
import Derived.Test.YtadikegdadnahaaT13
namespace Go.Ev
open Go.Proofs
set_option maxRecDepth 100000
set_option linter.unusedSimpArgs false
set_option linter.unusedVariables false
set_option maxHeartbeats 4000000
def sIs (l : List Int) : List (List SV) := l.map sI
theorem sIs_len (l : List Int) : (sIs l).length = l.length := List.length_map _
theorem sIs_pull (σ : List Nat) (l : List Int) : (sIs l).map (fun r => r.map (pullS σ)) = sIs l := by unfold sIs; rw [List.map_map]; rfl
theorem sIs_push (σ : List Nat) (l : List Int) : (sIs l).map (fun r => r.map (pushS σ)) = sIs l := by unfold sIs; rw [List.map_map]; rfl
theorem cF_s (l : List Int) : cF l = .rows true 1 (sIs l) := rfl
end Go.Ev
