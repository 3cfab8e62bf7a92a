/- A part of the proof: contracts of the functions that the statement reaches. -/
import Derived.Test.YtnmobamjinponaaG2
import Derived.Test.YtnmobamjinponaaEvS
namespace Go.Ev
open Go.Proofs
set_option maxRecDepth 100000
set_option linter.unusedSimpArgs false
set_option linter.unusedVariables false
set_option maxHeartbeats 4000000
open Srt
theorem rows_pull (f : SV → SV) (g : IV → IV) (own : Bool) (sz : Nat) (els : List (List SV)) : mapC f g (.rows own sz els) = .rows own sz (els.map fun r => r.map f) := rfl
theorem genD_id {P : Program} {X : Ctx} {o : Oper} {tm : TM} {H : Heap} {kd : List Nat → IV → List (Nat × Chunk) → Prop} (h : genD P X o tm H kd) : genD P X o tm H kd := h
theorem genK_id {P : Program} {X : Ctx} {o : Oper} {tm : TM} {H : Heap} {k : TM → Heap → Prop} (h : genK P X o k tm H) : genK P X o k tm H := h
def badV (v : Int) : Bool := decide (v < 1) || decide (4094 < v)
end Go.Ev
