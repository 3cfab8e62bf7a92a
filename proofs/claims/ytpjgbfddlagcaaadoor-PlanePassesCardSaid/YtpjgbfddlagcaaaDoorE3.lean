/- A part of the proof: contracts of the functions that the statement reaches. -/
import Derived.Test.YtpjgbfddlagcaaaDoorE2
namespace Go.Ev
open Go.Proofs
set_option maxRecDepth 100000
set_option linter.unusedSimpArgs false
set_option linter.unusedVariables false
set_option maxHeartbeats 4000000
open Srt
theorem callD_idM {P : Program} {X : Ctx} {m : Nat} {f : FuncId} {args : List IV} {k : List Nat → IV → List (Nat × Chunk) → Prop} {H : Heap} {c : Nat} {ch : Chunk} (h : H[c]? = some ch) (g : callD P X m f args H k) : callD P X m f args H k := g
def k5 : KEY := ⟨5, fromC 2⟩
def v5 : VEN := ⟨5, 7, 0, 0⟩
def q5 : EN := ⟨k5, 3, 0, 0⟩
end Go.Ev
