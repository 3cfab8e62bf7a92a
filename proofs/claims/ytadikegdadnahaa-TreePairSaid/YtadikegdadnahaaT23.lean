/- A part of the proof: contracts of the functions that the statement reaches. -/
import Derived.Test.YtadikegdadnahaaT22
namespace Go.Ev
open Go.Proofs
set_option maxRecDepth 100000
set_option linter.unusedSimpArgs false
set_option linter.unusedVariables false
set_option maxHeartbeats 4000000
/-- No list but the ports. -/
structure Bare (a : AS) : Prop where
  vs : a.vs = []
  ss : a.ss = []
  ds : a.ds = []
end Go.Ev
