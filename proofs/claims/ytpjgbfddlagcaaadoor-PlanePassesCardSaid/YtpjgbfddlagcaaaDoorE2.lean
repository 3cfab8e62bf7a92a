/- A part of the proof: contracts of the functions that the statement reaches. -/
import Derived.Test.YtpjgbfddlagcaaaDoorE1
namespace Go.Ev
open Go.Proofs
set_option maxRecDepth 100000
set_option linter.unusedSimpArgs false
set_option linter.unusedVariables false
/-! Sets of ports as bits. -/
end Go.Ev
