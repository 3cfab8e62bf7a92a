/- A part of the proof: contracts of the functions that the statement reaches. -/
import Derived.Test.YtpjgbfddlagcaaaDoorP8
namespace Go.Ev
open Go.Proofs
open Srt Go.RowKit
set_option linter.unusedSimpArgs false
set_option linter.unusedVariables false
end Go.Ev
