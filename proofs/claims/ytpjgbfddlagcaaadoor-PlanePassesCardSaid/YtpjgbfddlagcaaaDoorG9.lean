/- A part of the proof: contracts of the functions that the statement reaches. -/
import Derived.Test.YtpjgbfddlagcaaaDoorG8
namespace Go.Ev
open Go.Proofs
set_option maxRecDepth 100000
set_option linter.unusedSimpArgs false
set_option linter.unusedVariables false
set_option maxHeartbeats 4000000
def kb : KEY := ⟨1, fromC 4⟩
theorem gb : goodB kb 5 = true := by kernel_rfl
theorem kC_fold (v : Int) (m : M6) : SV.raw (.int .u16 v) :: encM m = kC ⟨v, m⟩ := rfl
theorem encM_len (m : M6) : (encM m).length = 6 := rfl
end Go.Ev
