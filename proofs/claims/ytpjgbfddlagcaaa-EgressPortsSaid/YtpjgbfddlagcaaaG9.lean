/- A part of the proof: contracts of the functions that the statement reaches. -/
import Derived.Test.YtpjgbfddlagcaaaG8
namespace Go.Ev
open Go.Proofs
set_option maxRecDepth 100000
set_option linter.unusedSimpArgs false
set_option linter.unusedVariables false
set_option maxHeartbeats 4000000
def ka : KEY := ⟨1, fromC 2⟩
def kb : KEY := ⟨1, fromC 4⟩
def ea : EN := ⟨ka, 3, 0, 0⟩
def eb : EN := ⟨kb, 5, 0, 1⟩
theorem ga : goodB ka 3 = true := by kernel_rfl
theorem gb : goodB kb 5 = true := by kernel_rfl
theorem nab : ka ≠ kb := by decide +kernel
theorem s1_l : learnK 1 0 [] ka 3 = ((1, [ea]), zEN, false) := by
  simp [learnK, ga, fullB, look, putE, ea]
theorem s2_l : learnK 1 1 [ea] kb 5 = ((2, [eb]), ea, true) := by
  simp [learnK, gb, fullB, look, putE, srt, minL, delE, ea, eb, nab]
theorem kEq2 (a b : KEY) : cellsEq [.int .u16, .int .u8, .int .u8, .int .u8, .int .u8, .int .u8, .int .u8] (kC a) (kC b) = some (decide (a = b)) := kEq a b
theorem kC_fold (v : Int) (m : M6) : SV.raw (.int .u16 v) :: encM m = kC ⟨v, m⟩ := rfl
theorem eR_7 (e : EN) : List.take 1 (List.drop 7 (eR e)) = [.raw (.int .i64 e.p)] := rfl
theorem eR_8 (e : EN) : List.take 1 (List.drop 8 (eR e)) = [.raw (.int .i64 e.g)] := rfl
theorem encM_len (m : M6) : (encM m).length = 6 := rfl
end Go.Ev
