/- A part of the proof: contracts of the functions that the statement reaches. -/
import Derived.Test.YtnmobamjinponaaEvC
import Derived.Test.YtnmobamjinponaaTysE
namespace Go.Ev
open Go.Proofs
set_option maxRecDepth 100000
set_option linter.unusedSimpArgs false
set_option linter.unusedVariables false
set_option maxHeartbeats 4000000
structure M6 where
  m0 : Int
  m1 : Int
  m2 : Int
  m3 : Int
  m4 : Int
  m5 : Int
  deriving DecidableEq, Inhabited
section
variable {m0 m1 m2 m3 m4 m5 : Int} (l0 : 0 ≤ m0) (u0 : m0 ≤ 255) (l1 : 0 ≤ m1) (u1 : m1 ≤ 255) (l2 : 0 ≤ m2) (u2 : m2 ≤ 255) (l3 : 0 ≤ m3) (u3 : m3 ≤ 255) (l4 : 0 ≤ m4) (u4 : m4 ≤ 255) (l5 : 0 ≤ m5) (u5 : m5 ≤ 255)
include l0 u0 l1 u1 l2 u2 l3 u3 l4 u4 l5 u5
end
end Go.Ev
