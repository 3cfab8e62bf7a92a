/-
  NARROWER THAN 'FOR EVERY INPUT', by the rows' own cells (each row's printed sentence says how): PlanePasses: laid · PlaneShut: laid.
  DERIVED. THE GIVEN ROWS OF THIS SEAT. 2 by the template 'for every input the law returns true; each argument reads behind the call as it read before'; 0 by the template 'total and deterministic' (their statements: YtpjgbfddlagcaaaDoorTotals.lean).
  GIVEN WITH THE SEED: the statements are not yours to turn. If you find one false, say at which input.
  Laid BY PROGRAM, IN A SANDBOX (cutbox-rows.mjs): the forced cells as the released guide's own fill.sh prints them over the translation 02648b5d748c0af7… (all of the seat's roots in one cut). By AI agents, Wed Nov 11 2026. No macro, syntax, notation, axiom, sorry.
-/
import Derived.Test.YtpjgbfddlagcaaaDoorChecked
import GoSem.Claim
import GoSem.ClaimJoined
import GoSem.ClaimMapViews
import Derived.JoinedTies
import Derived.KernelRfl
namespace Go.Proofs.YtpjgbfddlagcaaaDoor
/- THE CELL 'sum', in the pinned program and in every row, IS THE sha256 OF THE DUMP (.gsa) THAT YtpjgbfddlagcaaaDoorProg.lean LOADS. Nothing in Lean hashes anything: it is a label: what it is worth is what the hold of that sum in a sandbox is worth. -/
noncomputable def Tryd.pinned : Pinned := { name := "ytpjgbfddlagcaaadoor", sum := "02648b5d748c0af74b2f69bba90312caa59ed69d9c9cf77fc033f8fe505154df", checked := Tryd.checked }
namespace Rows
def none {H : Type} : Left H := { results := [], args := [] }

/- WHAT THE LISTED PACKAGE-LEVEL VARIABLES READ AS WHEN THE CALL BEGINS. Each datum BY PROGRAM (the guide's laid-datum.mjs) off the statement by which the dump's own 'gosem.cut.vars' lays the variable. In a bare row this is a premise. The card (YtpjgbfddlagcaaaDoorCards.lean) ties it to the program's text. -/
def laid_girder_plane_whys {H : Type} : DataW H := .agg [.lit (.int .i64 0), .lit (.int .i64 3), .lit (.int .i64 4), .lit (.int .i64 5)]

/-- 'girderlaw19.PlanePasses': WHATEVER THE INPUT: true; the input reads as it did. -/
def planePassesSpec : ChangeSpec := { name := "planePasses", fn := fun _ => fun
  | [d] => { results := [.lit (.bool true)], args := [d] }
  | _ => none }
def planePassesRow : OpenClaim := { program := "ytpjgbfddlagcaaadoor", sum := "02648b5d748c0af74b2f69bba90312caa59ed69d9c9cf77fc033f8fe505154df", func := "girder/girderlaw19.PlanePasses", spec := "planePasses", unfollowed := true, recurses := true, named := ["girder/plane.whys"], plainKeys := false, apart := false, laid := [("girder/plane.whys", laid_girder_plane_whys)] }
def PlanePassesSaid : Prop := planePassesRow.holds Tryd.pinned (OpenSpec.ofChange planePassesSpec)

/-- ITS FALSE NEIGHBOUR: 'it returns false'. Refute it at one input. -/
def planePassesWrong : ChangeSpec := { name := "planePasses", fn := fun _ => fun
  | [d] => { results := [.lit (.bool false)], args := [d] }
  | _ => none }
def PlanePassesWrongFalsely : Prop := planePassesRow.holds Tryd.pinned (OpenSpec.ofChange planePassesWrong)

/-- 'girderlaw19.PlaneShut': WHATEVER THE INPUT: true; the input reads as it did. -/
def planeShutSpec : ChangeSpec := { name := "planeShut", fn := fun _ => fun
  | [d] => { results := [.lit (.bool true)], args := [d] }
  | _ => none }
def planeShutRow : OpenClaim := { program := "ytpjgbfddlagcaaadoor", sum := "02648b5d748c0af74b2f69bba90312caa59ed69d9c9cf77fc033f8fe505154df", func := "girder/girderlaw19.PlaneShut", spec := "planeShut", unfollowed := true, recurses := true, named := ["girder/plane.whys"], plainKeys := false, apart := false, laid := [("girder/plane.whys", laid_girder_plane_whys)] }
def PlaneShutSaid : Prop := planeShutRow.holds Tryd.pinned (OpenSpec.ofChange planeShutSpec)

/-- ITS FALSE NEIGHBOUR: 'it returns false'. Refute it at one input. -/
def planeShutWrong : ChangeSpec := { name := "planeShut", fn := fun _ => fun
  | [d] => { results := [.lit (.bool false)], args := [d] }
  | _ => none }
def PlaneShutWrongFalsely : Prop := planeShutRow.holds Tryd.pinned (OpenSpec.ofChange planeShutWrong)

/- THE SECOND FORM. 'bulk': how many values and letters a reading holds, each counted each time it is reached (what is shared counts as often as it is met; a slice's spare places count too). A statement '..UptoSaid' is the law's where the arguments, and the package variables that the reading takes, are together of bulk at most 1048576: NARROWER than '..Said'. Prove '..Said' where nothing that the law and all that it calls make is longer than what came in: it says more and counts as full. Else prove '..UptoSaid'. A law counts once. -/
mutual
def uptoBulk {H : Type} : DataW H → Nat
  | .lit (.string bytes) => bytes.length + 1
  | .lit _ => 1
  | .nil => 1
  | .ptr d => uptoBulk d + 1
  | .slice elems spare => uptoBulkAll elems + uptoBulkAll spare + 1
  | .agg parts => uptoBulkAll parts + 1
  | .iface _ d => uptoBulk d + 1
  | .map entries => uptoBulkEntries entries + 1
  | .held _ => 1
def uptoBulkAll {H : Type} : List (DataW H) → Nat
  | [] => 0
  | d :: r => uptoBulk d + uptoBulkAll r
def uptoBulkEntries {H : Type} : List (Lit × DataW H) → Nat
  | [] => 0
  | x :: r => uptoBulkEntry x + uptoBulkEntries r
def uptoBulkEntry {H : Type} : Lit × DataW H → Nat
  | (.string bytes, d) => bytes.length + uptoBulk d + 1
  | (_, d) => uptoBulk d + 1
 end
def uptoSmall : (H : Type) → List (DataW H) → Bool := fun _ ds => decide (uptoBulkAll ds ≤ 1048576)
def OpenSpec.upto (s : _root_.Go.ChangeSpec) : _root_.Go.OpenSpec := { _root_.Go.OpenSpec.ofChange s with cond := some uptoSmall }

/-- 'girderlaw19.PlanePasses', WHERE WHAT IT READS IS OF BULK AT MOST 1048576: true; the input reads as it did. -/
def planePassesUptoRow : OpenClaim := { program := "ytpjgbfddlagcaaadoor", sum := "02648b5d748c0af74b2f69bba90312caa59ed69d9c9cf77fc033f8fe505154df", func := "girder/girderlaw19.PlanePasses", spec := "planePasses", unfollowed := true, recurses := true, named := ["girder/plane.whys"], plainKeys := false, apart := false, laid := [("girder/plane.whys", laid_girder_plane_whys)], narrowed := true }
def PlanePassesUptoSaid : Prop := planePassesUptoRow.holds Tryd.pinned (OpenSpec.upto planePassesSpec)

/-- 'girderlaw19.PlaneShut', WHERE WHAT IT READS IS OF BULK AT MOST 1048576: true; the input reads as it did. -/
def planeShutUptoRow : OpenClaim := { program := "ytpjgbfddlagcaaadoor", sum := "02648b5d748c0af74b2f69bba90312caa59ed69d9c9cf77fc033f8fe505154df", func := "girder/girderlaw19.PlaneShut", spec := "planeShut", unfollowed := true, recurses := true, named := ["girder/plane.whys"], plainKeys := false, apart := false, laid := [("girder/plane.whys", laid_girder_plane_whys)], narrowed := true }
def PlaneShutUptoSaid : Prop := planeShutUptoRow.holds Tryd.pinned (OpenSpec.upto planeShutSpec)

end Rows
end Go.Proofs.YtpjgbfddlagcaaaDoor
