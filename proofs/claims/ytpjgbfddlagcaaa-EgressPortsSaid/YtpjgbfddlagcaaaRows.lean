/-
  No cell of these rows narrows 'for every input' (looked for: loops, veiled, ifaces, maps, wideKeys, modest, calm, conditions, laid).
  DERIVED. THE GIVEN ROWS OF THIS SEAT. 3 by the template 'for every input the law returns true; each argument reads behind the call as it read before'; 0 by the template 'total and deterministic' (their statements: YtpjgbfddlagcaaaTotals.lean).
  GIVEN WITH THE SEED: the statements are not yours to turn. If you find one false, say at which input.
  Laid BY PROGRAM, IN A SANDBOX (cutbox-rows.mjs): the forced cells as the released guide's own fill.sh prints them over the translation 9a44e968d4b56d22… (all of the seat's roots in one cut). By AI agents, Wed Nov 11 2026. No macro, syntax, notation, axiom, sorry.
-/
import Derived.Test.YtpjgbfddlagcaaaChecked
import GoSem.Claim
import GoSem.ClaimJoined
import GoSem.ClaimMapViews
import Derived.JoinedTies
import Derived.KernelRfl
namespace Go.Proofs.Ytpjgbfddlagcaaa
/- THE CELL 'sum', in the pinned program and in every row, IS THE sha256 OF THE DUMP (.gsa) THAT YtpjgbfddlagcaaaProg.lean LOADS. Nothing in Lean hashes anything: it is a label: what it is worth is what the hold of that sum in a sandbox is worth. -/
noncomputable def Try.pinned : Pinned := { name := "ytpjgbfddlagcaaa", sum := "9a44e968d4b56d22b0ef16a30695c6708f811d1dcad53b9f71c540454250945e", checked := Try.checked }
namespace Rows
def none {H : Type} : Left H := { results := [], args := [] }

/-- 'girderlaw12.EgressOnce': WHATEVER THE INPUT: true; the input reads as it did. -/
def egressOnceSpec : ChangeSpec := { name := "egressOnce", fn := fun _ => fun
  | [d1, d2, d3] => { results := [.lit (.bool true)], args := [d1, d2, d3] }
  | _ => none }
def egressOnceRow : OpenClaim := { program := "ytpjgbfddlagcaaa", sum := "9a44e968d4b56d22b0ef16a30695c6708f811d1dcad53b9f71c540454250945e", func := "girder/girderlaw12.EgressOnce", spec := "egressOnce", unfollowed := true, recurses := true, plainKeys := false, apart := false }
def EgressOnceSaid : Prop := egressOnceRow.holds Try.pinned (OpenSpec.ofChange egressOnceSpec)

/-- ITS FALSE NEIGHBOUR: 'it returns false'. Refute it at one input. -/
def egressOnceWrong : ChangeSpec := { name := "egressOnce", fn := fun _ => fun
  | [d1, d2, d3] => { results := [.lit (.bool false)], args := [d1, d2, d3] }
  | _ => none }
def EgressOnceWrongFalsely : Prop := egressOnceRow.holds Try.pinned (OpenSpec.ofChange egressOnceWrong)

/-- 'girderlaw12.EgressPorts': WHATEVER THE INPUT: true; the input reads as it did. -/
def egressPortsSpec : ChangeSpec := { name := "egressPorts", fn := fun _ => fun
  | [d] => { results := [.lit (.bool true)], args := [d] }
  | _ => none }
def egressPortsRow : OpenClaim := { program := "ytpjgbfddlagcaaa", sum := "9a44e968d4b56d22b0ef16a30695c6708f811d1dcad53b9f71c540454250945e", func := "girder/girderlaw12.EgressPorts", spec := "egressPorts", unfollowed := true, recurses := true, plainKeys := false, apart := false }
def EgressPortsSaid : Prop := egressPortsRow.holds Try.pinned (OpenSpec.ofChange egressPortsSpec)

/-- ITS FALSE NEIGHBOUR: 'it returns false'. Refute it at one input. -/
def egressPortsWrong : ChangeSpec := { name := "egressPorts", fn := fun _ => fun
  | [d] => { results := [.lit (.bool false)], args := [d] }
  | _ => none }
def EgressPortsWrongFalsely : Prop := egressPortsRow.holds Try.pinned (OpenSpec.ofChange egressPortsWrong)

/-- 'girderlaw12.EgressForm': WHATEVER THE INPUT: true; the input reads as it did. -/
def egressFormSpec : ChangeSpec := { name := "egressForm", fn := fun _ => fun
  | [d1, d2] => { results := [.lit (.bool true)], args := [d1, d2] }
  | _ => none }
def egressFormRow : OpenClaim := { program := "ytpjgbfddlagcaaa", sum := "9a44e968d4b56d22b0ef16a30695c6708f811d1dcad53b9f71c540454250945e", func := "girder/girderlaw12.EgressForm", spec := "egressForm", unfollowed := true, recurses := true, plainKeys := false, apart := false }
def EgressFormSaid : Prop := egressFormRow.holds Try.pinned (OpenSpec.ofChange egressFormSpec)

/-- ITS FALSE NEIGHBOUR: 'it returns false'. Refute it at one input. -/
def egressFormWrong : ChangeSpec := { name := "egressForm", fn := fun _ => fun
  | [d1, d2] => { results := [.lit (.bool false)], args := [d1, d2] }
  | _ => none }
def EgressFormWrongFalsely : Prop := egressFormRow.holds Try.pinned (OpenSpec.ofChange egressFormWrong)

/- THE SECOND FORM. 'bulk': how many values and letters a reading holds, each counted each time it is reached (what is shared counts as often as it is met; a slice's spare places count too). A statement '..UptoSaid' is the law's where the arguments, and the package variables that the reading takes, are together of bulk at most 1048576: NARROWER than '..Said'. Prove '..Said' where nothing that the law and all that it calls make is longer than what came in: it says more and counts as full. Else prove '..UptoSaid'. A law counts once. -/
mutual
def uptoBulk {H : Type} : DataW H → Nat
  | .lit (.string bytes) => bytes.length + 1
  | .lit _ => 1
  | .nil => 1
  | .ptr d => uptoBulk d + 1
  | .slice elems spare => uptoBulkAll elems + uptoBulkAll spare + 1
  | .agg parts => uptoBulkAll parts + 1
  | .iface _ d => uptoBulk d + 1
  | .map entries => uptoBulkEntries entries + 1
  | .held _ => 1
def uptoBulkAll {H : Type} : List (DataW H) → Nat
  | [] => 0
  | d :: r => uptoBulk d + uptoBulkAll r
def uptoBulkEntries {H : Type} : List (Lit × DataW H) → Nat
  | [] => 0
  | x :: r => uptoBulkEntry x + uptoBulkEntries r
def uptoBulkEntry {H : Type} : Lit × DataW H → Nat
  | (.string bytes, d) => bytes.length + uptoBulk d + 1
  | (_, d) => uptoBulk d + 1
 end
def uptoSmall : (H : Type) → List (DataW H) → Bool := fun _ ds => decide (uptoBulkAll ds ≤ 1048576)
def OpenSpec.upto (s : _root_.Go.ChangeSpec) : _root_.Go.OpenSpec := { _root_.Go.OpenSpec.ofChange s with cond := some uptoSmall }

/-- 'girderlaw12.EgressOnce', WHERE WHAT IT READS IS OF BULK AT MOST 1048576: true; the input reads as it did. -/
def egressOnceUptoRow : OpenClaim := { program := "ytpjgbfddlagcaaa", sum := "9a44e968d4b56d22b0ef16a30695c6708f811d1dcad53b9f71c540454250945e", func := "girder/girderlaw12.EgressOnce", spec := "egressOnce", unfollowed := true, recurses := true, plainKeys := false, apart := false, narrowed := true }
def EgressOnceUptoSaid : Prop := egressOnceUptoRow.holds Try.pinned (OpenSpec.upto egressOnceSpec)

/-- 'girderlaw12.EgressPorts', WHERE WHAT IT READS IS OF BULK AT MOST 1048576: true; the input reads as it did. -/
def egressPortsUptoRow : OpenClaim := { program := "ytpjgbfddlagcaaa", sum := "9a44e968d4b56d22b0ef16a30695c6708f811d1dcad53b9f71c540454250945e", func := "girder/girderlaw12.EgressPorts", spec := "egressPorts", unfollowed := true, recurses := true, plainKeys := false, apart := false, narrowed := true }
def EgressPortsUptoSaid : Prop := egressPortsUptoRow.holds Try.pinned (OpenSpec.upto egressPortsSpec)

/-- 'girderlaw12.EgressForm', WHERE WHAT IT READS IS OF BULK AT MOST 1048576: true; the input reads as it did. -/
def egressFormUptoRow : OpenClaim := { program := "ytpjgbfddlagcaaa", sum := "9a44e968d4b56d22b0ef16a30695c6708f811d1dcad53b9f71c540454250945e", func := "girder/girderlaw12.EgressForm", spec := "egressForm", unfollowed := true, recurses := true, plainKeys := false, apart := false, narrowed := true }
def EgressFormUptoSaid : Prop := egressFormUptoRow.holds Try.pinned (OpenSpec.upto egressFormSpec)

end Rows
end Go.Proofs.Ytpjgbfddlagcaaa
