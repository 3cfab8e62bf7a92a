/-
  No cell of these rows narrows 'for every input' (looked for: loops, veiled, ifaces, maps, wideKeys, modest, calm, conditions, laid).
  DERIVED. THE GIVEN ROWS OF THIS SEAT. 8 by the template 'for every input the law returns true; each argument reads behind the call as it read before'; 0 by the template 'total and deterministic' (their statements: YtlngmicffhkghaaTotals.lean).
  GIVEN WITH THE SEED: the statements are not yours to turn. If you find one false, say at which input.
  Laid BY PROGRAM, IN A SANDBOX (cutbox-rows.mjs): the forced cells as the released guide's own fill.sh prints them over the translation 9fb85d8e9fcd8ffe… (all of the seat's roots in one cut). By AI agents, Wed Nov 11 2026. No macro, syntax, notation, axiom, sorry.
-/
import Derived.Test.YtlngmicffhkghaaChecked
import GoSem.Claim
import GoSem.ClaimJoined
import GoSem.ClaimMapViews
import Derived.JoinedTies
import Derived.KernelRfl
namespace Go.Proofs.Ytlngmicffhkghaa
/- THE CELL 'sum', in the pinned program and in every row, IS THE sha256 OF THE DUMP (.gsa) THAT YtlngmicffhkghaaProg.lean LOADS. Nothing in Lean hashes anything: it is a label: what it is worth is what the hold of that sum in a sandbox is worth. -/
noncomputable def Try.pinned : Pinned := { name := "ytlngmicffhkghaa", sum := "9fb85d8e9fcd8ffe0bec57c0d3634502bf9f735e4615216cc641f1d4e7a2a61f", checked := Try.checked }
namespace Rows
def none {H : Type} : Left H := { results := [], args := [] }

/-- 'girderlaw15.RoleChooses': WHATEVER THE INPUT: true; the input reads as it did. -/
def roleChoosesSpec : ChangeSpec := { name := "roleChooses", fn := fun _ => fun
  | [d1, d2] => { results := [.lit (.bool true)], args := [d1, d2] }
  | _ => none }
def roleChoosesRow : OpenClaim := { program := "ytlngmicffhkghaa", sum := "9fb85d8e9fcd8ffe0bec57c0d3634502bf9f735e4615216cc641f1d4e7a2a61f", func := "girder/girderlaw15.RoleChooses", spec := "roleChooses", apart := false }
def RoleChoosesSaid : Prop := roleChoosesRow.holds Try.pinned (OpenSpec.ofChange roleChoosesSpec)

/-- ITS FALSE NEIGHBOUR: 'it returns false'. Refute it at one input. -/
def roleChoosesWrong : ChangeSpec := { name := "roleChooses", fn := fun _ => fun
  | [d1, d2] => { results := [.lit (.bool false)], args := [d1, d2] }
  | _ => none }
def RoleChoosesWrongFalsely : Prop := roleChoosesRow.holds Try.pinned (OpenSpec.ofChange roleChoosesWrong)

/-- 'girderlaw15.RoleOne': WHATEVER THE INPUT: true; the input reads as it did. -/
def roleOneSpec : ChangeSpec := { name := "roleOne", fn := fun _ => fun
  | [d1, d2] => { results := [.lit (.bool true)], args := [d1, d2] }
  | _ => none }
def roleOneRow : OpenClaim := { program := "ytlngmicffhkghaa", sum := "9fb85d8e9fcd8ffe0bec57c0d3634502bf9f735e4615216cc641f1d4e7a2a61f", func := "girder/girderlaw15.RoleOne", spec := "roleOne", apart := false }
def RoleOneSaid : Prop := roleOneRow.holds Try.pinned (OpenSpec.ofChange roleOneSpec)

/-- ITS FALSE NEIGHBOUR: 'it returns false'. Refute it at one input. -/
def roleOneWrong : ChangeSpec := { name := "roleOne", fn := fun _ => fun
  | [d1, d2] => { results := [.lit (.bool false)], args := [d1, d2] }
  | _ => none }
def RoleOneWrongFalsely : Prop := roleOneRow.holds Try.pinned (OpenSpec.ofChange roleOneWrong)

/-- 'girderlaw03.AddrParses': WHATEVER THE INPUT: true; the input reads as it did. -/
def addrParsesSpec : ChangeSpec := { name := "addrParses", fn := fun _ => fun
  | [d] => { results := [.lit (.bool true)], args := [d] }
  | _ => none }
def addrParsesRow : OpenClaim := { program := "ytlngmicffhkghaa", sum := "9fb85d8e9fcd8ffe0bec57c0d3634502bf9f735e4615216cc641f1d4e7a2a61f", func := "girder/girderlaw03.AddrParses", spec := "addrParses", inPlace := ["internal/abi.NoEscape", "internal/bytealg.MakeNoZero"], apart := false }
def AddrParsesSaid : Prop := addrParsesRow.holds Try.pinned (OpenSpec.ofChange addrParsesSpec)

/-- ITS FALSE NEIGHBOUR: 'it returns false'. Refute it at one input. -/
def addrParsesWrong : ChangeSpec := { name := "addrParses", fn := fun _ => fun
  | [d] => { results := [.lit (.bool false)], args := [d] }
  | _ => none }
def AddrParsesWrongFalsely : Prop := addrParsesRow.holds Try.pinned (OpenSpec.ofChange addrParsesWrong)

/-- 'girderlaw05.BpduReads': WHATEVER THE INPUT: true; the input reads as it did. -/
def bpduReadsSpec : ChangeSpec := { name := "bpduReads", fn := fun _ => fun
  | [d] => { results := [.lit (.bool true)], args := [d] }
  | _ => none }
def bpduReadsRow : OpenClaim := { program := "ytlngmicffhkghaa", sum := "9fb85d8e9fcd8ffe0bec57c0d3634502bf9f735e4615216cc641f1d4e7a2a61f", func := "girder/girderlaw05.BpduReads", spec := "bpduReads", apart := false }
def BpduReadsSaid : Prop := bpduReadsRow.holds Try.pinned (OpenSpec.ofChange bpduReadsSpec)

/-- ITS FALSE NEIGHBOUR: 'it returns false'. Refute it at one input. -/
def bpduReadsWrong : ChangeSpec := { name := "bpduReads", fn := fun _ => fun
  | [d] => { results := [.lit (.bool false)], args := [d] }
  | _ => none }
def BpduReadsWrongFalsely : Prop := bpduReadsRow.holds Try.pinned (OpenSpec.ofChange bpduReadsWrong)

/-- 'girderlaw03.AddrTells': WHATEVER THE INPUT: true; the input reads as it did. -/
def addrTellsSpec : ChangeSpec := { name := "addrTells", fn := fun _ => fun
  | [d1, d2] => { results := [.lit (.bool true)], args := [d1, d2] }
  | _ => none }
def addrTellsRow : OpenClaim := { program := "ytlngmicffhkghaa", sum := "9fb85d8e9fcd8ffe0bec57c0d3634502bf9f735e4615216cc641f1d4e7a2a61f", func := "girder/girderlaw03.AddrTells", spec := "addrTells", inPlace := ["internal/abi.NoEscape", "internal/bytealg.MakeNoZero"], apart := false }
def AddrTellsSaid : Prop := addrTellsRow.holds Try.pinned (OpenSpec.ofChange addrTellsSpec)

/-- ITS FALSE NEIGHBOUR: 'it returns false'. Refute it at one input. -/
def addrTellsWrong : ChangeSpec := { name := "addrTells", fn := fun _ => fun
  | [d1, d2] => { results := [.lit (.bool false)], args := [d1, d2] }
  | _ => none }
def AddrTellsWrongFalsely : Prop := addrTellsRow.holds Try.pinned (OpenSpec.ofChange addrTellsWrong)

/-- 'girderlaw03.AddrIDs': WHATEVER THE INPUT: true; the input reads as it did. -/
def addrIDsSpec : ChangeSpec := { name := "addrIDs", fn := fun _ => fun
  | [d1, d2, d3] => { results := [.lit (.bool true)], args := [d1, d2, d3] }
  | _ => none }
def addrIDsRow : OpenClaim := { program := "ytlngmicffhkghaa", sum := "9fb85d8e9fcd8ffe0bec57c0d3634502bf9f735e4615216cc641f1d4e7a2a61f", func := "girder/girderlaw03.AddrIDs", spec := "addrIDs", inPlace := ["internal/abi.NoEscape", "internal/bytealg.MakeNoZero"], apart := false }
def AddrIDsSaid : Prop := addrIDsRow.holds Try.pinned (OpenSpec.ofChange addrIDsSpec)

/-- ITS FALSE NEIGHBOUR: 'it returns false'. Refute it at one input. -/
def addrIDsWrong : ChangeSpec := { name := "addrIDs", fn := fun _ => fun
  | [d1, d2, d3] => { results := [.lit (.bool false)], args := [d1, d2, d3] }
  | _ => none }
def AddrIDsWrongFalsely : Prop := addrIDsRow.holds Try.pinned (OpenSpec.ofChange addrIDsWrong)

/-- 'girderlaw05.BpduOpens': WHATEVER THE INPUT: true; the input reads as it did. -/
def bpduOpensSpec : ChangeSpec := { name := "bpduOpens", fn := fun _ => fun
  | [d] => { results := [.lit (.bool true)], args := [d] }
  | _ => none }
def bpduOpensRow : OpenClaim := { program := "ytlngmicffhkghaa", sum := "9fb85d8e9fcd8ffe0bec57c0d3634502bf9f735e4615216cc641f1d4e7a2a61f", func := "girder/girderlaw05.BpduOpens", spec := "bpduOpens", apart := false }
def BpduOpensSaid : Prop := bpduOpensRow.holds Try.pinned (OpenSpec.ofChange bpduOpensSpec)

/-- ITS FALSE NEIGHBOUR: 'it returns false'. Refute it at one input. -/
def bpduOpensWrong : ChangeSpec := { name := "bpduOpens", fn := fun _ => fun
  | [d] => { results := [.lit (.bool false)], args := [d] }
  | _ => none }
def BpduOpensWrongFalsely : Prop := bpduOpensRow.holds Try.pinned (OpenSpec.ofChange bpduOpensWrong)

/-- 'girderlaw05.BpduCodes': WHATEVER THE INPUT: true; the input reads as it did. -/
def bpduCodesSpec : ChangeSpec := { name := "bpduCodes", fn := fun _ => fun
  | [d1, d2, d3] => { results := [.lit (.bool true)], args := [d1, d2, d3] }
  | _ => none }
def bpduCodesRow : OpenClaim := { program := "ytlngmicffhkghaa", sum := "9fb85d8e9fcd8ffe0bec57c0d3634502bf9f735e4615216cc641f1d4e7a2a61f", func := "girder/girderlaw05.BpduCodes", spec := "bpduCodes", inPlace := ["internal/abi.NoEscape", "internal/bytealg.MakeNoZero"], apart := false }
def BpduCodesSaid : Prop := bpduCodesRow.holds Try.pinned (OpenSpec.ofChange bpduCodesSpec)

/-- ITS FALSE NEIGHBOUR: 'it returns false'. Refute it at one input. -/
def bpduCodesWrong : ChangeSpec := { name := "bpduCodes", fn := fun _ => fun
  | [d1, d2, d3] => { results := [.lit (.bool false)], args := [d1, d2, d3] }
  | _ => none }
def BpduCodesWrongFalsely : Prop := bpduCodesRow.holds Try.pinned (OpenSpec.ofChange bpduCodesWrong)

/- THE SECOND FORM. 'bulk': how many values and letters a reading holds, each counted each time it is reached (what is shared counts as often as it is met; a slice's spare places count too). A statement '..UptoSaid' is the law's where the arguments, and the package variables that the reading takes, are together of bulk at most 1048576: NARROWER than '..Said'. Prove '..Said' where nothing that the law and all that it calls make is longer than what came in: it says more and counts as full. Else prove '..UptoSaid'. A law counts once. -/
mutual
def uptoBulk {H : Type} : DataW H → Nat
  | .lit (.string bytes) => bytes.length + 1
  | .lit _ => 1
  | .nil => 1
  | .ptr d => uptoBulk d + 1
  | .slice elems spare => uptoBulkAll elems + uptoBulkAll spare + 1
  | .agg parts => uptoBulkAll parts + 1
  | .iface _ d => uptoBulk d + 1
  | .map entries => uptoBulkEntries entries + 1
  | .held _ => 1
def uptoBulkAll {H : Type} : List (DataW H) → Nat
  | [] => 0
  | d :: r => uptoBulk d + uptoBulkAll r
def uptoBulkEntries {H : Type} : List (Lit × DataW H) → Nat
  | [] => 0
  | x :: r => uptoBulkEntry x + uptoBulkEntries r
def uptoBulkEntry {H : Type} : Lit × DataW H → Nat
  | (.string bytes, d) => bytes.length + uptoBulk d + 1
  | (_, d) => uptoBulk d + 1
 end
def uptoSmall : (H : Type) → List (DataW H) → Bool := fun _ ds => decide (uptoBulkAll ds ≤ 1048576)
def OpenSpec.upto (s : _root_.Go.ChangeSpec) : _root_.Go.OpenSpec := { _root_.Go.OpenSpec.ofChange s with cond := some uptoSmall }

/-- 'girderlaw15.RoleChooses', WHERE WHAT IT READS IS OF BULK AT MOST 1048576: true; the input reads as it did. -/
def roleChoosesUptoRow : OpenClaim := { program := "ytlngmicffhkghaa", sum := "9fb85d8e9fcd8ffe0bec57c0d3634502bf9f735e4615216cc641f1d4e7a2a61f", func := "girder/girderlaw15.RoleChooses", spec := "roleChooses", apart := false, narrowed := true }
def RoleChoosesUptoSaid : Prop := roleChoosesUptoRow.holds Try.pinned (OpenSpec.upto roleChoosesSpec)

/-- 'girderlaw15.RoleOne', WHERE WHAT IT READS IS OF BULK AT MOST 1048576: true; the input reads as it did. -/
def roleOneUptoRow : OpenClaim := { program := "ytlngmicffhkghaa", sum := "9fb85d8e9fcd8ffe0bec57c0d3634502bf9f735e4615216cc641f1d4e7a2a61f", func := "girder/girderlaw15.RoleOne", spec := "roleOne", apart := false, narrowed := true }
def RoleOneUptoSaid : Prop := roleOneUptoRow.holds Try.pinned (OpenSpec.upto roleOneSpec)

/-- 'girderlaw03.AddrParses', WHERE WHAT IT READS IS OF BULK AT MOST 1048576: true; the input reads as it did. -/
def addrParsesUptoRow : OpenClaim := { program := "ytlngmicffhkghaa", sum := "9fb85d8e9fcd8ffe0bec57c0d3634502bf9f735e4615216cc641f1d4e7a2a61f", func := "girder/girderlaw03.AddrParses", spec := "addrParses", inPlace := ["internal/abi.NoEscape", "internal/bytealg.MakeNoZero"], apart := false, narrowed := true }
def AddrParsesUptoSaid : Prop := addrParsesUptoRow.holds Try.pinned (OpenSpec.upto addrParsesSpec)

/-- 'girderlaw05.BpduReads', WHERE WHAT IT READS IS OF BULK AT MOST 1048576: true; the input reads as it did. -/
def bpduReadsUptoRow : OpenClaim := { program := "ytlngmicffhkghaa", sum := "9fb85d8e9fcd8ffe0bec57c0d3634502bf9f735e4615216cc641f1d4e7a2a61f", func := "girder/girderlaw05.BpduReads", spec := "bpduReads", apart := false, narrowed := true }
def BpduReadsUptoSaid : Prop := bpduReadsUptoRow.holds Try.pinned (OpenSpec.upto bpduReadsSpec)

/-- 'girderlaw03.AddrTells', WHERE WHAT IT READS IS OF BULK AT MOST 1048576: true; the input reads as it did. -/
def addrTellsUptoRow : OpenClaim := { program := "ytlngmicffhkghaa", sum := "9fb85d8e9fcd8ffe0bec57c0d3634502bf9f735e4615216cc641f1d4e7a2a61f", func := "girder/girderlaw03.AddrTells", spec := "addrTells", inPlace := ["internal/abi.NoEscape", "internal/bytealg.MakeNoZero"], apart := false, narrowed := true }
def AddrTellsUptoSaid : Prop := addrTellsUptoRow.holds Try.pinned (OpenSpec.upto addrTellsSpec)

/-- 'girderlaw03.AddrIDs', WHERE WHAT IT READS IS OF BULK AT MOST 1048576: true; the input reads as it did. -/
def addrIDsUptoRow : OpenClaim := { program := "ytlngmicffhkghaa", sum := "9fb85d8e9fcd8ffe0bec57c0d3634502bf9f735e4615216cc641f1d4e7a2a61f", func := "girder/girderlaw03.AddrIDs", spec := "addrIDs", inPlace := ["internal/abi.NoEscape", "internal/bytealg.MakeNoZero"], apart := false, narrowed := true }
def AddrIDsUptoSaid : Prop := addrIDsUptoRow.holds Try.pinned (OpenSpec.upto addrIDsSpec)

/-- 'girderlaw05.BpduOpens', WHERE WHAT IT READS IS OF BULK AT MOST 1048576: true; the input reads as it did. -/
def bpduOpensUptoRow : OpenClaim := { program := "ytlngmicffhkghaa", sum := "9fb85d8e9fcd8ffe0bec57c0d3634502bf9f735e4615216cc641f1d4e7a2a61f", func := "girder/girderlaw05.BpduOpens", spec := "bpduOpens", apart := false, narrowed := true }
def BpduOpensUptoSaid : Prop := bpduOpensUptoRow.holds Try.pinned (OpenSpec.upto bpduOpensSpec)

/-- 'girderlaw05.BpduCodes', WHERE WHAT IT READS IS OF BULK AT MOST 1048576: true; the input reads as it did. -/
def bpduCodesUptoRow : OpenClaim := { program := "ytlngmicffhkghaa", sum := "9fb85d8e9fcd8ffe0bec57c0d3634502bf9f735e4615216cc641f1d4e7a2a61f", func := "girder/girderlaw05.BpduCodes", spec := "bpduCodes", inPlace := ["internal/abi.NoEscape", "internal/bytealg.MakeNoZero"], apart := false, narrowed := true }
def BpduCodesUptoSaid : Prop := bpduCodesUptoRow.holds Try.pinned (OpenSpec.upto bpduCodesSpec)

end Rows
end Go.Proofs.Ytlngmicffhkghaa
