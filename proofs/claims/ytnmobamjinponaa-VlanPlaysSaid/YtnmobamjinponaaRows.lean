/-
  No cell of these rows narrows 'for every input' (looked for: loops, veiled, ifaces, maps, wideKeys, modest, calm, conditions, laid).
  DERIVED. THE GIVEN ROWS OF THIS SEAT. 7 by the template 'for every input the law returns true; each argument reads behind the call as it read before'; 0 by the template 'total and deterministic' (their statements: YtnmobamjinponaaTotals.lean).
  GIVEN WITH THE SEED: the statements are not yours to turn. If you find one false, say at which input.
  Laid BY PROGRAM, IN A SANDBOX (cutbox-rows.mjs): the forced cells as the released guide's own fill.sh prints them over the translation 22e0ed12bbdf87bd… (all of the seat's roots in one cut). By AI agents, Wed Nov 11 2026. No macro, syntax, notation, axiom, sorry.
-/
import Derived.Test.YtnmobamjinponaaChecked
import GoSem.Claim
import GoSem.ClaimJoined
import GoSem.ClaimMapViews
import Derived.JoinedTies
import Derived.KernelRfl
namespace Go.Proofs.Ytnmobamjinponaa
/- THE CELL 'sum', in the pinned program and in every row, IS THE sha256 OF THE DUMP (.gsa) THAT YtnmobamjinponaaProg.lean LOADS. Nothing in Lean hashes anything: it is a label: what it is worth is what the hold of that sum in a sandbox is worth. -/
noncomputable def Try.pinned : Pinned := { name := "ytnmobamjinponaa", sum := "22e0ed12bbdf87bd529a458269391417c92742a038fc9166627864f6c61ce973", checked := Try.checked }
namespace Rows
def none {H : Type} : Left H := { results := [], args := [] }

/-- 'girderlaw08.VlanPlays': WHATEVER THE INPUT: true; the input reads as it did. -/
def vlanPlaysSpec : ChangeSpec := { name := "vlanPlays", fn := fun _ => fun
  | [d] => { results := [.lit (.bool true)], args := [d] }
  | _ => none }
def vlanPlaysRow : OpenClaim := { program := "ytnmobamjinponaa", sum := "22e0ed12bbdf87bd529a458269391417c92742a038fc9166627864f6c61ce973", func := "girder/girderlaw08.VlanPlays", spec := "vlanPlays", unfollowed := true, recurses := true, plainKeys := false, apart := false }
def VlanPlaysSaid : Prop := vlanPlaysRow.holds Try.pinned (OpenSpec.ofChange vlanPlaysSpec)

/-- ITS FALSE NEIGHBOUR: 'it returns false'. Refute it at one input. -/
def vlanPlaysWrong : ChangeSpec := { name := "vlanPlays", fn := fun _ => fun
  | [d] => { results := [.lit (.bool false)], args := [d] }
  | _ => none }
def VlanPlaysWrongFalsely : Prop := vlanPlaysRow.holds Try.pinned (OpenSpec.ofChange vlanPlaysWrong)

/-- 'girderlaw08.VlanFull': WHATEVER THE INPUT: true; the input reads as it did. -/
def vlanFullSpec : ChangeSpec := { name := "vlanFull", fn := fun _ => fun
  | [d1, d2] => { results := [.lit (.bool true)], args := [d1, d2] }
  | _ => none }
def vlanFullRow : OpenClaim := { program := "ytnmobamjinponaa", sum := "22e0ed12bbdf87bd529a458269391417c92742a038fc9166627864f6c61ce973", func := "girder/girderlaw08.VlanFull", spec := "vlanFull", unfollowed := true, recurses := true, plainKeys := false, apart := false }
def VlanFullSaid : Prop := vlanFullRow.holds Try.pinned (OpenSpec.ofChange vlanFullSpec)

/-- ITS FALSE NEIGHBOUR: 'it returns false'. Refute it at one input. -/
def vlanFullWrong : ChangeSpec := { name := "vlanFull", fn := fun _ => fun
  | [d1, d2] => { results := [.lit (.bool false)], args := [d1, d2] }
  | _ => none }
def VlanFullWrongFalsely : Prop := vlanFullRow.holds Try.pinned (OpenSpec.ofChange vlanFullWrong)

/-- 'girderlaw10.StaticPlays': WHATEVER THE INPUT: true; the input reads as it did. -/
def staticPlaysSpec : ChangeSpec := { name := "staticPlays", fn := fun _ => fun
  | [d] => { results := [.lit (.bool true)], args := [d] }
  | _ => none }
def staticPlaysRow : OpenClaim := { program := "ytnmobamjinponaa", sum := "22e0ed12bbdf87bd529a458269391417c92742a038fc9166627864f6c61ce973", func := "girder/girderlaw10.StaticPlays", spec := "staticPlays", unfollowed := true, recurses := true, plainKeys := false, apart := false }
def StaticPlaysSaid : Prop := staticPlaysRow.holds Try.pinned (OpenSpec.ofChange staticPlaysSpec)

/-- ITS FALSE NEIGHBOUR: 'it returns false'. Refute it at one input. -/
def staticPlaysWrong : ChangeSpec := { name := "staticPlays", fn := fun _ => fun
  | [d] => { results := [.lit (.bool false)], args := [d] }
  | _ => none }
def StaticPlaysWrongFalsely : Prop := staticPlaysRow.holds Try.pinned (OpenSpec.ofChange staticPlaysWrong)

/-- 'girderlaw09.FdbKeys': WHATEVER THE INPUT: true; the input reads as it did. -/
def fdbKeysSpec : ChangeSpec := { name := "fdbKeys", fn := fun _ => fun
  | [d1, d2, d3] => { results := [.lit (.bool true)], args := [d1, d2, d3] }
  | _ => none }
def fdbKeysRow : OpenClaim := { program := "ytnmobamjinponaa", sum := "22e0ed12bbdf87bd529a458269391417c92742a038fc9166627864f6c61ce973", func := "girder/girderlaw09.FdbKeys", spec := "fdbKeys", unfollowed := true, recurses := true, plainKeys := false, apart := false }
def FdbKeysSaid : Prop := fdbKeysRow.holds Try.pinned (OpenSpec.ofChange fdbKeysSpec)

/-- ITS FALSE NEIGHBOUR: 'it returns false'. Refute it at one input. -/
def fdbKeysWrong : ChangeSpec := { name := "fdbKeys", fn := fun _ => fun
  | [d1, d2, d3] => { results := [.lit (.bool false)], args := [d1, d2, d3] }
  | _ => none }
def FdbKeysWrongFalsely : Prop := fdbKeysRow.holds Try.pinned (OpenSpec.ofChange fdbKeysWrong)

/-- 'girderlaw10.StaticFull': WHATEVER THE INPUT: true; the input reads as it did. -/
def staticFullSpec : ChangeSpec := { name := "staticFull", fn := fun _ => fun
  | [d1, d2] => { results := [.lit (.bool true)], args := [d1, d2] }
  | _ => none }
def staticFullRow : OpenClaim := { program := "ytnmobamjinponaa", sum := "22e0ed12bbdf87bd529a458269391417c92742a038fc9166627864f6c61ce973", func := "girder/girderlaw10.StaticFull", spec := "staticFull", unfollowed := true, recurses := true, plainKeys := false, apart := false }
def StaticFullSaid : Prop := staticFullRow.holds Try.pinned (OpenSpec.ofChange staticFullSpec)

/-- ITS FALSE NEIGHBOUR: 'it returns false'. Refute it at one input. -/
def staticFullWrong : ChangeSpec := { name := "staticFull", fn := fun _ => fun
  | [d1, d2] => { results := [.lit (.bool false)], args := [d1, d2] }
  | _ => none }
def StaticFullWrongFalsely : Prop := staticFullRow.holds Try.pinned (OpenSpec.ofChange staticFullWrong)

/-- 'girderlaw09.FdbKept': WHATEVER THE INPUT: true; the input reads as it did. -/
def fdbKeptSpec : ChangeSpec := { name := "fdbKept", fn := fun _ => fun
  | [d1, d2, d3] => { results := [.lit (.bool true)], args := [d1, d2, d3] }
  | _ => none }
def fdbKeptRow : OpenClaim := { program := "ytnmobamjinponaa", sum := "22e0ed12bbdf87bd529a458269391417c92742a038fc9166627864f6c61ce973", func := "girder/girderlaw09.FdbKept", spec := "fdbKept", unfollowed := true, recurses := true, plainKeys := false, apart := false }
def FdbKeptSaid : Prop := fdbKeptRow.holds Try.pinned (OpenSpec.ofChange fdbKeptSpec)

/-- ITS FALSE NEIGHBOUR: 'it returns false'. Refute it at one input. -/
def fdbKeptWrong : ChangeSpec := { name := "fdbKept", fn := fun _ => fun
  | [d1, d2, d3] => { results := [.lit (.bool false)], args := [d1, d2, d3] }
  | _ => none }
def FdbKeptWrongFalsely : Prop := fdbKeptRow.holds Try.pinned (OpenSpec.ofChange fdbKeptWrong)

/-- 'girderlaw09.FdbPlays': WHATEVER THE INPUT: true; the input reads as it did. -/
def fdbPlaysSpec : ChangeSpec := { name := "fdbPlays", fn := fun _ => fun
  | [d1, d2, d3] => { results := [.lit (.bool true)], args := [d1, d2, d3] }
  | _ => none }
def fdbPlaysRow : OpenClaim := { program := "ytnmobamjinponaa", sum := "22e0ed12bbdf87bd529a458269391417c92742a038fc9166627864f6c61ce973", func := "girder/girderlaw09.FdbPlays", spec := "fdbPlays", unfollowed := true, recurses := true, plainKeys := false, apart := false }
def FdbPlaysSaid : Prop := fdbPlaysRow.holds Try.pinned (OpenSpec.ofChange fdbPlaysSpec)

/-- ITS FALSE NEIGHBOUR: 'it returns false'. Refute it at one input. -/
def fdbPlaysWrong : ChangeSpec := { name := "fdbPlays", fn := fun _ => fun
  | [d1, d2, d3] => { results := [.lit (.bool false)], args := [d1, d2, d3] }
  | _ => none }
def FdbPlaysWrongFalsely : Prop := fdbPlaysRow.holds Try.pinned (OpenSpec.ofChange fdbPlaysWrong)

/- THE SECOND FORM. 'bulk': how many values and letters a reading holds, each counted each time it is reached (what is shared counts as often as it is met; a slice's spare places count too). A statement '..UptoSaid' is the law's where the arguments, and the package variables that the reading takes, are together of bulk at most 1048576: NARROWER than '..Said'. Prove '..Said' where nothing that the law and all that it calls make is longer than what came in: it says more and counts as full. Else prove '..UptoSaid'. A law counts once. -/
mutual
def uptoBulk {H : Type} : DataW H → Nat
  | .lit (.string bytes) => bytes.length + 1
  | .lit _ => 1
  | .nil => 1
  | .ptr d => uptoBulk d + 1
  | .slice elems spare => uptoBulkAll elems + uptoBulkAll spare + 1
  | .agg parts => uptoBulkAll parts + 1
  | .iface _ d => uptoBulk d + 1
  | .map entries => uptoBulkEntries entries + 1
  | .held _ => 1
def uptoBulkAll {H : Type} : List (DataW H) → Nat
  | [] => 0
  | d :: r => uptoBulk d + uptoBulkAll r
def uptoBulkEntries {H : Type} : List (Lit × DataW H) → Nat
  | [] => 0
  | x :: r => uptoBulkEntry x + uptoBulkEntries r
def uptoBulkEntry {H : Type} : Lit × DataW H → Nat
  | (.string bytes, d) => bytes.length + uptoBulk d + 1
  | (_, d) => uptoBulk d + 1
 end
def uptoSmall : (H : Type) → List (DataW H) → Bool := fun _ ds => decide (uptoBulkAll ds ≤ 1048576)
def OpenSpec.upto (s : _root_.Go.ChangeSpec) : _root_.Go.OpenSpec := { _root_.Go.OpenSpec.ofChange s with cond := some uptoSmall }

/-- 'girderlaw08.VlanPlays', WHERE WHAT IT READS IS OF BULK AT MOST 1048576: true; the input reads as it did. -/
def vlanPlaysUptoRow : OpenClaim := { program := "ytnmobamjinponaa", sum := "22e0ed12bbdf87bd529a458269391417c92742a038fc9166627864f6c61ce973", func := "girder/girderlaw08.VlanPlays", spec := "vlanPlays", unfollowed := true, recurses := true, plainKeys := false, apart := false, narrowed := true }
def VlanPlaysUptoSaid : Prop := vlanPlaysUptoRow.holds Try.pinned (OpenSpec.upto vlanPlaysSpec)

/-- 'girderlaw08.VlanFull', WHERE WHAT IT READS IS OF BULK AT MOST 1048576: true; the input reads as it did. -/
def vlanFullUptoRow : OpenClaim := { program := "ytnmobamjinponaa", sum := "22e0ed12bbdf87bd529a458269391417c92742a038fc9166627864f6c61ce973", func := "girder/girderlaw08.VlanFull", spec := "vlanFull", unfollowed := true, recurses := true, plainKeys := false, apart := false, narrowed := true }
def VlanFullUptoSaid : Prop := vlanFullUptoRow.holds Try.pinned (OpenSpec.upto vlanFullSpec)

/-- 'girderlaw10.StaticPlays', WHERE WHAT IT READS IS OF BULK AT MOST 1048576: true; the input reads as it did. -/
def staticPlaysUptoRow : OpenClaim := { program := "ytnmobamjinponaa", sum := "22e0ed12bbdf87bd529a458269391417c92742a038fc9166627864f6c61ce973", func := "girder/girderlaw10.StaticPlays", spec := "staticPlays", unfollowed := true, recurses := true, plainKeys := false, apart := false, narrowed := true }
def StaticPlaysUptoSaid : Prop := staticPlaysUptoRow.holds Try.pinned (OpenSpec.upto staticPlaysSpec)

/-- 'girderlaw09.FdbKeys', WHERE WHAT IT READS IS OF BULK AT MOST 1048576: true; the input reads as it did. -/
def fdbKeysUptoRow : OpenClaim := { program := "ytnmobamjinponaa", sum := "22e0ed12bbdf87bd529a458269391417c92742a038fc9166627864f6c61ce973", func := "girder/girderlaw09.FdbKeys", spec := "fdbKeys", unfollowed := true, recurses := true, plainKeys := false, apart := false, narrowed := true }
def FdbKeysUptoSaid : Prop := fdbKeysUptoRow.holds Try.pinned (OpenSpec.upto fdbKeysSpec)

/-- 'girderlaw10.StaticFull', WHERE WHAT IT READS IS OF BULK AT MOST 1048576: true; the input reads as it did. -/
def staticFullUptoRow : OpenClaim := { program := "ytnmobamjinponaa", sum := "22e0ed12bbdf87bd529a458269391417c92742a038fc9166627864f6c61ce973", func := "girder/girderlaw10.StaticFull", spec := "staticFull", unfollowed := true, recurses := true, plainKeys := false, apart := false, narrowed := true }
def StaticFullUptoSaid : Prop := staticFullUptoRow.holds Try.pinned (OpenSpec.upto staticFullSpec)

/-- 'girderlaw09.FdbKept', WHERE WHAT IT READS IS OF BULK AT MOST 1048576: true; the input reads as it did. -/
def fdbKeptUptoRow : OpenClaim := { program := "ytnmobamjinponaa", sum := "22e0ed12bbdf87bd529a458269391417c92742a038fc9166627864f6c61ce973", func := "girder/girderlaw09.FdbKept", spec := "fdbKept", unfollowed := true, recurses := true, plainKeys := false, apart := false, narrowed := true }
def FdbKeptUptoSaid : Prop := fdbKeptUptoRow.holds Try.pinned (OpenSpec.upto fdbKeptSpec)

/-- 'girderlaw09.FdbPlays', WHERE WHAT IT READS IS OF BULK AT MOST 1048576: true; the input reads as it did. -/
def fdbPlaysUptoRow : OpenClaim := { program := "ytnmobamjinponaa", sum := "22e0ed12bbdf87bd529a458269391417c92742a038fc9166627864f6c61ce973", func := "girder/girderlaw09.FdbPlays", spec := "fdbPlays", unfollowed := true, recurses := true, plainKeys := false, apart := false, narrowed := true }
def FdbPlaysUptoSaid : Prop := fdbPlaysUptoRow.holds Try.pinned (OpenSpec.upto fdbPlaysSpec)

end Rows
end Go.Proofs.Ytnmobamjinponaa
