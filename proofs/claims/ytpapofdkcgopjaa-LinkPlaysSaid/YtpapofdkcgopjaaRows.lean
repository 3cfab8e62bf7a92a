/-
  No cell of these rows narrows 'for every input' (looked for: loops, veiled, ifaces, maps, wideKeys, modest, calm, conditions, laid).
  DERIVED. THE GIVEN ROWS OF THIS SEAT. 12 by the template 'for every input the law returns true; each argument reads behind the call as it read before'; 0 by the template 'total and deterministic' (their statements: YtpapofdkcgopjaaTotals.lean).
  GIVEN WITH THE SEED: the statements are not yours to turn. If you find one false, say at which input.
  Laid BY PROGRAM, IN A SANDBOX (cutbox-rows.mjs): the forced cells as the released guide's own fill.sh prints them over the translation d45c9aae989a28b9… (all of the seat's roots in one cut). By AI agents, Wed Nov 11 2026. No macro, syntax, notation, axiom, sorry.
-/
import Derived.Test.YtpapofdkcgopjaaChecked
import GoSem.Claim
import GoSem.ClaimJoined
import GoSem.ClaimMapViews
import Derived.JoinedTies
import Derived.KernelRfl
namespace Go.Proofs.Ytpapofdkcgopjaa
/- THE CELL 'sum', in the pinned program and in every row, IS THE sha256 OF THE DUMP (.gsa) THAT YtpapofdkcgopjaaProg.lean LOADS. Nothing in Lean hashes anything: it is a label: what it is worth is what the hold of that sum in a sandbox is worth. -/
noncomputable def Try.pinned : Pinned := { name := "ytpapofdkcgopjaa", sum := "d45c9aae989a28b9a44391136b4eabdc887f282e0544de171f0da57b78c1a28a", checked := Try.checked }
namespace Rows
def none {H : Type} : Left H := { results := [], args := [] }

/-- 'girderlaw17.StateAssumes': WHATEVER THE INPUT: true; the input reads as it did. -/
def stateAssumesSpec : ChangeSpec := { name := "stateAssumes", fn := fun _ => fun
  | [d] => { results := [.lit (.bool true)], args := [d] }
  | _ => none }
def stateAssumesRow : OpenClaim := { program := "ytpapofdkcgopjaa", sum := "d45c9aae989a28b9a44391136b4eabdc887f282e0544de171f0da57b78c1a28a", func := "girder/girderlaw17.StateAssumes", spec := "stateAssumes", apart := false }
def StateAssumesSaid : Prop := stateAssumesRow.holds Try.pinned (OpenSpec.ofChange stateAssumesSpec)

/-- ITS FALSE NEIGHBOUR: 'it returns false'. Refute it at one input. -/
def stateAssumesWrong : ChangeSpec := { name := "stateAssumes", fn := fun _ => fun
  | [d] => { results := [.lit (.bool false)], args := [d] }
  | _ => none }
def StateAssumesWrongFalsely : Prop := stateAssumesRow.holds Try.pinned (OpenSpec.ofChange stateAssumesWrong)

/-- 'girderlaw26.LinkFull': WHATEVER THE INPUT: true; the input reads as it did. -/
def linkFullSpec : ChangeSpec := { name := "linkFull", fn := fun _ => fun
  | [d1, d2] => { results := [.lit (.bool true)], args := [d1, d2] }
  | _ => none }
def linkFullRow : OpenClaim := { program := "ytpapofdkcgopjaa", sum := "d45c9aae989a28b9a44391136b4eabdc887f282e0544de171f0da57b78c1a28a", func := "girder/girderlaw26.LinkFull", spec := "linkFull", apart := false }
def LinkFullSaid : Prop := linkFullRow.holds Try.pinned (OpenSpec.ofChange linkFullSpec)

/-- ITS FALSE NEIGHBOUR: 'it returns false'. Refute it at one input. -/
def linkFullWrong : ChangeSpec := { name := "linkFull", fn := fun _ => fun
  | [d1, d2] => { results := [.lit (.bool false)], args := [d1, d2] }
  | _ => none }
def LinkFullWrongFalsely : Prop := linkFullRow.holds Try.pinned (OpenSpec.ofChange linkFullWrong)

/-- 'girderlaw26.LinkPlays': WHATEVER THE INPUT: true; the input reads as it did. -/
def linkPlaysSpec : ChangeSpec := { name := "linkPlays", fn := fun _ => fun
  | [d] => { results := [.lit (.bool true)], args := [d] }
  | _ => none }
def linkPlaysRow : OpenClaim := { program := "ytpapofdkcgopjaa", sum := "d45c9aae989a28b9a44391136b4eabdc887f282e0544de171f0da57b78c1a28a", func := "girder/girderlaw26.LinkPlays", spec := "linkPlays", apart := false }
def LinkPlaysSaid : Prop := linkPlaysRow.holds Try.pinned (OpenSpec.ofChange linkPlaysSpec)

/-- ITS FALSE NEIGHBOUR: 'it returns false'. Refute it at one input. -/
def linkPlaysWrong : ChangeSpec := { name := "linkPlays", fn := fun _ => fun
  | [d] => { results := [.lit (.bool false)], args := [d] }
  | _ => none }
def LinkPlaysWrongFalsely : Prop := linkPlaysRow.holds Try.pinned (OpenSpec.ofChange linkPlaysWrong)

/-- 'girderlaw06.VectorBetter': WHATEVER THE INPUT: true; the input reads as it did. -/
def vectorBetterSpec : ChangeSpec := { name := "vectorBetter", fn := fun _ => fun
  | [d1, d2, d3] => { results := [.lit (.bool true)], args := [d1, d2, d3] }
  | _ => none }
def vectorBetterRow : OpenClaim := { program := "ytpapofdkcgopjaa", sum := "d45c9aae989a28b9a44391136b4eabdc887f282e0544de171f0da57b78c1a28a", func := "girder/girderlaw06.VectorBetter", spec := "vectorBetter", apart := false }
def VectorBetterSaid : Prop := vectorBetterRow.holds Try.pinned (OpenSpec.ofChange vectorBetterSpec)

/-- ITS FALSE NEIGHBOUR: 'it returns false'. Refute it at one input. -/
def vectorBetterWrong : ChangeSpec := { name := "vectorBetter", fn := fun _ => fun
  | [d1, d2, d3] => { results := [.lit (.bool false)], args := [d1, d2, d3] }
  | _ => none }
def VectorBetterWrongFalsely : Prop := vectorBetterRow.holds Try.pinned (OpenSpec.ofChange vectorBetterWrong)

/-- 'girderlaw06.VectorBest': WHATEVER THE INPUT: true; the input reads as it did. -/
def vectorBestSpec : ChangeSpec := { name := "vectorBest", fn := fun _ => fun
  | [d] => { results := [.lit (.bool true)], args := [d] }
  | _ => none }
def vectorBestRow : OpenClaim := { program := "ytpapofdkcgopjaa", sum := "d45c9aae989a28b9a44391136b4eabdc887f282e0544de171f0da57b78c1a28a", func := "girder/girderlaw06.VectorBest", spec := "vectorBest", apart := false }
def VectorBestSaid : Prop := vectorBestRow.holds Try.pinned (OpenSpec.ofChange vectorBestSpec)

/-- ITS FALSE NEIGHBOUR: 'it returns false'. Refute it at one input. -/
def vectorBestWrong : ChangeSpec := { name := "vectorBest", fn := fun _ => fun
  | [d] => { results := [.lit (.bool false)], args := [d] }
  | _ => none }
def VectorBestWrongFalsely : Prop := vectorBestRow.holds Try.pinned (OpenSpec.ofChange vectorBestWrong)

/-- 'girderlaw06.VectorLine': WHATEVER THE INPUT: true; the input reads as it did. -/
def vectorLineSpec : ChangeSpec := { name := "vectorLine", fn := fun _ => fun
  | [d1, d2, d3] => { results := [.lit (.bool true)], args := [d1, d2, d3] }
  | _ => none }
def vectorLineRow : OpenClaim := { program := "ytpapofdkcgopjaa", sum := "d45c9aae989a28b9a44391136b4eabdc887f282e0544de171f0da57b78c1a28a", func := "girder/girderlaw06.VectorLine", spec := "vectorLine", apart := false }
def VectorLineSaid : Prop := vectorLineRow.holds Try.pinned (OpenSpec.ofChange vectorLineSpec)

/-- ITS FALSE NEIGHBOUR: 'it returns false'. Refute it at one input. -/
def vectorLineWrong : ChangeSpec := { name := "vectorLine", fn := fun _ => fun
  | [d1, d2, d3] => { results := [.lit (.bool false)], args := [d1, d2, d3] }
  | _ => none }
def VectorLineWrongFalsely : Prop := vectorLineRow.holds Try.pinned (OpenSpec.ofChange vectorLineWrong)

/-- 'girderlaw17.StateWaits': WHATEVER THE INPUT: true; the input reads as it did. -/
def stateWaitsSpec : ChangeSpec := { name := "stateWaits", fn := fun _ => fun
  | [d1, d2] => { results := [.lit (.bool true)], args := [d1, d2] }
  | _ => none }
def stateWaitsRow : OpenClaim := { program := "ytpapofdkcgopjaa", sum := "d45c9aae989a28b9a44391136b4eabdc887f282e0544de171f0da57b78c1a28a", func := "girder/girderlaw17.StateWaits", spec := "stateWaits", apart := false }
def StateWaitsSaid : Prop := stateWaitsRow.holds Try.pinned (OpenSpec.ofChange stateWaitsSpec)

/-- ITS FALSE NEIGHBOUR: 'it returns false'. Refute it at one input. -/
def stateWaitsWrong : ChangeSpec := { name := "stateWaits", fn := fun _ => fun
  | [d1, d2] => { results := [.lit (.bool false)], args := [d1, d2] }
  | _ => none }
def StateWaitsWrongFalsely : Prop := stateWaitsRow.holds Try.pinned (OpenSpec.ofChange stateWaitsWrong)

/-- 'girderlaw17.StateSteps': WHATEVER THE INPUT: true; the input reads as it did. -/
def stateStepsSpec : ChangeSpec := { name := "stateSteps", fn := fun _ => fun
  | [d1, d2] => { results := [.lit (.bool true)], args := [d1, d2] }
  | _ => none }
def stateStepsRow : OpenClaim := { program := "ytpapofdkcgopjaa", sum := "d45c9aae989a28b9a44391136b4eabdc887f282e0544de171f0da57b78c1a28a", func := "girder/girderlaw17.StateSteps", spec := "stateSteps", apart := false }
def StateStepsSaid : Prop := stateStepsRow.holds Try.pinned (OpenSpec.ofChange stateStepsSpec)

/-- ITS FALSE NEIGHBOUR: 'it returns false'. Refute it at one input. -/
def stateStepsWrong : ChangeSpec := { name := "stateSteps", fn := fun _ => fun
  | [d1, d2] => { results := [.lit (.bool false)], args := [d1, d2] }
  | _ => none }
def StateStepsWrongFalsely : Prop := stateStepsRow.holds Try.pinned (OpenSpec.ofChange stateStepsWrong)

/-- 'girderlaw16.InfoHears': WHATEVER THE INPUT: true; the input reads as it did. -/
def infoHearsSpec : ChangeSpec := { name := "infoHears", fn := fun _ => fun
  | [d1, d2, d3] => { results := [.lit (.bool true)], args := [d1, d2, d3] }
  | _ => none }
def infoHearsRow : OpenClaim := { program := "ytpapofdkcgopjaa", sum := "d45c9aae989a28b9a44391136b4eabdc887f282e0544de171f0da57b78c1a28a", func := "girder/girderlaw16.InfoHears", spec := "infoHears", apart := false }
def InfoHearsSaid : Prop := infoHearsRow.holds Try.pinned (OpenSpec.ofChange infoHearsSpec)

/-- ITS FALSE NEIGHBOUR: 'it returns false'. Refute it at one input. -/
def infoHearsWrong : ChangeSpec := { name := "infoHears", fn := fun _ => fun
  | [d1, d2, d3] => { results := [.lit (.bool false)], args := [d1, d2, d3] }
  | _ => none }
def InfoHearsWrongFalsely : Prop := infoHearsRow.holds Try.pinned (OpenSpec.ofChange infoHearsWrong)

/-- 'girderlaw16.InfoSwitches': WHATEVER THE INPUT: true; the input reads as it did. -/
def infoSwitchesSpec : ChangeSpec := { name := "infoSwitches", fn := fun _ => fun
  | [d1, d2, d3] => { results := [.lit (.bool true)], args := [d1, d2, d3] }
  | _ => none }
def infoSwitchesRow : OpenClaim := { program := "ytpapofdkcgopjaa", sum := "d45c9aae989a28b9a44391136b4eabdc887f282e0544de171f0da57b78c1a28a", func := "girder/girderlaw16.InfoSwitches", spec := "infoSwitches", apart := false }
def InfoSwitchesSaid : Prop := infoSwitchesRow.holds Try.pinned (OpenSpec.ofChange infoSwitchesSpec)

/-- ITS FALSE NEIGHBOUR: 'it returns false'. Refute it at one input. -/
def infoSwitchesWrong : ChangeSpec := { name := "infoSwitches", fn := fun _ => fun
  | [d1, d2, d3] => { results := [.lit (.bool false)], args := [d1, d2, d3] }
  | _ => none }
def InfoSwitchesWrongFalsely : Prop := infoSwitchesRow.holds Try.pinned (OpenSpec.ofChange infoSwitchesWrong)

/-- 'girderlaw16.InfoFades': WHATEVER THE INPUT: true; the input reads as it did. -/
def infoFadesSpec : ChangeSpec := { name := "infoFades", fn := fun _ => fun
  | [d] => { results := [.lit (.bool true)], args := [d] }
  | _ => none }
def infoFadesRow : OpenClaim := { program := "ytpapofdkcgopjaa", sum := "d45c9aae989a28b9a44391136b4eabdc887f282e0544de171f0da57b78c1a28a", func := "girder/girderlaw16.InfoFades", spec := "infoFades", apart := false }
def InfoFadesSaid : Prop := infoFadesRow.holds Try.pinned (OpenSpec.ofChange infoFadesSpec)

/-- ITS FALSE NEIGHBOUR: 'it returns false'. Refute it at one input. -/
def infoFadesWrong : ChangeSpec := { name := "infoFades", fn := fun _ => fun
  | [d] => { results := [.lit (.bool false)], args := [d] }
  | _ => none }
def InfoFadesWrongFalsely : Prop := infoFadesRow.holds Try.pinned (OpenSpec.ofChange infoFadesWrong)

/-- 'girderlaw16.InfoLives': WHATEVER THE INPUT: true; the input reads as it did. -/
def infoLivesSpec : ChangeSpec := { name := "infoLives", fn := fun _ => fun
  | [d1, d2, d3] => { results := [.lit (.bool true)], args := [d1, d2, d3] }
  | _ => none }
def infoLivesRow : OpenClaim := { program := "ytpapofdkcgopjaa", sum := "d45c9aae989a28b9a44391136b4eabdc887f282e0544de171f0da57b78c1a28a", func := "girder/girderlaw16.InfoLives", spec := "infoLives", apart := false }
def InfoLivesSaid : Prop := infoLivesRow.holds Try.pinned (OpenSpec.ofChange infoLivesSpec)

/-- ITS FALSE NEIGHBOUR: 'it returns false'. Refute it at one input. -/
def infoLivesWrong : ChangeSpec := { name := "infoLives", fn := fun _ => fun
  | [d1, d2, d3] => { results := [.lit (.bool false)], args := [d1, d2, d3] }
  | _ => none }
def InfoLivesWrongFalsely : Prop := infoLivesRow.holds Try.pinned (OpenSpec.ofChange infoLivesWrong)

/- THE SECOND FORM. 'bulk': how many values and letters a reading holds, each counted each time it is reached (what is shared counts as often as it is met; a slice's spare places count too). A statement '..UptoSaid' is the law's where the arguments, and the package variables that the reading takes, are together of bulk at most 1048576: NARROWER than '..Said'. Prove '..Said' where nothing that the law and all that it calls make is longer than what came in: it says more and counts as full. Else prove '..UptoSaid'. A law counts once. -/
mutual
def uptoBulk {H : Type} : DataW H → Nat
  | .lit (.string bytes) => bytes.length + 1
  | .lit _ => 1
  | .nil => 1
  | .ptr d => uptoBulk d + 1
  | .slice elems spare => uptoBulkAll elems + uptoBulkAll spare + 1
  | .agg parts => uptoBulkAll parts + 1
  | .iface _ d => uptoBulk d + 1
  | .map entries => uptoBulkEntries entries + 1
  | .held _ => 1
def uptoBulkAll {H : Type} : List (DataW H) → Nat
  | [] => 0
  | d :: r => uptoBulk d + uptoBulkAll r
def uptoBulkEntries {H : Type} : List (Lit × DataW H) → Nat
  | [] => 0
  | x :: r => uptoBulkEntry x + uptoBulkEntries r
def uptoBulkEntry {H : Type} : Lit × DataW H → Nat
  | (.string bytes, d) => bytes.length + uptoBulk d + 1
  | (_, d) => uptoBulk d + 1
 end
def uptoSmall : (H : Type) → List (DataW H) → Bool := fun _ ds => decide (uptoBulkAll ds ≤ 1048576)
def OpenSpec.upto (s : _root_.Go.ChangeSpec) : _root_.Go.OpenSpec := { _root_.Go.OpenSpec.ofChange s with cond := some uptoSmall }

/-- 'girderlaw17.StateAssumes', WHERE WHAT IT READS IS OF BULK AT MOST 1048576: true; the input reads as it did. -/
def stateAssumesUptoRow : OpenClaim := { program := "ytpapofdkcgopjaa", sum := "d45c9aae989a28b9a44391136b4eabdc887f282e0544de171f0da57b78c1a28a", func := "girder/girderlaw17.StateAssumes", spec := "stateAssumes", apart := false, narrowed := true }
def StateAssumesUptoSaid : Prop := stateAssumesUptoRow.holds Try.pinned (OpenSpec.upto stateAssumesSpec)

/-- 'girderlaw26.LinkFull', WHERE WHAT IT READS IS OF BULK AT MOST 1048576: true; the input reads as it did. -/
def linkFullUptoRow : OpenClaim := { program := "ytpapofdkcgopjaa", sum := "d45c9aae989a28b9a44391136b4eabdc887f282e0544de171f0da57b78c1a28a", func := "girder/girderlaw26.LinkFull", spec := "linkFull", apart := false, narrowed := true }
def LinkFullUptoSaid : Prop := linkFullUptoRow.holds Try.pinned (OpenSpec.upto linkFullSpec)

/-- 'girderlaw26.LinkPlays', WHERE WHAT IT READS IS OF BULK AT MOST 1048576: true; the input reads as it did. -/
def linkPlaysUptoRow : OpenClaim := { program := "ytpapofdkcgopjaa", sum := "d45c9aae989a28b9a44391136b4eabdc887f282e0544de171f0da57b78c1a28a", func := "girder/girderlaw26.LinkPlays", spec := "linkPlays", apart := false, narrowed := true }
def LinkPlaysUptoSaid : Prop := linkPlaysUptoRow.holds Try.pinned (OpenSpec.upto linkPlaysSpec)

/-- 'girderlaw06.VectorBetter', WHERE WHAT IT READS IS OF BULK AT MOST 1048576: true; the input reads as it did. -/
def vectorBetterUptoRow : OpenClaim := { program := "ytpapofdkcgopjaa", sum := "d45c9aae989a28b9a44391136b4eabdc887f282e0544de171f0da57b78c1a28a", func := "girder/girderlaw06.VectorBetter", spec := "vectorBetter", apart := false, narrowed := true }
def VectorBetterUptoSaid : Prop := vectorBetterUptoRow.holds Try.pinned (OpenSpec.upto vectorBetterSpec)

/-- 'girderlaw06.VectorBest', WHERE WHAT IT READS IS OF BULK AT MOST 1048576: true; the input reads as it did. -/
def vectorBestUptoRow : OpenClaim := { program := "ytpapofdkcgopjaa", sum := "d45c9aae989a28b9a44391136b4eabdc887f282e0544de171f0da57b78c1a28a", func := "girder/girderlaw06.VectorBest", spec := "vectorBest", apart := false, narrowed := true }
def VectorBestUptoSaid : Prop := vectorBestUptoRow.holds Try.pinned (OpenSpec.upto vectorBestSpec)

/-- 'girderlaw06.VectorLine', WHERE WHAT IT READS IS OF BULK AT MOST 1048576: true; the input reads as it did. -/
def vectorLineUptoRow : OpenClaim := { program := "ytpapofdkcgopjaa", sum := "d45c9aae989a28b9a44391136b4eabdc887f282e0544de171f0da57b78c1a28a", func := "girder/girderlaw06.VectorLine", spec := "vectorLine", apart := false, narrowed := true }
def VectorLineUptoSaid : Prop := vectorLineUptoRow.holds Try.pinned (OpenSpec.upto vectorLineSpec)

/-- 'girderlaw17.StateWaits', WHERE WHAT IT READS IS OF BULK AT MOST 1048576: true; the input reads as it did. -/
def stateWaitsUptoRow : OpenClaim := { program := "ytpapofdkcgopjaa", sum := "d45c9aae989a28b9a44391136b4eabdc887f282e0544de171f0da57b78c1a28a", func := "girder/girderlaw17.StateWaits", spec := "stateWaits", apart := false, narrowed := true }
def StateWaitsUptoSaid : Prop := stateWaitsUptoRow.holds Try.pinned (OpenSpec.upto stateWaitsSpec)

/-- 'girderlaw17.StateSteps', WHERE WHAT IT READS IS OF BULK AT MOST 1048576: true; the input reads as it did. -/
def stateStepsUptoRow : OpenClaim := { program := "ytpapofdkcgopjaa", sum := "d45c9aae989a28b9a44391136b4eabdc887f282e0544de171f0da57b78c1a28a", func := "girder/girderlaw17.StateSteps", spec := "stateSteps", apart := false, narrowed := true }
def StateStepsUptoSaid : Prop := stateStepsUptoRow.holds Try.pinned (OpenSpec.upto stateStepsSpec)

/-- 'girderlaw16.InfoHears', WHERE WHAT IT READS IS OF BULK AT MOST 1048576: true; the input reads as it did. -/
def infoHearsUptoRow : OpenClaim := { program := "ytpapofdkcgopjaa", sum := "d45c9aae989a28b9a44391136b4eabdc887f282e0544de171f0da57b78c1a28a", func := "girder/girderlaw16.InfoHears", spec := "infoHears", apart := false, narrowed := true }
def InfoHearsUptoSaid : Prop := infoHearsUptoRow.holds Try.pinned (OpenSpec.upto infoHearsSpec)

/-- 'girderlaw16.InfoSwitches', WHERE WHAT IT READS IS OF BULK AT MOST 1048576: true; the input reads as it did. -/
def infoSwitchesUptoRow : OpenClaim := { program := "ytpapofdkcgopjaa", sum := "d45c9aae989a28b9a44391136b4eabdc887f282e0544de171f0da57b78c1a28a", func := "girder/girderlaw16.InfoSwitches", spec := "infoSwitches", apart := false, narrowed := true }
def InfoSwitchesUptoSaid : Prop := infoSwitchesUptoRow.holds Try.pinned (OpenSpec.upto infoSwitchesSpec)

/-- 'girderlaw16.InfoFades', WHERE WHAT IT READS IS OF BULK AT MOST 1048576: true; the input reads as it did. -/
def infoFadesUptoRow : OpenClaim := { program := "ytpapofdkcgopjaa", sum := "d45c9aae989a28b9a44391136b4eabdc887f282e0544de171f0da57b78c1a28a", func := "girder/girderlaw16.InfoFades", spec := "infoFades", apart := false, narrowed := true }
def InfoFadesUptoSaid : Prop := infoFadesUptoRow.holds Try.pinned (OpenSpec.upto infoFadesSpec)

/-- 'girderlaw16.InfoLives', WHERE WHAT IT READS IS OF BULK AT MOST 1048576: true; the input reads as it did. -/
def infoLivesUptoRow : OpenClaim := { program := "ytpapofdkcgopjaa", sum := "d45c9aae989a28b9a44391136b4eabdc887f282e0544de171f0da57b78c1a28a", func := "girder/girderlaw16.InfoLives", spec := "infoLives", apart := false, narrowed := true }
def InfoLivesUptoSaid : Prop := infoLivesUptoRow.holds Try.pinned (OpenSpec.upto infoLivesSpec)

end Rows
end Go.Proofs.Ytpapofdkcgopjaa
