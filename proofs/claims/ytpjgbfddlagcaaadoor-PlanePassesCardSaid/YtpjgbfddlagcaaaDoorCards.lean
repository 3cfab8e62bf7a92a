/-
  DERIVED. GIVEN WITH THE SEED: THE CARDS: each row of YtpjgbfddlagcaaaDoorRows.lean that lists a variable, with what it lists TIED to the program's text (the seventh form; the later family's looks); each row that meets fmt, with fmt's text TOLD by the authors' own Lean function (tested against real Go, not proved from fmt's source: count such statements apart). THE CARD IS WHAT COUNTS. Prove the row's statement (the work); the ties are given (YtpjgbfddlagcaaaDoorTie.lean); close each card by the builder's one call (the guide's Derived/Test/ToyasCard.lean, 'card_holds'). Laid BY PROGRAM, IN A SANDBOX (cutbox-door.mjs). By AI agents, Wed Nov 11 2026. No macro, syntax, notation, axiom, sorry.
-/
import Derived.Test.YtpjgbfddlagcaaaDoorRows
import GoSem.ClaimSeven
namespace Go.Proofs.YtpjgbfddlagcaaaDoor
namespace Rows

/-- THE TIED CARD OF 'girderlaw19.PlanePasses'. -/
def planePassesCard : Claim7 := { stood := { row := planePassesRow, standIns := [], harness := (true, "d32208d81e80abe15be41311d0ef8b5e4de641af4d96e7f2c913bf5179814991"), looks := false }, kinds := [], alts := [], laidByText := true, laidKinds := [.data], laidTests := true, laidLooks := .later }
def PlanePassesCardSaid : Prop := Claim7.holds Tryd.pinned (.plain (OpenSpec.ofChange planePassesSpec)) planePassesCard

/-- THE TIED CARD OF 'girderlaw19.PlaneShut'. -/
def planeShutCard : Claim7 := { stood := { row := planeShutRow, standIns := [], harness := (true, "d32208d81e80abe15be41311d0ef8b5e4de641af4d96e7f2c913bf5179814991"), looks := false }, kinds := [], alts := [], laidByText := true, laidKinds := [.data], laidTests := true, laidLooks := .later }
def PlaneShutCardSaid : Prop := Claim7.holds Tryd.pinned (.plain (OpenSpec.ofChange planeShutSpec)) planeShutCard

/-- THE SECOND FORM's CARD OF 'girderlaw19.PlanePasses'. -/
def planePassesUptoCard : Claim7 := { stood := { row := planePassesUptoRow, standIns := [], harness := (true, "d32208d81e80abe15be41311d0ef8b5e4de641af4d96e7f2c913bf5179814991"), looks := false }, kinds := [], alts := [], laidByText := true, laidKinds := [.data], laidTests := true, laidLooks := .later }
def PlanePassesUptoCardSaid : Prop := Claim7.holds Tryd.pinned (.plain (OpenSpec.upto planePassesSpec)) planePassesUptoCard

/-- THE SECOND FORM's CARD OF 'girderlaw19.PlaneShut'. -/
def planeShutUptoCard : Claim7 := { stood := { row := planeShutUptoRow, standIns := [], harness := (true, "d32208d81e80abe15be41311d0ef8b5e4de641af4d96e7f2c913bf5179814991"), looks := false }, kinds := [], alts := [], laidByText := true, laidKinds := [.data], laidTests := true, laidLooks := .later }
def PlaneShutUptoCardSaid : Prop := Claim7.holds Tryd.pinned (.plain (OpenSpec.upto planeShutSpec)) planeShutUptoCard
end Rows
end Go.Proofs.YtpjgbfddlagcaaaDoor
