/-
  DERIVED. GIVEN WITH THE SEED: THE CARDS: each row of YtlngmicffhkghaaDoorRows.lean that lists a variable, with what it lists TIED to the program's text (the seventh form; the later family's looks); each row that meets fmt, with fmt's text TOLD by the authors' own Lean function (tested against real Go, not proved from fmt's source: count such statements apart). THE CARD IS WHAT COUNTS. Prove the row's statement (the work); the ties are given (YtlngmicffhkghaaDoorTie.lean); close each card by the builder's one call (the guide's Derived/Test/ToyasCard.lean, 'card_holds'). Laid BY PROGRAM, IN A SANDBOX (cutbox-door.mjs). By AI agents, Wed Nov 11 2026. No macro, syntax, notation, axiom, sorry.
-/
import Derived.Test.YtlngmicffhkghaaDoorRows
import GoSem.ClaimSeven
namespace Go.Proofs.YtlngmicffhkghaaDoor
namespace Rows

/-- THE TIED CARD OF 'girderlaw13.CountAdds'. -/
def countAddsCard : Claim7 := { stood := { row := countAddsRow, standIns := [], harness := (true, "4948c2332ce376c8a5d6f0241899daf4bb1ee39eac55a7db9bd07ce687eb3f75"), looks := false }, kinds := [], alts := [], laidByText := true, laidKinds := [.data, .data, .data], laidTests := true, laidLooks := .later }
def CountAddsCardSaid : Prop := Claim7.holds Tryd.pinned (.plain (OpenSpec.ofChange countAddsSpec)) countAddsCard

/-- THE TIED CARD OF 'girderlaw13.CountTurns'. -/
def countTurnsCard : Claim7 := { stood := { row := countTurnsRow, standIns := [], harness := (true, "4948c2332ce376c8a5d6f0241899daf4bb1ee39eac55a7db9bd07ce687eb3f75"), looks := false }, kinds := [], alts := [], laidByText := true, laidKinds := [.data, .data, .data], laidTests := true, laidLooks := .later }
def CountTurnsCardSaid : Prop := Claim7.holds Tryd.pinned (.plain (OpenSpec.ofChange countTurnsSpec)) countTurnsCard

/-- THE TIED CARD OF 'girderlaw29.ReportBridge'. -/
def reportBridgeCard : Claim7 := { stood := { row := reportBridgeRow, standIns := [], harness := (true, "4948c2332ce376c8a5d6f0241899daf4bb1ee39eac55a7db9bd07ce687eb3f75"), looks := false }, kinds := [], alts := [], laidByText := true, laidKinds := [.data, .data, .data, .widerDeep, .widerDeep], laidTests := true, laidLooks := .later }
def ReportBridgeCardSaid : Prop := Claim7.holds Tryd.pinned (.plain (OpenSpec.ofChange reportBridgeSpec)) reportBridgeCard

/-- THE SECOND FORM's CARD OF 'girderlaw13.CountAdds'. -/
def countAddsUptoCard : Claim7 := { stood := { row := countAddsUptoRow, standIns := [], harness := (true, "4948c2332ce376c8a5d6f0241899daf4bb1ee39eac55a7db9bd07ce687eb3f75"), looks := false }, kinds := [], alts := [], laidByText := true, laidKinds := [.data, .data, .data], laidTests := true, laidLooks := .later }
def CountAddsUptoCardSaid : Prop := Claim7.holds Tryd.pinned (.plain (OpenSpec.upto countAddsSpec)) countAddsUptoCard

/-- THE SECOND FORM's CARD OF 'girderlaw13.CountTurns'. -/
def countTurnsUptoCard : Claim7 := { stood := { row := countTurnsUptoRow, standIns := [], harness := (true, "4948c2332ce376c8a5d6f0241899daf4bb1ee39eac55a7db9bd07ce687eb3f75"), looks := false }, kinds := [], alts := [], laidByText := true, laidKinds := [.data, .data, .data], laidTests := true, laidLooks := .later }
def CountTurnsUptoCardSaid : Prop := Claim7.holds Tryd.pinned (.plain (OpenSpec.upto countTurnsSpec)) countTurnsUptoCard

/-- THE SECOND FORM's CARD OF 'girderlaw29.ReportBridge'. -/
def reportBridgeUptoCard : Claim7 := { stood := { row := reportBridgeUptoRow, standIns := [], harness := (true, "4948c2332ce376c8a5d6f0241899daf4bb1ee39eac55a7db9bd07ce687eb3f75"), looks := false }, kinds := [], alts := [], laidByText := true, laidKinds := [.data, .data, .data, .widerDeep, .widerDeep], laidTests := true, laidLooks := .later }
def ReportBridgeUptoCardSaid : Prop := Claim7.holds Tryd.pinned (.plain (OpenSpec.upto reportBridgeSpec)) reportBridgeUptoCard
end Rows
end Go.Proofs.YtlngmicffhkghaaDoor
