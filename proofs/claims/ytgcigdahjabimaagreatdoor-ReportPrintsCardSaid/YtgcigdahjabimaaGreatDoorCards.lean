/-
  DERIVED. GIVEN WITH THE SEED: THE CARDS: each row of YtgcigdahjabimaaGreatDoorRows.lean that lists a variable, with what it lists TIED to the program's text (the seventh form; the later family's looks); each row that meets fmt, with fmt's text TOLD by the authors' own Lean function (tested against real Go, not proved from fmt's source: count such statements apart). THE CARD IS WHAT COUNTS. Prove the row's statement (the work); the ties are given (YtgcigdahjabimaaGreatDoorTie.lean); close each card by the builder's one call (the guide's Derived/Test/ToyasCard.lean, 'card_holds'). Laid BY PROGRAM, IN A SANDBOX (cutbox-door.mjs). By AI agents, Wed Nov 11 2026. No macro, syntax, notation, axiom, sorry.
-/
import Derived.Test.YtgcigdahjabimaaGreatDoorRows
import GoSem.ClaimSeven
namespace Go.Proofs.YtgcigdahjabimaaGreatDoor
namespace Rows

/-- THE TIED CARD OF 'fiduciallaw58.ReportChecks'. -/
def reportChecksCard : Claim7 := { stood := { row := reportChecksRow, standIns := [], harness := (true, "af41ae100a7324dd3659da7aded2e60f16e64b39f55f9f864a45721f96f9ba69"), looks := true }, kinds := [], alts := [], laidByText := true, laidKinds := [.data, .data, .data, .sentinel], laidTests := true, laidLooks := .later }
def ReportChecksCardSaid : Prop := Claim7.holds Tryz.pinned (.plain (OpenSpec.ofChange reportChecksSpec)) reportChecksCard

/-- THE TIED CARD OF 'fiduciallaw58.ReportCounts'. -/
def reportCountsCard : Claim7 := { stood := { row := reportCountsRow, standIns := [], harness := (true, "af41ae100a7324dd3659da7aded2e60f16e64b39f55f9f864a45721f96f9ba69"), looks := true }, kinds := [], alts := [], laidByText := true, laidKinds := [.data, .data, .data, .sentinel], laidTests := true, laidLooks := .later }
def ReportCountsCardSaid : Prop := Claim7.holds Tryz.pinned (.plain (OpenSpec.ofChange reportCountsSpec)) reportCountsCard

/-- THE TIED CARD OF 'fiduciallaw58.ReportPrints'. -/
def reportPrintsCard : Claim7 := { stood := { row := reportPrintsRow, standIns := [], harness := (true, "af41ae100a7324dd3659da7aded2e60f16e64b39f55f9f864a45721f96f9ba69"), looks := true }, kinds := [], alts := [], laidByText := true, laidKinds := [.data, .data, .data, .sentinel, .sentinel, .sentinel], laidTests := true, laidLooks := .later }
def ReportPrintsCardSaid : Prop := Claim7.holds Tryz.pinned (.plain (OpenSpec.ofChange reportPrintsSpec)) reportPrintsCard

/-- THE TIED CARD OF 'fiduciallaw58.ReportParses'. -/
def reportParsesCard : Claim7 := { stood := { row := reportParsesRow, standIns := [], harness := (true, "af41ae100a7324dd3659da7aded2e60f16e64b39f55f9f864a45721f96f9ba69"), looks := true }, kinds := [], alts := [], laidByText := true, laidKinds := [.data, .data, .data, .sentinel, .sentinel, .sentinel], laidTests := true, laidLooks := .later }
def ReportParsesCardSaid : Prop := Claim7.holds Tryz.pinned (.plain (OpenSpec.ofChange reportParsesSpec)) reportParsesCard

/-- THE SECOND FORM's CARD OF 'fiduciallaw58.ReportChecks'. -/
def reportChecksUptoCard : Claim7 := { stood := { row := reportChecksUptoRow, standIns := [], harness := (true, "af41ae100a7324dd3659da7aded2e60f16e64b39f55f9f864a45721f96f9ba69"), looks := true }, kinds := [], alts := [], laidByText := true, laidKinds := [.data, .data, .data, .sentinel], laidTests := true, laidLooks := .later }
def ReportChecksUptoCardSaid : Prop := Claim7.holds Tryz.pinned (.plain (OpenSpec.upto reportChecksSpec)) reportChecksUptoCard

/-- THE SECOND FORM's CARD OF 'fiduciallaw58.ReportCounts'. -/
def reportCountsUptoCard : Claim7 := { stood := { row := reportCountsUptoRow, standIns := [], harness := (true, "af41ae100a7324dd3659da7aded2e60f16e64b39f55f9f864a45721f96f9ba69"), looks := true }, kinds := [], alts := [], laidByText := true, laidKinds := [.data, .data, .data, .sentinel], laidTests := true, laidLooks := .later }
def ReportCountsUptoCardSaid : Prop := Claim7.holds Tryz.pinned (.plain (OpenSpec.upto reportCountsSpec)) reportCountsUptoCard

/-- THE SECOND FORM's CARD OF 'fiduciallaw58.ReportPrints'. -/
def reportPrintsUptoCard : Claim7 := { stood := { row := reportPrintsUptoRow, standIns := [], harness := (true, "af41ae100a7324dd3659da7aded2e60f16e64b39f55f9f864a45721f96f9ba69"), looks := true }, kinds := [], alts := [], laidByText := true, laidKinds := [.data, .data, .data, .sentinel, .sentinel, .sentinel], laidTests := true, laidLooks := .later }
def ReportPrintsUptoCardSaid : Prop := Claim7.holds Tryz.pinned (.plain (OpenSpec.upto reportPrintsSpec)) reportPrintsUptoCard

/-- THE SECOND FORM's CARD OF 'fiduciallaw58.ReportParses'. -/
def reportParsesUptoCard : Claim7 := { stood := { row := reportParsesUptoRow, standIns := [], harness := (true, "af41ae100a7324dd3659da7aded2e60f16e64b39f55f9f864a45721f96f9ba69"), looks := true }, kinds := [], alts := [], laidByText := true, laidKinds := [.data, .data, .data, .sentinel, .sentinel, .sentinel], laidTests := true, laidLooks := .later }
def ReportParsesUptoCardSaid : Prop := Claim7.holds Tryz.pinned (.plain (OpenSpec.upto reportParsesSpec)) reportParsesUptoCard
end Rows
end Go.Proofs.YtgcigdahjabimaaGreatDoor
