/-
  DERIVED. GIVEN WITH THE SEED: THE CARDS: each row of YtomjnjpehokjbaaDoorRows.lean that lists a variable, with what it lists TIED to the program's text (the seventh form; the later family's looks); each row that meets fmt, with fmt's text TOLD by the authors' own Lean function (tested against real Go, not proved from fmt's source: count such statements apart). THE CARD IS WHAT COUNTS. Prove the row's statement (the work); the ties are given (YtomjnjpehokjbaaDoorTie.lean); close each card by the builder's one call (the guide's Derived/Test/ToyasCard.lean, 'card_holds'). Laid BY PROGRAM, IN A SANDBOX (cutbox-door.mjs). By AI agents, Wed Nov 11 2026. No macro, syntax, notation, axiom, sorry.
-/
import Derived.Test.YtomjnjpehokjbaaDoorRows
import GoSem.ClaimSeven
namespace Go.Proofs.YtomjnjpehokjbaaDoor
namespace Rows

/-- THE TIED CARD OF 'fiduciallaw12.CodecBack'. -/
def codecBackCard : Claim7 := { stood := { row := codecBackRow, standIns := [], harness := (true, "68ae4e29d741a72b75c67f631738ea63fab0a26907be9baf52ca85a35d2b20d4"), looks := true }, kinds := [], alts := [], laidByText := true, laidKinds := [.data, .data, .data, .sentinel, .sentinel, .sentinel], laidTests := true, laidLooks := .later }
def CodecBackCardSaid : Prop := Claim7.holds Tryd.pinned (.plain (OpenSpec.ofChange codecBackSpec)) codecBackCard

/-- THE TIED CARD OF 'fiduciallaw12.CodecEquals'. -/
def codecEqualsCard : Claim7 := { stood := { row := codecEqualsRow, standIns := [], harness := (true, "68ae4e29d741a72b75c67f631738ea63fab0a26907be9baf52ca85a35d2b20d4"), looks := true }, kinds := [], alts := [], laidByText := true, laidKinds := [.data, .data, .data, .sentinel, .sentinel, .sentinel], laidTests := true, laidLooks := .later }
def CodecEqualsCardSaid : Prop := Claim7.holds Tryd.pinned (.plain (OpenSpec.ofChange codecEqualsSpec)) codecEqualsCard

/-- THE TIED CARD OF 'fiduciallaw12.CodecDigests'. -/
def codecDigestsCard : Claim7 := { stood := { row := codecDigestsRow, standIns := [], harness := (true, "68ae4e29d741a72b75c67f631738ea63fab0a26907be9baf52ca85a35d2b20d4"), looks := true }, kinds := [], alts := [], laidByText := true, laidKinds := [.data, .data, .data, .sentinel, .sentinel, .sentinel], laidTests := true, laidLooks := .later }
def CodecDigestsCardSaid : Prop := Claim7.holds Tryd.pinned (.plain (OpenSpec.ofChange codecDigestsSpec)) codecDigestsCard

/-- THE TIED CARD OF 'fiduciallaw12.CodecEncodes'. -/
def codecEncodesCard : Claim7 := { stood := { row := codecEncodesRow, standIns := [], harness := (true, "68ae4e29d741a72b75c67f631738ea63fab0a26907be9baf52ca85a35d2b20d4"), looks := true }, kinds := [], alts := [], laidByText := true, laidKinds := [.data, .data, .data, .sentinel, .sentinel, .sentinel], laidTests := true, laidLooks := .later }
def CodecEncodesCardSaid : Prop := Claim7.holds Tryd.pinned (.plain (OpenSpec.ofChange codecEncodesSpec)) codecEncodesCard

/-- THE SECOND FORM's CARD OF 'fiduciallaw12.CodecBack'. -/
def codecBackUptoCard : Claim7 := { stood := { row := codecBackUptoRow, standIns := [], harness := (true, "68ae4e29d741a72b75c67f631738ea63fab0a26907be9baf52ca85a35d2b20d4"), looks := true }, kinds := [], alts := [], laidByText := true, laidKinds := [.data, .data, .data, .sentinel, .sentinel, .sentinel], laidTests := true, laidLooks := .later }
def CodecBackUptoCardSaid : Prop := Claim7.holds Tryd.pinned (.plain (OpenSpec.upto codecBackSpec)) codecBackUptoCard

/-- THE SECOND FORM's CARD OF 'fiduciallaw12.CodecEquals'. -/
def codecEqualsUptoCard : Claim7 := { stood := { row := codecEqualsUptoRow, standIns := [], harness := (true, "68ae4e29d741a72b75c67f631738ea63fab0a26907be9baf52ca85a35d2b20d4"), looks := true }, kinds := [], alts := [], laidByText := true, laidKinds := [.data, .data, .data, .sentinel, .sentinel, .sentinel], laidTests := true, laidLooks := .later }
def CodecEqualsUptoCardSaid : Prop := Claim7.holds Tryd.pinned (.plain (OpenSpec.upto codecEqualsSpec)) codecEqualsUptoCard

/-- THE SECOND FORM's CARD OF 'fiduciallaw12.CodecDigests'. -/
def codecDigestsUptoCard : Claim7 := { stood := { row := codecDigestsUptoRow, standIns := [], harness := (true, "68ae4e29d741a72b75c67f631738ea63fab0a26907be9baf52ca85a35d2b20d4"), looks := true }, kinds := [], alts := [], laidByText := true, laidKinds := [.data, .data, .data, .sentinel, .sentinel, .sentinel], laidTests := true, laidLooks := .later }
def CodecDigestsUptoCardSaid : Prop := Claim7.holds Tryd.pinned (.plain (OpenSpec.upto codecDigestsSpec)) codecDigestsUptoCard

/-- THE SECOND FORM's CARD OF 'fiduciallaw12.CodecEncodes'. -/
def codecEncodesUptoCard : Claim7 := { stood := { row := codecEncodesUptoRow, standIns := [], harness := (true, "68ae4e29d741a72b75c67f631738ea63fab0a26907be9baf52ca85a35d2b20d4"), looks := true }, kinds := [], alts := [], laidByText := true, laidKinds := [.data, .data, .data, .sentinel, .sentinel, .sentinel], laidTests := true, laidLooks := .later }
def CodecEncodesUptoCardSaid : Prop := Claim7.holds Tryd.pinned (.plain (OpenSpec.upto codecEncodesSpec)) codecEncodesUptoCard
end Rows
end Go.Proofs.YtomjnjpehokjbaaDoor
