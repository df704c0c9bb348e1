/-
  DERIVED. GIVEN WITH THE SEED: THE CARDS: each row of YtomjnjpehokjbaaGreatDoorRows.lean that lists a variable, with what it lists TIED to the program's text (the seventh form; the later family's looks); each row that meets fmt, with fmt's text TOLD by the authors' own Lean function (tested against real Go, not proved from fmt's source: count such statements apart). THE CARD IS WHAT COUNTS. Prove the row's statement (the work); the ties are given (YtomjnjpehokjbaaGreatDoorTie.lean); close each card by the builder's one call (the guide's Derived/Test/ToyasCard.lean, 'card_holds'). Laid BY PROGRAM, IN A SANDBOX (cutbox-door.mjs). By AI agents, Wed Nov 11 2026. No macro, syntax, notation, axiom, sorry.
-/
import Derived.Test.YtomjnjpehokjbaaGreatDoorRows
import GoSem.ClaimSeven
namespace Go.Proofs.YtomjnjpehokjbaaGreatDoor
namespace Rows

/-- THE TIED CARD OF 'fiduciallaw12.CodecDecodes'. -/
def codecDecodesCard : Claim7 := { stood := { row := codecDecodesRow, standIns := [], harness := (true, "62a020db5c350c0afff63b4d258503b987a9ecebde4387b4cefb3eee6a3f016f"), looks := true }, kinds := [], alts := [], laidByText := true, laidKinds := [.data, .data, .data, .sentinel, .sentinel, .sentinel], laidTests := true, laidLooks := .later }
def CodecDecodesCardSaid : Prop := Claim7.holds Tryz.pinned (.plain (OpenSpec.ofChange codecDecodesSpec)) codecDecodesCard

/-- THE TIED CARD OF 'fiduciallaw12.CodecInts'. -/
def codecIntsCard : Claim7 := { stood := { row := codecIntsRow, standIns := [], harness := (true, "62a020db5c350c0afff63b4d258503b987a9ecebde4387b4cefb3eee6a3f016f"), looks := true }, kinds := [], alts := [], laidByText := true, laidKinds := [.data, .data, .data, .sentinel, .sentinel, .sentinel], laidTests := true, laidLooks := .later }
def CodecIntsCardSaid : Prop := Claim7.holds Tryz.pinned (.plain (OpenSpec.ofChange codecIntsSpec)) codecIntsCard

/-- THE TIED CARD OF 'fiduciallaw12.CodecRats'. -/
def codecRatsCard : Claim7 := { stood := { row := codecRatsRow, standIns := [], harness := (true, "62a020db5c350c0afff63b4d258503b987a9ecebde4387b4cefb3eee6a3f016f"), looks := true }, kinds := [], alts := [], laidByText := true, laidKinds := [.data, .data, .data, .sentinel, .sentinel, .sentinel], laidTests := true, laidLooks := .later }
def CodecRatsCardSaid : Prop := Claim7.holds Tryz.pinned (.plain (OpenSpec.ofChange codecRatsSpec)) codecRatsCard

/-- THE SECOND FORM's CARD OF 'fiduciallaw12.CodecDecodes'. -/
def codecDecodesUptoCard : Claim7 := { stood := { row := codecDecodesUptoRow, standIns := [], harness := (true, "62a020db5c350c0afff63b4d258503b987a9ecebde4387b4cefb3eee6a3f016f"), looks := true }, kinds := [], alts := [], laidByText := true, laidKinds := [.data, .data, .data, .sentinel, .sentinel, .sentinel], laidTests := true, laidLooks := .later }
def CodecDecodesUptoCardSaid : Prop := Claim7.holds Tryz.pinned (.plain (OpenSpec.upto codecDecodesSpec)) codecDecodesUptoCard

/-- THE SECOND FORM's CARD OF 'fiduciallaw12.CodecInts'. -/
def codecIntsUptoCard : Claim7 := { stood := { row := codecIntsUptoRow, standIns := [], harness := (true, "62a020db5c350c0afff63b4d258503b987a9ecebde4387b4cefb3eee6a3f016f"), looks := true }, kinds := [], alts := [], laidByText := true, laidKinds := [.data, .data, .data, .sentinel, .sentinel, .sentinel], laidTests := true, laidLooks := .later }
def CodecIntsUptoCardSaid : Prop := Claim7.holds Tryz.pinned (.plain (OpenSpec.upto codecIntsSpec)) codecIntsUptoCard

/-- THE SECOND FORM's CARD OF 'fiduciallaw12.CodecRats'. -/
def codecRatsUptoCard : Claim7 := { stood := { row := codecRatsUptoRow, standIns := [], harness := (true, "62a020db5c350c0afff63b4d258503b987a9ecebde4387b4cefb3eee6a3f016f"), looks := true }, kinds := [], alts := [], laidByText := true, laidKinds := [.data, .data, .data, .sentinel, .sentinel, .sentinel], laidTests := true, laidLooks := .later }
def CodecRatsUptoCardSaid : Prop := Claim7.holds Tryz.pinned (.plain (OpenSpec.upto codecRatsSpec)) codecRatsUptoCard
end Rows
end Go.Proofs.YtomjnjpehokjbaaGreatDoor
