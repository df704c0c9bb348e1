/-
  DERIVED. GIVEN WITH THE SEED: THE CARDS: each row of YtmochehkkadjnaaGreatDoorRows.lean that lists a variable, with what it lists TIED to the program's text (the seventh form; the later family's looks); each row that meets fmt, with fmt's text TOLD by the authors' own Lean function (tested against real Go, not proved from fmt's source: count such statements apart). THE CARD IS WHAT COUNTS. Prove the row's statement (the work); the ties are given (YtmochehkkadjnaaGreatDoorTie.lean); close each card by the builder's one call (the guide's Derived/Test/ToyasCard.lean, 'card_holds'). Laid BY PROGRAM, IN A SANDBOX (cutbox-door.mjs). By AI agents, Wed Nov 11 2026. No macro, syntax, notation, axiom, sorry.
-/
import Derived.Test.YtmochehkkadjnaaGreatDoorRows
import GoSem.ClaimSeven
namespace Go.Proofs.YtmochehkkadjnaaGreatDoor
namespace Rows

/-- THE TIED CARD OF 'fiduciallaw02.FractionMakes'. -/
def fractionMakesCard : Claim7 := { stood := { row := fractionMakesRow, standIns := [], harness := (true, "a616faee00d4f13b9f9768a5219a08976efedba6f8c14a49915db66d36c0a7be"), looks := true }, kinds := [], alts := [], laidByText := true, laidKinds := [.data, .data, .data, .sentinel], laidTests := true, laidLooks := .later }
def FractionMakesCardSaid : Prop := Claim7.holds Tryz.pinned (.plain (OpenSpec.ofChange fractionMakesSpec)) fractionMakesCard

/-- THE TIED CARD OF 'fiduciallaw02.FractionField'. -/
def fractionFieldCard : Claim7 := { stood := { row := fractionFieldRow, standIns := [], harness := (true, "a616faee00d4f13b9f9768a5219a08976efedba6f8c14a49915db66d36c0a7be"), looks := true }, kinds := [], alts := [], laidByText := true, laidKinds := [.data, .data, .data, .sentinel], laidTests := true, laidLooks := .later }
def FractionFieldCardSaid : Prop := Claim7.holds Tryz.pinned (.plain (OpenSpec.ofChange fractionFieldSpec)) fractionFieldCard

/-- THE TIED CARD OF 'fiduciallaw02.FractionRoots'. -/
def fractionRootsCard : Claim7 := { stood := { row := fractionRootsRow, standIns := [], harness := (true, "a616faee00d4f13b9f9768a5219a08976efedba6f8c14a49915db66d36c0a7be"), looks := true }, kinds := [], alts := [], laidByText := true, laidKinds := [.data, .data, .data, .sentinel], laidTests := true, laidLooks := .later }
def FractionRootsCardSaid : Prop := Claim7.holds Tryz.pinned (.plain (OpenSpec.ofChange fractionRootsSpec)) fractionRootsCard

/-- THE TIED CARD OF 'fiduciallaw02.FractionSimplest'. -/
def fractionSimplestCard : Claim7 := { stood := { row := fractionSimplestRow, standIns := [], harness := (true, "a616faee00d4f13b9f9768a5219a08976efedba6f8c14a49915db66d36c0a7be"), looks := true }, kinds := [], alts := [], laidByText := true, laidKinds := [.data, .data, .data, .sentinel], laidTests := true, laidLooks := .later }
def FractionSimplestCardSaid : Prop := Claim7.holds Tryz.pinned (.plain (OpenSpec.ofChange fractionSimplestSpec)) fractionSimplestCard

/-- THE TIED CARD OF 'fiduciallaw02.FractionNoSimpler'. -/
def fractionNoSimplerCard : Claim7 := { stood := { row := fractionNoSimplerRow, standIns := [], harness := (true, "a616faee00d4f13b9f9768a5219a08976efedba6f8c14a49915db66d36c0a7be"), looks := true }, kinds := [], alts := [], laidByText := true, laidKinds := [.data, .data, .data, .sentinel], laidTests := true, laidLooks := .later }
def FractionNoSimplerCardSaid : Prop := Claim7.holds Tryz.pinned (.plain (OpenSpec.ofChange fractionNoSimplerSpec)) fractionNoSimplerCard

/-- THE TIED CARD OF 'fiduciallaw02.FractionWhole'. -/
def fractionWholeCard : Claim7 := { stood := { row := fractionWholeRow, standIns := [], harness := (true, "a616faee00d4f13b9f9768a5219a08976efedba6f8c14a49915db66d36c0a7be"), looks := true }, kinds := [], alts := [], laidByText := true, laidKinds := [.data, .data, .data, .sentinel], laidTests := true, laidLooks := .later }
def FractionWholeCardSaid : Prop := Claim7.holds Tryz.pinned (.plain (OpenSpec.ofChange fractionWholeSpec)) fractionWholeCard

/-- THE TIED CARD OF 'fiduciallaw02.FractionRounds'. -/
def fractionRoundsCard : Claim7 := { stood := { row := fractionRoundsRow, standIns := [], harness := (true, "a616faee00d4f13b9f9768a5219a08976efedba6f8c14a49915db66d36c0a7be"), looks := true }, kinds := [], alts := [], laidByText := true, laidKinds := [.data, .data, .data, .sentinel], laidTests := true, laidLooks := .later }
def FractionRoundsCardSaid : Prop := Claim7.holds Tryz.pinned (.plain (OpenSpec.ofChange fractionRoundsSpec)) fractionRoundsCard

/-- THE TIED CARD OF 'fiduciallaw02.FractionOrders'. -/
def fractionOrdersCard : Claim7 := { stood := { row := fractionOrdersRow, standIns := [], harness := (true, "a616faee00d4f13b9f9768a5219a08976efedba6f8c14a49915db66d36c0a7be"), looks := true }, kinds := [], alts := [], laidByText := true, laidKinds := [.data, .data, .data, .sentinel], laidTests := true, laidLooks := .later }
def FractionOrdersCardSaid : Prop := Claim7.holds Tryz.pinned (.plain (OpenSpec.ofChange fractionOrdersSpec)) fractionOrdersCard

/-- THE TIED CARD OF 'fiduciallaw02.FractionArithmetic'. -/
def fractionArithmeticCard : Claim7 := { stood := { row := fractionArithmeticRow, standIns := [], harness := (true, "a616faee00d4f13b9f9768a5219a08976efedba6f8c14a49915db66d36c0a7be"), looks := true }, kinds := [], alts := [], laidByText := true, laidKinds := [.data, .data, .data, .sentinel], laidTests := true, laidLooks := .later }
def FractionArithmeticCardSaid : Prop := Claim7.holds Tryz.pinned (.plain (OpenSpec.ofChange fractionArithmeticSpec)) fractionArithmeticCard

/-- THE TIED CARD OF 'fiduciallaw02.FractionLists'. -/
def fractionListsCard : Claim7 := { stood := { row := fractionListsRow, standIns := [], harness := (true, "a616faee00d4f13b9f9768a5219a08976efedba6f8c14a49915db66d36c0a7be"), looks := true }, kinds := [], alts := [], laidByText := true, laidKinds := [.data, .data, .data, .sentinel], laidTests := true, laidLooks := .later }
def FractionListsCardSaid : Prop := Claim7.holds Tryz.pinned (.plain (OpenSpec.ofChange fractionListsSpec)) fractionListsCard

/-- THE TIED CARD OF 'fiduciallaw02.FractionText'. -/
def fractionTextCard : Claim7 := { stood := { row := fractionTextRow, standIns := [], harness := (true, "a616faee00d4f13b9f9768a5219a08976efedba6f8c14a49915db66d36c0a7be"), looks := true }, kinds := [], alts := [], laidByText := true, laidKinds := [.data, .data, .data, .data, .sentinel, .sentinel, .sentinel, .pinned], laidTests := true, laidLooks := .later }
def FractionTextCardSaid : Prop := Claim7.holds Tryz.pinned (.plain (OpenSpec.ofChange fractionTextSpec)) fractionTextCard

/-- THE TIED CARD OF 'fiduciallaw02.FractionParse'. -/
def fractionParseCard : Claim7 := { stood := { row := fractionParseRow, standIns := [], harness := (true, "a616faee00d4f13b9f9768a5219a08976efedba6f8c14a49915db66d36c0a7be"), looks := true }, kinds := [], alts := [], laidByText := true, laidKinds := [.data, .data, .data, .data, .sentinel, .sentinel, .sentinel, .pinned], laidTests := true, laidLooks := .later }
def FractionParseCardSaid : Prop := Claim7.holds Tryz.pinned (.plain (OpenSpec.ofChange fractionParseSpec)) fractionParseCard

/-- THE SECOND FORM's CARD OF 'fiduciallaw02.FractionMakes'. -/
def fractionMakesUptoCard : Claim7 := { stood := { row := fractionMakesUptoRow, standIns := [], harness := (true, "a616faee00d4f13b9f9768a5219a08976efedba6f8c14a49915db66d36c0a7be"), looks := true }, kinds := [], alts := [], laidByText := true, laidKinds := [.data, .data, .data, .sentinel], laidTests := true, laidLooks := .later }
def FractionMakesUptoCardSaid : Prop := Claim7.holds Tryz.pinned (.plain (OpenSpec.upto fractionMakesSpec)) fractionMakesUptoCard

/-- THE SECOND FORM's CARD OF 'fiduciallaw02.FractionField'. -/
def fractionFieldUptoCard : Claim7 := { stood := { row := fractionFieldUptoRow, standIns := [], harness := (true, "a616faee00d4f13b9f9768a5219a08976efedba6f8c14a49915db66d36c0a7be"), looks := true }, kinds := [], alts := [], laidByText := true, laidKinds := [.data, .data, .data, .sentinel], laidTests := true, laidLooks := .later }
def FractionFieldUptoCardSaid : Prop := Claim7.holds Tryz.pinned (.plain (OpenSpec.upto fractionFieldSpec)) fractionFieldUptoCard

/-- THE SECOND FORM's CARD OF 'fiduciallaw02.FractionRoots'. -/
def fractionRootsUptoCard : Claim7 := { stood := { row := fractionRootsUptoRow, standIns := [], harness := (true, "a616faee00d4f13b9f9768a5219a08976efedba6f8c14a49915db66d36c0a7be"), looks := true }, kinds := [], alts := [], laidByText := true, laidKinds := [.data, .data, .data, .sentinel], laidTests := true, laidLooks := .later }
def FractionRootsUptoCardSaid : Prop := Claim7.holds Tryz.pinned (.plain (OpenSpec.upto fractionRootsSpec)) fractionRootsUptoCard

/-- THE SECOND FORM's CARD OF 'fiduciallaw02.FractionSimplest'. -/
def fractionSimplestUptoCard : Claim7 := { stood := { row := fractionSimplestUptoRow, standIns := [], harness := (true, "a616faee00d4f13b9f9768a5219a08976efedba6f8c14a49915db66d36c0a7be"), looks := true }, kinds := [], alts := [], laidByText := true, laidKinds := [.data, .data, .data, .sentinel], laidTests := true, laidLooks := .later }
def FractionSimplestUptoCardSaid : Prop := Claim7.holds Tryz.pinned (.plain (OpenSpec.upto fractionSimplestSpec)) fractionSimplestUptoCard

/-- THE SECOND FORM's CARD OF 'fiduciallaw02.FractionNoSimpler'. -/
def fractionNoSimplerUptoCard : Claim7 := { stood := { row := fractionNoSimplerUptoRow, standIns := [], harness := (true, "a616faee00d4f13b9f9768a5219a08976efedba6f8c14a49915db66d36c0a7be"), looks := true }, kinds := [], alts := [], laidByText := true, laidKinds := [.data, .data, .data, .sentinel], laidTests := true, laidLooks := .later }
def FractionNoSimplerUptoCardSaid : Prop := Claim7.holds Tryz.pinned (.plain (OpenSpec.upto fractionNoSimplerSpec)) fractionNoSimplerUptoCard

/-- THE SECOND FORM's CARD OF 'fiduciallaw02.FractionWhole'. -/
def fractionWholeUptoCard : Claim7 := { stood := { row := fractionWholeUptoRow, standIns := [], harness := (true, "a616faee00d4f13b9f9768a5219a08976efedba6f8c14a49915db66d36c0a7be"), looks := true }, kinds := [], alts := [], laidByText := true, laidKinds := [.data, .data, .data, .sentinel], laidTests := true, laidLooks := .later }
def FractionWholeUptoCardSaid : Prop := Claim7.holds Tryz.pinned (.plain (OpenSpec.upto fractionWholeSpec)) fractionWholeUptoCard

/-- THE SECOND FORM's CARD OF 'fiduciallaw02.FractionRounds'. -/
def fractionRoundsUptoCard : Claim7 := { stood := { row := fractionRoundsUptoRow, standIns := [], harness := (true, "a616faee00d4f13b9f9768a5219a08976efedba6f8c14a49915db66d36c0a7be"), looks := true }, kinds := [], alts := [], laidByText := true, laidKinds := [.data, .data, .data, .sentinel], laidTests := true, laidLooks := .later }
def FractionRoundsUptoCardSaid : Prop := Claim7.holds Tryz.pinned (.plain (OpenSpec.upto fractionRoundsSpec)) fractionRoundsUptoCard

/-- THE SECOND FORM's CARD OF 'fiduciallaw02.FractionOrders'. -/
def fractionOrdersUptoCard : Claim7 := { stood := { row := fractionOrdersUptoRow, standIns := [], harness := (true, "a616faee00d4f13b9f9768a5219a08976efedba6f8c14a49915db66d36c0a7be"), looks := true }, kinds := [], alts := [], laidByText := true, laidKinds := [.data, .data, .data, .sentinel], laidTests := true, laidLooks := .later }
def FractionOrdersUptoCardSaid : Prop := Claim7.holds Tryz.pinned (.plain (OpenSpec.upto fractionOrdersSpec)) fractionOrdersUptoCard

/-- THE SECOND FORM's CARD OF 'fiduciallaw02.FractionArithmetic'. -/
def fractionArithmeticUptoCard : Claim7 := { stood := { row := fractionArithmeticUptoRow, standIns := [], harness := (true, "a616faee00d4f13b9f9768a5219a08976efedba6f8c14a49915db66d36c0a7be"), looks := true }, kinds := [], alts := [], laidByText := true, laidKinds := [.data, .data, .data, .sentinel], laidTests := true, laidLooks := .later }
def FractionArithmeticUptoCardSaid : Prop := Claim7.holds Tryz.pinned (.plain (OpenSpec.upto fractionArithmeticSpec)) fractionArithmeticUptoCard

/-- THE SECOND FORM's CARD OF 'fiduciallaw02.FractionLists'. -/
def fractionListsUptoCard : Claim7 := { stood := { row := fractionListsUptoRow, standIns := [], harness := (true, "a616faee00d4f13b9f9768a5219a08976efedba6f8c14a49915db66d36c0a7be"), looks := true }, kinds := [], alts := [], laidByText := true, laidKinds := [.data, .data, .data, .sentinel], laidTests := true, laidLooks := .later }
def FractionListsUptoCardSaid : Prop := Claim7.holds Tryz.pinned (.plain (OpenSpec.upto fractionListsSpec)) fractionListsUptoCard

/-- THE SECOND FORM's CARD OF 'fiduciallaw02.FractionText'. -/
def fractionTextUptoCard : Claim7 := { stood := { row := fractionTextUptoRow, standIns := [], harness := (true, "a616faee00d4f13b9f9768a5219a08976efedba6f8c14a49915db66d36c0a7be"), looks := true }, kinds := [], alts := [], laidByText := true, laidKinds := [.data, .data, .data, .data, .sentinel, .sentinel, .sentinel, .pinned], laidTests := true, laidLooks := .later }
def FractionTextUptoCardSaid : Prop := Claim7.holds Tryz.pinned (.plain (OpenSpec.upto fractionTextSpec)) fractionTextUptoCard

/-- THE SECOND FORM's CARD OF 'fiduciallaw02.FractionParse'. -/
def fractionParseUptoCard : Claim7 := { stood := { row := fractionParseUptoRow, standIns := [], harness := (true, "a616faee00d4f13b9f9768a5219a08976efedba6f8c14a49915db66d36c0a7be"), looks := true }, kinds := [], alts := [], laidByText := true, laidKinds := [.data, .data, .data, .data, .sentinel, .sentinel, .sentinel, .pinned], laidTests := true, laidLooks := .later }
def FractionParseUptoCardSaid : Prop := Claim7.holds Tryz.pinned (.plain (OpenSpec.upto fractionParseSpec)) fractionParseUptoCard
end Rows
end Go.Proofs.YtmochehkkadjnaaGreatDoor
