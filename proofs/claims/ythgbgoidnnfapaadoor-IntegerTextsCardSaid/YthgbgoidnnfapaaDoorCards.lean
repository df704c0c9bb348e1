/-
  DERIVED. GIVEN WITH THE SEED: THE CARDS: each row of YthgbgoidnnfapaaDoorRows.lean that lists a variable, with what it lists TIED to the program's text (the seventh form; the later family's looks); each row that meets fmt, with fmt's text TOLD by the authors' own Lean function (tested against real Go, not proved from fmt's source: count such statements apart). THE CARD IS WHAT COUNTS. Prove the row's statement (the work); the ties are given (YthgbgoidnnfapaaDoorTie.lean); close each card by the builder's one call (the guide's Derived/Test/ToyasCard.lean, 'card_holds'). Laid BY PROGRAM, IN A SANDBOX (cutbox-door.mjs). By AI agents, Wed Nov 11 2026. No macro, syntax, notation, axiom, sorry.
-/
import Derived.Test.YthgbgoidnnfapaaDoorRows
import GoSem.ClaimSeven
namespace Go.Proofs.YthgbgoidnnfapaaDoor
namespace Rows

/-- THE TIED CARD OF 'fiduciallaw01.IntegerInts'. -/
def integerIntsCard : Claim7 := { stood := { row := integerIntsRow, standIns := [], harness := (true, "cae5af81889296bb5fbad1bf406f8cf7258a5af05b1cfda6dcb56e891afacf5d"), looks := true }, kinds := [], alts := [], laidByText := true, laidKinds := [.data, .data, .data, .sentinel], laidTests := true, laidLooks := .later }
def IntegerIntsCardSaid : Prop := Claim7.holds Tryd.pinned (.plain (OpenSpec.ofChange integerIntsSpec)) integerIntsCard

/-- THE TIED CARD OF 'fiduciallaw01.IntegerRing'. -/
def integerRingCard : Claim7 := { stood := { row := integerRingRow, standIns := [], harness := (true, "cae5af81889296bb5fbad1bf406f8cf7258a5af05b1cfda6dcb56e891afacf5d"), looks := true }, kinds := [], alts := [], laidByText := true, laidKinds := [.data, .data, .data, .sentinel], laidTests := true, laidLooks := .later }
def IntegerRingCardSaid : Prop := Claim7.holds Tryd.pinned (.plain (OpenSpec.ofChange integerRingSpec)) integerRingCard

/-- THE TIED CARD OF 'fiduciallaw01.IntegerOrder'. -/
def integerOrderCard : Claim7 := { stood := { row := integerOrderRow, standIns := [], harness := (true, "cae5af81889296bb5fbad1bf406f8cf7258a5af05b1cfda6dcb56e891afacf5d"), looks := true }, kinds := [], alts := [], laidByText := true, laidKinds := [.data, .data, .data, .sentinel], laidTests := true, laidLooks := .later }
def IntegerOrderCardSaid : Prop := Claim7.holds Tryd.pinned (.plain (OpenSpec.ofChange integerOrderSpec)) integerOrderCard

/-- THE TIED CARD OF 'fiduciallaw01.IntegerForms'. -/
def integerFormsCard : Claim7 := { stood := { row := integerFormsRow, standIns := [], harness := (true, "cae5af81889296bb5fbad1bf406f8cf7258a5af05b1cfda6dcb56e891afacf5d"), looks := true }, kinds := [], alts := [], laidByText := true, laidKinds := [.data, .data, .data, .sentinel], laidTests := true, laidLooks := .later }
def IntegerFormsCardSaid : Prop := Claim7.holds Tryd.pinned (.plain (OpenSpec.ofChange integerFormsSpec)) integerFormsCard

/-- THE TIED CARD OF 'fiduciallaw01.IntegerDivides'. -/
def integerDividesCard : Claim7 := { stood := { row := integerDividesRow, standIns := [], harness := (true, "cae5af81889296bb5fbad1bf406f8cf7258a5af05b1cfda6dcb56e891afacf5d"), looks := true }, kinds := [], alts := [], laidByText := true, laidKinds := [.data, .data, .data, .sentinel], laidTests := true, laidLooks := .later }
def IntegerDividesCardSaid : Prop := Claim7.holds Tryd.pinned (.plain (OpenSpec.ofChange integerDividesSpec)) integerDividesCard

/-- THE TIED CARD OF 'fiduciallaw01.IntegerGcds'. -/
def integerGcdsCard : Claim7 := { stood := { row := integerGcdsRow, standIns := [], harness := (true, "cae5af81889296bb5fbad1bf406f8cf7258a5af05b1cfda6dcb56e891afacf5d"), looks := true }, kinds := [], alts := [], laidByText := true, laidKinds := [.data, .data, .data, .sentinel], laidTests := true, laidLooks := .later }
def IntegerGcdsCardSaid : Prop := Claim7.holds Tryd.pinned (.plain (OpenSpec.ofChange integerGcdsSpec)) integerGcdsCard

/-- THE TIED CARD OF 'fiduciallaw01.IntegerPowers'. -/
def integerPowersCard : Claim7 := { stood := { row := integerPowersRow, standIns := [], harness := (true, "cae5af81889296bb5fbad1bf406f8cf7258a5af05b1cfda6dcb56e891afacf5d"), looks := true }, kinds := [], alts := [], laidByText := true, laidKinds := [.data, .data, .data, .sentinel], laidTests := true, laidLooks := .later }
def IntegerPowersCardSaid : Prop := Claim7.holds Tryd.pinned (.plain (OpenSpec.ofChange integerPowersSpec)) integerPowersCard

/-- THE TIED CARD OF 'fiduciallaw01.IntegerTexts'. -/
def integerTextsCard : Claim7 := { stood := { row := integerTextsRow, standIns := [], harness := (true, "cae5af81889296bb5fbad1bf406f8cf7258a5af05b1cfda6dcb56e891afacf5d"), looks := true }, kinds := [], alts := [], laidByText := true, laidKinds := [.data, .data, .data, .sentinel, .sentinel, .sentinel], laidTests := true, laidLooks := .later }
def IntegerTextsCardSaid : Prop := Claim7.holds Tryd.pinned (.plain (OpenSpec.ofChange integerTextsSpec)) integerTextsCard

/-- THE SECOND FORM's CARD OF 'fiduciallaw01.IntegerInts'. -/
def integerIntsUptoCard : Claim7 := { stood := { row := integerIntsUptoRow, standIns := [], harness := (true, "cae5af81889296bb5fbad1bf406f8cf7258a5af05b1cfda6dcb56e891afacf5d"), looks := true }, kinds := [], alts := [], laidByText := true, laidKinds := [.data, .data, .data, .sentinel], laidTests := true, laidLooks := .later }
def IntegerIntsUptoCardSaid : Prop := Claim7.holds Tryd.pinned (.plain (OpenSpec.upto integerIntsSpec)) integerIntsUptoCard

/-- THE SECOND FORM's CARD OF 'fiduciallaw01.IntegerRing'. -/
def integerRingUptoCard : Claim7 := { stood := { row := integerRingUptoRow, standIns := [], harness := (true, "cae5af81889296bb5fbad1bf406f8cf7258a5af05b1cfda6dcb56e891afacf5d"), looks := true }, kinds := [], alts := [], laidByText := true, laidKinds := [.data, .data, .data, .sentinel], laidTests := true, laidLooks := .later }
def IntegerRingUptoCardSaid : Prop := Claim7.holds Tryd.pinned (.plain (OpenSpec.upto integerRingSpec)) integerRingUptoCard

/-- THE SECOND FORM's CARD OF 'fiduciallaw01.IntegerOrder'. -/
def integerOrderUptoCard : Claim7 := { stood := { row := integerOrderUptoRow, standIns := [], harness := (true, "cae5af81889296bb5fbad1bf406f8cf7258a5af05b1cfda6dcb56e891afacf5d"), looks := true }, kinds := [], alts := [], laidByText := true, laidKinds := [.data, .data, .data, .sentinel], laidTests := true, laidLooks := .later }
def IntegerOrderUptoCardSaid : Prop := Claim7.holds Tryd.pinned (.plain (OpenSpec.upto integerOrderSpec)) integerOrderUptoCard

/-- THE SECOND FORM's CARD OF 'fiduciallaw01.IntegerForms'. -/
def integerFormsUptoCard : Claim7 := { stood := { row := integerFormsUptoRow, standIns := [], harness := (true, "cae5af81889296bb5fbad1bf406f8cf7258a5af05b1cfda6dcb56e891afacf5d"), looks := true }, kinds := [], alts := [], laidByText := true, laidKinds := [.data, .data, .data, .sentinel], laidTests := true, laidLooks := .later }
def IntegerFormsUptoCardSaid : Prop := Claim7.holds Tryd.pinned (.plain (OpenSpec.upto integerFormsSpec)) integerFormsUptoCard

/-- THE SECOND FORM's CARD OF 'fiduciallaw01.IntegerDivides'. -/
def integerDividesUptoCard : Claim7 := { stood := { row := integerDividesUptoRow, standIns := [], harness := (true, "cae5af81889296bb5fbad1bf406f8cf7258a5af05b1cfda6dcb56e891afacf5d"), looks := true }, kinds := [], alts := [], laidByText := true, laidKinds := [.data, .data, .data, .sentinel], laidTests := true, laidLooks := .later }
def IntegerDividesUptoCardSaid : Prop := Claim7.holds Tryd.pinned (.plain (OpenSpec.upto integerDividesSpec)) integerDividesUptoCard

/-- THE SECOND FORM's CARD OF 'fiduciallaw01.IntegerGcds'. -/
def integerGcdsUptoCard : Claim7 := { stood := { row := integerGcdsUptoRow, standIns := [], harness := (true, "cae5af81889296bb5fbad1bf406f8cf7258a5af05b1cfda6dcb56e891afacf5d"), looks := true }, kinds := [], alts := [], laidByText := true, laidKinds := [.data, .data, .data, .sentinel], laidTests := true, laidLooks := .later }
def IntegerGcdsUptoCardSaid : Prop := Claim7.holds Tryd.pinned (.plain (OpenSpec.upto integerGcdsSpec)) integerGcdsUptoCard

/-- THE SECOND FORM's CARD OF 'fiduciallaw01.IntegerPowers'. -/
def integerPowersUptoCard : Claim7 := { stood := { row := integerPowersUptoRow, standIns := [], harness := (true, "cae5af81889296bb5fbad1bf406f8cf7258a5af05b1cfda6dcb56e891afacf5d"), looks := true }, kinds := [], alts := [], laidByText := true, laidKinds := [.data, .data, .data, .sentinel], laidTests := true, laidLooks := .later }
def IntegerPowersUptoCardSaid : Prop := Claim7.holds Tryd.pinned (.plain (OpenSpec.upto integerPowersSpec)) integerPowersUptoCard

/-- THE SECOND FORM's CARD OF 'fiduciallaw01.IntegerTexts'. -/
def integerTextsUptoCard : Claim7 := { stood := { row := integerTextsUptoRow, standIns := [], harness := (true, "cae5af81889296bb5fbad1bf406f8cf7258a5af05b1cfda6dcb56e891afacf5d"), looks := true }, kinds := [], alts := [], laidByText := true, laidKinds := [.data, .data, .data, .sentinel, .sentinel, .sentinel], laidTests := true, laidLooks := .later }
def IntegerTextsUptoCardSaid : Prop := Claim7.holds Tryd.pinned (.plain (OpenSpec.upto integerTextsSpec)) integerTextsUptoCard
end Rows
end Go.Proofs.YthgbgoidnnfapaaDoor
