/-
  NARROWER THAN 'FOR EVERY INPUT', by the rows' own cells (each row's printed sentence says how): FractionMakes: laid · FractionField: laid · FractionRoots: laid · FractionSimplest: laid · FractionNoSimpler: laid · FractionWhole: laid · FractionRounds: laid · FractionOrders: laid · FractionArithmetic: laid · FractionLists: laid · FractionText: laid · FractionParse: laid.
  DERIVED. THE GIVEN ROWS OF THIS SEAT. 12 by the template 'for every input the law returns true; each argument reads behind the call as it read before'; 0 by the template 'total and deterministic' (their statements: YtmochehkkadjnaaGreatDoorTotals.lean).
  GIVEN WITH THE SEED: the statements are not yours to turn. If you find one false, say at which input.
  Laid BY PROGRAM, IN A SANDBOX (cutbox-rows.mjs): the forced cells as the released guide's own fill.sh prints them over the translation cdf120171b07a736… (all of the seat's roots in one cut). By AI agents, Wed Nov 11 2026. No macro, syntax, notation, axiom, sorry.
-/
import Derived.Test.YtmochehkkadjnaaGreatDoorChecked
import GoSem.PinnedTables
import GoSem.Claim
import GoSem.ClaimJoined
import GoSem.ClaimMapViews
import Derived.JoinedTies
import Derived.KernelRfl
namespace Go.Proofs.YtmochehkkadjnaaGreatDoor
/- THE CELL 'sum', in the pinned program and in every row, IS THE sha256 OF THE DUMP (.gsa) THAT YtmochehkkadjnaaGreatDoorProg.lean LOADS. Nothing in Lean hashes anything: it is a label: what it is worth is what the hold of that sum in a sandbox is worth. -/
noncomputable def Tryz.pinned : Pinned := { name := "ytmochehkkadjnaagreatdoor", sum := "cdf120171b07a736866cc401f9b7a6d6f6a919998338a3aafbfb6c2131eab9fc", checked := Tryz.checked }
namespace Rows
def none {H : Type} : Left H := { results := [], args := [] }

/- WHAT THE LISTED PACKAGE-LEVEL VARIABLES READ AS WHEN THE CALL BEGINS. Each datum BY PROGRAM (the guide's laid-datum.mjs) off the statement by which the dump's own 'gosem.cut.vars' lays the variable. In a bare row this is a premise. The card (YtmochehkkadjnaaGreatDoorCards.lean) ties it to the program's text. -/
def laid_math_bits_deBruijn32tab {H : Type} : DataW H := .agg [.lit (.int .u8 0), .lit (.int .u8 1), .lit (.int .u8 28), .lit (.int .u8 2), .lit (.int .u8 29), .lit (.int .u8 14), .lit (.int .u8 24), .lit (.int .u8 3), .lit (.int .u8 30), .lit (.int .u8 22), .lit (.int .u8 20), .lit (.int .u8 15), .lit (.int .u8 25), .lit (.int .u8 17), .lit (.int .u8 4), .lit (.int .u8 8), .lit (.int .u8 31), .lit (.int .u8 27), .lit (.int .u8 13), .lit (.int .u8 23), .lit (.int .u8 21), .lit (.int .u8 19), .lit (.int .u8 16), .lit (.int .u8 7), .lit (.int .u8 26), .lit (.int .u8 12), .lit (.int .u8 18), .lit (.int .u8 6), .lit (.int .u8 11), .lit (.int .u8 5), .lit (.int .u8 10), .lit (.int .u8 9)]
def laid_math_bits_deBruijn64tab {H : Type} : DataW H := .agg [.lit (.int .u8 0), .lit (.int .u8 1), .lit (.int .u8 56), .lit (.int .u8 2), .lit (.int .u8 57), .lit (.int .u8 49), .lit (.int .u8 28), .lit (.int .u8 3), .lit (.int .u8 61), .lit (.int .u8 58), .lit (.int .u8 42), .lit (.int .u8 50), .lit (.int .u8 38), .lit (.int .u8 29), .lit (.int .u8 17), .lit (.int .u8 4), .lit (.int .u8 62), .lit (.int .u8 47), .lit (.int .u8 59), .lit (.int .u8 36), .lit (.int .u8 45), .lit (.int .u8 43), .lit (.int .u8 51), .lit (.int .u8 22), .lit (.int .u8 53), .lit (.int .u8 39), .lit (.int .u8 33), .lit (.int .u8 30), .lit (.int .u8 24), .lit (.int .u8 18), .lit (.int .u8 12), .lit (.int .u8 5), .lit (.int .u8 63), .lit (.int .u8 55), .lit (.int .u8 48), .lit (.int .u8 27), .lit (.int .u8 60), .lit (.int .u8 41), .lit (.int .u8 37), .lit (.int .u8 16), .lit (.int .u8 46), .lit (.int .u8 35), .lit (.int .u8 44), .lit (.int .u8 21), .lit (.int .u8 52), .lit (.int .u8 32), .lit (.int .u8 23), .lit (.int .u8 11), .lit (.int .u8 54), .lit (.int .u8 26), .lit (.int .u8 40), .lit (.int .u8 15), .lit (.int .u8 34), .lit (.int .u8 20), .lit (.int .u8 31), .lit (.int .u8 10), .lit (.int .u8 25), .lit (.int .u8 14), .lit (.int .u8 19), .lit (.int .u8 9), .lit (.int .u8 13), .lit (.int .u8 8), .lit (.int .u8 7), .lit (.int .u8 6)]
def laid_internal_strconv_uint64pow10 {H : Type} : DataW H := .agg [.lit (.int .u64 1), .lit (.int .u64 10), .lit (.int .u64 100), .lit (.int .u64 1000), .lit (.int .u64 10000), .lit (.int .u64 100000), .lit (.int .u64 1000000), .lit (.int .u64 10000000), .lit (.int .u64 100000000), .lit (.int .u64 1000000000), .lit (.int .u64 10000000000), .lit (.int .u64 100000000000), .lit (.int .u64 1000000000000), .lit (.int .u64 10000000000000), .lit (.int .u64 100000000000000), .lit (.int .u64 1000000000000000), .lit (.int .u64 10000000000000000), .lit (.int .u64 100000000000000000), .lit (.int .u64 1000000000000000000), .lit (.int .u64 10000000000000000000)]
def laid_bytes_ErrTooLarge {H : Type} : DataW H := .iface "*errors.errorString" (.ptr (.agg [.lit (.string [98, 121, 116, 101, 115, 46, 66, 117, 102, 102, 101, 114, 58, 32, 116, 111, 111, 32, 108, 97, 114, 103, 101])]))
def laid_unicode_utf8_acceptRanges {H : Type} : DataW H := .agg [.agg [.lit (.int .u8 128), .lit (.int .u8 191)], .agg [.lit (.int .u8 160), .lit (.int .u8 191)], .agg [.lit (.int .u8 128), .lit (.int .u8 159)], .agg [.lit (.int .u8 144), .lit (.int .u8 191)], .agg [.lit (.int .u8 128), .lit (.int .u8 143)], .agg [.lit (.int .u8 0), .lit (.int .u8 0)], .agg [.lit (.int .u8 0), .lit (.int .u8 0)], .agg [.lit (.int .u8 0), .lit (.int .u8 0)], .agg [.lit (.int .u8 0), .lit (.int .u8 0)], .agg [.lit (.int .u8 0), .lit (.int .u8 0)], .agg [.lit (.int .u8 0), .lit (.int .u8 0)], .agg [.lit (.int .u8 0), .lit (.int .u8 0)], .agg [.lit (.int .u8 0), .lit (.int .u8 0)], .agg [.lit (.int .u8 0), .lit (.int .u8 0)], .agg [.lit (.int .u8 0), .lit (.int .u8 0)], .agg [.lit (.int .u8 0), .lit (.int .u8 0)]]
def laid_strconv_ErrRange {H : Type} : DataW H := .iface "*errors.errorString" (.ptr (.agg [.lit (.string [118, 97, 108, 117, 101, 32, 111, 117, 116, 32, 111, 102, 32, 114, 97, 110, 103, 101])]))
def laid_strconv_ErrSyntax {H : Type} : DataW H := .iface "*errors.errorString" (.ptr (.agg [.lit (.string [105, 110, 118, 97, 108, 105, 100, 32, 115, 121, 110, 116, 97, 120])]))
/-- One of Go's own tables, pinned by name: the form's constant. -/
def laid_unicode_utf8_first : DataW Unit := Go.Pinned.utf8First

/-- 'fiduciallaw02.FractionMakes': WHATEVER THE INPUT: true; the input reads as it did. -/
def fractionMakesSpec : ChangeSpec := { name := "fractionMakes", fn := fun _ => fun
  | [d1, d2, d3] => { results := [.lit (.bool true)], args := [d1, d2, d3] }
  | _ => none }
def fractionMakesRow : OpenClaim := { program := "ytmochehkkadjnaagreatdoor", sum := "cdf120171b07a736866cc401f9b7a6d6f6a919998338a3aafbfb6c2131eab9fc", func := "fiducial/fiduciallaw02.FractionMakes", spec := "fractionMakes", inPlace := ["internal/abi.NoEscape", "internal/bytealg.MakeNoZero"], unfollowed := true, recurses := true, named := ["internal/strconv.uint64pow10", "math/bits.deBruijn32tab", "math/bits.deBruijn64tab", "bytes.ErrTooLarge"], apart := false, laid := [("math/bits.deBruijn32tab", laid_math_bits_deBruijn32tab), ("math/bits.deBruijn64tab", laid_math_bits_deBruijn64tab), ("internal/strconv.uint64pow10", laid_internal_strconv_uint64pow10), ("bytes.ErrTooLarge", laid_bytes_ErrTooLarge)] }
def FractionMakesSaid : Prop := fractionMakesRow.holds Tryz.pinned (OpenSpec.ofChange fractionMakesSpec)

/-- ITS FALSE NEIGHBOUR: 'it returns false'. Refute it at one input. -/
def fractionMakesWrong : ChangeSpec := { name := "fractionMakes", fn := fun _ => fun
  | [d1, d2, d3] => { results := [.lit (.bool false)], args := [d1, d2, d3] }
  | _ => none }
def FractionMakesWrongFalsely : Prop := fractionMakesRow.holds Tryz.pinned (OpenSpec.ofChange fractionMakesWrong)

/-- 'fiduciallaw02.FractionField': WHATEVER THE INPUT: true; the input reads as it did. -/
def fractionFieldSpec : ChangeSpec := { name := "fractionField", fn := fun _ => fun
  | [d1, d2, d3] => { results := [.lit (.bool true)], args := [d1, d2, d3] }
  | _ => none }
def fractionFieldRow : OpenClaim := { program := "ytmochehkkadjnaagreatdoor", sum := "cdf120171b07a736866cc401f9b7a6d6f6a919998338a3aafbfb6c2131eab9fc", func := "fiducial/fiduciallaw02.FractionField", spec := "fractionField", inPlace := ["internal/abi.NoEscape", "internal/bytealg.MakeNoZero"], unfollowed := true, recurses := true, named := ["internal/strconv.uint64pow10", "math/bits.deBruijn32tab", "math/bits.deBruijn64tab", "bytes.ErrTooLarge"], apart := false, laid := [("math/bits.deBruijn32tab", laid_math_bits_deBruijn32tab), ("math/bits.deBruijn64tab", laid_math_bits_deBruijn64tab), ("internal/strconv.uint64pow10", laid_internal_strconv_uint64pow10), ("bytes.ErrTooLarge", laid_bytes_ErrTooLarge)] }
def FractionFieldSaid : Prop := fractionFieldRow.holds Tryz.pinned (OpenSpec.ofChange fractionFieldSpec)

/-- ITS FALSE NEIGHBOUR: 'it returns false'. Refute it at one input. -/
def fractionFieldWrong : ChangeSpec := { name := "fractionField", fn := fun _ => fun
  | [d1, d2, d3] => { results := [.lit (.bool false)], args := [d1, d2, d3] }
  | _ => none }
def FractionFieldWrongFalsely : Prop := fractionFieldRow.holds Tryz.pinned (OpenSpec.ofChange fractionFieldWrong)

/-- 'fiduciallaw02.FractionRoots': WHATEVER THE INPUT: true; the input reads as it did. -/
def fractionRootsSpec : ChangeSpec := { name := "fractionRoots", fn := fun _ => fun
  | [d1, d2] => { results := [.lit (.bool true)], args := [d1, d2] }
  | _ => none }
def fractionRootsRow : OpenClaim := { program := "ytmochehkkadjnaagreatdoor", sum := "cdf120171b07a736866cc401f9b7a6d6f6a919998338a3aafbfb6c2131eab9fc", func := "fiducial/fiduciallaw02.FractionRoots", spec := "fractionRoots", inPlace := ["internal/abi.NoEscape", "internal/bytealg.MakeNoZero"], unfollowed := true, recurses := true, named := ["internal/strconv.uint64pow10", "math/bits.deBruijn32tab", "math/bits.deBruijn64tab", "bytes.ErrTooLarge"], apart := false, laid := [("math/bits.deBruijn32tab", laid_math_bits_deBruijn32tab), ("math/bits.deBruijn64tab", laid_math_bits_deBruijn64tab), ("internal/strconv.uint64pow10", laid_internal_strconv_uint64pow10), ("bytes.ErrTooLarge", laid_bytes_ErrTooLarge)] }
def FractionRootsSaid : Prop := fractionRootsRow.holds Tryz.pinned (OpenSpec.ofChange fractionRootsSpec)

/-- ITS FALSE NEIGHBOUR: 'it returns false'. Refute it at one input. -/
def fractionRootsWrong : ChangeSpec := { name := "fractionRoots", fn := fun _ => fun
  | [d1, d2] => { results := [.lit (.bool false)], args := [d1, d2] }
  | _ => none }
def FractionRootsWrongFalsely : Prop := fractionRootsRow.holds Tryz.pinned (OpenSpec.ofChange fractionRootsWrong)

/-- 'fiduciallaw02.FractionSimplest': WHATEVER THE INPUT: true; the input reads as it did. -/
def fractionSimplestSpec : ChangeSpec := { name := "fractionSimplest", fn := fun _ => fun
  | [d1, d2] => { results := [.lit (.bool true)], args := [d1, d2] }
  | _ => none }
def fractionSimplestRow : OpenClaim := { program := "ytmochehkkadjnaagreatdoor", sum := "cdf120171b07a736866cc401f9b7a6d6f6a919998338a3aafbfb6c2131eab9fc", func := "fiducial/fiduciallaw02.FractionSimplest", spec := "fractionSimplest", inPlace := ["internal/abi.NoEscape", "internal/bytealg.MakeNoZero"], unfollowed := true, recurses := true, named := ["internal/strconv.uint64pow10", "math/bits.deBruijn32tab", "math/bits.deBruijn64tab", "bytes.ErrTooLarge"], apart := false, laid := [("math/bits.deBruijn32tab", laid_math_bits_deBruijn32tab), ("math/bits.deBruijn64tab", laid_math_bits_deBruijn64tab), ("internal/strconv.uint64pow10", laid_internal_strconv_uint64pow10), ("bytes.ErrTooLarge", laid_bytes_ErrTooLarge)] }
def FractionSimplestSaid : Prop := fractionSimplestRow.holds Tryz.pinned (OpenSpec.ofChange fractionSimplestSpec)

/-- ITS FALSE NEIGHBOUR: 'it returns false'. Refute it at one input. -/
def fractionSimplestWrong : ChangeSpec := { name := "fractionSimplest", fn := fun _ => fun
  | [d1, d2] => { results := [.lit (.bool false)], args := [d1, d2] }
  | _ => none }
def FractionSimplestWrongFalsely : Prop := fractionSimplestRow.holds Tryz.pinned (OpenSpec.ofChange fractionSimplestWrong)

/-- 'fiduciallaw02.FractionNoSimpler': WHATEVER THE INPUT: true; the input reads as it did. -/
def fractionNoSimplerSpec : ChangeSpec := { name := "fractionNoSimpler", fn := fun _ => fun
  | [d1, d2, d3] => { results := [.lit (.bool true)], args := [d1, d2, d3] }
  | _ => none }
def fractionNoSimplerRow : OpenClaim := { program := "ytmochehkkadjnaagreatdoor", sum := "cdf120171b07a736866cc401f9b7a6d6f6a919998338a3aafbfb6c2131eab9fc", func := "fiducial/fiduciallaw02.FractionNoSimpler", spec := "fractionNoSimpler", inPlace := ["internal/abi.NoEscape", "internal/bytealg.MakeNoZero"], unfollowed := true, recurses := true, named := ["internal/strconv.uint64pow10", "math/bits.deBruijn32tab", "math/bits.deBruijn64tab", "bytes.ErrTooLarge"], apart := false, laid := [("math/bits.deBruijn32tab", laid_math_bits_deBruijn32tab), ("math/bits.deBruijn64tab", laid_math_bits_deBruijn64tab), ("internal/strconv.uint64pow10", laid_internal_strconv_uint64pow10), ("bytes.ErrTooLarge", laid_bytes_ErrTooLarge)] }
def FractionNoSimplerSaid : Prop := fractionNoSimplerRow.holds Tryz.pinned (OpenSpec.ofChange fractionNoSimplerSpec)

/-- ITS FALSE NEIGHBOUR: 'it returns false'. Refute it at one input. -/
def fractionNoSimplerWrong : ChangeSpec := { name := "fractionNoSimpler", fn := fun _ => fun
  | [d1, d2, d3] => { results := [.lit (.bool false)], args := [d1, d2, d3] }
  | _ => none }
def FractionNoSimplerWrongFalsely : Prop := fractionNoSimplerRow.holds Tryz.pinned (OpenSpec.ofChange fractionNoSimplerWrong)

/-- 'fiduciallaw02.FractionWhole': WHATEVER THE INPUT: true; the input reads as it did. -/
def fractionWholeSpec : ChangeSpec := { name := "fractionWhole", fn := fun _ => fun
  | [d1, d2] => { results := [.lit (.bool true)], args := [d1, d2] }
  | _ => none }
def fractionWholeRow : OpenClaim := { program := "ytmochehkkadjnaagreatdoor", sum := "cdf120171b07a736866cc401f9b7a6d6f6a919998338a3aafbfb6c2131eab9fc", func := "fiducial/fiduciallaw02.FractionWhole", spec := "fractionWhole", inPlace := ["internal/abi.NoEscape", "internal/bytealg.MakeNoZero"], unfollowed := true, recurses := true, named := ["internal/strconv.uint64pow10", "math/bits.deBruijn32tab", "math/bits.deBruijn64tab", "bytes.ErrTooLarge"], apart := false, laid := [("math/bits.deBruijn32tab", laid_math_bits_deBruijn32tab), ("math/bits.deBruijn64tab", laid_math_bits_deBruijn64tab), ("internal/strconv.uint64pow10", laid_internal_strconv_uint64pow10), ("bytes.ErrTooLarge", laid_bytes_ErrTooLarge)] }
def FractionWholeSaid : Prop := fractionWholeRow.holds Tryz.pinned (OpenSpec.ofChange fractionWholeSpec)

/-- ITS FALSE NEIGHBOUR: 'it returns false'. Refute it at one input. -/
def fractionWholeWrong : ChangeSpec := { name := "fractionWhole", fn := fun _ => fun
  | [d1, d2] => { results := [.lit (.bool false)], args := [d1, d2] }
  | _ => none }
def FractionWholeWrongFalsely : Prop := fractionWholeRow.holds Tryz.pinned (OpenSpec.ofChange fractionWholeWrong)

/-- 'fiduciallaw02.FractionRounds': WHATEVER THE INPUT: true; the input reads as it did. -/
def fractionRoundsSpec : ChangeSpec := { name := "fractionRounds", fn := fun _ => fun
  | [d1, d2] => { results := [.lit (.bool true)], args := [d1, d2] }
  | _ => none }
def fractionRoundsRow : OpenClaim := { program := "ytmochehkkadjnaagreatdoor", sum := "cdf120171b07a736866cc401f9b7a6d6f6a919998338a3aafbfb6c2131eab9fc", func := "fiducial/fiduciallaw02.FractionRounds", spec := "fractionRounds", inPlace := ["internal/abi.NoEscape", "internal/bytealg.MakeNoZero"], unfollowed := true, recurses := true, named := ["internal/strconv.uint64pow10", "math/bits.deBruijn32tab", "math/bits.deBruijn64tab", "bytes.ErrTooLarge"], apart := false, laid := [("math/bits.deBruijn32tab", laid_math_bits_deBruijn32tab), ("math/bits.deBruijn64tab", laid_math_bits_deBruijn64tab), ("internal/strconv.uint64pow10", laid_internal_strconv_uint64pow10), ("bytes.ErrTooLarge", laid_bytes_ErrTooLarge)] }
def FractionRoundsSaid : Prop := fractionRoundsRow.holds Tryz.pinned (OpenSpec.ofChange fractionRoundsSpec)

/-- ITS FALSE NEIGHBOUR: 'it returns false'. Refute it at one input. -/
def fractionRoundsWrong : ChangeSpec := { name := "fractionRounds", fn := fun _ => fun
  | [d1, d2] => { results := [.lit (.bool false)], args := [d1, d2] }
  | _ => none }
def FractionRoundsWrongFalsely : Prop := fractionRoundsRow.holds Tryz.pinned (OpenSpec.ofChange fractionRoundsWrong)

/-- 'fiduciallaw02.FractionOrders': WHATEVER THE INPUT: true; the input reads as it did. -/
def fractionOrdersSpec : ChangeSpec := { name := "fractionOrders", fn := fun _ => fun
  | [d1, d2, d3] => { results := [.lit (.bool true)], args := [d1, d2, d3] }
  | _ => none }
def fractionOrdersRow : OpenClaim := { program := "ytmochehkkadjnaagreatdoor", sum := "cdf120171b07a736866cc401f9b7a6d6f6a919998338a3aafbfb6c2131eab9fc", func := "fiducial/fiduciallaw02.FractionOrders", spec := "fractionOrders", inPlace := ["internal/abi.NoEscape", "internal/bytealg.MakeNoZero"], unfollowed := true, recurses := true, named := ["internal/strconv.uint64pow10", "math/bits.deBruijn32tab", "math/bits.deBruijn64tab", "bytes.ErrTooLarge"], apart := false, laid := [("math/bits.deBruijn32tab", laid_math_bits_deBruijn32tab), ("math/bits.deBruijn64tab", laid_math_bits_deBruijn64tab), ("internal/strconv.uint64pow10", laid_internal_strconv_uint64pow10), ("bytes.ErrTooLarge", laid_bytes_ErrTooLarge)] }
def FractionOrdersSaid : Prop := fractionOrdersRow.holds Tryz.pinned (OpenSpec.ofChange fractionOrdersSpec)

/-- ITS FALSE NEIGHBOUR: 'it returns false'. Refute it at one input. -/
def fractionOrdersWrong : ChangeSpec := { name := "fractionOrders", fn := fun _ => fun
  | [d1, d2, d3] => { results := [.lit (.bool false)], args := [d1, d2, d3] }
  | _ => none }
def FractionOrdersWrongFalsely : Prop := fractionOrdersRow.holds Tryz.pinned (OpenSpec.ofChange fractionOrdersWrong)

/-- 'fiduciallaw02.FractionArithmetic': WHATEVER THE INPUT: true; the input reads as it did. -/
def fractionArithmeticSpec : ChangeSpec := { name := "fractionArithmetic", fn := fun _ => fun
  | [d1, d2] => { results := [.lit (.bool true)], args := [d1, d2] }
  | _ => none }
def fractionArithmeticRow : OpenClaim := { program := "ytmochehkkadjnaagreatdoor", sum := "cdf120171b07a736866cc401f9b7a6d6f6a919998338a3aafbfb6c2131eab9fc", func := "fiducial/fiduciallaw02.FractionArithmetic", spec := "fractionArithmetic", inPlace := ["internal/abi.NoEscape", "internal/bytealg.MakeNoZero"], unfollowed := true, recurses := true, named := ["internal/strconv.uint64pow10", "math/bits.deBruijn32tab", "math/bits.deBruijn64tab", "bytes.ErrTooLarge"], apart := false, laid := [("math/bits.deBruijn32tab", laid_math_bits_deBruijn32tab), ("math/bits.deBruijn64tab", laid_math_bits_deBruijn64tab), ("internal/strconv.uint64pow10", laid_internal_strconv_uint64pow10), ("bytes.ErrTooLarge", laid_bytes_ErrTooLarge)] }
def FractionArithmeticSaid : Prop := fractionArithmeticRow.holds Tryz.pinned (OpenSpec.ofChange fractionArithmeticSpec)

/-- ITS FALSE NEIGHBOUR: 'it returns false'. Refute it at one input. -/
def fractionArithmeticWrong : ChangeSpec := { name := "fractionArithmetic", fn := fun _ => fun
  | [d1, d2] => { results := [.lit (.bool false)], args := [d1, d2] }
  | _ => none }
def FractionArithmeticWrongFalsely : Prop := fractionArithmeticRow.holds Tryz.pinned (OpenSpec.ofChange fractionArithmeticWrong)

/-- 'fiduciallaw02.FractionLists': WHATEVER THE INPUT: true; the input reads as it did. -/
def fractionListsSpec : ChangeSpec := { name := "fractionLists", fn := fun _ => fun
  | [d1, d2] => { results := [.lit (.bool true)], args := [d1, d2] }
  | _ => none }
def fractionListsRow : OpenClaim := { program := "ytmochehkkadjnaagreatdoor", sum := "cdf120171b07a736866cc401f9b7a6d6f6a919998338a3aafbfb6c2131eab9fc", func := "fiducial/fiduciallaw02.FractionLists", spec := "fractionLists", inPlace := ["internal/abi.NoEscape", "internal/bytealg.MakeNoZero"], unfollowed := true, recurses := true, named := ["internal/strconv.uint64pow10", "math/bits.deBruijn32tab", "math/bits.deBruijn64tab", "bytes.ErrTooLarge"], apart := false, laid := [("math/bits.deBruijn32tab", laid_math_bits_deBruijn32tab), ("math/bits.deBruijn64tab", laid_math_bits_deBruijn64tab), ("internal/strconv.uint64pow10", laid_internal_strconv_uint64pow10), ("bytes.ErrTooLarge", laid_bytes_ErrTooLarge)] }
def FractionListsSaid : Prop := fractionListsRow.holds Tryz.pinned (OpenSpec.ofChange fractionListsSpec)

/-- ITS FALSE NEIGHBOUR: 'it returns false'. Refute it at one input. -/
def fractionListsWrong : ChangeSpec := { name := "fractionLists", fn := fun _ => fun
  | [d1, d2] => { results := [.lit (.bool false)], args := [d1, d2] }
  | _ => none }
def FractionListsWrongFalsely : Prop := fractionListsRow.holds Tryz.pinned (OpenSpec.ofChange fractionListsWrong)

/-- 'fiduciallaw02.FractionText': WHATEVER THE INPUT: true; the input reads as it did. -/
def fractionTextSpec : ChangeSpec := { name := "fractionText", fn := fun _ => fun
  | [d] => { results := [.lit (.bool true)], args := [d] }
  | _ => none }
def fractionTextRow : OpenClaim := { program := "ytmochehkkadjnaagreatdoor", sum := "cdf120171b07a736866cc401f9b7a6d6f6a919998338a3aafbfb6c2131eab9fc", func := "fiducial/fiduciallaw02.FractionText", spec := "fractionText", inPlace := ["internal/abi.NoEscape", "internal/bytealg.MakeNoZero", "internal/bytealg.IndexByteString", "internal/bytealg.IndexString"], unfollowed := true, recurses := true, named := ["internal/strconv.uint64pow10", "math/bits.deBruijn32tab", "math/bits.deBruijn64tab", "bytes.ErrTooLarge", "internal/bytealg.MaxLen", "strconv.ErrSyntax", "strconv.ErrRange", "unicode/utf8.first", "unicode/utf8.acceptRanges"], apart := false, laid := [("math/bits.deBruijn32tab", laid_math_bits_deBruijn32tab), ("math/bits.deBruijn64tab", laid_math_bits_deBruijn64tab), ("internal/strconv.uint64pow10", laid_internal_strconv_uint64pow10), ("unicode/utf8.acceptRanges", laid_unicode_utf8_acceptRanges), ("strconv.ErrRange", laid_strconv_ErrRange), ("strconv.ErrSyntax", laid_strconv_ErrSyntax), ("bytes.ErrTooLarge", laid_bytes_ErrTooLarge), ("unicode/utf8.first", laid_unicode_utf8_first)] }
def FractionTextSaid : Prop := fractionTextRow.holds Tryz.pinned (OpenSpec.ofChange fractionTextSpec)

/-- ITS FALSE NEIGHBOUR: 'it returns false'. Refute it at one input. -/
def fractionTextWrong : ChangeSpec := { name := "fractionText", fn := fun _ => fun
  | [d] => { results := [.lit (.bool false)], args := [d] }
  | _ => none }
def FractionTextWrongFalsely : Prop := fractionTextRow.holds Tryz.pinned (OpenSpec.ofChange fractionTextWrong)

/-- 'fiduciallaw02.FractionParse': WHATEVER THE INPUT: true; the input reads as it did. -/
def fractionParseSpec : ChangeSpec := { name := "fractionParse", fn := fun _ => fun
  | [d] => { results := [.lit (.bool true)], args := [d] }
  | _ => none }
def fractionParseRow : OpenClaim := { program := "ytmochehkkadjnaagreatdoor", sum := "cdf120171b07a736866cc401f9b7a6d6f6a919998338a3aafbfb6c2131eab9fc", func := "fiducial/fiduciallaw02.FractionParse", spec := "fractionParse", inPlace := ["internal/abi.NoEscape", "internal/bytealg.MakeNoZero", "internal/bytealg.IndexByteString", "internal/bytealg.IndexString"], unfollowed := true, recurses := true, named := ["internal/strconv.uint64pow10", "math/bits.deBruijn32tab", "math/bits.deBruijn64tab", "bytes.ErrTooLarge", "internal/bytealg.MaxLen", "strconv.ErrSyntax", "strconv.ErrRange", "unicode/utf8.first", "unicode/utf8.acceptRanges"], apart := false, laid := [("math/bits.deBruijn32tab", laid_math_bits_deBruijn32tab), ("math/bits.deBruijn64tab", laid_math_bits_deBruijn64tab), ("internal/strconv.uint64pow10", laid_internal_strconv_uint64pow10), ("unicode/utf8.acceptRanges", laid_unicode_utf8_acceptRanges), ("strconv.ErrRange", laid_strconv_ErrRange), ("strconv.ErrSyntax", laid_strconv_ErrSyntax), ("bytes.ErrTooLarge", laid_bytes_ErrTooLarge), ("unicode/utf8.first", laid_unicode_utf8_first)] }
def FractionParseSaid : Prop := fractionParseRow.holds Tryz.pinned (OpenSpec.ofChange fractionParseSpec)

/-- ITS FALSE NEIGHBOUR: 'it returns false'. Refute it at one input. -/
def fractionParseWrong : ChangeSpec := { name := "fractionParse", fn := fun _ => fun
  | [d] => { results := [.lit (.bool false)], args := [d] }
  | _ => none }
def FractionParseWrongFalsely : Prop := fractionParseRow.holds Tryz.pinned (OpenSpec.ofChange fractionParseWrong)

/- THE SECOND FORM. 'bulk': how many values and letters a reading holds, each counted each time it is reached (what is shared counts as often as it is met; a slice's spare places count too). A statement '..UptoSaid' is the law's where the arguments, and the package variables that the reading takes, are together of bulk at most 1048576: NARROWER than '..Said'. Prove '..Said' where nothing that the law and all that it calls make is longer than what came in: it says more and counts as full. Else prove '..UptoSaid'. A law counts once. -/
mutual
def uptoBulk {H : Type} : DataW H → Nat
  | .lit (.string bytes) => bytes.length + 1
  | .lit _ => 1
  | .nil => 1
  | .ptr d => uptoBulk d + 1
  | .slice elems spare => uptoBulkAll elems + uptoBulkAll spare + 1
  | .agg parts => uptoBulkAll parts + 1
  | .iface _ d => uptoBulk d + 1
  | .map entries => uptoBulkEntries entries + 1
  | .held _ => 1
def uptoBulkAll {H : Type} : List (DataW H) → Nat
  | [] => 0
  | d :: r => uptoBulk d + uptoBulkAll r
def uptoBulkEntries {H : Type} : List (Lit × DataW H) → Nat
  | [] => 0
  | x :: r => uptoBulkEntry x + uptoBulkEntries r
def uptoBulkEntry {H : Type} : Lit × DataW H → Nat
  | (.string bytes, d) => bytes.length + uptoBulk d + 1
  | (_, d) => uptoBulk d + 1
 end
def uptoSmall : (H : Type) → List (DataW H) → Bool := fun _ ds => decide (uptoBulkAll ds ≤ 1048576)
def OpenSpec.upto (s : _root_.Go.ChangeSpec) : _root_.Go.OpenSpec := { _root_.Go.OpenSpec.ofChange s with cond := some uptoSmall }

/-- 'fiduciallaw02.FractionMakes', WHERE WHAT IT READS IS OF BULK AT MOST 1048576: true; the input reads as it did. -/
def fractionMakesUptoRow : OpenClaim := { program := "ytmochehkkadjnaagreatdoor", sum := "cdf120171b07a736866cc401f9b7a6d6f6a919998338a3aafbfb6c2131eab9fc", func := "fiducial/fiduciallaw02.FractionMakes", spec := "fractionMakes", inPlace := ["internal/abi.NoEscape", "internal/bytealg.MakeNoZero"], unfollowed := true, recurses := true, named := ["internal/strconv.uint64pow10", "math/bits.deBruijn32tab", "math/bits.deBruijn64tab", "bytes.ErrTooLarge"], apart := false, laid := [("math/bits.deBruijn32tab", laid_math_bits_deBruijn32tab), ("math/bits.deBruijn64tab", laid_math_bits_deBruijn64tab), ("internal/strconv.uint64pow10", laid_internal_strconv_uint64pow10), ("bytes.ErrTooLarge", laid_bytes_ErrTooLarge)], narrowed := true }
def FractionMakesUptoSaid : Prop := fractionMakesUptoRow.holds Tryz.pinned (OpenSpec.upto fractionMakesSpec)

/-- 'fiduciallaw02.FractionField', WHERE WHAT IT READS IS OF BULK AT MOST 1048576: true; the input reads as it did. -/
def fractionFieldUptoRow : OpenClaim := { program := "ytmochehkkadjnaagreatdoor", sum := "cdf120171b07a736866cc401f9b7a6d6f6a919998338a3aafbfb6c2131eab9fc", func := "fiducial/fiduciallaw02.FractionField", spec := "fractionField", inPlace := ["internal/abi.NoEscape", "internal/bytealg.MakeNoZero"], unfollowed := true, recurses := true, named := ["internal/strconv.uint64pow10", "math/bits.deBruijn32tab", "math/bits.deBruijn64tab", "bytes.ErrTooLarge"], apart := false, laid := [("math/bits.deBruijn32tab", laid_math_bits_deBruijn32tab), ("math/bits.deBruijn64tab", laid_math_bits_deBruijn64tab), ("internal/strconv.uint64pow10", laid_internal_strconv_uint64pow10), ("bytes.ErrTooLarge", laid_bytes_ErrTooLarge)], narrowed := true }
def FractionFieldUptoSaid : Prop := fractionFieldUptoRow.holds Tryz.pinned (OpenSpec.upto fractionFieldSpec)

/-- 'fiduciallaw02.FractionRoots', WHERE WHAT IT READS IS OF BULK AT MOST 1048576: true; the input reads as it did. -/
def fractionRootsUptoRow : OpenClaim := { program := "ytmochehkkadjnaagreatdoor", sum := "cdf120171b07a736866cc401f9b7a6d6f6a919998338a3aafbfb6c2131eab9fc", func := "fiducial/fiduciallaw02.FractionRoots", spec := "fractionRoots", inPlace := ["internal/abi.NoEscape", "internal/bytealg.MakeNoZero"], unfollowed := true, recurses := true, named := ["internal/strconv.uint64pow10", "math/bits.deBruijn32tab", "math/bits.deBruijn64tab", "bytes.ErrTooLarge"], apart := false, laid := [("math/bits.deBruijn32tab", laid_math_bits_deBruijn32tab), ("math/bits.deBruijn64tab", laid_math_bits_deBruijn64tab), ("internal/strconv.uint64pow10", laid_internal_strconv_uint64pow10), ("bytes.ErrTooLarge", laid_bytes_ErrTooLarge)], narrowed := true }
def FractionRootsUptoSaid : Prop := fractionRootsUptoRow.holds Tryz.pinned (OpenSpec.upto fractionRootsSpec)

/-- 'fiduciallaw02.FractionSimplest', WHERE WHAT IT READS IS OF BULK AT MOST 1048576: true; the input reads as it did. -/
def fractionSimplestUptoRow : OpenClaim := { program := "ytmochehkkadjnaagreatdoor", sum := "cdf120171b07a736866cc401f9b7a6d6f6a919998338a3aafbfb6c2131eab9fc", func := "fiducial/fiduciallaw02.FractionSimplest", spec := "fractionSimplest", inPlace := ["internal/abi.NoEscape", "internal/bytealg.MakeNoZero"], unfollowed := true, recurses := true, named := ["internal/strconv.uint64pow10", "math/bits.deBruijn32tab", "math/bits.deBruijn64tab", "bytes.ErrTooLarge"], apart := false, laid := [("math/bits.deBruijn32tab", laid_math_bits_deBruijn32tab), ("math/bits.deBruijn64tab", laid_math_bits_deBruijn64tab), ("internal/strconv.uint64pow10", laid_internal_strconv_uint64pow10), ("bytes.ErrTooLarge", laid_bytes_ErrTooLarge)], narrowed := true }
def FractionSimplestUptoSaid : Prop := fractionSimplestUptoRow.holds Tryz.pinned (OpenSpec.upto fractionSimplestSpec)

/-- 'fiduciallaw02.FractionNoSimpler', WHERE WHAT IT READS IS OF BULK AT MOST 1048576: true; the input reads as it did. -/
def fractionNoSimplerUptoRow : OpenClaim := { program := "ytmochehkkadjnaagreatdoor", sum := "cdf120171b07a736866cc401f9b7a6d6f6a919998338a3aafbfb6c2131eab9fc", func := "fiducial/fiduciallaw02.FractionNoSimpler", spec := "fractionNoSimpler", inPlace := ["internal/abi.NoEscape", "internal/bytealg.MakeNoZero"], unfollowed := true, recurses := true, named := ["internal/strconv.uint64pow10", "math/bits.deBruijn32tab", "math/bits.deBruijn64tab", "bytes.ErrTooLarge"], apart := false, laid := [("math/bits.deBruijn32tab", laid_math_bits_deBruijn32tab), ("math/bits.deBruijn64tab", laid_math_bits_deBruijn64tab), ("internal/strconv.uint64pow10", laid_internal_strconv_uint64pow10), ("bytes.ErrTooLarge", laid_bytes_ErrTooLarge)], narrowed := true }
def FractionNoSimplerUptoSaid : Prop := fractionNoSimplerUptoRow.holds Tryz.pinned (OpenSpec.upto fractionNoSimplerSpec)

/-- 'fiduciallaw02.FractionWhole', WHERE WHAT IT READS IS OF BULK AT MOST 1048576: true; the input reads as it did. -/
def fractionWholeUptoRow : OpenClaim := { program := "ytmochehkkadjnaagreatdoor", sum := "cdf120171b07a736866cc401f9b7a6d6f6a919998338a3aafbfb6c2131eab9fc", func := "fiducial/fiduciallaw02.FractionWhole", spec := "fractionWhole", inPlace := ["internal/abi.NoEscape", "internal/bytealg.MakeNoZero"], unfollowed := true, recurses := true, named := ["internal/strconv.uint64pow10", "math/bits.deBruijn32tab", "math/bits.deBruijn64tab", "bytes.ErrTooLarge"], apart := false, laid := [("math/bits.deBruijn32tab", laid_math_bits_deBruijn32tab), ("math/bits.deBruijn64tab", laid_math_bits_deBruijn64tab), ("internal/strconv.uint64pow10", laid_internal_strconv_uint64pow10), ("bytes.ErrTooLarge", laid_bytes_ErrTooLarge)], narrowed := true }
def FractionWholeUptoSaid : Prop := fractionWholeUptoRow.holds Tryz.pinned (OpenSpec.upto fractionWholeSpec)

/-- 'fiduciallaw02.FractionRounds', WHERE WHAT IT READS IS OF BULK AT MOST 1048576: true; the input reads as it did. -/
def fractionRoundsUptoRow : OpenClaim := { program := "ytmochehkkadjnaagreatdoor", sum := "cdf120171b07a736866cc401f9b7a6d6f6a919998338a3aafbfb6c2131eab9fc", func := "fiducial/fiduciallaw02.FractionRounds", spec := "fractionRounds", inPlace := ["internal/abi.NoEscape", "internal/bytealg.MakeNoZero"], unfollowed := true, recurses := true, named := ["internal/strconv.uint64pow10", "math/bits.deBruijn32tab", "math/bits.deBruijn64tab", "bytes.ErrTooLarge"], apart := false, laid := [("math/bits.deBruijn32tab", laid_math_bits_deBruijn32tab), ("math/bits.deBruijn64tab", laid_math_bits_deBruijn64tab), ("internal/strconv.uint64pow10", laid_internal_strconv_uint64pow10), ("bytes.ErrTooLarge", laid_bytes_ErrTooLarge)], narrowed := true }
def FractionRoundsUptoSaid : Prop := fractionRoundsUptoRow.holds Tryz.pinned (OpenSpec.upto fractionRoundsSpec)

/-- 'fiduciallaw02.FractionOrders', WHERE WHAT IT READS IS OF BULK AT MOST 1048576: true; the input reads as it did. -/
def fractionOrdersUptoRow : OpenClaim := { program := "ytmochehkkadjnaagreatdoor", sum := "cdf120171b07a736866cc401f9b7a6d6f6a919998338a3aafbfb6c2131eab9fc", func := "fiducial/fiduciallaw02.FractionOrders", spec := "fractionOrders", inPlace := ["internal/abi.NoEscape", "internal/bytealg.MakeNoZero"], unfollowed := true, recurses := true, named := ["internal/strconv.uint64pow10", "math/bits.deBruijn32tab", "math/bits.deBruijn64tab", "bytes.ErrTooLarge"], apart := false, laid := [("math/bits.deBruijn32tab", laid_math_bits_deBruijn32tab), ("math/bits.deBruijn64tab", laid_math_bits_deBruijn64tab), ("internal/strconv.uint64pow10", laid_internal_strconv_uint64pow10), ("bytes.ErrTooLarge", laid_bytes_ErrTooLarge)], narrowed := true }
def FractionOrdersUptoSaid : Prop := fractionOrdersUptoRow.holds Tryz.pinned (OpenSpec.upto fractionOrdersSpec)

/-- 'fiduciallaw02.FractionArithmetic', WHERE WHAT IT READS IS OF BULK AT MOST 1048576: true; the input reads as it did. -/
def fractionArithmeticUptoRow : OpenClaim := { program := "ytmochehkkadjnaagreatdoor", sum := "cdf120171b07a736866cc401f9b7a6d6f6a919998338a3aafbfb6c2131eab9fc", func := "fiducial/fiduciallaw02.FractionArithmetic", spec := "fractionArithmetic", inPlace := ["internal/abi.NoEscape", "internal/bytealg.MakeNoZero"], unfollowed := true, recurses := true, named := ["internal/strconv.uint64pow10", "math/bits.deBruijn32tab", "math/bits.deBruijn64tab", "bytes.ErrTooLarge"], apart := false, laid := [("math/bits.deBruijn32tab", laid_math_bits_deBruijn32tab), ("math/bits.deBruijn64tab", laid_math_bits_deBruijn64tab), ("internal/strconv.uint64pow10", laid_internal_strconv_uint64pow10), ("bytes.ErrTooLarge", laid_bytes_ErrTooLarge)], narrowed := true }
def FractionArithmeticUptoSaid : Prop := fractionArithmeticUptoRow.holds Tryz.pinned (OpenSpec.upto fractionArithmeticSpec)

/-- 'fiduciallaw02.FractionLists', WHERE WHAT IT READS IS OF BULK AT MOST 1048576: true; the input reads as it did. -/
def fractionListsUptoRow : OpenClaim := { program := "ytmochehkkadjnaagreatdoor", sum := "cdf120171b07a736866cc401f9b7a6d6f6a919998338a3aafbfb6c2131eab9fc", func := "fiducial/fiduciallaw02.FractionLists", spec := "fractionLists", inPlace := ["internal/abi.NoEscape", "internal/bytealg.MakeNoZero"], unfollowed := true, recurses := true, named := ["internal/strconv.uint64pow10", "math/bits.deBruijn32tab", "math/bits.deBruijn64tab", "bytes.ErrTooLarge"], apart := false, laid := [("math/bits.deBruijn32tab", laid_math_bits_deBruijn32tab), ("math/bits.deBruijn64tab", laid_math_bits_deBruijn64tab), ("internal/strconv.uint64pow10", laid_internal_strconv_uint64pow10), ("bytes.ErrTooLarge", laid_bytes_ErrTooLarge)], narrowed := true }
def FractionListsUptoSaid : Prop := fractionListsUptoRow.holds Tryz.pinned (OpenSpec.upto fractionListsSpec)

/-- 'fiduciallaw02.FractionText', WHERE WHAT IT READS IS OF BULK AT MOST 1048576: true; the input reads as it did. -/
def fractionTextUptoRow : OpenClaim := { program := "ytmochehkkadjnaagreatdoor", sum := "cdf120171b07a736866cc401f9b7a6d6f6a919998338a3aafbfb6c2131eab9fc", func := "fiducial/fiduciallaw02.FractionText", spec := "fractionText", inPlace := ["internal/abi.NoEscape", "internal/bytealg.MakeNoZero", "internal/bytealg.IndexByteString", "internal/bytealg.IndexString"], unfollowed := true, recurses := true, named := ["internal/strconv.uint64pow10", "math/bits.deBruijn32tab", "math/bits.deBruijn64tab", "bytes.ErrTooLarge", "internal/bytealg.MaxLen", "strconv.ErrSyntax", "strconv.ErrRange", "unicode/utf8.first", "unicode/utf8.acceptRanges"], apart := false, laid := [("math/bits.deBruijn32tab", laid_math_bits_deBruijn32tab), ("math/bits.deBruijn64tab", laid_math_bits_deBruijn64tab), ("internal/strconv.uint64pow10", laid_internal_strconv_uint64pow10), ("unicode/utf8.acceptRanges", laid_unicode_utf8_acceptRanges), ("strconv.ErrRange", laid_strconv_ErrRange), ("strconv.ErrSyntax", laid_strconv_ErrSyntax), ("bytes.ErrTooLarge", laid_bytes_ErrTooLarge), ("unicode/utf8.first", laid_unicode_utf8_first)], narrowed := true }
def FractionTextUptoSaid : Prop := fractionTextUptoRow.holds Tryz.pinned (OpenSpec.upto fractionTextSpec)

/-- 'fiduciallaw02.FractionParse', WHERE WHAT IT READS IS OF BULK AT MOST 1048576: true; the input reads as it did. -/
def fractionParseUptoRow : OpenClaim := { program := "ytmochehkkadjnaagreatdoor", sum := "cdf120171b07a736866cc401f9b7a6d6f6a919998338a3aafbfb6c2131eab9fc", func := "fiducial/fiduciallaw02.FractionParse", spec := "fractionParse", inPlace := ["internal/abi.NoEscape", "internal/bytealg.MakeNoZero", "internal/bytealg.IndexByteString", "internal/bytealg.IndexString"], unfollowed := true, recurses := true, named := ["internal/strconv.uint64pow10", "math/bits.deBruijn32tab", "math/bits.deBruijn64tab", "bytes.ErrTooLarge", "internal/bytealg.MaxLen", "strconv.ErrSyntax", "strconv.ErrRange", "unicode/utf8.first", "unicode/utf8.acceptRanges"], apart := false, laid := [("math/bits.deBruijn32tab", laid_math_bits_deBruijn32tab), ("math/bits.deBruijn64tab", laid_math_bits_deBruijn64tab), ("internal/strconv.uint64pow10", laid_internal_strconv_uint64pow10), ("unicode/utf8.acceptRanges", laid_unicode_utf8_acceptRanges), ("strconv.ErrRange", laid_strconv_ErrRange), ("strconv.ErrSyntax", laid_strconv_ErrSyntax), ("bytes.ErrTooLarge", laid_bytes_ErrTooLarge), ("unicode/utf8.first", laid_unicode_utf8_first)], narrowed := true }
def FractionParseUptoSaid : Prop := fractionParseUptoRow.holds Tryz.pinned (OpenSpec.upto fractionParseSpec)

end Rows
end Go.Proofs.YtmochehkkadjnaaGreatDoor
