/- The witness's world where the sentinels of strconv and the tables of utf8 are listed too. -/
import Derived.Test.YtmochehkkadjnaaGreatDoorMgFClose
namespace Go.Proofs.YtmochehkkadjnaaGreatDoor
open Go.RowKit Go.WideShapes Go.ChangeShapes Go.ChangeAt

def errBlock (d : DataW Unit) : Obj := .cells #[.string (strOfData d)] 206
def errCell (b : Nat) : Array Value := #[.iface 204 (.pointer (some ⟨b, 0, none⟩))]
def cellsOf2 : DataW Unit → Array Value
  | .agg l => (l.flatMap fun d => match d with | .agg m => m.map (fun e => match e with | .lit (.int k n) => Value.int k n | _ => undef) | _ => []).toArray
  | _ => #[]
noncomputable def laidWorld8 (os : Os) : World :=
  let w0 := World.holding Tryz.prog os ⟨#[errBlock Rows.laid_bytes_ErrTooLarge, errBlock Rows.laid_strconv_ErrRange, errBlock Rows.laid_strconv_ErrSyntax], #[], []⟩
  { w0 with heap := putCells (putCells (putCells (putCells (putCells (putCells (putCells (putCells w0.heap 7 (cellsOfData Rows.laid_math_bits_deBruijn32tab)) 8 (cellsOfData Rows.laid_math_bits_deBruijn64tab))
      6 (cellsOfData Rows.laid_internal_strconv_uint64pow10)) 0 (errCell lowB)) 3 (errCell (lowB + 1))) 2 (errCell (lowB + 2)))
      4 (cellsOfData Rows.laid_unicode_utf8_first)) 5 (cellsOf2 Rows.laid_unicode_utf8_acceptRanges) }
def laid8 : List (String × DataW Unit) := Rows.fractionParseRow.laid
theorem powTab_of8 {W : World} (h : laidMetH Tryz.prog laid8 W) : PowTab W := by
  have h' : laidMet Tryz.prog laid8 W := h
  obtain ⟨ps, hv, _⟩ := h'
  obtain ⟨q1, hv⟩ := laidVars_tail hv
  obtain ⟨q2, hv⟩ := laidVars_tail hv
  exact tabIs_of_vars (rest := [("unicode/utf8.acceptRanges", Rows.laid_unicode_utf8_acceptRanges), ("strconv.ErrRange", Rows.laid_strconv_ErrRange), ("strconv.ErrSyntax", Rows.laid_strconv_ErrSyntax), ("bytes.ErrTooLarge", Rows.laid_bytes_ErrTooLarge), ("unicode/utf8.first", Rows.laid_unicode_utf8_first)]) gPow (t := 200) (by kernel_rfl) Tryz.underlying200 Tryz.underlying105 (by kernel_rfl) (by kernel_rfl) hv
theorem laid_met8 (os : Os) (args : Array Value) : laidMet Tryz.prog laid8 ((laidWorld8 os).forCall (fun _ _ => 0) ⟨#[], args, []⟩).memory :=
  laidMet_of_run3 8 (by kernel_rfl) (by kernel_rfl) (by kernel_rfl)
end Go.Proofs.YtmochehkkadjnaaGreatDoor
