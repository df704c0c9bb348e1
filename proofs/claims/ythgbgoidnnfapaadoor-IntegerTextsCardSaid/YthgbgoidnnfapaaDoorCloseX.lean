/- The witness's world where the sentinels of strconv are listed too. -/
import Derived.Test.YthgbgoidnnfapaaDoorCloseW
namespace Go.Proofs.YthgbgoidnnfapaaDoor
open Go.RowKit Go.WideShapes Go.ChangeShapes Go.ChangeAt

def errBlock (d : DataW Unit) : Obj := .cells #[.string (strOfData d)] 133
def errCell (b : Nat) : Array Value := #[.iface 131 (.pointer (some ⟨b, 0, none⟩))]
noncomputable def laidWorld6 (os : Os) : World :=
  let w0 := World.holding Tryd.prog os ⟨#[errBlock Rows.laid_bytes_ErrTooLarge, errBlock Rows.laid_strconv_ErrRange, errBlock Rows.laid_strconv_ErrSyntax], #[], []⟩
  { w0 with heap := putCells (putCells (putCells (putCells (putCells (putCells w0.heap 4 (cellsOfData Rows.laid_math_bits_deBruijn32tab)) 5 (cellsOfData Rows.laid_math_bits_deBruijn64tab))
      3 (cellsOfData Rows.laid_internal_strconv_uint64pow10)) 0 (errCell lowB)) 2 (errCell (lowB + 1))) 1 (errCell (lowB + 2)) }
/-- the six that this row lists -/
def laid6 : List (String × DataW Unit) := Rows.integerTextsRow.laid
theorem powTab_of6 {W : World} (h : laidMetH Tryd.prog laid6 W) : PowTab W := by
  have h' : laidMet Tryd.prog laid6 W := h
  obtain ⟨ps, hv, _⟩ := h'
  obtain ⟨q1, hv⟩ := laidVars_tail hv
  obtain ⟨q2, hv⟩ := laidVars_tail hv
  exact tabIs_of_vars (rest := [("strconv.ErrRange", Rows.laid_strconv_ErrRange), ("strconv.ErrSyntax", Rows.laid_strconv_ErrSyntax), ("bytes.ErrTooLarge", Rows.laid_bytes_ErrTooLarge)]) gPow (t := 125) (by kernel_rfl) Tryd.underlying125 Tryd.underlying50 (by kernel_rfl) (by kernel_rfl) hv
theorem laid_met6 (os : Os) (args : Array Value) : laidMet Tryd.prog laid6 ((laidWorld6 os).forCall (fun _ _ => 0) ⟨#[], args, []⟩).memory :=
  laidMet_of_run3 8 (by kernel_rfl) (by kernel_rfl) (by kernel_rfl)
end Go.Proofs.YthgbgoidnnfapaaDoor
