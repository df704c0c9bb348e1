/- At a row's first world the variable that strings.Cut reads holds an int. -/
import Derived.Test.YtmochehkkadjnaaGreatDoorMgParseNum
import Derived.Shelf.Vars
namespace Go.Proofs.YtmochehkkadjnaaGreatDoor
open Go.RowKit

theorem cutOk_of {W : World} (h : W.ShapedOpen Tryz.prog) : CutOk W :=
  Go.Proofs.cell_of_shapedOpen_int (g := 1) (zero := #[.int .i64 0]) (t := 3) h (of_decide_eq_true (by kernel_rfl)) (by kernel_rfl) rfl (by kernel_rfl) (by kernel_rfl) Tryz.underlying3
end Go.Proofs.YtmochehkkadjnaaGreatDoor
