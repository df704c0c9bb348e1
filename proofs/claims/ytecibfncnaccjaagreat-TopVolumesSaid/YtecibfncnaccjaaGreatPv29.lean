/- The simplest fraction of any interval. No program in sight. The walk of fraction.simplest. The walk of fraction.Simplest. The number of decimal digits; powers. No program in sight. The walks of digits and of the reference's Digits. The walk of Power. The walks of fraction.nearest, tens. Square roots: what Newton's step and halving make of them. No program in sight. -/
import Derived.Test.YtecibfncnaccjaaGreatPv28
import Derived.Test.YtecibfncnaccjaaGreatPv25
import Derived.Test.YtecibfncnaccjaaGreatPv12
import Derived.Test.YtecibfncnaccjaaGreatPv13
import Derived.Test.YtecibfncnaccjaaGreatPv8
import Derived.Test.YtecibfncnaccjaaGreatPv5
namespace Go.Proofs.YtecibfncnaccjaaGreat
open Go.RowKit

end Go.Proofs.YtecibfncnaccjaaGreat
namespace Go.Proofs.YtecibfncnaccjaaGreat
open Go.RowKit Go.Shelf

end Go.Proofs.YtecibfncnaccjaaGreat
namespace Go.Proofs.YtecibfncnaccjaaGreat
open Go

end Go.Proofs.YtecibfncnaccjaaGreat
namespace Go.Proofs.YtecibfncnaccjaaGreat
open Go.RowKit Go.Shelf

end Go.Proofs.YtecibfncnaccjaaGreat
namespace Go.Proofs.YtecibfncnaccjaaGreat

def IsRoot (z : Int) (s : Nat) : Prop := if z < 0 then s = 0 else (s : Int) * s ≤ z ∧ z < ((s : Int) + 1) * (s + 1)
theorem IsRoot.zero : IsRoot 0 0 := by unfold IsRoot; rw [if_neg (by omega)]; omega
theorem IsRoot.neg {z : Int} (h : z < 0) : IsRoot z 0 := by unfold IsRoot; rw [if_pos h]
end Go.Proofs.YtecibfncnaccjaaGreat
