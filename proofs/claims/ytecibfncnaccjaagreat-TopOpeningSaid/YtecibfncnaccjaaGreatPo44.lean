/- contour.total's function with contour.Volume$1 and contour.Volume$2: the walk. -/
import Derived.Test.YtecibfncnaccjaaGreatPo40
namespace Go.Proofs.YtecibfncnaccjaaGreat
open Go.RowKit Go.Shelf
end Go.Proofs.YtecibfncnaccjaaGreat
