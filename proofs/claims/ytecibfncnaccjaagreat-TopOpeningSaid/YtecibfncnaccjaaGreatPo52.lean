/- slices.insertionSortCmpFunc, stableCmpFunc, SortStableFunc of corners: the walks. slices.stableCmpFunc and SortStableFunc of at most 20 corners: the walks. The corners of a raster, plainly; there are few. No program in sight. -/
import Derived.Test.YtecibfncnaccjaaGreatPo51
import Derived.RegionTactic
import Derived.BigRegion
namespace Go.Proofs.YtecibfncnaccjaaGreat
open Go.RowKit Go.Shelf
end Go.Proofs.YtecibfncnaccjaaGreat
namespace Go.Proofs.YtecibfncnaccjaaGreat

end Go.Proofs.YtecibfncnaccjaaGreat
