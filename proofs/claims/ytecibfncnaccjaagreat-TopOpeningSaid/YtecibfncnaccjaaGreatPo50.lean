/- The scores of pixels: sums and bounds. No program in sight. raster.made, Turn, Mirror: the walks. corner.scores: the walk. corner.floor, offset, checked, Scores; fiducialref20.Asked: the walks. -/
import Derived.Test.YtecibfncnaccjaaGreatPo2
import Derived.Test.YtecibfncnaccjaaGreatPo28
import Derived.Lib.SmallJoins
import Derived.Test.YtecibfncnaccjaaGreatPo13
import Derived.Deep.DeepCutAuto
namespace Go.Proofs.YtecibfncnaccjaaGreat

end Go.Proofs.YtecibfncnaccjaaGreat
namespace Go.Proofs.YtecibfncnaccjaaGreat
open Go.RowKit Go.Shelf
end Go.Proofs.YtecibfncnaccjaaGreat
