/- formed: the walk. -/
import Derived.Test.YtgcigdahjabimaaGreatDoorPk51
import Derived.Test.YtgcigdahjabimaaGreatDoorPk38
namespace Go.Proofs.YtgcigdahjabimaaGreatDoor
open Go.RowKit Go.Shelf
end Go.Proofs.YtgcigdahjabimaaGreatDoor
