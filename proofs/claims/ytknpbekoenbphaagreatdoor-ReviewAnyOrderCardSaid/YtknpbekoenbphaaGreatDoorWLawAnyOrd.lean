/- The walk of the law. No condition beyond those at the theorem. -/
import Derived.Test.YtknpbekoenbphaaGreatDoorQk25
import Derived.Test.YtknpbekoenbphaaGreatDoorQk47
set_option linter.unusedVariables false
set_option linter.unusedSimpArgs false
namespace Go.Proofs.YtknpbekoenbphaaGreatDoor.lawAnyOrd
open Go Go.RowKit Licit
open Go.ChangeShapes Go.WideShapes Go.ChangeAt
end Go.Proofs.YtknpbekoenbphaaGreatDoor.lawAnyOrd
