/- Parts of the proofs: WkNs3. No condition beyond those at each theorem. -/
import Derived.Test.YtknpbekoenbphaaGreatDoorQk34
import Derived.Test.YtknpbekoenbphaaGreatDoorQk40
set_option linter.unusedVariables false
set_option linter.unusedSimpArgs false
set_option maxHeartbeats 16000000
set_option maxRecDepth 100000
namespace Go.Proofs.YtknpbekoenbphaaGreatDoor
open Go Go.RowKit Licit
section
variable {l:List Rv.Ev} {ids:List Bs} (h:¬ 1024<l.length)
include h
end
theorem kz9.below {l:List Rv.Ev} {S:Rv.Stt} {vI vR vP vO:Value} {pv:Nat→Value} {w w':World} (h:kz9 l S vI vR vP vO pv w) (hb:Below w.heap.size w w'):kz9 l S vI vR vP vO pv w' :=
 ⟨h.ids.below hb,h.ranks.below hb,h.pasts.below hb,fun i hi=>(h.rows i hi).below hb,h.ord.below hb⟩
end Go.Proofs.YtknpbekoenbphaaGreatDoor
