/- Parts of the proofs: FrmAll, Rd. No condition beyond those at each theorem. -/
import Derived.Test.YtknpbekoenbphaaGreatDoorQk40
set_option linter.unusedVariables false
set_option linter.unusedSimpArgs false
set_option maxHeartbeats 16000000
set_option maxRecDepth 100000
namespace Licit
open Go Go.RowKit
section
variable {P:Program} (w:World)
variable {w}
theorem krl.nil {v:Value}:krl (.slice none 0 0) v:=fun q h=>by cases h
end
section
variable {T:TypeId} {r:Nat} {s:ByteArray} {E:Int} {w w':World}
theorem Rd.lt (h:Rd T r s E w):r<w.heap.size:=kad h
end
end Licit
