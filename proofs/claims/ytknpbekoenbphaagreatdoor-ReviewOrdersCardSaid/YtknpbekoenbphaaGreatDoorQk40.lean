/- Parts of the proofs: FrmAll, Rd, WkSlices. No condition beyond those at each theorem. -/
import Derived.Test.YtknpbekoenbphaaGreatDoorQk12
set_option linter.unusedVariables false
set_option linter.unusedSimpArgs false
set_option maxHeartbeats 16000000
set_option maxRecDepth 100000
namespace Licit
open Go Go.RowKit
section
variable {P:Program} (w:World)
variable {w}
def krl (u v:Value):Prop:=∀q,u.ownBlock=some q→v.ownBlock≠some q
end
def Rd (T:TypeId) (r:Nat) (s:ByteArray) (E:Int) (w:World):Prop:=w.heap[r]? = some (.cells #[.string s,.int .i64 E] T (0,0))
section
variable {T:TypeId} {r:Nat} {s:ByteArray} {E:Int} {w w':World}
theorem Rd.f (h:Rd T r s E w) (i:Nat):w.frozen? ⟨r,i,none⟩=false:=kbm h i
end
end Licit
namespace Go.Proofs.YtknpbekoenbphaaGreatDoor
open Go Go.RowKit Licit
theorem ktq (xs:List Bs) {j:Nat} (hj:j<xs.length):(xs.map B).getD j ByteArray.empty=B (xs.getD j []):=by
 rw [List.getD_eq_getElem?_getD,List.getElem?_map,List.getElem?_eq_getElem hj,List.getD_eq_getElem?_getD,List.getElem?_eq_getElem hj];rfl
end Go.Proofs.YtknpbekoenbphaaGreatDoor
