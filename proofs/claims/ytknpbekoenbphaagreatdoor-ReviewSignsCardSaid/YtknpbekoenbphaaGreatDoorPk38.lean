/- Parts of the proofs: LawKit48. No condition beyond those at each theorem. -/
import Derived.Test.YtknpbekoenbphaaGreatDoorPk29
set_option linter.unusedVariables false
set_option linter.unusedSimpArgs false
set_option maxHeartbeats 16000000
set_option maxRecDepth 100000
namespace Go.Proofs.YtknpbekoenbphaaGreatDoor
open Go Go.RowKit Licit
open Go.ChangeShapes Go.WideShapes Go.ChangeAt
open Go.ChangeMaps (open_string)
section
variable {H : Type} {enc : TypeId × Value → H} {P : Program} {W : World} {base : Nat} {sp : Nat → Bool} {held : Bool} {r : Reach} {b0 : Nat} {v : Value} {d : DataW H} {ps : List MemPlace}
theorem kym (hval : Value.okWide Tryz.prog W r b0 9 v) (hd : DataW.Trod enc Tryz.prog W base sp held 9 v d ps) : ∃ s : Bs, v = .string (B s) ∧ s.length ≤ maxLen := by
 obtain ⟨s, rfl, _, _, hs⟩ := open_string Tryz.underlying9 hval hd
 exact ⟨s.data.toList, by rw [kxx], by rw [kgf]; exact hs⟩
end
end Go.Proofs.YtknpbekoenbphaaGreatDoor
