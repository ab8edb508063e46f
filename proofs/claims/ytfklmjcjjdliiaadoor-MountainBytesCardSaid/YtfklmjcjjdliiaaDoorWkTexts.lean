/- SameInts and SameStrings of the reference of layer 2 compare two lists; for lists that can be read. One text of a slice of texts, and signatures as values; over any program. -/
import Derived.Test.YtfklmjcjjdliiaaDoorRd
import Derived.Test.YtfklmjcjjdliiaaDoorProg
import Derived.Deep.QuietTactic
import Derived.BigQuiet
namespace Go.Proofs.YtfklmjcjjdliiaaDoor
open Go Go.RowKit Licit

theorem beqB_ne {x y : Bs} (h : ¬ x = y) : ((B x).toList == (B y).toList) = false := by
  rw [ByteArray.toList_eq, ByteArray.toList_eq, B_list, B_list]; simpa using h
theorem beqB_eq (x : Bs) : ((B x).toList == (B x).toList) = true := by simp
end Go.Proofs.YtfklmjcjjdliiaaDoor
namespace Go.Proofs.YtfklmjcjjdliiaaDoor
open Go Go.RowKit Licit
/-- One text of a slice. -/
theorem _root_.Licit.IsSl.text {v : Value} {xs : List Bs} {w : World} (h : IsSl v (xs.map vS) w) {n : Nat} (hn : xs.length = n) {j : Nat} (hj : j < n) :
    ∃ blk off cap, v = .slice (some ⟨blk, off, none⟩) n cap ∧ blk < w.heap.size ∧ w.cell? ⟨blk, off + j, none⟩ = some (.string (B (xs.getD j []))) := by
  obtain ⟨a, cap, rfl⟩ := h.form
  obtain ⟨blk, off, rfl, hb, hc⟩ := h.at (k := j) (by rw [List.length_map]; omega)
  refine ⟨blk, off, cap, by rw [List.length_map, hn], hb, ?_⟩
  rw [hc, List.getElem_map, List.getD_eq_getElem?_getD, List.getElem?_eq_getElem (by omega)]
  rfl
/-- A signature as a value: its three lists read so. -/
def SigIs (v : Value) (i : Int) (S H R : List Bs) (w : World) : Prop := ∃ vs vh vr : Value, v = .agg #[.int .i64 i, vs, vh, vr] ∧ IsSl vs (S.map vS) w ∧ IsSl vh (H.map vS) w ∧ IsSl vr (R.map vS) w
theorem SigIs.below {v : Value} {i : Int} {S H R : List Bs} {w w' : World} (h : SigIs v i S H R w) (hb : Below w.heap.size w w') : SigIs v i S H R w' := by
  obtain ⟨vs, vh, vr, rfl, h1, h2, h3⟩ := h
  exact ⟨vs, vh, vr, rfl, h1.below hb, h2.below hb, h3.below hb⟩

end Go.Proofs.YtfklmjcjjdliiaaDoor
