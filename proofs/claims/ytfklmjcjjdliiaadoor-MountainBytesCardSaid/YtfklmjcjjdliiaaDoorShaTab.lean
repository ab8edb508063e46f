/- The tables of offsets and constants of both sides. -/
import Derived.Test.YtfklmjcjjdliiaaDoorProg
import Derived.Test.YtfklmjcjjdliiaaDoorPlainShaAll
import Derived.Test.YtfklmjcjjdliiaaDoorFrmAll
import Derived.WalkKit
import Derived.WalkLawsBesides
import Derived.Lib.Hide
import Derived.Laws.Rows
import Derived.Laws.Tables
namespace Go.Proofs.YtfklmjcjjdliiaaDoor
open Go Go.RowKit Licit Licit.Sha

/-- The offsets and constants as values. -/
def vOffs : List Value := [Value.int .i64 0, Value.int .i64 1, Value.int .i64 62, Value.int .i64 28, Value.int .i64 27, Value.int .i64 36, Value.int .i64 44, Value.int .i64 6, Value.int .i64 55, Value.int .i64 20, Value.int .i64 3, Value.int .i64 10, Value.int .i64 43, Value.int .i64 25, Value.int .i64 39, Value.int .i64 41, Value.int .i64 45, Value.int .i64 15, Value.int .i64 21, Value.int .i64 8, Value.int .i64 18, Value.int .i64 2, Value.int .i64 61, Value.int .i64 56, Value.int .i64 14]
def vCons : List Value := [Value.int .u64 1, Value.int .u64 32898, Value.int .u64 9223372036854808714, Value.int .u64 9223372039002292224, Value.int .u64 32907, Value.int .u64 2147483649, Value.int .u64 9223372039002292353, Value.int .u64 9223372036854808585, Value.int .u64 138, Value.int .u64 136, Value.int .u64 2147516425, Value.int .u64 2147483658, Value.int .u64 2147516555, Value.int .u64 9223372036854775947, Value.int .u64 9223372036854808713, Value.int .u64 9223372036854808579, Value.int .u64 9223372036854808578, Value.int .u64 9223372036854775936, Value.int .u64 32778, Value.int .u64 9223372039002259466, Value.int .u64 9223372039002292353, Value.int .u64 9223372036854808704, Value.int .u64 2147483649, Value.int .u64 9223372039002292232]

theorem vOffs_eq : vOffs = offs.map (fun n : Nat => Value.int .i64 (n : Int)) := rfl
theorem vCons_eq : vCons = cons.map (fun n => vW (BitVec.ofNat 64 n)) := by kernel_rfl
theorem map_at {α β : Type} (f : α → β) (l : List α) (d : α) (i : Nat) (h : i < l.length) : (l.map f)[i]? = some (f (l.getD i d)) := by
  rw [List.getElem?_map, List.getD_eq_getElem?_getD, List.getElem?_eq_getElem h]
  rfl
theorem vOffs_at (i : Nat) (h : i < 25) : vOffs[i]? = some (.int .i64 (off i : Int)) := by
  rw [vOffs_eq]
  exact map_at _ offs 0 i h
theorem vCons_at (i : Nat) (h : i < 24) : vCons[i]? = some (vW (con i)) := by
  rw [vCons_eq]
  exact map_at _ cons 0 i h

theorem offset_any (x y : Nat) (w : World) (hx : x < 5) (hy : y < 5) :
    Calls Tryd.prog 116 #[.int .i64 (x : Int), .int .i64 (y : Int)] w fun e w' => e = .returned (.int .i64 (off (x + 5 * y) : Int)) ∧ Below w.heap.size w w' := by
  have hL := vOffs_at (x + 5 * y) (by omega)
  unfold vOffs at hL
  go_enter Tryd.func116, Tryd.ntmps116
  go_wp2
  go_ret
  exact ⟨rfl, (Below.refl _ _).alloc (Nat.le_refl _) _⟩

theorem constant_any (i : Nat) (w : World) (h : i < 24) :
    Calls Tryd.prog 109 #[.int .i64 (i : Int)] w fun e w' => e = .returned (vW (con i)) ∧ Below w.heap.size w w' := by
  have hL := vCons_at i h
  obtain ⟨_, hL⟩ := List.getElem?_eq_some_iff.1 hL
  have HL := Lib.hid hL
  clear hL
  go_enter Tryd.func109, Tryd.ntmps109
  go_wp2
  go_ret
  exact ⟨congrArg Ending.returned HL.out, (Below.refl _ _).alloc (Nat.le_refl _) _⟩

set_option maxRecDepth 100000 in
theorem offsets_any (w : World) :
    Calls Tryd.prog 120 #[] w fun e w' => e = .returned (.agg vOffs.toArray) ∧ Below w.heap.size w w' := by
  go_enter Tryd.func120, Tryd.ntmps120
  go_wp2_with (refine wpList_store_whole rfl 125 _ _ rfl _ rfl vOffs.toArray rfl _ _ (new_of w _) (by kernel_rfl) rfl (by kernel_rfl) ?_)
  refine ret_whole rfl _ 125 _ (0, 0) _ rfl (row_of (new_of w _)) rfl rfl (by kernel_rfl) rfl ?_
  exact ⟨rfl, Below.setRow' ((Below.refl _ _).alloc (Nat.le_refl _) _) (Nat.le_refl _) _⟩

set_option maxRecDepth 100000 in
theorem constants_any (w : World) :
    Calls Tryd.prog 121 #[] w fun e w' => e = .returned (.agg vCons.toArray) ∧ Below w.heap.size w w' := by
  go_enter Tryd.func121, Tryd.ntmps121
  go_wp2_with (refine wpList_store_whole rfl 127 _ _ rfl _ rfl vCons.toArray rfl _ _ (new_of w _) (by kernel_rfl) rfl (by kernel_rfl) ?_)
  refine ret_whole rfl _ 127 _ (0, 0) _ rfl (row_of (new_of w _)) rfl rfl (by kernel_rfl) rfl ?_
  exact ⟨rfl, Below.setRow' ((Below.refl _ _).alloc (Nat.le_refl _) _) (Nat.le_refl _) _⟩

end Go.Proofs.YtfklmjcjjdliiaaDoor
