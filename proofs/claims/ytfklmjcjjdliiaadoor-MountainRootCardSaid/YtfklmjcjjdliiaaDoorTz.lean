/-
  DERIVED: THE SHELF's CONTRACTS AT THIS DUMP, IN PLAIN WORDS (tools/lay-plain.mjs out of 'TrydTz.lean', which tools/lay-shelf.mjs wrote): THE SAME DECLARATIONS UNDER THE SAME NAMES: 'import', 'namespace', 'open', 'def', 'theorem' AND NOTHING ELSE: no command of the shelf's: FOR A HAND-IN. Each laying: the table of numbers ('.._ren') and one theorem, a field a fact of the dump's own or the kernel's comparison; each contract: ONE APPLICATION.
-/
import Derived.Shelf.Spec.TrailingZeros
import Derived.Shelf.Lays7
import Derived.Test.YtfklmjcjjdliiaaDoorProg
namespace Go.Proofs
open Go.Shelf
def Tryd.lays7x27_ren : Go.Shelf.Ren := ⟨fun | 27 => 82 | 28 => 102 | 29 => 103 | n => n, fun | 25 => 59 | 3 => 3 | 27 => 82 | 22 => 84 | 4 => 4 | 53 => 116 | 0 => 0 | 5 => 5 | 54 => 117 | n => n, fun | 0 => 0 | 1 => 1 | n => n⟩
theorem Tryd.lays7x27 : Go.Proofs.Lays7.n27 Tryd.prog Tryd.lays7x27_ren := {
  mixed := by kernel_rfl
  f27 := Tryd.func82.trans (congrArg some (by kernel_rfl))
  f28 := Tryd.func102.trans (congrArg some (by kernel_rfl))
  f29 := Tryd.func103.trans (congrArg some (by kernel_rfl))
  t0 := Tryd.underlying0
  a0 := Tryd.isAgg0
  z0 := Tryd.sizeOf0
  v0 := Tryd.zeroValue0
  i0 := by kernel_rfl
  t3 := Tryd.underlying3
  a3 := Tryd.isAgg3
  z3 := Tryd.sizeOf3
  v3 := Tryd.zeroValue3
  i3 := by kernel_rfl
  t4 := Tryd.underlying4
  a4 := Tryd.isAgg4
  z4 := Tryd.sizeOf4
  v4 := Tryd.zeroValue4
  i4 := by kernel_rfl
  t5 := Tryd.underlying5
  a5 := Tryd.isAgg5
  z5 := Tryd.sizeOf5
  v5 := Tryd.zeroValue5
  i5 := by kernel_rfl
  t22 := Tryd.underlying84
  a22 := Tryd.isAgg84
  z22 := Tryd.sizeOf84
  v22 := Tryd.zeroValue84
  i22 := by kernel_rfl
  t25 := Tryd.underlying59
  a25 := Tryd.isAgg59
  z25 := Tryd.sizeOf59
  v25 := Tryd.zeroValue59
  i25 := by kernel_rfl
  t27 := Tryd.underlying82
  a27 := Tryd.isAgg82
  z27 := Tryd.sizeOf82
  v27 := Tryd.zeroValue82
  i27 := by kernel_rfl
  t53 := Tryd.underlying116
  a53 := Tryd.isAgg116
  z53 := Tryd.sizeOf116
  v53 := Tryd.zeroValue116
  i53 := by kernel_rfl
  t54 := Tryd.underlying117
  a54 := Tryd.isAgg117
  z54 := Tryd.sizeOf117
  g0 := by kernel_rfl
  g1 := by kernel_rfl }
end Go.Proofs
