/- The rotations of both sides are one function. -/
import Derived.Test.YtdkjehagkmkokaaDoorProg
import Derived.Test.YtdkjehagkmkokaaDoorPlainShaAll
import Derived.WalkKit
import Derived.WalkLawsBesides
import Derived.Lib.Hide
namespace Go.Proofs.YtdkjehagkmkokaaDoor
open Go Go.RowKit Licit Licit.Sha

theorem Rot_any (x : W64) (n : Nat) (w : World) (h : n < 64) :
    Calls Tryd.prog 93 #[.int .u64 (x.toNat : Int), .int .i64 (n : Int)] w fun e w' => e = .returned (vW (rot x n)) ∧ w = w' := by
  have h1 := lt64 x
  have hb := brot x n
  have HB := Lib.hid hb
  clear hb
  go_enter Tryd.func93, Tryd.ntmps93
  go_wp2
  go_ret
  exact ⟨congrArg (fun v => Ending.returned (.int .u64 v)) HB.out, rfl⟩

theorem RotateLeft_any (x : W64) (n : Nat) (w : World) (h : n < 64) :
    Calls Tryd.prog 108 #[.int .u64 (x.toNat : Int), .int .i64 (n : Int)] w fun e w' => e = .returned (vW (rot x n)) ∧ w = w' := by
  have h1 := lt64 x
  have hb := brot x n
  have HB := Lib.hid hb
  clear hb
  have ha := band63 n h
  go_enter Tryd.func108, Tryd.ntmps108
  go_wp2
  go_ret
  exact ⟨congrArg (fun v => Ending.returned (.int .u64 v)) HB.out, rfl⟩

end Go.Proofs.YtdkjehagkmkokaaDoor
