/- The rotations of both sides are one function. -/
import Derived.Test.YtfklmjcjjdliiaaDoorProg
import Derived.Test.YtfklmjcjjdliiaaDoorPlainShaAll
import Derived.WalkKit
import Derived.WalkLawsBesides
import Derived.Lib.Hide
namespace Go.Proofs.YtfklmjcjjdliiaaDoor
open Go Go.RowKit Licit Licit.Sha

theorem Rot_any (x : W64) (n : Nat) (w : World) (h : n < 64) :
    Calls Tryd.prog 115 #[.int .u64 (x.toNat : Int), .int .i64 (n : Int)] w fun e w' => e = .returned (vW (rot x n)) ∧ w = w' := by
  have h1 := lt64 x
  have hb := brot x n
  have HB := Lib.hid hb
  clear hb
  go_enter Tryd.func115, Tryd.ntmps115
  go_wp2
  go_ret
  exact ⟨congrArg (fun v => Ending.returned (.int .u64 v)) HB.out, rfl⟩

theorem RotateLeft_any (x : W64) (n : Nat) (w : World) (h : n < 64) :
    Calls Tryd.prog 127 #[.int .u64 (x.toNat : Int), .int .i64 (n : Int)] w fun e w' => e = .returned (vW (rot x n)) ∧ w = w' := by
  have h1 := lt64 x
  have hb := brot x n
  have HB := Lib.hid hb
  clear hb
  have ha := band63 n h
  go_enter Tryd.func127, Tryd.ntmps127
  go_wp2
  go_ret
  exact ⟨congrArg (fun v => Ending.returned (.int .u64 v)) HB.out, rfl⟩

end Go.Proofs.YtfklmjcjjdliiaaDoor
