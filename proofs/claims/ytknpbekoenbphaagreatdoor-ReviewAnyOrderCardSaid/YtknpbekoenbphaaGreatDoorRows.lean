/-
  NARROWER THAN 'FOR EVERY INPUT', by the rows' own cells (each row's printed sentence says how): ReviewFolds: laid · ReviewAnyOrder: laid · ReviewOrders: laid · ReviewBeginnings: laid · ReviewPasts: laid · ReviewChecks: laid · ReviewSigns: laid · ReviewValid: laid · ReviewDecodes: laid · ReviewPacks: laid.
  DERIVED. THE GIVEN ROWS OF THIS SEAT. 10 by the template 'for every input the law returns true; each argument reads behind the call as it read before'; 0 by the template 'total and deterministic' (their statements: YtknpbekoenbphaaGreatDoorTotals.lean).
  GIVEN WITH THE SEED: the statements are not yours to turn. If you find one false, say at which input.
  Laid BY PROGRAM, IN A SANDBOX (cutbox-rows.mjs): the forced cells as the released guide's own fill.sh prints them over the translation 0df67f65edf202ab… (all of the seat's roots in one cut). By AI agents, Wed Nov 11 2026. No macro, syntax, notation, axiom, sorry.
-/
import Derived.Test.YtknpbekoenbphaaGreatDoorChecked
import GoSem.Claim
import GoSem.ClaimJoined
import GoSem.ClaimMapViews
import Derived.JoinedTies
import Derived.KernelRfl
namespace Go.Proofs.YtknpbekoenbphaaGreatDoor
/- THE CELL 'sum', in the pinned program and in every row, IS THE sha256 OF THE DUMP (.gsa) THAT YtknpbekoenbphaaGreatDoorProg.lean LOADS. Nothing in Lean hashes anything: it is a label: what it is worth is what the hold of that sum in a sandbox is worth. -/
noncomputable def Tryz.pinned : Pinned := { name := "ytknpbekoenbphaagreatdoor", sum := "0df67f65edf202ab5ff4c104f62dffca49ff0c82d0c60444153d9191a501a14e", checked := Tryz.checked }
namespace Rows
def none {H : Type} : Left H := { results := [], args := [] }

/- WHAT THE LISTED PACKAGE-LEVEL VARIABLES READ AS WHEN THE CALL BEGINS. Each datum BY PROGRAM (the guide's laid-datum.mjs) off the statement by which the dump's own 'gosem.cut.vars' lays the variable. In a bare row this is a premise. The card (YtknpbekoenbphaaGreatDoorCards.lean) ties it to the program's text. -/
def laid_math_bits_deBruijn32tab {H : Type} : DataW H := .agg [.lit (.int .u8 0), .lit (.int .u8 1), .lit (.int .u8 28), .lit (.int .u8 2), .lit (.int .u8 29), .lit (.int .u8 14), .lit (.int .u8 24), .lit (.int .u8 3), .lit (.int .u8 30), .lit (.int .u8 22), .lit (.int .u8 20), .lit (.int .u8 15), .lit (.int .u8 25), .lit (.int .u8 17), .lit (.int .u8 4), .lit (.int .u8 8), .lit (.int .u8 31), .lit (.int .u8 27), .lit (.int .u8 13), .lit (.int .u8 23), .lit (.int .u8 21), .lit (.int .u8 19), .lit (.int .u8 16), .lit (.int .u8 7), .lit (.int .u8 26), .lit (.int .u8 12), .lit (.int .u8 18), .lit (.int .u8 6), .lit (.int .u8 11), .lit (.int .u8 5), .lit (.int .u8 10), .lit (.int .u8 9)]
def laid_math_bits_deBruijn64tab {H : Type} : DataW H := .agg [.lit (.int .u8 0), .lit (.int .u8 1), .lit (.int .u8 56), .lit (.int .u8 2), .lit (.int .u8 57), .lit (.int .u8 49), .lit (.int .u8 28), .lit (.int .u8 3), .lit (.int .u8 61), .lit (.int .u8 58), .lit (.int .u8 42), .lit (.int .u8 50), .lit (.int .u8 38), .lit (.int .u8 29), .lit (.int .u8 17), .lit (.int .u8 4), .lit (.int .u8 62), .lit (.int .u8 47), .lit (.int .u8 59), .lit (.int .u8 36), .lit (.int .u8 45), .lit (.int .u8 43), .lit (.int .u8 51), .lit (.int .u8 22), .lit (.int .u8 53), .lit (.int .u8 39), .lit (.int .u8 33), .lit (.int .u8 30), .lit (.int .u8 24), .lit (.int .u8 18), .lit (.int .u8 12), .lit (.int .u8 5), .lit (.int .u8 63), .lit (.int .u8 55), .lit (.int .u8 48), .lit (.int .u8 27), .lit (.int .u8 60), .lit (.int .u8 41), .lit (.int .u8 37), .lit (.int .u8 16), .lit (.int .u8 46), .lit (.int .u8 35), .lit (.int .u8 44), .lit (.int .u8 21), .lit (.int .u8 52), .lit (.int .u8 32), .lit (.int .u8 23), .lit (.int .u8 11), .lit (.int .u8 54), .lit (.int .u8 26), .lit (.int .u8 40), .lit (.int .u8 15), .lit (.int .u8 34), .lit (.int .u8 20), .lit (.int .u8 31), .lit (.int .u8 10), .lit (.int .u8 25), .lit (.int .u8 14), .lit (.int .u8 19), .lit (.int .u8 9), .lit (.int .u8 13), .lit (.int .u8 8), .lit (.int .u8 7), .lit (.int .u8 6)]
def laid_internal_strconv_uint64pow10 {H : Type} : DataW H := .agg [.lit (.int .u64 1), .lit (.int .u64 10), .lit (.int .u64 100), .lit (.int .u64 1000), .lit (.int .u64 10000), .lit (.int .u64 100000), .lit (.int .u64 1000000), .lit (.int .u64 10000000), .lit (.int .u64 100000000), .lit (.int .u64 1000000000), .lit (.int .u64 10000000000), .lit (.int .u64 100000000000), .lit (.int .u64 1000000000000), .lit (.int .u64 10000000000000), .lit (.int .u64 100000000000000), .lit (.int .u64 1000000000000000), .lit (.int .u64 10000000000000000), .lit (.int .u64 100000000000000000), .lit (.int .u64 1000000000000000000), .lit (.int .u64 10000000000000000000)]

/-- 'licitlaw50.ReviewFolds': WHATEVER THE INPUT: true; the input reads as it did. -/
def reviewFoldsSpec : ChangeSpec := { name := "reviewFolds", fn := fun _ => fun
  | [d] => { results := [.lit (.bool true)], args := [d] }
  | _ => none }
def reviewFoldsRow : OpenClaim := { program := "ytknpbekoenbphaagreatdoor", sum := "0df67f65edf202ab5ff4c104f62dffca49ff0c82d0c60444153d9191a501a14e", func := "licit/licitlaw50.ReviewFolds", spec := "reviewFolds", inPlace := ["internal/abi.NoEscape"], unfollowed := true, recurses := true, named := ["internal/strconv.uint64pow10", "math/bits.deBruijn32tab", "math/bits.deBruijn64tab"], plainKeys := false, apart := false, laid := [("math/bits.deBruijn32tab", laid_math_bits_deBruijn32tab), ("math/bits.deBruijn64tab", laid_math_bits_deBruijn64tab), ("internal/strconv.uint64pow10", laid_internal_strconv_uint64pow10)] }
def ReviewFoldsSaid : Prop := reviewFoldsRow.holds Tryz.pinned (OpenSpec.ofChange reviewFoldsSpec)

/-- ITS FALSE NEIGHBOUR: 'it returns false'. Refute it at one input. -/
def reviewFoldsWrong : ChangeSpec := { name := "reviewFolds", fn := fun _ => fun
  | [d] => { results := [.lit (.bool false)], args := [d] }
  | _ => none }
def ReviewFoldsWrongFalsely : Prop := reviewFoldsRow.holds Tryz.pinned (OpenSpec.ofChange reviewFoldsWrong)

/-- 'licitlaw50.ReviewAnyOrder': WHATEVER THE INPUT: true; the input reads as it did. -/
def reviewAnyOrderSpec : ChangeSpec := { name := "reviewAnyOrder", fn := fun _ => fun
  | [d1, d2] => { results := [.lit (.bool true)], args := [d1, d2] }
  | _ => none }
def reviewAnyOrderRow : OpenClaim := { program := "ytknpbekoenbphaagreatdoor", sum := "0df67f65edf202ab5ff4c104f62dffca49ff0c82d0c60444153d9191a501a14e", func := "licit/licitlaw50.ReviewAnyOrder", spec := "reviewAnyOrder", inPlace := ["internal/abi.NoEscape"], unfollowed := true, recurses := true, named := ["internal/strconv.uint64pow10", "math/bits.deBruijn32tab", "math/bits.deBruijn64tab"], plainKeys := false, apart := false, laid := [("math/bits.deBruijn32tab", laid_math_bits_deBruijn32tab), ("math/bits.deBruijn64tab", laid_math_bits_deBruijn64tab), ("internal/strconv.uint64pow10", laid_internal_strconv_uint64pow10)] }
def ReviewAnyOrderSaid : Prop := reviewAnyOrderRow.holds Tryz.pinned (OpenSpec.ofChange reviewAnyOrderSpec)

/-- ITS FALSE NEIGHBOUR: 'it returns false'. Refute it at one input. -/
def reviewAnyOrderWrong : ChangeSpec := { name := "reviewAnyOrder", fn := fun _ => fun
  | [d1, d2] => { results := [.lit (.bool false)], args := [d1, d2] }
  | _ => none }
def ReviewAnyOrderWrongFalsely : Prop := reviewAnyOrderRow.holds Tryz.pinned (OpenSpec.ofChange reviewAnyOrderWrong)

/-- 'licitlaw50.ReviewOrders': WHATEVER THE INPUT: true; the input reads as it did. -/
def reviewOrdersSpec : ChangeSpec := { name := "reviewOrders", fn := fun _ => fun
  | [d] => { results := [.lit (.bool true)], args := [d] }
  | _ => none }
def reviewOrdersRow : OpenClaim := { program := "ytknpbekoenbphaagreatdoor", sum := "0df67f65edf202ab5ff4c104f62dffca49ff0c82d0c60444153d9191a501a14e", func := "licit/licitlaw50.ReviewOrders", spec := "reviewOrders", inPlace := ["internal/abi.NoEscape"], unfollowed := true, recurses := true, named := ["internal/strconv.uint64pow10", "math/bits.deBruijn32tab", "math/bits.deBruijn64tab"], plainKeys := false, apart := false, laid := [("math/bits.deBruijn32tab", laid_math_bits_deBruijn32tab), ("math/bits.deBruijn64tab", laid_math_bits_deBruijn64tab), ("internal/strconv.uint64pow10", laid_internal_strconv_uint64pow10)] }
def ReviewOrdersSaid : Prop := reviewOrdersRow.holds Tryz.pinned (OpenSpec.ofChange reviewOrdersSpec)

/-- ITS FALSE NEIGHBOUR: 'it returns false'. Refute it at one input. -/
def reviewOrdersWrong : ChangeSpec := { name := "reviewOrders", fn := fun _ => fun
  | [d] => { results := [.lit (.bool false)], args := [d] }
  | _ => none }
def ReviewOrdersWrongFalsely : Prop := reviewOrdersRow.holds Tryz.pinned (OpenSpec.ofChange reviewOrdersWrong)

/-- 'licitlaw50.ReviewBeginnings': WHATEVER THE INPUT: true; the input reads as it did. -/
def reviewBeginningsSpec : ChangeSpec := { name := "reviewBeginnings", fn := fun _ => fun
  | [d1, d2] => { results := [.lit (.bool true)], args := [d1, d2] }
  | _ => none }
def reviewBeginningsRow : OpenClaim := { program := "ytknpbekoenbphaagreatdoor", sum := "0df67f65edf202ab5ff4c104f62dffca49ff0c82d0c60444153d9191a501a14e", func := "licit/licitlaw50.ReviewBeginnings", spec := "reviewBeginnings", inPlace := ["internal/abi.NoEscape"], unfollowed := true, recurses := true, named := ["internal/strconv.uint64pow10", "math/bits.deBruijn32tab", "math/bits.deBruijn64tab"], plainKeys := false, apart := false, laid := [("math/bits.deBruijn32tab", laid_math_bits_deBruijn32tab), ("math/bits.deBruijn64tab", laid_math_bits_deBruijn64tab), ("internal/strconv.uint64pow10", laid_internal_strconv_uint64pow10)] }
def ReviewBeginningsSaid : Prop := reviewBeginningsRow.holds Tryz.pinned (OpenSpec.ofChange reviewBeginningsSpec)

/-- ITS FALSE NEIGHBOUR: 'it returns false'. Refute it at one input. -/
def reviewBeginningsWrong : ChangeSpec := { name := "reviewBeginnings", fn := fun _ => fun
  | [d1, d2] => { results := [.lit (.bool false)], args := [d1, d2] }
  | _ => none }
def ReviewBeginningsWrongFalsely : Prop := reviewBeginningsRow.holds Tryz.pinned (OpenSpec.ofChange reviewBeginningsWrong)

/-- 'licitlaw50.ReviewPasts': WHATEVER THE INPUT: true; the input reads as it did. -/
def reviewPastsSpec : ChangeSpec := { name := "reviewPasts", fn := fun _ => fun
  | [d1, d2] => { results := [.lit (.bool true)], args := [d1, d2] }
  | _ => none }
def reviewPastsRow : OpenClaim := { program := "ytknpbekoenbphaagreatdoor", sum := "0df67f65edf202ab5ff4c104f62dffca49ff0c82d0c60444153d9191a501a14e", func := "licit/licitlaw50.ReviewPasts", spec := "reviewPasts", inPlace := ["internal/abi.NoEscape"], unfollowed := true, recurses := true, named := ["internal/strconv.uint64pow10", "math/bits.deBruijn32tab", "math/bits.deBruijn64tab"], plainKeys := false, apart := false, laid := [("math/bits.deBruijn32tab", laid_math_bits_deBruijn32tab), ("math/bits.deBruijn64tab", laid_math_bits_deBruijn64tab), ("internal/strconv.uint64pow10", laid_internal_strconv_uint64pow10)] }
def ReviewPastsSaid : Prop := reviewPastsRow.holds Tryz.pinned (OpenSpec.ofChange reviewPastsSpec)

/-- ITS FALSE NEIGHBOUR: 'it returns false'. Refute it at one input. -/
def reviewPastsWrong : ChangeSpec := { name := "reviewPasts", fn := fun _ => fun
  | [d1, d2] => { results := [.lit (.bool false)], args := [d1, d2] }
  | _ => none }
def ReviewPastsWrongFalsely : Prop := reviewPastsRow.holds Tryz.pinned (OpenSpec.ofChange reviewPastsWrong)

/-- 'licitlaw50.ReviewChecks': WHATEVER THE INPUT: true; the input reads as it did. -/
def reviewChecksSpec : ChangeSpec := { name := "reviewChecks", fn := fun _ => fun
  | [d1, d2, d3, d4] => { results := [.lit (.bool true)], args := [d1, d2, d3, d4] }
  | _ => none }
def reviewChecksRow : OpenClaim := { program := "ytknpbekoenbphaagreatdoor", sum := "0df67f65edf202ab5ff4c104f62dffca49ff0c82d0c60444153d9191a501a14e", func := "licit/licitlaw50.ReviewChecks", spec := "reviewChecks", inPlace := ["internal/abi.NoEscape"], unfollowed := true, recurses := true, named := ["internal/strconv.uint64pow10", "math/bits.deBruijn32tab", "math/bits.deBruijn64tab"], plainKeys := false, apart := false, laid := [("math/bits.deBruijn32tab", laid_math_bits_deBruijn32tab), ("math/bits.deBruijn64tab", laid_math_bits_deBruijn64tab), ("internal/strconv.uint64pow10", laid_internal_strconv_uint64pow10)] }
def ReviewChecksSaid : Prop := reviewChecksRow.holds Tryz.pinned (OpenSpec.ofChange reviewChecksSpec)

/-- ITS FALSE NEIGHBOUR: 'it returns false'. Refute it at one input. -/
def reviewChecksWrong : ChangeSpec := { name := "reviewChecks", fn := fun _ => fun
  | [d1, d2, d3, d4] => { results := [.lit (.bool false)], args := [d1, d2, d3, d4] }
  | _ => none }
def ReviewChecksWrongFalsely : Prop := reviewChecksRow.holds Tryz.pinned (OpenSpec.ofChange reviewChecksWrong)

/-- 'licitlaw50.ReviewSigns': WHATEVER THE INPUT: true; the input reads as it did. -/
def reviewSignsSpec : ChangeSpec := { name := "reviewSigns", fn := fun _ => fun
  | [d1, d2, d3] => { results := [.lit (.bool true)], args := [d1, d2, d3] }
  | _ => none }
def reviewSignsRow : OpenClaim := { program := "ytknpbekoenbphaagreatdoor", sum := "0df67f65edf202ab5ff4c104f62dffca49ff0c82d0c60444153d9191a501a14e", func := "licit/licitlaw50.ReviewSigns", spec := "reviewSigns", inPlace := ["internal/abi.NoEscape"], unfollowed := true, recurses := true, named := ["internal/strconv.uint64pow10", "math/bits.deBruijn32tab", "math/bits.deBruijn64tab"], plainKeys := false, apart := false, laid := [("math/bits.deBruijn32tab", laid_math_bits_deBruijn32tab), ("math/bits.deBruijn64tab", laid_math_bits_deBruijn64tab), ("internal/strconv.uint64pow10", laid_internal_strconv_uint64pow10)] }
def ReviewSignsSaid : Prop := reviewSignsRow.holds Tryz.pinned (OpenSpec.ofChange reviewSignsSpec)

/-- ITS FALSE NEIGHBOUR: 'it returns false'. Refute it at one input. -/
def reviewSignsWrong : ChangeSpec := { name := "reviewSigns", fn := fun _ => fun
  | [d1, d2, d3] => { results := [.lit (.bool false)], args := [d1, d2, d3] }
  | _ => none }
def ReviewSignsWrongFalsely : Prop := reviewSignsRow.holds Tryz.pinned (OpenSpec.ofChange reviewSignsWrong)

/-- 'licitlaw50.ReviewValid': WHATEVER THE INPUT: true; the input reads as it did. -/
def reviewValidSpec : ChangeSpec := { name := "reviewValid", fn := fun _ => fun
  | [d] => { results := [.lit (.bool true)], args := [d] }
  | _ => none }
def reviewValidRow : OpenClaim := { program := "ytknpbekoenbphaagreatdoor", sum := "0df67f65edf202ab5ff4c104f62dffca49ff0c82d0c60444153d9191a501a14e", func := "licit/licitlaw50.ReviewValid", spec := "reviewValid", inPlace := ["internal/abi.NoEscape"], unfollowed := true, recurses := true, named := ["internal/strconv.uint64pow10", "math/bits.deBruijn32tab", "math/bits.deBruijn64tab"], plainKeys := false, apart := false, laid := [("math/bits.deBruijn32tab", laid_math_bits_deBruijn32tab), ("math/bits.deBruijn64tab", laid_math_bits_deBruijn64tab), ("internal/strconv.uint64pow10", laid_internal_strconv_uint64pow10)] }
def ReviewValidSaid : Prop := reviewValidRow.holds Tryz.pinned (OpenSpec.ofChange reviewValidSpec)

/-- ITS FALSE NEIGHBOUR: 'it returns false'. Refute it at one input. -/
def reviewValidWrong : ChangeSpec := { name := "reviewValid", fn := fun _ => fun
  | [d] => { results := [.lit (.bool false)], args := [d] }
  | _ => none }
def ReviewValidWrongFalsely : Prop := reviewValidRow.holds Tryz.pinned (OpenSpec.ofChange reviewValidWrong)

/-- 'licitlaw50.ReviewDecodes': WHATEVER THE INPUT: true; the input reads as it did. -/
def reviewDecodesSpec : ChangeSpec := { name := "reviewDecodes", fn := fun _ => fun
  | [d] => { results := [.lit (.bool true)], args := [d] }
  | _ => none }
def reviewDecodesRow : OpenClaim := { program := "ytknpbekoenbphaagreatdoor", sum := "0df67f65edf202ab5ff4c104f62dffca49ff0c82d0c60444153d9191a501a14e", func := "licit/licitlaw50.ReviewDecodes", spec := "reviewDecodes", inPlace := ["internal/abi.NoEscape"], unfollowed := true, recurses := true, named := ["internal/strconv.uint64pow10", "math/bits.deBruijn32tab", "math/bits.deBruijn64tab"], plainKeys := false, apart := false, laid := [("math/bits.deBruijn32tab", laid_math_bits_deBruijn32tab), ("math/bits.deBruijn64tab", laid_math_bits_deBruijn64tab), ("internal/strconv.uint64pow10", laid_internal_strconv_uint64pow10)] }
def ReviewDecodesSaid : Prop := reviewDecodesRow.holds Tryz.pinned (OpenSpec.ofChange reviewDecodesSpec)

/-- ITS FALSE NEIGHBOUR: 'it returns false'. Refute it at one input. -/
def reviewDecodesWrong : ChangeSpec := { name := "reviewDecodes", fn := fun _ => fun
  | [d] => { results := [.lit (.bool false)], args := [d] }
  | _ => none }
def ReviewDecodesWrongFalsely : Prop := reviewDecodesRow.holds Tryz.pinned (OpenSpec.ofChange reviewDecodesWrong)

/-- 'licitlaw50.ReviewPacks': WHATEVER THE INPUT: true; the input reads as it did. -/
def reviewPacksSpec : ChangeSpec := { name := "reviewPacks", fn := fun _ => fun
  | [d] => { results := [.lit (.bool true)], args := [d] }
  | _ => none }
def reviewPacksRow : OpenClaim := { program := "ytknpbekoenbphaagreatdoor", sum := "0df67f65edf202ab5ff4c104f62dffca49ff0c82d0c60444153d9191a501a14e", func := "licit/licitlaw50.ReviewPacks", spec := "reviewPacks", inPlace := ["internal/abi.NoEscape"], unfollowed := true, recurses := true, named := ["internal/strconv.uint64pow10", "math/bits.deBruijn32tab", "math/bits.deBruijn64tab"], plainKeys := false, apart := false, laid := [("math/bits.deBruijn32tab", laid_math_bits_deBruijn32tab), ("math/bits.deBruijn64tab", laid_math_bits_deBruijn64tab), ("internal/strconv.uint64pow10", laid_internal_strconv_uint64pow10)] }
def ReviewPacksSaid : Prop := reviewPacksRow.holds Tryz.pinned (OpenSpec.ofChange reviewPacksSpec)

/-- ITS FALSE NEIGHBOUR: 'it returns false'. Refute it at one input. -/
def reviewPacksWrong : ChangeSpec := { name := "reviewPacks", fn := fun _ => fun
  | [d] => { results := [.lit (.bool false)], args := [d] }
  | _ => none }
def ReviewPacksWrongFalsely : Prop := reviewPacksRow.holds Tryz.pinned (OpenSpec.ofChange reviewPacksWrong)

/- THE SECOND FORM. 'bulk': how many values and letters a reading holds, each counted each time it is reached (what is shared counts as often as it is met; a slice's spare places count too). A statement '..UptoSaid' is the law's where the arguments, and the package variables that the reading takes, are together of bulk at most 1048576: NARROWER than '..Said'. Prove '..Said' where nothing that the law and all that it calls make is longer than what came in: it says more and counts as full. Else prove '..UptoSaid'. A law counts once. -/
mutual
def uptoBulk {H : Type} : DataW H → Nat
  | .lit (.string bytes) => bytes.length + 1
  | .lit _ => 1
  | .nil => 1
  | .ptr d => uptoBulk d + 1
  | .slice elems spare => uptoBulkAll elems + uptoBulkAll spare + 1
  | .agg parts => uptoBulkAll parts + 1
  | .iface _ d => uptoBulk d + 1
  | .map entries => uptoBulkEntries entries + 1
  | .held _ => 1
def uptoBulkAll {H : Type} : List (DataW H) → Nat
  | [] => 0
  | d :: r => uptoBulk d + uptoBulkAll r
def uptoBulkEntries {H : Type} : List (Lit × DataW H) → Nat
  | [] => 0
  | x :: r => uptoBulkEntry x + uptoBulkEntries r
def uptoBulkEntry {H : Type} : Lit × DataW H → Nat
  | (.string bytes, d) => bytes.length + uptoBulk d + 1
  | (_, d) => uptoBulk d + 1
 end
def uptoSmall : (H : Type) → List (DataW H) → Bool := fun _ ds => decide (uptoBulkAll ds ≤ 1048576)
def OpenSpec.upto (s : _root_.Go.ChangeSpec) : _root_.Go.OpenSpec := { _root_.Go.OpenSpec.ofChange s with cond := some uptoSmall }

/-- 'licitlaw50.ReviewFolds', WHERE WHAT IT READS IS OF BULK AT MOST 1048576: true; the input reads as it did. -/
def reviewFoldsUptoRow : OpenClaim := { program := "ytknpbekoenbphaagreatdoor", sum := "0df67f65edf202ab5ff4c104f62dffca49ff0c82d0c60444153d9191a501a14e", func := "licit/licitlaw50.ReviewFolds", spec := "reviewFolds", inPlace := ["internal/abi.NoEscape"], unfollowed := true, recurses := true, named := ["internal/strconv.uint64pow10", "math/bits.deBruijn32tab", "math/bits.deBruijn64tab"], plainKeys := false, apart := false, laid := [("math/bits.deBruijn32tab", laid_math_bits_deBruijn32tab), ("math/bits.deBruijn64tab", laid_math_bits_deBruijn64tab), ("internal/strconv.uint64pow10", laid_internal_strconv_uint64pow10)], narrowed := true }
def ReviewFoldsUptoSaid : Prop := reviewFoldsUptoRow.holds Tryz.pinned (OpenSpec.upto reviewFoldsSpec)

/-- 'licitlaw50.ReviewAnyOrder', WHERE WHAT IT READS IS OF BULK AT MOST 1048576: true; the input reads as it did. -/
def reviewAnyOrderUptoRow : OpenClaim := { program := "ytknpbekoenbphaagreatdoor", sum := "0df67f65edf202ab5ff4c104f62dffca49ff0c82d0c60444153d9191a501a14e", func := "licit/licitlaw50.ReviewAnyOrder", spec := "reviewAnyOrder", inPlace := ["internal/abi.NoEscape"], unfollowed := true, recurses := true, named := ["internal/strconv.uint64pow10", "math/bits.deBruijn32tab", "math/bits.deBruijn64tab"], plainKeys := false, apart := false, laid := [("math/bits.deBruijn32tab", laid_math_bits_deBruijn32tab), ("math/bits.deBruijn64tab", laid_math_bits_deBruijn64tab), ("internal/strconv.uint64pow10", laid_internal_strconv_uint64pow10)], narrowed := true }
def ReviewAnyOrderUptoSaid : Prop := reviewAnyOrderUptoRow.holds Tryz.pinned (OpenSpec.upto reviewAnyOrderSpec)

/-- 'licitlaw50.ReviewOrders', WHERE WHAT IT READS IS OF BULK AT MOST 1048576: true; the input reads as it did. -/
def reviewOrdersUptoRow : OpenClaim := { program := "ytknpbekoenbphaagreatdoor", sum := "0df67f65edf202ab5ff4c104f62dffca49ff0c82d0c60444153d9191a501a14e", func := "licit/licitlaw50.ReviewOrders", spec := "reviewOrders", inPlace := ["internal/abi.NoEscape"], unfollowed := true, recurses := true, named := ["internal/strconv.uint64pow10", "math/bits.deBruijn32tab", "math/bits.deBruijn64tab"], plainKeys := false, apart := false, laid := [("math/bits.deBruijn32tab", laid_math_bits_deBruijn32tab), ("math/bits.deBruijn64tab", laid_math_bits_deBruijn64tab), ("internal/strconv.uint64pow10", laid_internal_strconv_uint64pow10)], narrowed := true }
def ReviewOrdersUptoSaid : Prop := reviewOrdersUptoRow.holds Tryz.pinned (OpenSpec.upto reviewOrdersSpec)

/-- 'licitlaw50.ReviewBeginnings', WHERE WHAT IT READS IS OF BULK AT MOST 1048576: true; the input reads as it did. -/
def reviewBeginningsUptoRow : OpenClaim := { program := "ytknpbekoenbphaagreatdoor", sum := "0df67f65edf202ab5ff4c104f62dffca49ff0c82d0c60444153d9191a501a14e", func := "licit/licitlaw50.ReviewBeginnings", spec := "reviewBeginnings", inPlace := ["internal/abi.NoEscape"], unfollowed := true, recurses := true, named := ["internal/strconv.uint64pow10", "math/bits.deBruijn32tab", "math/bits.deBruijn64tab"], plainKeys := false, apart := false, laid := [("math/bits.deBruijn32tab", laid_math_bits_deBruijn32tab), ("math/bits.deBruijn64tab", laid_math_bits_deBruijn64tab), ("internal/strconv.uint64pow10", laid_internal_strconv_uint64pow10)], narrowed := true }
def ReviewBeginningsUptoSaid : Prop := reviewBeginningsUptoRow.holds Tryz.pinned (OpenSpec.upto reviewBeginningsSpec)

/-- 'licitlaw50.ReviewPasts', WHERE WHAT IT READS IS OF BULK AT MOST 1048576: true; the input reads as it did. -/
def reviewPastsUptoRow : OpenClaim := { program := "ytknpbekoenbphaagreatdoor", sum := "0df67f65edf202ab5ff4c104f62dffca49ff0c82d0c60444153d9191a501a14e", func := "licit/licitlaw50.ReviewPasts", spec := "reviewPasts", inPlace := ["internal/abi.NoEscape"], unfollowed := true, recurses := true, named := ["internal/strconv.uint64pow10", "math/bits.deBruijn32tab", "math/bits.deBruijn64tab"], plainKeys := false, apart := false, laid := [("math/bits.deBruijn32tab", laid_math_bits_deBruijn32tab), ("math/bits.deBruijn64tab", laid_math_bits_deBruijn64tab), ("internal/strconv.uint64pow10", laid_internal_strconv_uint64pow10)], narrowed := true }
def ReviewPastsUptoSaid : Prop := reviewPastsUptoRow.holds Tryz.pinned (OpenSpec.upto reviewPastsSpec)

/-- 'licitlaw50.ReviewChecks', WHERE WHAT IT READS IS OF BULK AT MOST 1048576: true; the input reads as it did. -/
def reviewChecksUptoRow : OpenClaim := { program := "ytknpbekoenbphaagreatdoor", sum := "0df67f65edf202ab5ff4c104f62dffca49ff0c82d0c60444153d9191a501a14e", func := "licit/licitlaw50.ReviewChecks", spec := "reviewChecks", inPlace := ["internal/abi.NoEscape"], unfollowed := true, recurses := true, named := ["internal/strconv.uint64pow10", "math/bits.deBruijn32tab", "math/bits.deBruijn64tab"], plainKeys := false, apart := false, laid := [("math/bits.deBruijn32tab", laid_math_bits_deBruijn32tab), ("math/bits.deBruijn64tab", laid_math_bits_deBruijn64tab), ("internal/strconv.uint64pow10", laid_internal_strconv_uint64pow10)], narrowed := true }
def ReviewChecksUptoSaid : Prop := reviewChecksUptoRow.holds Tryz.pinned (OpenSpec.upto reviewChecksSpec)

/-- 'licitlaw50.ReviewSigns', WHERE WHAT IT READS IS OF BULK AT MOST 1048576: true; the input reads as it did. -/
def reviewSignsUptoRow : OpenClaim := { program := "ytknpbekoenbphaagreatdoor", sum := "0df67f65edf202ab5ff4c104f62dffca49ff0c82d0c60444153d9191a501a14e", func := "licit/licitlaw50.ReviewSigns", spec := "reviewSigns", inPlace := ["internal/abi.NoEscape"], unfollowed := true, recurses := true, named := ["internal/strconv.uint64pow10", "math/bits.deBruijn32tab", "math/bits.deBruijn64tab"], plainKeys := false, apart := false, laid := [("math/bits.deBruijn32tab", laid_math_bits_deBruijn32tab), ("math/bits.deBruijn64tab", laid_math_bits_deBruijn64tab), ("internal/strconv.uint64pow10", laid_internal_strconv_uint64pow10)], narrowed := true }
def ReviewSignsUptoSaid : Prop := reviewSignsUptoRow.holds Tryz.pinned (OpenSpec.upto reviewSignsSpec)

/-- 'licitlaw50.ReviewValid', WHERE WHAT IT READS IS OF BULK AT MOST 1048576: true; the input reads as it did. -/
def reviewValidUptoRow : OpenClaim := { program := "ytknpbekoenbphaagreatdoor", sum := "0df67f65edf202ab5ff4c104f62dffca49ff0c82d0c60444153d9191a501a14e", func := "licit/licitlaw50.ReviewValid", spec := "reviewValid", inPlace := ["internal/abi.NoEscape"], unfollowed := true, recurses := true, named := ["internal/strconv.uint64pow10", "math/bits.deBruijn32tab", "math/bits.deBruijn64tab"], plainKeys := false, apart := false, laid := [("math/bits.deBruijn32tab", laid_math_bits_deBruijn32tab), ("math/bits.deBruijn64tab", laid_math_bits_deBruijn64tab), ("internal/strconv.uint64pow10", laid_internal_strconv_uint64pow10)], narrowed := true }
def ReviewValidUptoSaid : Prop := reviewValidUptoRow.holds Tryz.pinned (OpenSpec.upto reviewValidSpec)

/-- 'licitlaw50.ReviewDecodes', WHERE WHAT IT READS IS OF BULK AT MOST 1048576: true; the input reads as it did. -/
def reviewDecodesUptoRow : OpenClaim := { program := "ytknpbekoenbphaagreatdoor", sum := "0df67f65edf202ab5ff4c104f62dffca49ff0c82d0c60444153d9191a501a14e", func := "licit/licitlaw50.ReviewDecodes", spec := "reviewDecodes", inPlace := ["internal/abi.NoEscape"], unfollowed := true, recurses := true, named := ["internal/strconv.uint64pow10", "math/bits.deBruijn32tab", "math/bits.deBruijn64tab"], plainKeys := false, apart := false, laid := [("math/bits.deBruijn32tab", laid_math_bits_deBruijn32tab), ("math/bits.deBruijn64tab", laid_math_bits_deBruijn64tab), ("internal/strconv.uint64pow10", laid_internal_strconv_uint64pow10)], narrowed := true }
def ReviewDecodesUptoSaid : Prop := reviewDecodesUptoRow.holds Tryz.pinned (OpenSpec.upto reviewDecodesSpec)

/-- 'licitlaw50.ReviewPacks', WHERE WHAT IT READS IS OF BULK AT MOST 1048576: true; the input reads as it did. -/
def reviewPacksUptoRow : OpenClaim := { program := "ytknpbekoenbphaagreatdoor", sum := "0df67f65edf202ab5ff4c104f62dffca49ff0c82d0c60444153d9191a501a14e", func := "licit/licitlaw50.ReviewPacks", spec := "reviewPacks", inPlace := ["internal/abi.NoEscape"], unfollowed := true, recurses := true, named := ["internal/strconv.uint64pow10", "math/bits.deBruijn32tab", "math/bits.deBruijn64tab"], plainKeys := false, apart := false, laid := [("math/bits.deBruijn32tab", laid_math_bits_deBruijn32tab), ("math/bits.deBruijn64tab", laid_math_bits_deBruijn64tab), ("internal/strconv.uint64pow10", laid_internal_strconv_uint64pow10)], narrowed := true }
def ReviewPacksUptoSaid : Prop := reviewPacksUptoRow.holds Tryz.pinned (OpenSpec.upto reviewPacksSpec)

end Rows
end Go.Proofs.YtknpbekoenbphaaGreatDoor
