/-
  NARROWER THAN 'FOR EVERY INPUT', by the rows' own cells (each row's printed sentence says how): MountainProves: laid · MountainIncluded: laid · MountainOnly: laid · MountainOf: laid · MountainAdds: laid · MountainGrows: laid · MountainGrown: laid · MountainParts: laid · MountainBytes: laid · MountainRoot: laid.
  DERIVED. THE GIVEN ROWS OF THIS SEAT. 10 by the template 'for every input the law returns true; each argument reads behind the call as it read before'; 0 by the template 'total and deterministic' (their statements: YtfklmjcjjdliiaaDoorTotals.lean).
  GIVEN WITH THE SEED: the statements are not yours to turn. If you find one false, say at which input.
  Laid BY PROGRAM, IN A SANDBOX (cutbox-rows.mjs): the forced cells as the released guide's own fill.sh prints them over the translation 28756e9d8438e7a6… (all of the seat's roots in one cut). By AI agents, Wed Nov 11 2026. No macro, syntax, notation, axiom, sorry.
-/
import Derived.Test.YtfklmjcjjdliiaaDoorChecked
import GoSem.Claim
import GoSem.ClaimJoined
import GoSem.ClaimMapViews
import Derived.JoinedTies
import Derived.KernelRfl
namespace Go.Proofs.YtfklmjcjjdliiaaDoor
/- THE CELL 'sum', in the pinned program and in every row, IS THE sha256 OF THE DUMP (.gsa) THAT YtfklmjcjjdliiaaDoorProg.lean LOADS. Nothing in Lean hashes anything: it is a label: what it is worth is what the hold of that sum in a sandbox is worth. -/
noncomputable def Tryd.pinned : Pinned := { name := "ytfklmjcjjdliiaadoor", sum := "28756e9d8438e7a696ff7df2d3b89cd39fd4734b5122710d9a593500ce5b1a1a", checked := Tryd.checked }
namespace Rows
def none {H : Type} : Left H := { results := [], args := [] }

/- WHAT THE LISTED PACKAGE-LEVEL VARIABLES READ AS WHEN THE CALL BEGINS. Each datum BY PROGRAM (the guide's laid-datum.mjs) off the statement by which the dump's own 'gosem.cut.vars' lays the variable. In a bare row this is a premise. The card (YtfklmjcjjdliiaaDoorCards.lean) ties it to the program's text. -/
def laid_math_bits_deBruijn32tab {H : Type} : DataW H := .agg [.lit (.int .u8 0), .lit (.int .u8 1), .lit (.int .u8 28), .lit (.int .u8 2), .lit (.int .u8 29), .lit (.int .u8 14), .lit (.int .u8 24), .lit (.int .u8 3), .lit (.int .u8 30), .lit (.int .u8 22), .lit (.int .u8 20), .lit (.int .u8 15), .lit (.int .u8 25), .lit (.int .u8 17), .lit (.int .u8 4), .lit (.int .u8 8), .lit (.int .u8 31), .lit (.int .u8 27), .lit (.int .u8 13), .lit (.int .u8 23), .lit (.int .u8 21), .lit (.int .u8 19), .lit (.int .u8 16), .lit (.int .u8 7), .lit (.int .u8 26), .lit (.int .u8 12), .lit (.int .u8 18), .lit (.int .u8 6), .lit (.int .u8 11), .lit (.int .u8 5), .lit (.int .u8 10), .lit (.int .u8 9)]
def laid_math_bits_deBruijn64tab {H : Type} : DataW H := .agg [.lit (.int .u8 0), .lit (.int .u8 1), .lit (.int .u8 56), .lit (.int .u8 2), .lit (.int .u8 57), .lit (.int .u8 49), .lit (.int .u8 28), .lit (.int .u8 3), .lit (.int .u8 61), .lit (.int .u8 58), .lit (.int .u8 42), .lit (.int .u8 50), .lit (.int .u8 38), .lit (.int .u8 29), .lit (.int .u8 17), .lit (.int .u8 4), .lit (.int .u8 62), .lit (.int .u8 47), .lit (.int .u8 59), .lit (.int .u8 36), .lit (.int .u8 45), .lit (.int .u8 43), .lit (.int .u8 51), .lit (.int .u8 22), .lit (.int .u8 53), .lit (.int .u8 39), .lit (.int .u8 33), .lit (.int .u8 30), .lit (.int .u8 24), .lit (.int .u8 18), .lit (.int .u8 12), .lit (.int .u8 5), .lit (.int .u8 63), .lit (.int .u8 55), .lit (.int .u8 48), .lit (.int .u8 27), .lit (.int .u8 60), .lit (.int .u8 41), .lit (.int .u8 37), .lit (.int .u8 16), .lit (.int .u8 46), .lit (.int .u8 35), .lit (.int .u8 44), .lit (.int .u8 21), .lit (.int .u8 52), .lit (.int .u8 32), .lit (.int .u8 23), .lit (.int .u8 11), .lit (.int .u8 54), .lit (.int .u8 26), .lit (.int .u8 40), .lit (.int .u8 15), .lit (.int .u8 34), .lit (.int .u8 20), .lit (.int .u8 31), .lit (.int .u8 10), .lit (.int .u8 25), .lit (.int .u8 14), .lit (.int .u8 19), .lit (.int .u8 9), .lit (.int .u8 13), .lit (.int .u8 8), .lit (.int .u8 7), .lit (.int .u8 6)]
def laid_internal_strconv_uint64pow10 {H : Type} : DataW H := .agg [.lit (.int .u64 1), .lit (.int .u64 10), .lit (.int .u64 100), .lit (.int .u64 1000), .lit (.int .u64 10000), .lit (.int .u64 100000), .lit (.int .u64 1000000), .lit (.int .u64 10000000), .lit (.int .u64 100000000), .lit (.int .u64 1000000000), .lit (.int .u64 10000000000), .lit (.int .u64 100000000000), .lit (.int .u64 1000000000000), .lit (.int .u64 10000000000000), .lit (.int .u64 100000000000000), .lit (.int .u64 1000000000000000), .lit (.int .u64 10000000000000000), .lit (.int .u64 100000000000000000), .lit (.int .u64 1000000000000000000), .lit (.int .u64 10000000000000000000)]

/-- 'licitlaw49.MountainProves': WHATEVER THE INPUT: true; the input reads as it did. -/
def mountainProvesSpec : ChangeSpec := { name := "mountainProves", fn := fun _ => fun
  | [d1, d2] => { results := [.lit (.bool true)], args := [d1, d2] }
  | _ => none }
def mountainProvesRow : OpenClaim := { program := "ytfklmjcjjdliiaadoor", sum := "28756e9d8438e7a696ff7df2d3b89cd39fd4734b5122710d9a593500ce5b1a1a", func := "licit/licitlaw49.MountainProves", spec := "mountainProves", inPlace := ["internal/abi.NoEscape"], unfollowed := true, recurses := true, named := ["internal/strconv.uint64pow10", "math/bits.deBruijn32tab", "math/bits.deBruijn64tab"], apart := false, laid := [("math/bits.deBruijn32tab", laid_math_bits_deBruijn32tab), ("math/bits.deBruijn64tab", laid_math_bits_deBruijn64tab), ("internal/strconv.uint64pow10", laid_internal_strconv_uint64pow10)] }
def MountainProvesSaid : Prop := mountainProvesRow.holds Tryd.pinned (OpenSpec.ofChange mountainProvesSpec)

/-- ITS FALSE NEIGHBOUR: 'it returns false'. Refute it at one input. -/
def mountainProvesWrong : ChangeSpec := { name := "mountainProves", fn := fun _ => fun
  | [d1, d2] => { results := [.lit (.bool false)], args := [d1, d2] }
  | _ => none }
def MountainProvesWrongFalsely : Prop := mountainProvesRow.holds Tryd.pinned (OpenSpec.ofChange mountainProvesWrong)

/-- 'licitlaw49.MountainIncluded': WHATEVER THE INPUT: true; the input reads as it did. -/
def mountainIncludedSpec : ChangeSpec := { name := "mountainIncluded", fn := fun _ => fun
  | [d] => { results := [.lit (.bool true)], args := [d] }
  | _ => none }
def mountainIncludedRow : OpenClaim := { program := "ytfklmjcjjdliiaadoor", sum := "28756e9d8438e7a696ff7df2d3b89cd39fd4734b5122710d9a593500ce5b1a1a", func := "licit/licitlaw49.MountainIncluded", spec := "mountainIncluded", inPlace := ["internal/abi.NoEscape"], unfollowed := true, recurses := true, named := ["internal/strconv.uint64pow10", "math/bits.deBruijn32tab", "math/bits.deBruijn64tab"], apart := false, laid := [("math/bits.deBruijn32tab", laid_math_bits_deBruijn32tab), ("math/bits.deBruijn64tab", laid_math_bits_deBruijn64tab), ("internal/strconv.uint64pow10", laid_internal_strconv_uint64pow10)] }
def MountainIncludedSaid : Prop := mountainIncludedRow.holds Tryd.pinned (OpenSpec.ofChange mountainIncludedSpec)

/-- ITS FALSE NEIGHBOUR: 'it returns false'. Refute it at one input. -/
def mountainIncludedWrong : ChangeSpec := { name := "mountainIncluded", fn := fun _ => fun
  | [d] => { results := [.lit (.bool false)], args := [d] }
  | _ => none }
def MountainIncludedWrongFalsely : Prop := mountainIncludedRow.holds Tryd.pinned (OpenSpec.ofChange mountainIncludedWrong)

/-- 'licitlaw49.MountainOnly': WHATEVER THE INPUT: true; the input reads as it did. -/
def mountainOnlySpec : ChangeSpec := { name := "mountainOnly", fn := fun _ => fun
  | [d] => { results := [.lit (.bool true)], args := [d] }
  | _ => none }
def mountainOnlyRow : OpenClaim := { program := "ytfklmjcjjdliiaadoor", sum := "28756e9d8438e7a696ff7df2d3b89cd39fd4734b5122710d9a593500ce5b1a1a", func := "licit/licitlaw49.MountainOnly", spec := "mountainOnly", inPlace := ["internal/abi.NoEscape"], unfollowed := true, recurses := true, named := ["internal/strconv.uint64pow10", "math/bits.deBruijn32tab", "math/bits.deBruijn64tab"], apart := false, laid := [("math/bits.deBruijn32tab", laid_math_bits_deBruijn32tab), ("math/bits.deBruijn64tab", laid_math_bits_deBruijn64tab), ("internal/strconv.uint64pow10", laid_internal_strconv_uint64pow10)] }
def MountainOnlySaid : Prop := mountainOnlyRow.holds Tryd.pinned (OpenSpec.ofChange mountainOnlySpec)

/-- ITS FALSE NEIGHBOUR: 'it returns false'. Refute it at one input. -/
def mountainOnlyWrong : ChangeSpec := { name := "mountainOnly", fn := fun _ => fun
  | [d] => { results := [.lit (.bool false)], args := [d] }
  | _ => none }
def MountainOnlyWrongFalsely : Prop := mountainOnlyRow.holds Tryd.pinned (OpenSpec.ofChange mountainOnlyWrong)

/-- 'licitlaw49.MountainOf': WHATEVER THE INPUT: true; the input reads as it did. -/
def mountainOfSpec : ChangeSpec := { name := "mountainOf", fn := fun _ => fun
  | [d] => { results := [.lit (.bool true)], args := [d] }
  | _ => none }
def mountainOfRow : OpenClaim := { program := "ytfklmjcjjdliiaadoor", sum := "28756e9d8438e7a696ff7df2d3b89cd39fd4734b5122710d9a593500ce5b1a1a", func := "licit/licitlaw49.MountainOf", spec := "mountainOf", inPlace := ["internal/abi.NoEscape"], unfollowed := true, recurses := true, named := ["internal/strconv.uint64pow10", "math/bits.deBruijn32tab", "math/bits.deBruijn64tab"], apart := false, laid := [("math/bits.deBruijn32tab", laid_math_bits_deBruijn32tab), ("math/bits.deBruijn64tab", laid_math_bits_deBruijn64tab), ("internal/strconv.uint64pow10", laid_internal_strconv_uint64pow10)] }
def MountainOfSaid : Prop := mountainOfRow.holds Tryd.pinned (OpenSpec.ofChange mountainOfSpec)

/-- ITS FALSE NEIGHBOUR: 'it returns false'. Refute it at one input. -/
def mountainOfWrong : ChangeSpec := { name := "mountainOf", fn := fun _ => fun
  | [d] => { results := [.lit (.bool false)], args := [d] }
  | _ => none }
def MountainOfWrongFalsely : Prop := mountainOfRow.holds Tryd.pinned (OpenSpec.ofChange mountainOfWrong)

/-- 'licitlaw49.MountainAdds': WHATEVER THE INPUT: true; the input reads as it did. -/
def mountainAddsSpec : ChangeSpec := { name := "mountainAdds", fn := fun _ => fun
  | [d1, d2] => { results := [.lit (.bool true)], args := [d1, d2] }
  | _ => none }
def mountainAddsRow : OpenClaim := { program := "ytfklmjcjjdliiaadoor", sum := "28756e9d8438e7a696ff7df2d3b89cd39fd4734b5122710d9a593500ce5b1a1a", func := "licit/licitlaw49.MountainAdds", spec := "mountainAdds", inPlace := ["internal/abi.NoEscape"], unfollowed := true, recurses := true, named := ["internal/strconv.uint64pow10", "math/bits.deBruijn32tab", "math/bits.deBruijn64tab"], apart := false, laid := [("math/bits.deBruijn32tab", laid_math_bits_deBruijn32tab), ("math/bits.deBruijn64tab", laid_math_bits_deBruijn64tab), ("internal/strconv.uint64pow10", laid_internal_strconv_uint64pow10)] }
def MountainAddsSaid : Prop := mountainAddsRow.holds Tryd.pinned (OpenSpec.ofChange mountainAddsSpec)

/-- ITS FALSE NEIGHBOUR: 'it returns false'. Refute it at one input. -/
def mountainAddsWrong : ChangeSpec := { name := "mountainAdds", fn := fun _ => fun
  | [d1, d2] => { results := [.lit (.bool false)], args := [d1, d2] }
  | _ => none }
def MountainAddsWrongFalsely : Prop := mountainAddsRow.holds Tryd.pinned (OpenSpec.ofChange mountainAddsWrong)

/-- 'licitlaw49.MountainGrows': WHATEVER THE INPUT: true; the input reads as it did. -/
def mountainGrowsSpec : ChangeSpec := { name := "mountainGrows", fn := fun _ => fun
  | [d1, d2] => { results := [.lit (.bool true)], args := [d1, d2] }
  | _ => none }
def mountainGrowsRow : OpenClaim := { program := "ytfklmjcjjdliiaadoor", sum := "28756e9d8438e7a696ff7df2d3b89cd39fd4734b5122710d9a593500ce5b1a1a", func := "licit/licitlaw49.MountainGrows", spec := "mountainGrows", inPlace := ["internal/abi.NoEscape"], unfollowed := true, recurses := true, named := ["internal/strconv.uint64pow10", "math/bits.deBruijn32tab", "math/bits.deBruijn64tab"], apart := false, laid := [("math/bits.deBruijn32tab", laid_math_bits_deBruijn32tab), ("math/bits.deBruijn64tab", laid_math_bits_deBruijn64tab), ("internal/strconv.uint64pow10", laid_internal_strconv_uint64pow10)] }
def MountainGrowsSaid : Prop := mountainGrowsRow.holds Tryd.pinned (OpenSpec.ofChange mountainGrowsSpec)

/-- ITS FALSE NEIGHBOUR: 'it returns false'. Refute it at one input. -/
def mountainGrowsWrong : ChangeSpec := { name := "mountainGrows", fn := fun _ => fun
  | [d1, d2] => { results := [.lit (.bool false)], args := [d1, d2] }
  | _ => none }
def MountainGrowsWrongFalsely : Prop := mountainGrowsRow.holds Tryd.pinned (OpenSpec.ofChange mountainGrowsWrong)

/-- 'licitlaw49.MountainGrown': WHATEVER THE INPUT: true; the input reads as it did. -/
def mountainGrownSpec : ChangeSpec := { name := "mountainGrown", fn := fun _ => fun
  | [d1, d2, d3] => { results := [.lit (.bool true)], args := [d1, d2, d3] }
  | _ => none }
def mountainGrownRow : OpenClaim := { program := "ytfklmjcjjdliiaadoor", sum := "28756e9d8438e7a696ff7df2d3b89cd39fd4734b5122710d9a593500ce5b1a1a", func := "licit/licitlaw49.MountainGrown", spec := "mountainGrown", inPlace := ["internal/abi.NoEscape"], unfollowed := true, recurses := true, named := ["internal/strconv.uint64pow10", "math/bits.deBruijn32tab", "math/bits.deBruijn64tab"], apart := false, laid := [("math/bits.deBruijn32tab", laid_math_bits_deBruijn32tab), ("math/bits.deBruijn64tab", laid_math_bits_deBruijn64tab), ("internal/strconv.uint64pow10", laid_internal_strconv_uint64pow10)] }
def MountainGrownSaid : Prop := mountainGrownRow.holds Tryd.pinned (OpenSpec.ofChange mountainGrownSpec)

/-- ITS FALSE NEIGHBOUR: 'it returns false'. Refute it at one input. -/
def mountainGrownWrong : ChangeSpec := { name := "mountainGrown", fn := fun _ => fun
  | [d1, d2, d3] => { results := [.lit (.bool false)], args := [d1, d2, d3] }
  | _ => none }
def MountainGrownWrongFalsely : Prop := mountainGrownRow.holds Tryd.pinned (OpenSpec.ofChange mountainGrownWrong)

/-- 'licitlaw49.MountainParts': WHATEVER THE INPUT: true; the input reads as it did. -/
def mountainPartsSpec : ChangeSpec := { name := "mountainParts", fn := fun _ => fun
  | [d1, d2, d3] => { results := [.lit (.bool true)], args := [d1, d2, d3] }
  | _ => none }
def mountainPartsRow : OpenClaim := { program := "ytfklmjcjjdliiaadoor", sum := "28756e9d8438e7a696ff7df2d3b89cd39fd4734b5122710d9a593500ce5b1a1a", func := "licit/licitlaw49.MountainParts", spec := "mountainParts", inPlace := ["internal/abi.NoEscape"], unfollowed := true, recurses := true, named := ["internal/strconv.uint64pow10", "math/bits.deBruijn32tab", "math/bits.deBruijn64tab"], apart := false, laid := [("math/bits.deBruijn32tab", laid_math_bits_deBruijn32tab), ("math/bits.deBruijn64tab", laid_math_bits_deBruijn64tab), ("internal/strconv.uint64pow10", laid_internal_strconv_uint64pow10)] }
def MountainPartsSaid : Prop := mountainPartsRow.holds Tryd.pinned (OpenSpec.ofChange mountainPartsSpec)

/-- ITS FALSE NEIGHBOUR: 'it returns false'. Refute it at one input. -/
def mountainPartsWrong : ChangeSpec := { name := "mountainParts", fn := fun _ => fun
  | [d1, d2, d3] => { results := [.lit (.bool false)], args := [d1, d2, d3] }
  | _ => none }
def MountainPartsWrongFalsely : Prop := mountainPartsRow.holds Tryd.pinned (OpenSpec.ofChange mountainPartsWrong)

/-- 'licitlaw49.MountainBytes': WHATEVER THE INPUT: true; the input reads as it did. -/
def mountainBytesSpec : ChangeSpec := { name := "mountainBytes", fn := fun _ => fun
  | [d] => { results := [.lit (.bool true)], args := [d] }
  | _ => none }
def mountainBytesRow : OpenClaim := { program := "ytfklmjcjjdliiaadoor", sum := "28756e9d8438e7a696ff7df2d3b89cd39fd4734b5122710d9a593500ce5b1a1a", func := "licit/licitlaw49.MountainBytes", spec := "mountainBytes", inPlace := ["internal/abi.NoEscape"], unfollowed := true, recurses := true, named := ["internal/strconv.uint64pow10", "math/bits.deBruijn32tab", "math/bits.deBruijn64tab"], apart := false, laid := [("math/bits.deBruijn32tab", laid_math_bits_deBruijn32tab), ("math/bits.deBruijn64tab", laid_math_bits_deBruijn64tab), ("internal/strconv.uint64pow10", laid_internal_strconv_uint64pow10)] }
def MountainBytesSaid : Prop := mountainBytesRow.holds Tryd.pinned (OpenSpec.ofChange mountainBytesSpec)

/-- ITS FALSE NEIGHBOUR: 'it returns false'. Refute it at one input. -/
def mountainBytesWrong : ChangeSpec := { name := "mountainBytes", fn := fun _ => fun
  | [d] => { results := [.lit (.bool false)], args := [d] }
  | _ => none }
def MountainBytesWrongFalsely : Prop := mountainBytesRow.holds Tryd.pinned (OpenSpec.ofChange mountainBytesWrong)

/-- 'licitlaw49.MountainRoot': WHATEVER THE INPUT: true; the input reads as it did. -/
def mountainRootSpec : ChangeSpec := { name := "mountainRoot", fn := fun _ => fun
  | [d] => { results := [.lit (.bool true)], args := [d] }
  | _ => none }
def mountainRootRow : OpenClaim := { program := "ytfklmjcjjdliiaadoor", sum := "28756e9d8438e7a696ff7df2d3b89cd39fd4734b5122710d9a593500ce5b1a1a", func := "licit/licitlaw49.MountainRoot", spec := "mountainRoot", inPlace := ["internal/abi.NoEscape"], unfollowed := true, recurses := true, named := ["internal/strconv.uint64pow10", "math/bits.deBruijn32tab", "math/bits.deBruijn64tab"], apart := false, laid := [("math/bits.deBruijn32tab", laid_math_bits_deBruijn32tab), ("math/bits.deBruijn64tab", laid_math_bits_deBruijn64tab), ("internal/strconv.uint64pow10", laid_internal_strconv_uint64pow10)] }
def MountainRootSaid : Prop := mountainRootRow.holds Tryd.pinned (OpenSpec.ofChange mountainRootSpec)

/-- ITS FALSE NEIGHBOUR: 'it returns false'. Refute it at one input. -/
def mountainRootWrong : ChangeSpec := { name := "mountainRoot", fn := fun _ => fun
  | [d] => { results := [.lit (.bool false)], args := [d] }
  | _ => none }
def MountainRootWrongFalsely : Prop := mountainRootRow.holds Tryd.pinned (OpenSpec.ofChange mountainRootWrong)

/- THE SECOND FORM. 'bulk': how many values and letters a reading holds, each counted each time it is reached (what is shared counts as often as it is met; a slice's spare places count too). A statement '..UptoSaid' is the law's where the arguments, and the package variables that the reading takes, are together of bulk at most 1048576: NARROWER than '..Said'. Prove '..Said' where nothing that the law and all that it calls make is longer than what came in: it says more and counts as full. Else prove '..UptoSaid'. A law counts once. -/
mutual
def uptoBulk {H : Type} : DataW H → Nat
  | .lit (.string bytes) => bytes.length + 1
  | .lit _ => 1
  | .nil => 1
  | .ptr d => uptoBulk d + 1
  | .slice elems spare => uptoBulkAll elems + uptoBulkAll spare + 1
  | .agg parts => uptoBulkAll parts + 1
  | .iface _ d => uptoBulk d + 1
  | .map entries => uptoBulkEntries entries + 1
  | .held _ => 1
def uptoBulkAll {H : Type} : List (DataW H) → Nat
  | [] => 0
  | d :: r => uptoBulk d + uptoBulkAll r
def uptoBulkEntries {H : Type} : List (Lit × DataW H) → Nat
  | [] => 0
  | x :: r => uptoBulkEntry x + uptoBulkEntries r
def uptoBulkEntry {H : Type} : Lit × DataW H → Nat
  | (.string bytes, d) => bytes.length + uptoBulk d + 1
  | (_, d) => uptoBulk d + 1
 end
def uptoSmall : (H : Type) → List (DataW H) → Bool := fun _ ds => decide (uptoBulkAll ds ≤ 1048576)
def OpenSpec.upto (s : _root_.Go.ChangeSpec) : _root_.Go.OpenSpec := { _root_.Go.OpenSpec.ofChange s with cond := some uptoSmall }

/-- 'licitlaw49.MountainProves', WHERE WHAT IT READS IS OF BULK AT MOST 1048576: true; the input reads as it did. -/
def mountainProvesUptoRow : OpenClaim := { program := "ytfklmjcjjdliiaadoor", sum := "28756e9d8438e7a696ff7df2d3b89cd39fd4734b5122710d9a593500ce5b1a1a", func := "licit/licitlaw49.MountainProves", spec := "mountainProves", inPlace := ["internal/abi.NoEscape"], unfollowed := true, recurses := true, named := ["internal/strconv.uint64pow10", "math/bits.deBruijn32tab", "math/bits.deBruijn64tab"], apart := false, laid := [("math/bits.deBruijn32tab", laid_math_bits_deBruijn32tab), ("math/bits.deBruijn64tab", laid_math_bits_deBruijn64tab), ("internal/strconv.uint64pow10", laid_internal_strconv_uint64pow10)], narrowed := true }
def MountainProvesUptoSaid : Prop := mountainProvesUptoRow.holds Tryd.pinned (OpenSpec.upto mountainProvesSpec)

/-- 'licitlaw49.MountainIncluded', WHERE WHAT IT READS IS OF BULK AT MOST 1048576: true; the input reads as it did. -/
def mountainIncludedUptoRow : OpenClaim := { program := "ytfklmjcjjdliiaadoor", sum := "28756e9d8438e7a696ff7df2d3b89cd39fd4734b5122710d9a593500ce5b1a1a", func := "licit/licitlaw49.MountainIncluded", spec := "mountainIncluded", inPlace := ["internal/abi.NoEscape"], unfollowed := true, recurses := true, named := ["internal/strconv.uint64pow10", "math/bits.deBruijn32tab", "math/bits.deBruijn64tab"], apart := false, laid := [("math/bits.deBruijn32tab", laid_math_bits_deBruijn32tab), ("math/bits.deBruijn64tab", laid_math_bits_deBruijn64tab), ("internal/strconv.uint64pow10", laid_internal_strconv_uint64pow10)], narrowed := true }
def MountainIncludedUptoSaid : Prop := mountainIncludedUptoRow.holds Tryd.pinned (OpenSpec.upto mountainIncludedSpec)

/-- 'licitlaw49.MountainOnly', WHERE WHAT IT READS IS OF BULK AT MOST 1048576: true; the input reads as it did. -/
def mountainOnlyUptoRow : OpenClaim := { program := "ytfklmjcjjdliiaadoor", sum := "28756e9d8438e7a696ff7df2d3b89cd39fd4734b5122710d9a593500ce5b1a1a", func := "licit/licitlaw49.MountainOnly", spec := "mountainOnly", inPlace := ["internal/abi.NoEscape"], unfollowed := true, recurses := true, named := ["internal/strconv.uint64pow10", "math/bits.deBruijn32tab", "math/bits.deBruijn64tab"], apart := false, laid := [("math/bits.deBruijn32tab", laid_math_bits_deBruijn32tab), ("math/bits.deBruijn64tab", laid_math_bits_deBruijn64tab), ("internal/strconv.uint64pow10", laid_internal_strconv_uint64pow10)], narrowed := true }
def MountainOnlyUptoSaid : Prop := mountainOnlyUptoRow.holds Tryd.pinned (OpenSpec.upto mountainOnlySpec)

/-- 'licitlaw49.MountainOf', WHERE WHAT IT READS IS OF BULK AT MOST 1048576: true; the input reads as it did. -/
def mountainOfUptoRow : OpenClaim := { program := "ytfklmjcjjdliiaadoor", sum := "28756e9d8438e7a696ff7df2d3b89cd39fd4734b5122710d9a593500ce5b1a1a", func := "licit/licitlaw49.MountainOf", spec := "mountainOf", inPlace := ["internal/abi.NoEscape"], unfollowed := true, recurses := true, named := ["internal/strconv.uint64pow10", "math/bits.deBruijn32tab", "math/bits.deBruijn64tab"], apart := false, laid := [("math/bits.deBruijn32tab", laid_math_bits_deBruijn32tab), ("math/bits.deBruijn64tab", laid_math_bits_deBruijn64tab), ("internal/strconv.uint64pow10", laid_internal_strconv_uint64pow10)], narrowed := true }
def MountainOfUptoSaid : Prop := mountainOfUptoRow.holds Tryd.pinned (OpenSpec.upto mountainOfSpec)

/-- 'licitlaw49.MountainAdds', WHERE WHAT IT READS IS OF BULK AT MOST 1048576: true; the input reads as it did. -/
def mountainAddsUptoRow : OpenClaim := { program := "ytfklmjcjjdliiaadoor", sum := "28756e9d8438e7a696ff7df2d3b89cd39fd4734b5122710d9a593500ce5b1a1a", func := "licit/licitlaw49.MountainAdds", spec := "mountainAdds", inPlace := ["internal/abi.NoEscape"], unfollowed := true, recurses := true, named := ["internal/strconv.uint64pow10", "math/bits.deBruijn32tab", "math/bits.deBruijn64tab"], apart := false, laid := [("math/bits.deBruijn32tab", laid_math_bits_deBruijn32tab), ("math/bits.deBruijn64tab", laid_math_bits_deBruijn64tab), ("internal/strconv.uint64pow10", laid_internal_strconv_uint64pow10)], narrowed := true }
def MountainAddsUptoSaid : Prop := mountainAddsUptoRow.holds Tryd.pinned (OpenSpec.upto mountainAddsSpec)

/-- 'licitlaw49.MountainGrows', WHERE WHAT IT READS IS OF BULK AT MOST 1048576: true; the input reads as it did. -/
def mountainGrowsUptoRow : OpenClaim := { program := "ytfklmjcjjdliiaadoor", sum := "28756e9d8438e7a696ff7df2d3b89cd39fd4734b5122710d9a593500ce5b1a1a", func := "licit/licitlaw49.MountainGrows", spec := "mountainGrows", inPlace := ["internal/abi.NoEscape"], unfollowed := true, recurses := true, named := ["internal/strconv.uint64pow10", "math/bits.deBruijn32tab", "math/bits.deBruijn64tab"], apart := false, laid := [("math/bits.deBruijn32tab", laid_math_bits_deBruijn32tab), ("math/bits.deBruijn64tab", laid_math_bits_deBruijn64tab), ("internal/strconv.uint64pow10", laid_internal_strconv_uint64pow10)], narrowed := true }
def MountainGrowsUptoSaid : Prop := mountainGrowsUptoRow.holds Tryd.pinned (OpenSpec.upto mountainGrowsSpec)

/-- 'licitlaw49.MountainGrown', WHERE WHAT IT READS IS OF BULK AT MOST 1048576: true; the input reads as it did. -/
def mountainGrownUptoRow : OpenClaim := { program := "ytfklmjcjjdliiaadoor", sum := "28756e9d8438e7a696ff7df2d3b89cd39fd4734b5122710d9a593500ce5b1a1a", func := "licit/licitlaw49.MountainGrown", spec := "mountainGrown", inPlace := ["internal/abi.NoEscape"], unfollowed := true, recurses := true, named := ["internal/strconv.uint64pow10", "math/bits.deBruijn32tab", "math/bits.deBruijn64tab"], apart := false, laid := [("math/bits.deBruijn32tab", laid_math_bits_deBruijn32tab), ("math/bits.deBruijn64tab", laid_math_bits_deBruijn64tab), ("internal/strconv.uint64pow10", laid_internal_strconv_uint64pow10)], narrowed := true }
def MountainGrownUptoSaid : Prop := mountainGrownUptoRow.holds Tryd.pinned (OpenSpec.upto mountainGrownSpec)

/-- 'licitlaw49.MountainParts', WHERE WHAT IT READS IS OF BULK AT MOST 1048576: true; the input reads as it did. -/
def mountainPartsUptoRow : OpenClaim := { program := "ytfklmjcjjdliiaadoor", sum := "28756e9d8438e7a696ff7df2d3b89cd39fd4734b5122710d9a593500ce5b1a1a", func := "licit/licitlaw49.MountainParts", spec := "mountainParts", inPlace := ["internal/abi.NoEscape"], unfollowed := true, recurses := true, named := ["internal/strconv.uint64pow10", "math/bits.deBruijn32tab", "math/bits.deBruijn64tab"], apart := false, laid := [("math/bits.deBruijn32tab", laid_math_bits_deBruijn32tab), ("math/bits.deBruijn64tab", laid_math_bits_deBruijn64tab), ("internal/strconv.uint64pow10", laid_internal_strconv_uint64pow10)], narrowed := true }
def MountainPartsUptoSaid : Prop := mountainPartsUptoRow.holds Tryd.pinned (OpenSpec.upto mountainPartsSpec)

/-- 'licitlaw49.MountainBytes', WHERE WHAT IT READS IS OF BULK AT MOST 1048576: true; the input reads as it did. -/
def mountainBytesUptoRow : OpenClaim := { program := "ytfklmjcjjdliiaadoor", sum := "28756e9d8438e7a696ff7df2d3b89cd39fd4734b5122710d9a593500ce5b1a1a", func := "licit/licitlaw49.MountainBytes", spec := "mountainBytes", inPlace := ["internal/abi.NoEscape"], unfollowed := true, recurses := true, named := ["internal/strconv.uint64pow10", "math/bits.deBruijn32tab", "math/bits.deBruijn64tab"], apart := false, laid := [("math/bits.deBruijn32tab", laid_math_bits_deBruijn32tab), ("math/bits.deBruijn64tab", laid_math_bits_deBruijn64tab), ("internal/strconv.uint64pow10", laid_internal_strconv_uint64pow10)], narrowed := true }
def MountainBytesUptoSaid : Prop := mountainBytesUptoRow.holds Tryd.pinned (OpenSpec.upto mountainBytesSpec)

/-- 'licitlaw49.MountainRoot', WHERE WHAT IT READS IS OF BULK AT MOST 1048576: true; the input reads as it did. -/
def mountainRootUptoRow : OpenClaim := { program := "ytfklmjcjjdliiaadoor", sum := "28756e9d8438e7a696ff7df2d3b89cd39fd4734b5122710d9a593500ce5b1a1a", func := "licit/licitlaw49.MountainRoot", spec := "mountainRoot", inPlace := ["internal/abi.NoEscape"], unfollowed := true, recurses := true, named := ["internal/strconv.uint64pow10", "math/bits.deBruijn32tab", "math/bits.deBruijn64tab"], apart := false, laid := [("math/bits.deBruijn32tab", laid_math_bits_deBruijn32tab), ("math/bits.deBruijn64tab", laid_math_bits_deBruijn64tab), ("internal/strconv.uint64pow10", laid_internal_strconv_uint64pow10)], narrowed := true }
def MountainRootUptoSaid : Prop := mountainRootUptoRow.holds Tryd.pinned (OpenSpec.upto mountainRootSpec)

end Rows
end Go.Proofs.YtfklmjcjjdliiaaDoor
