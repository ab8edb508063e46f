/- Arguments of the laws of layer 48 as they come in: texts, keys and jobs. -/
import Derived.Test.YtdkjehagkmkokaaDoorLawKitAll
import Derived.Lib.SmallJoins
import Derived.Deep.Grids
namespace Go.Proofs.YtdkjehagkmkokaaDoor
open Go Go.RowKit Licit
open Go.ChangeShapes Go.WideShapes Go.ChangeAt
open Go.ChangeMaps (open_string)

section
variable {H : Type} {enc : TypeId × Value → H} {P : Program} {W : World} {base : Nat} {sp : Nat → Bool} {held : Bool} {r : Reach} {b0 : Nat} {v : Value} {d : DataW H} {ps : List MemPlace}
theorem trod_struct6 {t : TypeId} {f0 f1 f2 f3 f4 f5 : Field} {fuel : Nat} {cs : List Value} {x : DataW H × List MemPlace} (ht : P.underlying t = some (.struct #[f0, f1, f2, f3, f4, f5])) (h : DataW.trod enc P W base sp held fuel t cs = some x) :
    ∃ y0 y1 y2 y3 y4 y5 n, cs.length = P.cellsOf t ∧ DataW.trod enc P W base sp held n f0.type ((cs.drop f0.offset).take (P.cellsOf f0.type)) = some y0 ∧
      DataW.trod enc P W base sp held n f1.type ((cs.drop f1.offset).take (P.cellsOf f1.type)) = some y1 ∧ DataW.trod enc P W base sp held n f2.type ((cs.drop f2.offset).take (P.cellsOf f2.type)) = some y2 ∧
      DataW.trod enc P W base sp held n f3.type ((cs.drop f3.offset).take (P.cellsOf f3.type)) = some y3 ∧ DataW.trod enc P W base sp held n f4.type ((cs.drop f4.offset).take (P.cellsOf f4.type)) = some y4 ∧
      DataW.trod enc P W base sp held n f5.type ((cs.drop f5.offset).take (P.cellsOf f5.type)) = some y5 := by
  obtain ⟨xs, n, _, rfl, hl, hlen, hf⟩ := DataW.trod_struct ht h
  match xs, hlen with
  | [y0, y1, y2, y3, y4, y5], _ => exact ⟨y0, y1, y2, y3, y4, y5, n, hl, by simpa using hf 0 f0 rfl, by simpa using hf 1 f1 rfl, by simpa using hf 2 f2 rfl, by simpa using hf 3 f3 rfl, by simpa using hf 4 f4 rfl, by simpa using hf 5 f5 rfl⟩
theorem list7 {α : Type} {l : List α} (h : l.length = 7) : ∃ c0 c1 c2 c3 c4 c5 c6, l = [c0, c1, c2, c3, c4, c5, c6] := by
  match l, h with
  | [c0, c1, c2, c3, c4, c5, c6], _ => exact ⟨c0, c1, c2, c3, c4, c5, c6, rfl⟩

set_option maxRecDepth 100000 in
theorem str_in (hval : Value.okWide Tryd.prog W r b0 9 v) (hd : DataW.Trod enc Tryd.prog W base sp held 9 v d ps) : ∃ s : Bs, v = .string (B s) ∧ s.length ≤ maxLen := by
  obtain ⟨s, rfl, _, _, hs⟩ := open_string Tryd.underlying9 hval hd
  exact ⟨s.data.toList, by rw [B_eta], by rw [size_list]; exact hs⟩
set_option maxRecDepth 100000 in
theorem key_in (hval : Value.okWide Tryd.prog W r b0 23 v) (hd : DataW.Trod enc Tryd.prog W base sp held 23 v d ps) : ∃ b h : Int, v = .agg #[.int .i64 b, .int .i64 h] := by
  obtain ⟨v0, v1, y0, y1, n, rfl, _, _, h0, h1⟩ := Go.Joins.open_agg2 Tryd.underlying23 (by kernel_rfl) (by kernel_rfl) hval hd
  obtain ⟨b, hb, _, _⟩ := DataW.trod_int Tryd.underlying3 h0
  obtain ⟨h, hh, _, _⟩ := DataW.trod_int Tryd.underlying3 h1
  simp only [List.cons.injEq, and_true] at hb hh
  exact ⟨b, h, by rw [hb, hh]⟩
def vB (t : Bool) : Value := .bool t
def vI8 (n : Int) : Value := .int .i8 n
set_option maxRecDepth 100000 in
theorem bools_in (hval : Value.okWide Tryd.prog W r b0 51 v) (hd : DataW.Trod enc Tryd.prog W base (fun _ => true) held 51 v d ps) : ∃ ts : List Bool, IsSl v (ts.map vB) W := by
  obtain ⟨a1, len, cap, rfl⟩ := okWide_slice Tryd.underlying51 hval
  obtain ⟨fuel, hf⟩ := hd
  rcases Go.Deep.open_bools Tryd.underlying51 Tryd.underlying4 (by kernel_rfl) hf with ⟨hcs, hx⟩ | ⟨a, len', cap', Z, hcs, _, hl, hm, hx, hcell⟩
  · simp only [Value.cells, List.cons.injEq, Value.slice.injEq, and_true] at hcs
    obtain ⟨rfl, rfl, rfl⟩ := hcs
    exact ⟨[], ⟨by simp, .inl ⟨none, 0, rfl, rfl⟩⟩⟩
  · simp only [Value.cells, List.cons.injEq, Value.slice.injEq, and_true] at hcs
    obtain ⟨rfl, rfl, rfl⟩ := hcs
    refine ⟨(List.range len).map Z, ?_⟩
    have hlen : (((List.range len).map Z).map vB).length = len := by simp
    have := isSl_of_cells (W := W) (a := a) (cap := cap) (xs := ((List.range len).map Z).map vB) (by rw [hlen]; omega) (fun i hi => by
      rw [hlen] at hi
      rw [hcell i (by omega)]
      simp [vB, hi])
    rwa [hlen] at this
set_option maxRecDepth 100000 in
theorem i8s_in (hval : Value.okWide Tryd.prog W r b0 40 v) (hd : DataW.Trod enc Tryd.prog W base (fun _ => true) held 40 v d ps) : ∃ xs : List Int, IsSl v (xs.map vI8) W ∧ ∀ x ∈ xs, -128 ≤ x ∧ x < 128 := by
  obtain ⟨a1, len, cap, rfl⟩ := okWide_slice Tryd.underlying40 hval
  obtain ⟨fuel, hf⟩ := hd
  rcases open_ints Tryd.underlying40 Tryd.underlying45 (by kernel_rfl) hf with ⟨hcs, hx⟩ | ⟨a, len', cap', zs, hcs, _, hl, hm, hz, hx, hcell, hwz⟩
  · simp only [Value.cells, List.cons.injEq, Value.slice.injEq, and_true] at hcs
    obtain ⟨rfl, rfl, rfl⟩ := hcs
    exact ⟨[], ⟨by simp, .inl ⟨none, 0, rfl, rfl⟩⟩, by simp⟩
  · simp only [Value.cells, List.cons.injEq, Value.slice.injEq, and_true] at hcs
    obtain ⟨rfl, rfl, rfl⟩ := hcs
    simp only [if_true] at hz
    have hlen : ((zs.take len).map vI8).length = len := by simp; omega
    refine ⟨zs.take len, ?_, fun x hx => ?_⟩
    · have := isSl_of_cells (W := W) (a := a) (cap := cap) (xs := (zs.take len).map vI8) (by rw [hlen]; omega) (fun i hi => by
        rw [hlen] at hi
        rw [hcell i (by omega)]
        simp [vI8, hi, List.getD, List.getElem?_eq_getElem (show i < zs.length by omega)])
      rwa [hlen] at this
    · have ww := hwz x (List.mem_of_mem_take hx)
      simp [Lit.wf, IntKind.min, IntKind.max, IntKind.signed, IntKind.bits] at ww
      omega
/-- A job as it comes in. -/
abbrev jobV (seed m : Bs) (b h i : Int) (how at_ : Nat) : Value := .agg #[.string (B seed), .string (B m), .int .i64 b, .int .i64 h, .int .i64 i, .int .u8 (how : Int), .int .u8 (at_ : Int)]
set_option maxRecDepth 100000 in
theorem job_in (hval : Value.okWide Tryd.prog W r b0 31 v) (hd : DataW.Trod enc Tryd.prog W base sp held 31 v d ps) :
    ∃ (seed m : Bs) (b h i : Int) (how at_ : Nat), v = jobV seed m b h i how at_ ∧ seed.length ≤ maxLen ∧ m.length ≤ maxLen ∧ how < 256 ∧ at_ < 256 ∧ -9223372036854775808 ≤ i ∧ i ≤ 9223372036854775807 := by
  obtain ⟨cs, rfl, hsz⟩ := okWide_struct Tryd.underlying31 hval
  obtain ⟨fuel, hf⟩ := hd
  obtain ⟨y0, y1, y2, y3, y4, y5, n, hl, h0, h1, h2, h3, h4, h5⟩ := trod_struct6 Tryd.underlying31 hf
  have e1 : Tryd.prog.cellsOf 9 = 1 := by kernel_rfl
  have e2 : Tryd.prog.cellsOf 23 = 2 := by kernel_rfl
  have e3 : Tryd.prog.cellsOf 3 = 1 := by kernel_rfl
  have e4 : Tryd.prog.cellsOf 5 = 1 := by kernel_rfl
  have e5 : Tryd.prog.cellsOf 31 = 7 := by kernel_rfl
  obtain ⟨c0, c1, c2, c3, c4, c5, c6, hc⟩ := list7 (hl.trans e5)
  simp only [hc, e1, e2, e3, e4, List.drop_zero, List.drop_succ_cons, List.take_succ_cons, List.take_zero] at h0 h1 h2 h3 h4 h5
  obtain ⟨s, hs, _, hsl⟩ := DataW.trod_string Tryd.underlying9 h0
  obtain ⟨m, hm, _, hml⟩ := DataW.trod_string Tryd.underlying9 h1
  obtain ⟨z0, z1, k, _, _, k0, k1⟩ := trod_struct2 Tryd.underlying23 h2
  simp only [e3, List.drop_zero, List.drop_succ_cons, List.take_succ_cons, List.take_zero] at k0 k1
  obtain ⟨b, hb, _, _⟩ := DataW.trod_int Tryd.underlying3 k0
  obtain ⟨h, hh, _, _⟩ := DataW.trod_int Tryd.underlying3 k1
  obtain ⟨i, hi, _, wi⟩ := DataW.trod_int Tryd.underlying3 h3
  obtain ⟨how, hw, _, ww⟩ := DataW.trod_int Tryd.underlying5 h4
  obtain ⟨at_, ha, _, wa⟩ := DataW.trod_int Tryd.underlying5 h5
  simp only [List.cons.injEq, and_true] at hs hm hb hh hi hw ha
  have b1 := bounds_i64 wi
  have b2 : 0 ≤ how ∧ how < 256 := by
    simp [Lit.wf, IntKind.min, IntKind.max, IntKind.signed, IntKind.bits] at ww
    omega
  have b3 : 0 ≤ at_ ∧ at_ < 256 := by
    simp [Lit.wf, IntKind.min, IntKind.max, IntKind.signed, IntKind.bits] at wa
    omega
  refine ⟨s.data.toList, m.data.toList, b, h, i, how.toNat, at_.toNat, ?_, by rw [size_list]; exact hsl, by rw [size_list]; exact hml, by omega, by omega, b1.1, b1.2⟩
  have hcs : cs = #[c0, c1, c2, c3, c4, c5, c6] := by
    have : cs.toList = [c0, c1, c2, c3, c4, c5, c6] := hc
    exact Array.toList_inj.1 this
  rw [hcs, hs, hm, hb, hh, hi, hw, ha, jobV, B_eta, B_eta, Int.toNat_of_nonneg b2.1, Int.toNat_of_nonneg b3.1]
end
end Go.Proofs.YtdkjehagkmkokaaDoor
