/- What the laws of mountain take: a claim as it comes in. -/
import Derived.Test.YtfklmjcjjdliiaaDoorLawKit49
namespace Go.Proofs.YtfklmjcjjdliiaaDoor
open Go Go.RowKit Licit
open Go.ChangeShapes Go.WideShapes Go.ChangeAt

section
variable {H : Type} {enc : TypeId × Value → H} {P : Program} {W : World} {base : Nat} {sp : Nat → Bool} {held : Bool} {r : Reach} {b0 : Nat} {v : Value} {d : DataW H} {ps : List MemPlace}
theorem trod_struct7 {t : TypeId} {f0 f1 f2 f3 f4 f5 f6 : Field} {fuel : Nat} {cs : List Value} {x : DataW H × List MemPlace} (ht : P.underlying t = some (.struct #[f0, f1, f2, f3, f4, f5, f6])) (h : DataW.trod enc P W base sp held fuel t cs = some x) :
    ∃ y0 y1 y2 y3 y4 y5 y6 n, cs.length = P.cellsOf t ∧ DataW.trod enc P W base sp held n f0.type ((cs.drop f0.offset).take (P.cellsOf f0.type)) = some y0 ∧
      DataW.trod enc P W base sp held n f1.type ((cs.drop f1.offset).take (P.cellsOf f1.type)) = some y1 ∧ DataW.trod enc P W base sp held n f2.type ((cs.drop f2.offset).take (P.cellsOf f2.type)) = some y2 ∧
      DataW.trod enc P W base sp held n f3.type ((cs.drop f3.offset).take (P.cellsOf f3.type)) = some y3 ∧ DataW.trod enc P W base sp held n f4.type ((cs.drop f4.offset).take (P.cellsOf f4.type)) = some y4 ∧
      DataW.trod enc P W base sp held n f5.type ((cs.drop f5.offset).take (P.cellsOf f5.type)) = some y5 ∧ DataW.trod enc P W base sp held n f6.type ((cs.drop f6.offset).take (P.cellsOf f6.type)) = some y6 := by
  obtain ⟨xs, n, _, rfl, hl, hlen, hf⟩ := DataW.trod_struct ht h
  match xs, hlen with
  | [y0, y1, y2, y3, y4, y5, y6], _ => exact ⟨y0, y1, y2, y3, y4, y5, y6, n, hl, by simpa using hf 0 f0 rfl, by simpa using hf 1 f1 rfl, by simpa using hf 2 f2 rfl, by simpa using hf 3 f3 rfl, by simpa using hf 4 f4 rfl, by simpa using hf 5 f5 rfl, by simpa using hf 6 f6 rfl⟩
theorem list7 {α : Type} {l : List α} (h : l.length = 7) : ∃ c0 c1 c2 c3 c4 c5 c6, l = [c0, c1, c2, c3, c4, c5, c6] := by
  match l, h with
  | [c0, c1, c2, c3, c4, c5, c6], _ => exact ⟨c0, c1, c2, c3, c4, c5, c6, rfl⟩

/-- A claim as it comes in. -/
abbrev claimV (seed : Bs) (count : Nat) (idx fr : Int) (how at_ : Nat) (leaf : Bs) : Value := .agg #[.string (B seed), .int .u8 (count : Int), .int .i64 idx, .int .i64 fr, .int .u8 (how : Int), .int .u8 (at_ : Int), .string (B leaf)]
theorem u8_of {n : Int} (h : (Lit.int IntKind.u8 n).wf = true) : 0 ≤ n ∧ n < 256 := by
  simp [Lit.wf, IntKind.min, IntKind.max, IntKind.signed, IntKind.bits] at h
  omega
set_option maxRecDepth 100000 in
theorem claim_in (hval : Value.okWide Tryd.prog W r b0 36 v) (hd : DataW.Trod enc Tryd.prog W base sp held 36 v d ps) :
    ∃ (seed : Bs) (count : Nat) (idx fr : Int) (how at_ : Nat) (leaf : Bs), v = claimV seed count idx fr how at_ leaf ∧ seed.length ≤ maxLen ∧ leaf.length ≤ maxLen ∧ count < 256 ∧ how < 256 ∧ at_ < 256 := by
  obtain ⟨cs, rfl, hsz⟩ := okWide_struct Tryd.underlying36 hval
  obtain ⟨fuel, hf⟩ := hd
  obtain ⟨y0, y1, y2, y3, y4, y5, y6, n, hl, h0, h1, h2, h3, h4, h5, h6⟩ := trod_struct7 Tryd.underlying36 hf
  have e1 : Tryd.prog.cellsOf 9 = 1 := by kernel_rfl
  have e3 : Tryd.prog.cellsOf 3 = 1 := by kernel_rfl
  have e4 : Tryd.prog.cellsOf 5 = 1 := by kernel_rfl
  have e5 : Tryd.prog.cellsOf 36 = 7 := by kernel_rfl
  obtain ⟨c0, c1, c2, c3, c4, c5, c6, hc⟩ := list7 (hl.trans e5)
  simp only [hc, e1, e3, e4, List.drop_zero, List.drop_succ_cons, List.take_succ_cons, List.take_zero] at h0 h1 h2 h3 h4 h5 h6
  obtain ⟨s, hs, _, hsl⟩ := DataW.trod_string Tryd.underlying9 h0
  obtain ⟨ct, hct, _, wct⟩ := DataW.trod_int Tryd.underlying5 h1
  obtain ⟨ix, hix, _, _⟩ := DataW.trod_int Tryd.underlying3 h2
  obtain ⟨fr, hfr, _, _⟩ := DataW.trod_int Tryd.underlying3 h3
  obtain ⟨how, hw, _, ww⟩ := DataW.trod_int Tryd.underlying5 h4
  obtain ⟨at_, ha, _, wa⟩ := DataW.trod_int Tryd.underlying5 h5
  obtain ⟨m, hm, _, hml⟩ := DataW.trod_string Tryd.underlying9 h6
  simp only [List.cons.injEq, and_true] at hs hct hix hfr hw ha hm
  have b1 := u8_of wct
  have b2 := u8_of ww
  have b3 := u8_of wa
  refine ⟨s.data.toList, ct.toNat, ix, fr, how.toNat, at_.toNat, m.data.toList, ?_, by rw [size_list]; exact hsl, by rw [size_list]; exact hml, by omega, by omega, by omega⟩
  have hcs : cs = #[c0, c1, c2, c3, c4, c5, c6] := by
    have : cs.toList = [c0, c1, c2, c3, c4, c5, c6] := hc
    exact Array.toList_inj.1 this
  rw [hcs, hs, hct, hix, hfr, hw, ha, hm, claimV, B_eta, B_eta, Int.toNat_of_nonneg b1.1, Int.toNat_of_nonneg b2.1, Int.toNat_of_nonneg b3.1]
theorem claim_cells {w : World} {r : Nat} {x0 x1 x2 x3 x4 x5 x6 : Value} {T : TypeId} (h : w.heap[r]? = some (.cells #[x0, x1, x2, x3, x4, x5, x6] T)) :
    w.cell? ⟨r, 0, none⟩ = some x0 ∧ w.cell? ⟨r, 1, none⟩ = some x1 ∧ w.cell? ⟨r, 2, none⟩ = some x2 ∧ w.cell? ⟨r, 3, none⟩ = some x3 ∧ w.cell? ⟨r, 4, none⟩ = some x4 ∧ w.cell? ⟨r, 5, none⟩ = some x5 ∧ w.cell? ⟨r, 6, none⟩ = some x6 := ⟨cell_of h 0, cell_of h 1, cell_of h 2, cell_of h 3, cell_of h 4, cell_of h 5, cell_of h 6⟩
theorem proveE_ok {l : List Bs} {i : Int} (h : proveE l i = 0) : checkM l = 0 ∧ 0 ≤ i ∧ i < (l.length : Int) := by
  unfold proveE at h
  split at h
  · rename_i hc
    split at h
    · rename_i hi
      exact ⟨hc, hi.1, hi.2⟩
    · cases h
  · rename_i hc
    exact absurd h hc
end
end Go.Proofs.YtfklmjcjjdliiaaDoor
