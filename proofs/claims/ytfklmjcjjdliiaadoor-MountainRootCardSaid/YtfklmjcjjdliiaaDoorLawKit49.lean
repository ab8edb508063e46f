/- What the laws of mountain take: ranges, lists of texts and texts as they come in; the table of package bits. -/
import Derived.Test.YtfklmjcjjdliiaaDoorLawKitAll
import Derived.Test.YtfklmjcjjdliiaaDoorWkAwake49
import Derived.Test.YtfklmjcjjdliiaaDoorWkMtA
import Derived.Lib.SmallJoins
import Derived.Deep.Grids
namespace Go.Proofs.YtfklmjcjjdliiaaDoor
open Go Go.RowKit Licit
open Go.ChangeShapes Go.WideShapes Go.ChangeAt
open Go.ChangeMaps (open_string)

set_option maxRecDepth 100000 in
theorem tz_of {W : World} (h : laidMetH Tryd.prog laidList W) : Tz W := by
  have h' : laidMet Tryd.prog laidList W := h
  have h2 := h'.tail
  have hg : Tryd.prog.globalNamed "math/bits.deBruijn64tab" = some 1 := by kernel_rfl
  have ht : Lib.TabIs Tryd.prog W "math/bits.deBruijn64tab" .u8 (Lib.deBruijn64tab.map fun n : Nat => (n : Int)) :=
    Lib.tabIs_of_head (g := 1) (t := 117) (e := 5) (n := 64) hg (by kernel_rfl) Tryd.underlying117 Tryd.underlying5 (by kernel_rfl) (by kernel_rfl) h2
  intro j hj
  have := ht.cell hg j (by simpa using hj)
  rw [this]
  congr 2
  rw [List.getD_eq_getElem?_getD, List.getElem?_map, List.getElem?_eq_getElem hj, List.getD_eq_getElem?_getD, List.getElem?_eq_getElem hj]
  rfl

section
variable {H : Type} {enc : TypeId × Value → H} {W : World} {base b0 : Nat} {held : Bool} {v : Value} {d : DataW H} {ps : List MemPlace} {r : Reach}
set_option maxRecDepth 100000 in
theorem str_in (hval : Value.okWide Tryd.prog W r b0 9 v) {sp : Nat → Bool} (hd : DataW.Trod enc Tryd.prog W base sp held 9 v d ps) : ∃ s : Bs, v = .string (B s) ∧ s.length ≤ maxLen := by
  obtain ⟨s, rfl, _, _, hs⟩ := open_string Tryd.underlying9 hval hd
  exact ⟨s.data.toList, by rw [B_eta], by rw [size_list]; exact hs⟩
set_option maxRecDepth 100000 in
theorem strs_more {fuel : Nat} {y : DataW H × List MemPlace} (hf : DataW.trod enc Tryd.prog W base (fun _ => true) held fuel 22 [v] = some y) : NilOk v ∧ SlCap v := by
  rcases open_strings Tryd.underlying22 Tryd.underlying9 (by kernel_rfl) hf with ⟨hcs, hx⟩ | ⟨a, len', cap', zs, hcs, hq, hl, hm, hz, hx, hcell, hwz⟩
  · simp only [List.cons.injEq, and_true] at hcs
    subst hcs
    exact ⟨NilOk.nil, Nat.le_refl 0⟩
  · simp only [List.cons.injEq, and_true] at hcs
    subst hcs
    refine ⟨fun n c e => by simp at e, ?_⟩
    show len' ≤ cap'
    omega
set_option maxRecDepth 100000 in
theorem strs_in (hval : Value.okWide Tryd.prog W r b0 22 v) (hd : DataW.Trod enc Tryd.prog W base (fun _ => true) held 22 v d ps) :
    ∃ xs : List Bs, IsSl v (xs.map vS) W ∧ NilOk v ∧ SlCap v := by
  obtain ⟨xs, hx, _⟩ := sl_strs Tryd.underlying22 Tryd.underlying9 (by kernel_rfl) hval hd
  obtain ⟨a, c, rfl⟩ := hx.formMap
  obtain ⟨fuel, hf⟩ := hd
  obtain ⟨h1, h2⟩ := strs_more hf
  exact ⟨xs, hx, h1, h2⟩
set_option maxRecDepth 100000 in
theorem int_in (hval : Value.okWide Tryd.prog W r b0 3 v) {sp : Nat → Bool} (hd : DataW.Trod enc Tryd.prog W base sp held 3 v d ps) : ∃ i : Int, v = .int .i64 i := by
  obtain ⟨i, rfl, _⟩ := open_int Tryd.underlying3 hval hd
  exact ⟨i, rfl⟩
set_option maxRecDepth 100000 in
theorem mt_in (hval : Value.okWide Tryd.prog W r b0 31 v) (hd : DataW.Trod enc Tryd.prog W base (fun _ => true) held 31 v d ps) :
    ∃ (s : Int) (P : List Bs), MtIs v s P W := by
  obtain ⟨v0, v1, y0, y1, n, rfl, _, _, h0, h1⟩ := Go.Joins.open_agg2 Tryd.underlying31 (by kernel_rfl) (by kernel_rfl) hval hd
  obtain ⟨s, hs, _, _⟩ := DataW.trod_int Tryd.underlying3 h0
  simp only [List.cons.injEq, and_true] at hs
  subst hs
  obtain ⟨P, hP, _⟩ := sl_strs_of Tryd.underlying22 Tryd.underlying9 (by kernel_rfl) h1
  exact ⟨s, P, v1, rfl, hP, (strs_more h1).1⟩
end
end Go.Proofs.YtfklmjcjjdliiaaDoor
