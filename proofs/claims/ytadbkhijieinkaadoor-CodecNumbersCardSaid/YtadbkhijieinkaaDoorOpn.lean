/- Arguments as they come in: slices of integers and of strings read as lists. Over any program. -/
import Derived.Test.YtadbkhijieinkaaDoorRd
import Derived.ProofKit
import Derived.OpenShut
namespace Licit
open Go Go.RowKit
open Go.ChangeShapes Go.WideShapes Go.ChangeAt

section
variable {P : Program} {H : Type} {enc : TypeId × Value → H} {W : World} {r : Reach} {b0 base : Nat} {sp : Nat → Bool} {held : Bool} {t e : TypeId} {v : Value} {d : DataW H} {ps : List MemPlace}

theorem add_of {a : Addr} {x : Value} (h : W.cell? a = some x) (i : Nat) : a.add i = ⟨a.block, a.off + i, none⟩ := by
  have hs : a.spot = none := by
    unfold World.cell? at h
    split at h
    · cases hs : a.spot with
      | none => rfl
      | some s => simp [hs] at h
    · cases h
  unfold Addr.add
  cases a with
  | mk b o s =>
    simp only at hs
    subst hs
    split
    · rename_i h0; subst h0; rfl
    · rfl

theorem isSl_of_cells {a : Addr} {cap : Nat} {xs : List Value} (hm : xs.length ≤ maxLen) (hc : ∀ i, i < xs.length → W.cell? (a.add i) = xs[i]?) : IsSl (.slice (some a) xs.length cap) xs W := by
  refine ⟨hm, ?_⟩
  by_cases h0 : xs.length = 0
  · exact .inl ⟨_, cap, by rw [h0], List.eq_nil_of_length_eq_zero h0⟩
  · have hx0 := hc 0 (by omega)
    have hadd : a.add 0 = a := by simp [Addr.add]
    rw [hadd, List.getElem?_eq_getElem (by omega)] at hx0
    have hA := fun i => add_of hx0 i
    have ha : a = ⟨a.block, a.off, none⟩ := by have := hA 0; rw [hadd] at this; exact this
    refine .inr ⟨a.block, a.off, cap, by rw [← ha], by omega, fun i hi => ?_⟩
    rw [← hA i]
    exact hc i hi

theorem sl_ints (ht : P.underlying t = some (.slice e)) (he : P.underlying e = some (.int .i64)) (hc : P.cellsOf e = 1) (hval : Value.okWide P W r b0 t v) (hd : DataW.Trod enc P W base (fun _ => true) held t v d ps) :
    ∃ xs : List Int, IsSl v (xs.map vI) W ∧ ∀ x ∈ xs, -9223372036854775808 ≤ x ∧ x ≤ 9223372036854775807 := by
  obtain ⟨a1, len, cap, rfl⟩ := okWide_slice ht hval
  obtain ⟨fuel, hf⟩ := hd
  rcases open_ints ht he hc hf with ⟨hcs, hx⟩ | ⟨a, len', cap', zs, hcs, _, hl, hm, hz, hx, hcell, hwz⟩
  · simp only [Value.cells, List.cons.injEq, Value.slice.injEq, and_true] at hcs
    obtain ⟨rfl, rfl, rfl⟩ := hcs
    exact ⟨[], ⟨by simp, .inl ⟨none, 0, rfl, rfl⟩⟩, by simp⟩
  · simp only [Value.cells, List.cons.injEq, Value.slice.injEq, and_true] at hcs
    obtain ⟨rfl, rfl, rfl⟩ := hcs
    simp only [if_true] at hz
    have hlen : ((zs.take len).map vI).length = len := by simp; omega
    refine ⟨zs.take len, ?_, fun x hx => bounds_i64 (hwz x (List.mem_of_mem_take hx))⟩
    have := isSl_of_cells (W := W) (a := a) (cap := cap) (xs := (zs.take len).map vI) (by rw [hlen]; omega) (fun i hi => by
      rw [hlen] at hi
      rw [hcell i (by omega)]
      simp [vI, hi, List.getD, List.getElem?_eq_getElem (show i < zs.length by omega)])
    rwa [hlen] at this

theorem sl_strs (ht : P.underlying t = some (.slice e)) (he : P.underlying e = some .string) (hc : P.cellsOf e = 1) (hval : Value.okWide P W r b0 t v) (hd : DataW.Trod enc P W base (fun _ => true) held t v d ps) :
    ∃ xs : List Bs, IsSl v (xs.map vS) W ∧ ∀ x ∈ xs, x.length ≤ maxLen := by
  obtain ⟨a1, len, cap, rfl⟩ := okWide_slice ht hval
  obtain ⟨fuel, hf⟩ := hd
  rcases open_strings ht he hc hf with ⟨hcs, hx⟩ | ⟨a, len', cap', zs, hcs, _, hl, hm, hz, hx, hcell, hwz⟩
  · simp only [Value.cells, List.cons.injEq, Value.slice.injEq, and_true] at hcs
    obtain ⟨rfl, rfl, rfl⟩ := hcs
    exact ⟨[], ⟨by simp, .inl ⟨none, 0, rfl, rfl⟩⟩, by simp⟩
  · simp only [Value.cells, List.cons.injEq, Value.slice.injEq, and_true] at hcs
    obtain ⟨rfl, rfl, rfl⟩ := hcs
    simp only [if_true] at hz
    have hlen : (((zs.take len).map fun s => s.data.toList).map vS).length = len := by simp; omega
    refine ⟨(zs.take len).map fun s => s.data.toList, ?_, fun x hx => ?_⟩
    · have := isSl_of_cells (W := W) (a := a) (cap := cap) (xs := ((zs.take len).map fun s => s.data.toList).map vS) (by rw [hlen]; omega) (fun i hi => by
        rw [hlen] at hi
        rw [hcell i (by omega)]
        simp [vS, hi, List.getD, List.getElem?_eq_getElem (show i < zs.length by omega), B_eta])
      rwa [hlen] at this
    · obtain ⟨s, hs, rfl⟩ := List.mem_map.1 hx
      exact hwz s (List.mem_of_mem_take hs)
end
end Licit
