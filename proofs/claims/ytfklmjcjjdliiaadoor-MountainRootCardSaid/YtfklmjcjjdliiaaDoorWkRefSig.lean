/- digests, Texts and bits of the reference of lamport. -/
import Derived.Test.YtfklmjcjjdliiaaDoorShaRef
import Derived.Test.YtfklmjcjjdliiaaDoorWkTexts
import Derived.Test.YtfklmjcjjdliiaaDoorPlainAll
namespace Go.Proofs.YtfklmjcjjdliiaaDoor
open Go Go.RowKit Licit

theorem dr {B : Nat} {w w' : World} (h : Below B w w') : Below B w w'.drew := ⟨h.os, h.tape, h.output, h.size, h.block⟩
theorem all32_take (xs : List Bs) (k : Nat) (hk : k < xs.length) (h : all32 (xs.take k) = true) : all32 (xs.take (k + 1)) = decide ((xs.getD k []).length = 32) := by
  unfold all32 at *
  rw [List.take_add_one, List.all_append, h, List.getElem?_eq_getElem hk, List.getD_eq_getElem?_getD, List.getElem?_eq_getElem hk]
  simp
theorem all32_no (xs : List Bs) (k : Nat) (hk : k < xs.length) (h : (xs.getD k []).length ≠ 32) : all32 xs = false := by
  unfold all32
  rw [List.all_eq_false]
  refine ⟨xs.getD k [], ?_, by simpa using h⟩
  rw [List.getD_eq_getElem?_getD, List.getElem?_eq_getElem hk]
  exact List.getElem_mem _

theorem Digests_any (v : Value) (xs : List Bs) (w : World) (h : IsSl v (xs.map vS) w) : Calls Tryd.prog 55 #[v] w fun e w' => e = .returned (.bool (all32 xs)) ∧ w' = w := by
  obtain ⟨a, cap, rfl⟩ := h.formMap
  have hmx := h.1
  rw [List.length_map] at hmx
  unfold maxLen at hmx
  have H := Lib.hid h
  clear h
  go_enter Tryd.func55, Tryd.ntmps55
  go_wp2
  go_loopw [3] (fun n wr => wr = w ∧ ∃ k : Nat, k ≤ xs.length ∧ n = .int .i64 k ∧ all32 (xs.take k) = true) (fun n _ => xs.length - (intOf n).toNat)
  case atStart => exact ⟨rfl, 0, by omega, rfl, by simp [all32]⟩
  case round =>
    obtain ⟨rfl, k, hk, rfl, hA⟩ := hrel
    have HA := Lib.hid hA
    clear hA
    by_cases hlt : k < xs.length
    · have h2 := H.out
      obtain ⟨b, off, cap', hv, hb, hc⟩ := h2.text rfl hlt
      simp only [Value.slice.injEq, true_and] at hv
      obtain ⟨rfl, rfl⟩ := hv
      obtain ⟨x, hx⟩ : ∃ x, xs.getD k [] = x := ⟨_, rfl⟩
      rw [hx] at hc
      obtain ⟨m, hm⟩ : ∃ m : Nat, (B x).size = m := ⟨_, rfl⟩
      have hml : m = (xs.getD k []).length := by rw [hx, ← hm]; rfl
      have Hm := Lib.hid hml
      have Hx := Lib.hid hx
      clear hx hml h2
      by_cases h32 : m = 32
      · have hq : ((m : Int) == 32) = true := by simp; omega
        go_wp2
        go_roundw
        case rel => exact ⟨trivial, k + 1, by omega, by go_num, by rw [all32_take xs k hlt HA.out, ← Hm.out]; simpa using h32⟩
        case measure => simp [intOf]; omega
      · have hq : ((m : Int) == 32) = false := by simp; omega
        go_wp2
        go_ret
        rw [all32_no xs k hlt (by rw [← Hm.out]; exact h32)]
        exact ⟨rfl, rfl⟩
    · obtain rfl : k = xs.length := by omega
      have hA := HA.out
      rw [List.take_length] at hA
      go_wp2
      go_ret
      rw [hA]
      exact ⟨rfl, rfl⟩


theorem take_ne {xs ys : List Bs} {k : Nat} (_ : k < xs.length) (hk2 : k < ys.length) (h : xs.getD k [] ≠ ys.getD k []) : xs ≠ ys := by
  rintro rfl
  exact h rfl
theorem take_snoc {xs ys : List Bs} {k : Nat} (hk : k < xs.length) (hk2 : k < ys.length) (h : xs.take k = ys.take k) (hx : xs.getD k [] = ys.getD k []) : xs.take (k + 1) = ys.take (k + 1) := by
  rw [List.getD_eq_getElem?_getD, List.getElem?_eq_getElem hk, List.getD_eq_getElem?_getD, List.getElem?_eq_getElem hk2] at hx
  simp only [Option.getD_some] at hx
  rw [List.take_add_one, List.take_add_one, h, List.getElem?_eq_getElem hk, List.getElem?_eq_getElem hk2, hx]

theorem RTexts_any (v u : Value) (xs ys : List Bs) (w : World) (h : IsSl v (xs.map vS) w) (h' : IsSl u (ys.map vS) w) : Calls Tryd.prog 57 #[v, u] w fun e w' => e = .returned (.bool (decide (xs = ys))) ∧ Below w.heap.size w w' := by
  obtain ⟨a, cap, rfl⟩ := h.formMap
  obtain ⟨a', cap', rfl⟩ := h'.formMap
  have hmx := h.1
  have hmy := h'.1
  rw [List.length_map] at hmx hmy
  unfold maxLen at hmx hmy
  have H := Lib.hid h
  have H' := Lib.hid h'
  clear h h'
  by_cases hl : xs.length = ys.length
  · have hle : ((xs.length : Int) == (ys.length : Int)) = true := by simp; omega
    go_enter Tryd.func57, Tryd.ntmps57
    go_wp2
    go_loopw [5] (fun n wr => Below w.heap.size w wr ∧ ∃ k : Nat, k ≤ xs.length ∧ n = .int .i64 k ∧ xs.take k = ys.take k) (fun n _ => xs.length - (intOf n).toNat)
    case atStart => exact ⟨Below.refl _ _, 0, by omega, rfl, rfl⟩
    case round =>
      obtain ⟨hB, k, hk, rfl, hA⟩ := hrel
      have HA := Lib.hid hA
      have HB := Lib.hid hB
      clear hA hB
      by_cases hlt : k < xs.length
      · have hlt2 : k < ys.length := by omega
        obtain ⟨b, off, c1, hv, hb, hc⟩ := (H.out.below HB.out).text rfl hlt
        simp only [Value.slice.injEq, true_and] at hv
        obtain ⟨rfl, rfl⟩ := hv
        obtain ⟨b', off', c2, hv, hb', hc'⟩ := (H'.out.below HB.out).text rfl hlt2
        simp only [Value.slice.injEq, true_and] at hv
        obtain ⟨rfl, rfl⟩ := hv
        obtain ⟨x, hx⟩ : ∃ x, xs.getD k [] = x := ⟨_, rfl⟩
        obtain ⟨y, hy⟩ : ∃ y, ys.getD k [] = y := ⟨_, rfl⟩
        rw [hx] at hc
        rw [hy] at hc'
        have Hx := Lib.hid hx
        have Hy := Lib.hid hy
        have hi1 : (k : Int) < (xs.length : Int) := by omega
        have hi2 : (k : Int) < (ys.length : Int) := by omega
        clear hx hy
        by_cases hxy : x = y
        · have hq : ((B x).toList == (B y).toList) = true := by rw [hxy]; simp
          go_wp2
          go_region
          go_wp2
          go_roundw
          case rel => exact ⟨dr HB.out, k + 1, by omega, by go_num, take_snoc hlt hlt2 HA.out (by rw [Hx.out, Hy.out]; exact hxy)⟩
          case measure => simp [intOf]; omega
        · have hq : ((B x).toList == (B y).toList) = false := by
            rw [ByteArray.toList_eq, ByteArray.toList_eq, B_list, B_list]; simpa using hxy
          go_wp2
          go_region
          go_wp2
          go_ret
          refine ⟨?_, dr HB.out⟩
          rw [decide_eq_false (take_ne hlt hlt2 (by rw [Hx.out, Hy.out]; exact hxy))]
          rfl
      · obtain rfl : k = xs.length := by omega
        have hA := HA.out
        rw [List.take_length, hl, List.take_length] at hA
        have HA := Lib.hid hA
        clear hA
        go_wp2
        go_ret
        refine ⟨?_, HB.out⟩
        rw [decide_eq_true HA.out]
        rfl
  · have hle : ((xs.length : Int) == (ys.length : Int)) = false := by simp; omega
    go_enter Tryd.func57, Tryd.ntmps57
    go_wp2
    go_ret
    refine ⟨?_, Below.refl _ _⟩
    rw [decide_eq_false (fun e => hl (by rw [e]))]
    rfl

end Go.Proofs.YtfklmjcjjdliiaaDoor
