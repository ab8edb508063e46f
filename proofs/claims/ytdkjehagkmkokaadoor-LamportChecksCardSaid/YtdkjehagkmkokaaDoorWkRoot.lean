/- Root of package lamport. -/
import Derived.Test.YtdkjehagkmkokaaDoorWkRows
import Derived.Test.YtdkjehagkmkokaaDoorWkTexts
import Derived.Deep.RegionLaw
namespace Go.Proofs.YtdkjehagkmkokaaDoor
open Go Go.RowKit Licit

theorem IsRows.at {v : Value} {rows : List (List Bs)} {w : World} (h : IsRows v rows w) {n : Nat} (hn : rows.length = n) {j : Nat} (hj : j < n) :
    ∃ blk off cap row, v = .slice (some ⟨blk, off, none⟩) n cap ∧ blk < w.heap.size ∧ w.cell? ⟨blk, off + j, none⟩ = some row ∧ IsSl row ((rows.getD j []).map vS) w := by
  obtain ⟨vs, h1, h2, h3⟩ := h
  obtain ⟨a, cap, rfl⟩ := h2.form
  obtain ⟨blk, off, rfl, hb, hc⟩ := h2.at (k := j) (by omega)
  refine ⟨blk, off, cap, vs.getD j undef, by rw [h1, hn], hb, ?_, h3 j (by omega)⟩
  rw [hc, List.getD_eq_getElem?_getD, List.getElem?_eq_getElem (by omega)]
  rfl
theorem IsRows.below {v : Value} {rows : List (List Bs)} {w w' : World} (h : IsRows v rows w) (hb : Below w.heap.size w w') : IsRows v rows w' := by
  obtain ⟨vs, h1, h2, h3⟩ := h
  exact ⟨vs, h1, h2.below hb, fun j hj => (h3 j hj).below hb⟩

theorem Tab.drew {w : World} (h : Tab w) : Tab w.drew := h.same ⟨rfl, rfl, rfl, Nat.le_refl _, fun _ _ => rfl⟩
theorem rows_get (seed : Bs) (b h j : Nat) (hj : j ≤ h) : ((List.range (h + 1)).map (rowB seed b h)).getD j [] = rowB seed b h j := by simp [List.getD_eq_getElem?_getD, show j < h + 1 by omega]
theorem row_one (seed : Bs) (b h : Nat) : (((List.range (h + 1)).map (rowB seed b h)).getD h []).length = 1 := by rw [rows_get _ _ _ _ (Nat.le_refl h), rowB_len seed b h (Nat.le_refl h)]; simp
theorem row_root (seed : Bs) (b h : Nat) : (((List.range (h + 1)).map (rowB seed b h)).getD h []).getD 0 [] = rootB seed b h := by rw [rows_get _ _ _ _ (Nat.le_refl h)]; rfl
theorem rows_isRows {base : Nat} {v : Value} {seed : Bs} {b h : Nat} {w : World} (hh : h ≤ 6) (ho : OwnRows base v ((List.range (h + 1)).map (rowB seed b h)) w) : IsRows v ((List.range (h + 1)).map (rowB seed b h)) w := by
  refine ho.isRows (by simp [maxLen]; omega) fun j hj => ?_
  rw [List.length_map, List.length_range] at hj
  rw [rows_get _ _ _ _ (by omega), rowB_len seed b h (by omega)]
  exact Nat.le_trans (Nat.le_trans (Nat.pow_le_pow_right (by decide) (show h - j ≤ 6 by omega)) (by decide : 2 ^ 6 ≤ 64)) (by decide)
set_option maxHeartbeats 1000000 in
set_option maxRecDepth 100000 in
theorem Root_any (seed : Bs) (b h : Nat) (w : World) (hs : seed.length ≤ maxLen) (hk : keyOk (b : Int) (h : Int) = true) (ht : Tab w) :
    Gives 13 #[.string (B seed), .agg #[.int .i64 (b : Int), .int .i64 (h : Int)]] w (.tuple #[.string (B (rootB seed b h)), .int .i64 0]) := by
  have hk' : 8 ≤ (b : Int) ∧ (b : Int) ≤ 256 ∧ 0 ≤ (h : Int) ∧ (h : Int) ≤ 6 := by simpa [keyOk] using hk
  have hb : b ≤ 256 := by omega
  have hh : h ≤ 6 := by omega
  clear hk'
  have HV := Lib.hid (fun W => Valid_yes (b : Int) (h : Int) W hk)
  clear hk
  go_enter Tryd.func13, Tryd.ntmps13
  obtain ⟨m, hm⟩ : ∃ m, h + 1 = m := ⟨_, rfl⟩
  have hpos : (h : Int) < (m : Int) := by omega
  have Hm := Lib.hid hm
  clear hm
  go_wp2_with (first
    | (go_at_call 15; refine (HV.out _).mono ?_; rintro e w1 ⟨rfl, hb1⟩; have hc0 : w1.cell? ⟨w.heap.size, 0, none⟩ = some (.int .i64 (b : Int)) := (hb1.cell (p := ⟨w.heap.size, 0, none⟩) (by simp)).trans (cell_of (new_of w (.cells #[.int .i64 (b : Int), .int .i64 (h : Int)] 23)) 0); have hc1 : w1.cell? ⟨w.heap.size, 1, none⟩ = some (.int .i64 (h : Int)) := (hb1.cell (p := ⟨w.heap.size, 1, none⟩) (by simp)).trans (cell_of (new_of w (.cells #[.int .i64 (b : Int), .int .i64 (h : Int)] 23)) 1); have hz1 : w.heap.size < w1.heap.size := (by have := hb1.size; simp at this; omega); have Hb1 := Lib.hid (((Below.refl w.heap.size w).alloc (Nat.le_refl _) _).next hb1); clear hb1))
  go_region_law
    (first
      | (go_simp; go_at_call 36; refine (rows_any seed b h _ hs hb hh (ht.same Hb1.out).drew).mono ?_; rintro e w2 ⟨v2, rfl, ho2, hb2⟩; obtain ⟨blk, off, cap, row, rfl, hbl, hcr, hr⟩ := (rows_isRows hh ho2).at (n := m) (by rw [← Hm.out]; simp) (j := h) (by omega); obtain ⟨bk2, of2, cap2, rfl, hbl2, hct⟩ := hr.text (n := 1) (row_one seed b h) (j := 0) (by decide); have hd0 := (hb2.cell (p := ⟨w.heap.size, 0, none⟩) hz1).trans hc0; have hd1 := (hb2.cell (p := ⟨w.heap.size, 1, none⟩) hz1).trans hc1; rw [row_root, Nat.add_zero] at hct; have HB2 := Lib.hid (Hb1.out.next (undrew hb2)); clear ho2 hb2 hr; go_wp2_with fail))
  all_goals
    go_wp2
    go_ret2
    exact ⟨rfl, HB2.out⟩
end Go.Proofs.YtdkjehagkmkokaaDoor
