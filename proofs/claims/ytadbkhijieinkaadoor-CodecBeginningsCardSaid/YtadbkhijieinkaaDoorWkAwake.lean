/- awake of the laws of layer 2 returns true; where the table of strconv lies as laid. -/
import Derived.Test.YtadbkhijieinkaaDoorWkList
import Derived.Test.YtadbkhijieinkaaDoorWkMany
import Derived.Test.YtadbkhijieinkaaDoorWkSame
namespace Go.Proofs.YtadbkhijieinkaaDoor
open Go Go.RowKit Licit

theorem aw_num (w : World) (ht : Tab w) : Calls Tryd.prog 11 #[.int .i64 1024] w fun e w' => e = .returned (.tuple #[.string ⟨#[49, 48, 50, 52, 59]⟩, .int .i64 0]) ∧ Below w.heap.size w w' := by
  have h := encNumber_any 1024 w ht
  rw [show eNum 1024 = ([49, 48, 50, 52, 59], 0) by simp [eNum, Lib.decDigits]] at h
  exact h
theorem aw_text (w : World) (ht : Tab w) : Calls Tryd.prog 15 #[.string ⟨#[97, 98]⟩] w fun e w' => e = .returned (.tuple #[.string ⟨#[50, 58, 97, 98, 44]⟩, .int .i64 0]) ∧ Below w.heap.size w w' := by
  have h := encText_any [97, 98] w (by decide) ht
  rw [show eText [97, 98] = ([50, 58, 97, 98, 44], 0) by simp [eText, Lib.decDigits]] at h
  exact h
theorem lit2 (w : World) (a b : Value) (T : TypeId) : IsSl (.slice (some ⟨w.heap.size, 0, none⟩) 2 2) [a, b] (w.alloc (.cells #[a, b] T)) :=
  ⟨by simp [maxLen], .inr ⟨w.heap.size, 0, 2, rfl, by simp, fun i hi => by rw [cell_of (new_of _ _)]; simp⟩⟩
theorem aw_nums (w : World) (ht : Tab w) : Calls Tryd.prog 13 #[.slice (some ⟨w.heap.size, 0, none⟩) 2 2] (w.alloc (.cells #[.int .i64 1, .int .i64 20] 3)) fun e w' => e = .returned (.tuple #[.string ⟨#[50, 59, 49, 59, 50, 48, 59]⟩, .int .i64 0]) ∧ Below w.heap.size w w' := by
  have h := encNumbers_any (.slice (some ⟨w.heap.size, 0, none⟩) 2 2) [1, 20] _ (lit2 w (vI 1) (vI 20) 3) (by decide) (ht.same ((Below.refl _ _).alloc (Nat.le_refl _) _))
  rw [show eList eNum [1, 20] = ([50, 59, 49, 59, 50, 48, 59], 0) by simp [eList, eAll, eNum, Lib.decDigits]] at h
  exact h.mono fun e w' ⟨h1, h2⟩ => ⟨h1, ((Below.refl _ _).alloc (Nat.le_refl _) _).trans (h2.mono (by simp))⟩
theorem aw_texts (w : World) (ht : Tab w) : Calls Tryd.prog 17 #[.slice (some ⟨w.heap.size, 0, none⟩) 2 2] (w.alloc (.cells #[.string ⟨#[]⟩, .string ⟨#[120]⟩] 9)) fun e w' => e = .returned (.tuple #[.string ⟨#[50, 59, 48, 58, 44, 49, 58, 120, 44]⟩, .int .i64 0]) ∧ Below w.heap.size w w' := by
  have h := encTexts_any (.slice (some ⟨w.heap.size, 0, none⟩) 2 2) [[], [120]] _ (lit2 w (vS []) (vS [120]) 9) (by decide) (ht.same ((Below.refl _ _).alloc (Nat.le_refl _) _))
  rw [show eList eText [[], [120]] = ([50, 59, 48, 58, 44, 49, 58, 120, 44], 0) by simp [eList, eAll, eText, Lib.decDigits]] at h
  exact h.mono fun e w' ⟨h1, h2⟩ => ⟨h1, ((Below.refl _ _).alloc (Nat.le_refl _) _).trans (h2.mono (by simp))⟩

def awData : Bs := [50, 59, 49, 59, 50, 48, 59, 50, 58, 97, 98, 44, 55]
theorem aw_r1 : rdNums 0 20 (awData, 0) = ([1, 20], ([50, 58, 97, 98, 44, 55], 0)) := by decide +kernel
theorem aw_r2 : rdText 2 ([50, 58, 97, 98, 44, 55], 0) = ([97, 98], ([55], 0)) := by decide +kernel
theorem aw_r3 : rdNum 0 9 ([55], 0) = (0, ([], 13)) := by decide +kernel

set_option maxRecDepth 100000 in
set_option maxHeartbeats 1600000 in
theorem awake_any (w : World) (ht : Tab w) : Calls Tryd.prog 10 #[] w fun e w' => e = .returned (.bool true) ∧ Below w.heap.size w w' := by
  go_enter Tryd.func10, Tryd.ntmps10
  go_wp2_with fail
  refine (aw_num _ ht).mono ?_
  rintro e w1 ⟨rfl, hb1⟩
  have ht1 := ht.same hb1
  go_wp2_with fail
  refine (aw_text _ ht1).mono ?_
  rintro e w2 ⟨rfl, hb2⟩
  have ht2 := ht1.same hb2
  go_wp2_with fail
  refine (aw_nums _ ht2).mono ?_
  rintro e w3 ⟨rfl, hb3⟩
  have ht3 := ht2.same hb3
  go_wp2_with fail
  refine (aw_texts _ ht3).mono ?_
  rintro e w4 ⟨rfl, hb4⟩
  have HB := Lib.hid (((hb1.trans (hb2.mono hb1.size)).trans (hb3.mono (Nat.le_trans hb1.size hb2.size))).trans (hb4.mono (Nat.le_trans (Nat.le_trans hb1.size hb2.size) hb3.size)))
  clear hb1 hb2 hb3 hb4 ht1 ht2 ht3
  go_wp2_with fail
  refine (newReader_any _ _).mono ?_
  rintro e w5 ⟨rfl, rfl⟩
  have hR5 : Rdr w4.heap.size (B awData) 0 (w4.alloc (.cells #[.string (B awData), .int .i64 0] 63)) := new_of _ _
  go_wp2_with fail
  refine (numbers_any w4.heap.size (B awData) 0 0 20 _ hR5 (by decide)).mono ?_
  rw [B_list, aw_r1]
  rintro e w6 ⟨v, rfl, hown, hR6, hK6⟩
  go_wp2_with fail
  refine (text_any w4.heap.size _ _ 2 _ hR6 (by decide)).mono ?_
  rw [B_list, aw_r2, show B [97, 98] = ⟨#[97, 98]⟩ from rfl]
  rintro e w7 ⟨rfl, hR7, hK7⟩
  go_wp2_with fail
  refine (left_any w4.heap.size _ _ _ hR7).mono ?_
  rw [show ((B [55]).size : Int) = 1 from rfl]
  rintro e w8 ⟨rfl, rfl⟩
  go_wp2_with fail
  refine (number_any w4.heap.size _ _ 0 9 _ hR7 (by decide)).mono ?_
  rw [B_list, aw_r3]
  rintro e w9 ⟨rfl, hR9, hK9⟩
  have hsl : IsSl v ([1, 20].map vI) w9 := by
    have h1 := ownsRow_kept hown (hK7.trans hK9) (fun k hk => by show ¬ k = _; simp at hk; omega)
    exact IsSl.of_owns h1 (by decide)
  have hK : Kept (One w4.heap.size) (w4.alloc (.cells #[.string (B awData), .int .i64 0] 63)) w9 := hK6.trans (hK7.trans hK9)
  have HSL := Lib.hid hsl
  have HR9 := Lib.hid hR9
  have HK := Lib.hid hK
  have hsz9 := hK.size
  clear hown hR5 hR6 hR7 hR9 hK6 hK7 hK9 hK hsl
  go_wp2_with fail
  refine (sameI_any v _ [1, 20] [1, 20] _ (HSL.out.below ((Below.refl _ _).alloc (Nat.le_refl _) _)) (lit2 w9 (vI 1) (vI 20) 3)).mono ?_
  rw [show decide (([1, 20] : List Int) = [1, 20]) = true by decide]
  rintro e w10 ⟨rfl, hb10⟩
  have hb10' : Below w9.heap.size w9 w10 := ((Below.refl _ _).alloc (Nat.le_refl _) _).trans (hb10.mono (by simp))
  have hR10 : Rdr w4.heap.size (B []) 13 w10 := HR9.out.below hb10'
  clear hb10
  go_wp2_with (first
    | (go_at_call 30; refine (err_any w4.heap.size _ _ _ hR10).mono ?_; rintro e w11 ⟨rfl, rfl⟩)
    | (go_at_call 31; refine (left_any w4.heap.size _ _ _ hR10).mono ?_; rw [show ((B []).size : Int) = 0 from rfl]; rintro e w11 ⟨rfl, rfl⟩)
    | (go_at_call 32; refine (close_any w4.heap.size _ _ _ hR10).mono ?_; rw [show rdClose ((B []).data.toList, 13) = 13 from rfl]; rintro e w11 ⟨rfl, rfl⟩))
  go_ret
  refine ⟨rfl, ?_⟩
  have h5 : Below w.heap.size w w9 := (HB.out.alloc HB.out.size _).trans (HK.out.below (by have := HB.out.size; simp; omega) (fun k hk => by show ¬ k = _; have := HB.out.size; omega))
  exact h5.trans (hb10'.mono h5.size)

end Go.Proofs.YtadbkhijieinkaaDoor
