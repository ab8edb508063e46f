/- The card of MountainOnly is proved: for every claim the law returns true; the conditions are those of the given row. -/
import Derived.Test.YtfklmjcjjdliiaaDoorLawClaim49
import Derived.Test.YtfklmjcjjdliiaaDoorWkMtD
namespace Go.Proofs.YtfklmjcjjdliiaaDoor.lawOnly
open Go Go.RowKit Licit
open Go.ChangeShapes Go.WideShapes Go.ChangeAt

set_option maxHeartbeats 8000000 in
set_option maxRecDepth 100000 in
theorem walk (seed leaf : Bs) (count how at_ : Nat) (idx fr : Int) (w : World) (hl : leaf.length ≤ maxLen) (hc : count < 256) (ht : Tab w) (hz : Tz w) :
    Calls Tryd.prog 5 #[claimV seed count idx fr how at_ leaf] w fun e w' => e = .returned (.bool true) ∧ Below w.heap.size w w' := by
  have HA := Lib.hid (fun W (hb : Below w.heap.size w W) => awake_any49 W (ht.same hb) (hz.same hb))
  have dz : ((B seed).size : Int) = (seed.length : Int) := rfl
  have HBx := Lib.hid ((Below.refl w.heap.size w).alloc (Nat.le_refl _) (.cells #[.string (B seed), .int .u8 (count : Int), .int .i64 idx, .int .i64 fr, .int .u8 (how : Int), .int .u8 (at_ : Int), .string (B leaf)] 36))
  have HXx := Lib.hid (new_of w (.cells #[.string (B seed), .int .u8 (count : Int), .int .i64 idx, .int .i64 fr, .int .u8 (how : Int), .int .u8 (at_ : Int), .string (B leaf)] 36))
  go_enter Tryd.func5, Tryd.ntmps5
  go_wp2_with fail
  refine (HA.out _ HBx.out).mono ?_
  rintro e w1 ⟨rfl, hb⟩
  have HB1 := Lib.hid (HBx.out.next hb)
  have HX1 := Lib.hid ((hb.block _ (lt_of HXx.out)).trans HXx.out)
  clear hb
  obtain ⟨k0, k1, k2, k3, k4, k5, k6⟩ := claim_cells HX1.out
  by_cases h1 : 100 < seed.length
  · have d1 : decide (100 < (seed.length : Int)) = true := by simp; omega
    go_wp2_with fail
    refine (HA.out _ HB1.out).mono ?_
    rintro e w3 ⟨rfl, hb⟩
    have HB3 := Lib.hid (HB1.out.next hb)
    clear hb
    go_wp2
    go_ret
    exact ⟨rfl, HB3.out⟩
  have d1 : decide (100 < (seed.length : Int)) = false := by simp; omega
  by_cases h2 : 40 < count
  · have d2 : decide (40 < (count : Int)) = true := by simp; omega
    go_wp2_with fail
    refine (HA.out _ HB1.out).mono ?_
    rintro e w3 ⟨rfl, hb⟩
    have HB3 := Lib.hid (HB1.out.next hb)
    clear hb
    go_wp2
    go_ret
    exact ⟨rfl, HB3.out⟩
  have d2 : decide (40 < (count : Int)) = false := by simp; omega
  by_cases h3 : idx < 0
  · have d3 : decide (idx < 0) = true := by simpa using h3
    go_wp2_with fail
    refine (HA.out _ HB1.out).mono ?_
    rintro e w3 ⟨rfl, hb⟩
    have HB3 := Lib.hid (HB1.out.next hb)
    clear hb
    go_wp2
    go_ret
    exact ⟨rfl, HB3.out⟩
  obtain ⟨j, rfl⟩ : ∃ j : Nat, idx = (j : Int) := ⟨idx.toNat, by omega⟩
  have d3 : decide ((j : Int) < 0) = false := by simp
  have hcv : IntKind.i64.wrap (count : Int) = (count : Int) := by rw [IntKind.wrap_i64]; omega
  by_cases h4 : count ≤ j
  · have d4 : decide ((count : Int) ≤ (j : Int)) = true := by simp; omega
    go_wp2_with fail
    refine (HA.out _ HB1.out).mono ?_
    rintro e w3 ⟨rfl, hb⟩
    have HB3 := Lib.hid (HB1.out.next hb)
    clear hb
    go_wp2
    go_ret
    exact ⟨rfl, HB3.out⟩
  have d4 : decide ((count : Int) ≤ (j : Int)) = false := by simp; omega
  have HLv := Lib.hid (Leaves_any seed count w1 (by omega) (by omega))
  go_wp2_with fail
  refine HLv.out.mono ?_
  rintro e w2 ⟨vl, rfl, hol, hb⟩
  have HB2 := Lib.hid (HB1.out.next hb)
  have HX2 := Lib.hid ((hb.block _ (lt_of HX1.out)).trans HX1.out)
  obtain ⟨L, hL⟩ : ∃ L, leavesM seed count = L := ⟨_, rfl⟩
  have hLl : L.length = count := by rw [← hL]; exact leavesM_len _ _
  have hL32 : ∀ x ∈ L, x.length = 32 := by rw [← hL]; exact leavesM_32 _ _
  rw [hL] at hol
  clear HLv hb hL k0 k1 k2 k3 k4 k5 k6
  subst hLl
  have HOl := Lib.hid (IsSl.of_owns (xs := L.map vS) (by rw [List.length_map]; exact hol) (by rw [List.length_map]; unfold maxLen; omega))
  obtain ⟨la, lk, rfl⟩ := own_form hol
  have HL32 := Lib.hid hL32
  have HC2 := Lib.hid (CloneS_any _ L w2 HOl.out (by omega))
  have hck := checkM_zero hL32 (by omega)
  have HP0 := Lib.hid (show proveE L (j : Int) = 0 by unfold proveE; rw [if_pos hck, if_pos ⟨by omega, by omega⟩])
  have HCk := Lib.hid hck
  clear hol hck hL32
  go_wp2_with fail
  refine HC2.out.mono ?_
  rintro e w3 ⟨v3, rfl, ho3, hb⟩
  have HB3 := Lib.hid (HB2.out.next hb)
  have HX3 := Lib.hid ((hb.block _ (lt_of HX2.out)).trans HX2.out)
  have HO3 := Lib.hid (HOl.out.below hb)
  have hOf := MtOf_any v3 L w3 (IsSl.of_owns (xs := L.map vS) (by rw [List.length_map]; exact ho3) (by rw [List.length_map]; unfold maxLen; omega)) (ht.same HB3.out)
  rw [HCk.out, show ofS L = (L.length : Int) by unfold ofS; rw [HCk.out, if_pos rfl], show ofP L = peaksOf L by unfold ofP; rw [HCk.out, if_pos rfl]] at hOf
  have HOf := Lib.hid hOf
  obtain ⟨a3, k3, rfl⟩ := own_form ho3
  clear hb ho3 hOf HC2
  go_wp2_with fail
  refine HOf.out.mono ?_
  rintro e w4 ⟨v4, rfl, hm4, hb⟩
  have HB4 := Lib.hid (HB3.out.next hb)
  have HX4 := Lib.hid ((hb.block _ (lt_of HX3.out)).trans HX3.out)
  have HO4 := Lib.hid (HO3.out.below hb)
  have HM4 := Lib.hid hm4
  obtain ⟨p4, rfl, hp4, _⟩ := hm4
  obtain ⟨ma, mc, rfl⟩ := hp4.formMap
  obtain ⟨V, hV⟩ : ∃ V, w4.alloc (.cells #[.int .i64 (L.length : Int), .slice ma (peaksOf L).length mc] 31) = V := ⟨_, rfl⟩
  obtain ⟨D, hD⟩ : ∃ D, w4.heap.size = D := ⟨_, rfl⟩
  have hbV : Below w4.heap.size w4 V := by rw [← hV]; exact (Below.refl _ _).alloc (Nat.le_refl _) _
  have HDV := Lib.hid (show V.heap[D]? = some (.cells #[.int .i64 (L.length : Int), .slice ma (peaksOf L).length mc] 31) by rw [← hD, ← hV]; exact new_of _ _)
  have HBV := Lib.hid (HB4.out.next hbV)
  have HXV := Lib.hid ((hbV.block _ (lt_of HX4.out)).trans HX4.out)
  have HOV := Lib.hid (HO4.out.below hbV)
  have HMV := Lib.hid (HM4.out.below hbV)
  have HS5 := Lib.hid (show ∀ Wc, Below V.heap.size V Wc → (fun W : World => W.cell? ⟨w.heap.size, 2, none⟩ = some (.int .i64 (j : Int))) Wc from
    fun Wc hb => (hb.cell (lt_of HXV.out)).trans (claim_cells HXV.out).2.2.1)
  obtain ⟨PP, hPP⟩ : ∃ x, proveP L (j : Int) = x := ⟨_, rfl⟩
  have HPr := Lib.hid (fun v W (h : IsSl v (L.map vS) W) (hcv : SlCap v) (hb : Below w.heap.size w W) => MtProve_any v L (j : Int) W h hcv (ht.same hb))
  simp only [HP0.out, hPP] at HPr
  have hjl : j < L.length := by omega
  have hpp : PP = proveN L (place L.length j).2.2 j (place L.length j).2.1 := by
    rw [← hPP]
    unfold proveP
    rw [HP0.out, if_pos rfl, Int.toNat_natCast]
  have hpl : PP.length ≤ 1000 := by
    rw [hpp]
    have h3 := proveN_all (l := L) (by omega) (i := j)
    rcases h3 with h3 | h3
    · omega
    · omega
  have HIn := Lib.hid (show inclB (L.length : Int) (peaksOf L) (j : Int) (L.getD j []) PP = true by rw [hpp]; exact incl_prove (by omega) HL32.out hjl)
  clear hb hp4 hbV hPP hpp HOf
  go_wp2
  clear hV hD
  refine wp_region_held_drew (S := (fun W : World => W.cell? ⟨w.heap.size, 2, none⟩ = some (.int .i64 (j : Int)))) (by kernel_rfl) (HS5.out _ (dr (Below.refl _ _))) (fun hHeld => ?_)
  have HF0 := Lib.hid (show Below V.heap.size V V.drew from dr (Below.refl _ _))
  refine take_at 0 50 (oi := ?o1) (v := ?v1) ?hi1 ?hd1 (by kernel_rfl) (by kernel_rfl) (by kernel_rfl) ?hQ1 ?hw1 ?hy1 (by assumption) ?rest1
  case hi1 => simp only [List.getElem?_toArray, List.getElem?_cons_zero]; rfl
  case hd1 => rfl
  case hw1 => kernel_rfl
  case hy1 => intro W hW; (try dsimp only at hW); go_simp <;> with_reducible rfl
  case hQ1 => exact fun _ _ _ h => h
  try simp only [Act.put, List.setIfInBounds_toArray, List.set_cons_zero, List.set_cons_succ]
  refine take_at 2 52 (oi := ?o2) (v := ?v2) ?hi2 ?hd2 (by kernel_rfl) (by kernel_rfl) (by kernel_rfl) ?hQ2 ?hw2 ?hy2 (by assumption) ?rest2
  case hi2 => simp only [List.getElem?_toArray, List.getElem?_cons_succ, List.getElem?_cons_zero]; rfl
  case hd2 => rfl
  case hw2 => kernel_rfl
  case hy2 => intro W hW; (try dsimp only at hW); go_simp <;> with_reducible rfl
  case hQ2 => exact fun _ _ _ h => h
  try simp only [Act.put, List.setIfInBounds_toArray, List.set_cons_zero, List.set_cons_succ]
  refine take_at 3 53 (oi := ?o3) (v := ?v3) ?hi3 ?hd3 (by kernel_rfl) (by kernel_rfl) (by kernel_rfl) ?hQ3 ?hw3 ?hy3 (by assumption) ?rest3
  case hi3 => simp only [List.getElem?_toArray, List.getElem?_cons_succ, List.getElem?_cons_zero]; rfl
  case hd3 => rfl
  case hw3 => kernel_rfl
  case hy3 => intro W hW; (try dsimp only at hW); go_simp <;> with_reducible rfl
  case hQ3 => exact fun _ _ _ h => h
  try simp only [Act.put, List.setIfInBounds_toArray, List.set_cons_zero, List.set_cons_succ]
  refine wpAnyH_ready (rs := [1]) (by kernel_rfl) (by simp) ?_
  refine AllReadyH.cons rfl (fun K hK => ?_) AllReadyH.nil
  go_simp
  refine (CloneS_any _ L V.drew (HOV.out.below HF0.out) (by omega)).mono ?_
  rintro e u1 ⟨v5, rfl, ho5, hb⟩
  have HF1 := Lib.hid (HF0.out.trans (hb.mono HF0.out.size))
  have HI5 := Lib.hid (IsSl.of_owns (xs := L.map vS) (by rw [List.length_map]; exact ho5) (by rw [List.length_map]; unfold maxLen; omega))
  have hcap5 := SlCap.own ho5
  obtain ⟨a5, k5, rfl⟩ := own_form ho5
  refine hK.out _ _ (HS5.out _ HF1.out) (fun hHeld => ?_)
  clear hK K hb ho5
  try simp only [Act.put, List.setIfInBounds_toArray, List.set_cons_zero, List.set_cons_succ]
  refine wpAnyH_ready (rs := [4]) (by kernel_rfl) (by simp) ?_
  refine AllReadyH.cons rfl (fun K hK => ?_) AllReadyH.nil
  go_simp
  refine (HPr.out _ u1 HI5.out hcap5 (HBV.out.next HF1.out)).mono ?_
  rintro e u2 ⟨v6, rfl, ho6, hb⟩
  have HF2 := Lib.hid (HF1.out.trans (hb.mono HF1.out.size))
  have HI6 := Lib.hid (IsSl.of_owns (xs := PP.map vS) (by rw [List.length_map]; exact ho6) (by rw [List.length_map]; unfold maxLen; omega))
  obtain ⟨a6, k6, rfl⟩ := own_form ho6
  refine hK.out _ _ (HS5.out _ HF2.out) (fun hHeld => ?_)
  clear hK K hb ho6 hcap5
  try simp only [Act.put, List.setIfInBounds_toArray, List.set_cons_zero, List.set_cons_succ]
  refine take_at 5 49 (oi := ?o4) (v := ?v4) ?hi4 ?hd4 (by kernel_rfl) (by kernel_rfl) (by kernel_rfl) ?hQ4 ?hw4 ?hy4 (by assumption) ?rest4
  case hi4 => simp only [List.getElem?_toArray, List.getElem?_cons_succ, List.getElem?_cons_zero]; rfl
  case hd4 => rfl
  case hw4 => kernel_rfl
  case hy4 => intro W hW; (try dsimp only at hW); go_simp <;> with_reducible rfl
  case hQ4 => exact fun _ _ _ h => h
  try simp only [Act.put, List.setIfInBounds_toArray, List.set_cons_zero, List.set_cons_succ]
  refine take_at 6 55 (oi := ?o5) (v := ?v5) ?hi5 ?hd5 (by kernel_rfl) (by kernel_rfl) (by kernel_rfl) ?hQ5 ?hw5 ?hy5 (by assumption) ?rest5
  case hi5 => simp only [List.getElem?_toArray, List.getElem?_cons_succ, List.getElem?_cons_zero]; rfl
  case hd5 => rfl
  case hw5 => kernel_rfl
  case hy5 => intro W hW; (try dsimp only at hW); go_simp <;> with_reducible rfl
  case hQ5 => exact fun _ _ _ h => h
  try simp only [Act.put, List.setIfInBounds_toArray, List.set_cons_zero, List.set_cons_succ]
  refine take_at 7 56 (oi := ?o6) (v := ?v6) ?hi6 ?hd6 (by kernel_rfl) (by kernel_rfl) (by kernel_rfl) ?hQ6 ?hw6 ?hy6 (by assumption) ?rest6
  case hi6 => simp only [List.getElem?_toArray, List.getElem?_cons_succ, List.getElem?_cons_zero]; rfl
  case hd6 => rfl
  case hw6 => kernel_rfl
  case hy6 => intro W hW; (try dsimp only at hW); go_simp <;> with_reducible rfl
  case hQ6 => exact fun _ _ _ h => h
  try simp only [Act.put, List.setIfInBounds_toArray, List.set_cons_zero, List.set_cons_succ]
  refine take_at 8 6 (oi := ?o7) (v := ?v7) ?hi7 ?hd7 (by kernel_rfl) (by kernel_rfl) (by kernel_rfl) ?hQ7 ?hw7 ?hy7 (by assumption) ?rest7
  case hi7 => simp only [List.getElem?_toArray, List.getElem?_cons_succ, List.getElem?_cons_zero]; rfl
  case hd7 => rfl
  case hw7 => kernel_rfl
  case hy7 => intro W hW; (try dsimp only at hW); go_simp <;> with_reducible rfl
  case hQ7 => exact fun _ _ _ h => h
  try simp only [Act.put, List.setIfInBounds_toArray, List.set_cons_zero, List.set_cons_succ]
  refine take_at 9 7 (oi := ?o8) (v := ?v8) ?hi8 ?hd8 (by kernel_rfl) (by kernel_rfl) (by kernel_rfl) ?hQ8 ?hw8 ?hy8 (by assumption) ?rest8
  case hi8 => simp only [List.getElem?_toArray, List.getElem?_cons_succ, List.getElem?_cons_zero]; rfl
  case hd8 => rfl
  case hw8 => kernel_rfl
  case hy8 => intro W hW; (try dsimp only at hW); go_simp <;> with_reducible rfl
  case hQ8 => exact fun _ _ _ h => h
  try simp only [Act.put, List.setIfInBounds_toArray, List.set_cons_zero, List.set_cons_succ]
  refine wpAnyH_done (by kernel_rfl) ?_ _
  simp only [Exit.then]
  have HB7 := Lib.hid (HBV.out.next HF2.out)
  have HX7 := Lib.hid ((HF2.out.block _ (lt_of HXV.out)).trans HXV.out)
  have HD7 := Lib.hid ((HF2.out.block _ (lt_of HDV.out)).trans HDV.out)
  have HO7 := Lib.hid (HOV.out.below HF2.out)
  have HM7 := Lib.hid (HMV.out.below HF2.out)
  obtain ⟨k0, k1, k2, k3', k4, k5', k6'⟩ := claim_cells HX7.out
  have HLf := Lib.hid (RLeaf49_any leaf u2 hl)
  go_wp2_with fail
  refine HLf.out.mono ?_
  rintro e w8 ⟨rfl, hb⟩
  have HB8 := Lib.hid (HB7.out.next hb)
  have HX8 := Lib.hid ((hb.block _ (lt_of HX7.out)).trans HX7.out)
  have HD8 := Lib.hid ((hb.block _ (lt_of HD7.out)).trans HD7.out)
  have HO8 := Lib.hid (HO7.out.below hb)
  have HM8 := Lib.hid (HM7.out.below hb)
  have HI8 := Lib.hid (HI6.out.below hb)
  obtain ⟨x, hx⟩ : ∃ x, leafM leaf = x := ⟨_, rfl⟩
  have hxl : x.length ≤ maxLen := by rw [← hx]; exact max32 (leafM_len _)
  obtain ⟨G, hG⟩ : ∃ G, inclB (L.length : Int) (peaksOf L) (j : Int) x PP = G := ⟨_, rfl⟩
  rw [hx]
  have HGg := Lib.hid (fun W (hb : Below w8.heap.size w8 W) => Incl_any _ _ (L.length : Int) (peaksOf L) (j : Int) x PP W (HM8.out.below hb) (HI8.out.below hb) hxl (ht.same (HB8.out.next hb)))
  have HGr := Lib.hid (fun W (hb : Below w8.heap.size w8 W) => RIncl_any _ _ (L.length : Int) (peaksOf L) (j : Int) x PP W (HM8.out.below hb) (HI8.out.below hb) hxl)
  rw [hG] at HGg HGr
  have HGe := Lib.hid hG
  clear hb hx hG k0 k1 k2 k3' k4 k5' k6'
  obtain ⟨k0, k1, k2, k3', k4, k5', k6'⟩ := claim_cells HX8.out
  obtain ⟨c0, c1⟩ := mtC HD8.out
  go_wp2_with fail
  refine (HGg.out _ (Below.refl _ _)).mono ?_
  rintro e W ⟨rfl, hbW⟩
  have HBW := Lib.hid (HB8.out.next hbW)
  have HXW := Lib.hid ((hbW.block _ (lt_of HX8.out)).trans HX8.out)
  have HDW := Lib.hid ((hbW.block _ (lt_of HD8.out)).trans HD8.out)
  have HMW := Lib.hid (HM8.out.below hbW)
  have HIW := Lib.hid (HI8.out.below hbW)
  have HbW := Lib.hid hbW
  obtain ⟨b, off, cap', hvv, hbb, hcc⟩ := (HO8.out.below hbW).text rfl hjl
  simp only [Value.slice.injEq, true_and] at hvv
  obtain ⟨rfl, rfl⟩ := hvv
  have hbz : b < W.heap.size := World.block_lt_of_cell? W _ hcc
  have hyl : (L.getD j []).length ≤ maxLen := getD_max (fun y hy => max32 (HL32.out y hy)) j
  obtain ⟨y, hy⟩ : ∃ y, L.getD j [] = y := ⟨_, rfl⟩
  have HIn2 := Lib.hid (show inclB (L.length : Int) (peaksOf L) (j : Int) y PP = true by rw [← hy]; exact HIn.out)
  rw [hy] at hcc hyl
  have HS := Lib.hid (show ∀ Wc, Below W.heap.size W Wc → (fun W : World => (W.cell? ⟨w.heap.size, 2, none⟩ = some (.int .i64 (j : Int)) ∧ (W.cell? ⟨D, 0, none⟩ = some (.int .i64 (L.length : Int)) ∧ W.cell? ⟨D, 1, none⟩ = some (.slice ma (peaksOf L).length mc))) ∧ W.cell? ⟨b, off + j, none⟩ = some (.string (B y))) Wc from
    fun Wc hb => ⟨⟨(hb.cell (lt_of HXW.out)).trans (claim_cells HXW.out).2.2.1, (hb.cell (lt_of HDW.out)).trans (mtC HDW.out).1, (hb.cell (lt_of HDW.out)).trans (mtC HDW.out).2⟩, (hb.cell hbz).trans hcc⟩)
  have hcase : (x = y ∧ G = true) ∨ (¬ x = y ∧ G = true) ∨ (¬ x = y ∧ G = false) := by
    by_cases e : x = y
    · subst e
      exact .inl ⟨rfl, by rw [← HGe.out]; exact HIn2.out⟩
    · cases G
      · exact .inr (.inr ⟨e, rfl⟩)
      · exact .inr (.inl ⟨e, rfl⟩)
  have Hcase := Lib.hid hcase
  clear hy hcc hbb HIn hbW k0 k1 k2 k3' k4 k5' k6' c0 c1 hcase
  go_wp2
  refine wp_region_held_drew (S := (fun W : World => (W.cell? ⟨w.heap.size, 2, none⟩ = some (.int .i64 (j : Int)) ∧ (W.cell? ⟨D, 0, none⟩ = some (.int .i64 (L.length : Int)) ∧ W.cell? ⟨D, 1, none⟩ = some (.slice ma (peaksOf L).length mc))) ∧ W.cell? ⟨b, off + j, none⟩ = some (.string (B y)))) (by kernel_rfl) (HS.out _ (dr (Below.refl _ _))) (fun hHeld => ?_)
  have HF0 := Lib.hid (show Below W.heap.size W W.drew from dr (Below.refl _ _))
  refine take_at 0 72 (oi := ?o9) (v := ?v9) ?hi9 ?hd9 (by kernel_rfl) (by kernel_rfl) (by kernel_rfl) ?hQ9 ?hw9 ?hy9 (by assumption) ?rest9
  case hi9 => simp only [List.getElem?_toArray, List.getElem?_cons_zero]; rfl
  case hd9 => rfl
  case hw9 => kernel_rfl
  case hy9 => intro W hW; (try dsimp only at hW); go_simp <;> with_reducible rfl
  case hQ9 => exact fun _ _ _ h => h
  try simp only [Act.put, List.setIfInBounds_toArray, List.set_cons_zero, List.set_cons_succ]
  refine take_at 1 73 (oi := ?o10) (v := ?v10) ?hi10 ?hd10 (by kernel_rfl) (by kernel_rfl) (by kernel_rfl) ?hQ10 ?hw10 ?hy10 (by assumption) ?rest10
  case hi10 => simp only [List.getElem?_toArray, List.getElem?_cons_succ, List.getElem?_cons_zero]; rfl
  case hd10 => rfl
  case hw10 => kernel_rfl
  case hy10 => intro W hW; (try dsimp only at hW); go_simp <;> with_reducible rfl
  case hQ10 => exact fun _ _ _ h => h
  try simp only [Act.put, List.setIfInBounds_toArray, List.set_cons_zero, List.set_cons_succ]
  refine take_at 2 74 (oi := ?o11) (v := ?v11) ?hi11 ?hd11 (by kernel_rfl) (by kernel_rfl) (by kernel_rfl) ?hQ11 ?hw11 ?hy11 (by assumption) ?rest11
  case hi11 => simp only [List.getElem?_toArray, List.getElem?_cons_succ, List.getElem?_cons_zero]; rfl
  case hd11 => rfl
  case hw11 => kernel_rfl
  case hy11 => intro W hW; (try dsimp only at hW); go_simp <;> with_reducible rfl
  case hQ11 => exact fun _ _ _ h => h
  try simp only [Act.put, List.setIfInBounds_toArray, List.set_cons_zero, List.set_cons_succ]
  refine take_at 3 75 (oi := ?o12) (v := ?v12) ?hi12 ?hd12 (by kernel_rfl) (by kernel_rfl) (by kernel_rfl) ?hQ12 ?hw12 ?hy12 (by assumption) ?rest12
  case hi12 => simp only [List.getElem?_toArray, List.getElem?_cons_succ, List.getElem?_cons_zero]; rfl
  case hd12 => rfl
  case hw12 => kernel_rfl
  case hy12 => intro W hW; (try dsimp only at hW); go_simp <;> with_reducible rfl
  case hQ12 => exact fun _ _ _ h => h
  try simp only [Act.put, List.setIfInBounds_toArray, List.set_cons_zero, List.set_cons_succ]
  refine take_at 4 76 (oi := ?o13) (v := ?v13) ?hi13 ?hd13 (by kernel_rfl) (by kernel_rfl) (by kernel_rfl) ?hQ13 ?hw13 ?hy13 (by assumption) ?rest13
  case hi13 => simp only [List.getElem?_toArray, List.getElem?_cons_succ, List.getElem?_cons_zero]; rfl
  case hd13 => rfl
  case hw13 => kernel_rfl
  case hy13 => intro W hW; (try dsimp only at hW); go_simp <;> with_reducible rfl
  case hQ13 => exact fun _ _ _ h => h
  try simp only [Act.put, List.setIfInBounds_toArray, List.set_cons_zero, List.set_cons_succ]
  refine take_at 5 77 (oi := ?o14) (v := ?v14) ?hi14 ?hd14 (by kernel_rfl) (by kernel_rfl) (by kernel_rfl) ?hQ14 ?hw14 ?hy14 (by assumption) ?rest14
  case hi14 => simp only [List.getElem?_toArray, List.getElem?_cons_succ, List.getElem?_cons_zero]; rfl
  case hd14 => rfl
  case hw14 => kernel_rfl
  case hy14 => intro W hW; (try dsimp only at hW); go_simp <;> with_reducible rfl
  case hQ14 => exact fun _ _ _ h => h
  try simp only [Act.put, List.setIfInBounds_toArray, List.set_cons_zero, List.set_cons_succ]
  refine take_at 6 78 (oi := ?o15) (v := ?v15) ?hi15 ?hd15 (by kernel_rfl) (by kernel_rfl) (by kernel_rfl) ?hQ15 ?hw15 ?hy15 (by assumption) ?rest15
  case hi15 => simp only [List.getElem?_toArray, List.getElem?_cons_succ, List.getElem?_cons_zero]; rfl
  case hd15 => rfl
  case hw15 => kernel_rfl
  case hy15 => intro W hW; (try dsimp only at hW); go_simp <;> with_reducible rfl
  case hQ15 => exact fun _ _ _ h => h
  try simp only [Act.put, List.setIfInBounds_toArray, List.set_cons_zero, List.set_cons_succ]
  refine take_at 7 79 (oi := ?o16) (v := ?v16) ?hi16 ?hd16 (by kernel_rfl) (by kernel_rfl) (by kernel_rfl) ?hQ16 ?hw16 ?hy16 (by assumption) ?rest16
  case hi16 => simp only [List.getElem?_toArray, List.getElem?_cons_succ, List.getElem?_cons_zero]; rfl
  case hd16 => rfl
  case hw16 => kernel_rfl
  case hy16 => intro W hW; (try dsimp only at hW); go_simp <;> with_reducible rfl
  case hQ16 => exact fun _ _ _ h => h
  try simp only [Act.put, List.setIfInBounds_toArray, List.set_cons_zero, List.set_cons_succ]
  refine take_at 8 80 (oi := ?o17) (v := ?v17) ?hi17 ?hd17 (by kernel_rfl) (by kernel_rfl) (by kernel_rfl) ?hQ17 ?hw17 ?hy17 (by assumption) ?rest17
  case hi17 => simp only [List.getElem?_toArray, List.getElem?_cons_succ, List.getElem?_cons_zero]; rfl
  case hd17 => rfl
  case hw17 => kernel_rfl
  case hy17 => intro W hW; (try dsimp only at hW); go_simp <;> with_reducible rfl
  case hQ17 => exact fun _ _ _ h => h
  try simp only [Act.put, List.setIfInBounds_toArray, List.set_cons_zero, List.set_cons_succ]
  refine wpAnyH_ready (rs := [9]) (by kernel_rfl) (by simp) ?_
  refine AllReadyH.cons rfl (fun K hK => ?_) AllReadyH.nil
  go_simp
  have hI := Incl_any _ _ (L.length : Int) (peaksOf L) (j : Int) y PP W.drew (HMW.out.below HF0.out) (HIW.out.below HF0.out) hyl (ht.same (HBW.out.next HF0.out))
  rw [HIn2.out] at hI
  refine hI.mono ?_
  rintro e q1 ⟨rfl, hb⟩
  have HF1 := Lib.hid (HF0.out.trans (hb.mono HF0.out.size))
  clear hb hI
  refine hK.out _ _ (HS.out _ HF1.out) (fun hHeld => ?_)
  clear hK K
  try simp only [Act.put, List.setIfInBounds_toArray, List.set_cons_zero, List.set_cons_succ]
  rcases Hcase.out with ⟨rfl, rfl⟩ | ⟨hxy, rfl⟩ | ⟨hxy, rfl⟩
  · have hq := beqB_eq x
    refine take_at 10 82 (oi := ?o18) (v := ?v18) ?hi18 ?hd18 (by kernel_rfl) (by kernel_rfl) (by kernel_rfl) ?hQ18 ?hw18 ?hy18 (by assumption) ?rest18
    case hi18 => simp only [List.getElem?_toArray, List.getElem?_cons_succ, List.getElem?_cons_zero]; rfl
    case hd18 => rfl
    case hw18 => kernel_rfl
    case hy18 => intro W hW; (try dsimp only at hW); go_simp <;> with_reducible rfl
    case hQ18 => exact fun _ _ _ h => h
    try simp only [Act.put, List.setIfInBounds_toArray, List.set_cons_zero, List.set_cons_succ]
    refine take_at 11 83 (oi := ?o19) (v := ?v19) ?hi19 ?hd19 (by kernel_rfl) (by kernel_rfl) (by kernel_rfl) ?hQ19 ?hw19 ?hy19 (by assumption) ?rest19
    case hi19 => simp only [List.getElem?_toArray, List.getElem?_cons_succ, List.getElem?_cons_zero]; rfl
    case hd19 => rfl
    case hw19 => kernel_rfl
    case hy19 => intro W hW; (try dsimp only at hW); go_simp <;> with_reducible rfl
    case hQ19 => exact fun _ _ _ h => h
    try simp only [Act.put, List.setIfInBounds_toArray, List.set_cons_zero, List.set_cons_succ]
    refine take_at 12 84 (oi := ?o20) (v := ?v20) ?hi20 ?hd20 (by kernel_rfl) (by kernel_rfl) (by kernel_rfl) ?hQ20 ?hw20 ?hy20 (by assumption) ?rest20
    case hi20 => simp only [List.getElem?_toArray, List.getElem?_cons_succ, List.getElem?_cons_zero]; rfl
    case hd20 => rfl
    case hw20 => kernel_rfl
    case hy20 => intro W hW; (try dsimp only at hW); go_simp <;> with_reducible rfl
    case hQ20 => exact fun _ _ _ h => h
    try simp only [Act.put, List.setIfInBounds_toArray, List.set_cons_zero, List.set_cons_succ]
    refine take_at 13 85 (oi := ?o21) (v := ?v21) ?hi21 ?hd21 (by kernel_rfl) (by kernel_rfl) (by kernel_rfl) ?hQ21 ?hw21 ?hy21 (by assumption) ?rest21
    case hi21 => simp only [List.getElem?_toArray, List.getElem?_cons_succ, List.getElem?_cons_zero]; rfl
    case hd21 => rfl
    case hw21 => kernel_rfl
    case hy21 => intro W hW; (try dsimp only at hW); go_simp <;> with_reducible rfl
    case hQ21 => exact fun _ _ _ h => h
    try simp only [Act.put, List.setIfInBounds_toArray, List.set_cons_zero, List.set_cons_succ]
    refine take_at 14 86 (oi := ?o22) (v := ?v22) ?hi22 ?hd22 (by kernel_rfl) (by kernel_rfl) (by kernel_rfl) ?hQ22 ?hw22 ?hy22 (by assumption) ?rest22
    case hi22 => simp only [List.getElem?_toArray, List.getElem?_cons_succ, List.getElem?_cons_zero]; rfl
    case hd22 => rfl
    case hw22 => kernel_rfl
    case hy22 => intro W hW; (try dsimp only at hW); go_simp <;> with_reducible rfl
    case hQ22 => exact fun _ _ _ h => h
    try simp only [Act.put, List.setIfInBounds_toArray, List.set_cons_zero, List.set_cons_succ]
    refine take_at 15 87 (oi := ?o23) (v := ?v23) ?hi23 ?hd23 (by kernel_rfl) (by kernel_rfl) (by kernel_rfl) ?hQ23 ?hw23 ?hy23 (by assumption) ?rest23
    case hi23 => simp only [List.getElem?_toArray, List.getElem?_cons_succ, List.getElem?_cons_zero]; rfl
    case hd23 => rfl
    case hw23 => kernel_rfl
    case hy23 => intro W hW; (try dsimp only at hW); go_simp <;> with_reducible rfl
    case hQ23 => exact fun _ _ _ h => h
    try simp only [Act.put, List.setIfInBounds_toArray, List.set_cons_zero, List.set_cons_succ]
    refine take_at 16 88 (oi := ?o24) (v := ?v24) ?hi24 ?hd24 (by kernel_rfl) (by kernel_rfl) (by kernel_rfl) ?hQ24 ?hw24 ?hy24 (by assumption) ?rest24
    case hi24 => simp only [List.getElem?_toArray, List.getElem?_cons_succ, List.getElem?_cons_zero]; rfl
    case hd24 => rfl
    case hw24 => kernel_rfl
    case hy24 => intro W hW; (try dsimp only at hW); go_simp <;> with_reducible rfl
    case hQ24 => exact fun _ _ _ h => h
    try simp only [Act.put, List.setIfInBounds_toArray, List.set_cons_zero, List.set_cons_succ]
    refine take_at 17 89 (oi := ?o25) (v := ?v25) ?hi25 ?hd25 (by kernel_rfl) (by kernel_rfl) (by kernel_rfl) ?hQ25 ?hw25 ?hy25 (by assumption) ?rest25
    case hi25 => simp only [List.getElem?_toArray, List.getElem?_cons_succ, List.getElem?_cons_zero]; rfl
    case hd25 => rfl
    case hw25 => kernel_rfl
    case hy25 => intro W hW; (try dsimp only at hW); go_simp <;> with_reducible rfl
    case hQ25 => exact fun _ _ _ h => h
    try simp only [Act.put, List.setIfInBounds_toArray, List.set_cons_zero, List.set_cons_succ]
    refine take_at 18 90 (oi := ?o26) (v := ?v26) ?hi26 ?hd26 (by kernel_rfl) (by kernel_rfl) (by kernel_rfl) ?hQ26 ?hw26 ?hy26 (by assumption) ?rest26
    case hi26 => simp only [List.getElem?_toArray, List.getElem?_cons_succ, List.getElem?_cons_zero]; rfl
    case hd26 => rfl
    case hw26 => kernel_rfl
    case hy26 => intro W hW; (try dsimp only at hW); go_simp <;> with_reducible rfl
    case hQ26 => exact fun _ _ _ h => h
    try simp only [Act.put, List.setIfInBounds_toArray, List.set_cons_zero, List.set_cons_succ]
    refine take_at 19 91 (oi := ?o27) (v := ?v27) ?hi27 ?hd27 (by kernel_rfl) (by kernel_rfl) (by kernel_rfl) ?hQ27 ?hw27 ?hy27 (by assumption) ?rest27
    case hi27 => simp only [List.getElem?_toArray, List.getElem?_cons_succ, List.getElem?_cons_zero]; rfl
    case hd27 => rfl
    case hw27 => kernel_rfl
    case hy27 => intro W hW; (try dsimp only at hW); go_simp <;> with_reducible rfl
    case hQ27 => exact fun _ _ _ h => h
    try simp only [Act.put, List.setIfInBounds_toArray, List.set_cons_zero, List.set_cons_succ]
    refine take_at 20 92 (oi := ?o28) (v := ?v28) ?hi28 ?hd28 (by kernel_rfl) (by kernel_rfl) (by kernel_rfl) ?hQ28 ?hw28 ?hy28 (by assumption) ?rest28
    case hi28 => simp only [List.getElem?_toArray, List.getElem?_cons_succ, List.getElem?_cons_zero]; rfl
    case hd28 => rfl
    case hw28 => kernel_rfl
    case hy28 => intro W hW; (try dsimp only at hW); go_simp <;> with_reducible rfl
    case hQ28 => exact fun _ _ _ h => h
    try simp only [Act.put, List.setIfInBounds_toArray, List.set_cons_zero, List.set_cons_succ]
    refine pass_at 21 93 (oi := ?o29) ?hi29 ?hd29 (by kernel_rfl) (by kernel_rfl) (by kernel_rfl) ?hQ29 ?hw29 (by assumption) ?rest29
    case hi29 => simp only [List.getElem?_toArray, List.getElem?_cons_succ, List.getElem?_cons_zero]; rfl
    case hd29 => rfl
    case hQ29 => exact fun _ _ _ h => h
    case hw29 => kernel_rfl
    try simp only [Act.put, List.setIfInBounds_toArray, List.set_cons_zero, List.set_cons_succ]
    refine pass_at 22 94 (oi := ?o30) ?hi30 ?hd30 (by kernel_rfl) (by kernel_rfl) (by kernel_rfl) ?hQ30 ?hw30 (by assumption) ?rest30
    case hi30 => simp only [List.getElem?_toArray, List.getElem?_cons_succ, List.getElem?_cons_zero]; rfl
    case hd30 => rfl
    case hQ30 => exact fun _ _ _ h => h
    case hw30 => kernel_rfl
    try simp only [Act.put, List.setIfInBounds_toArray, List.set_cons_zero, List.set_cons_succ]
    refine pass_at 23 95 (oi := ?o31) ?hi31 ?hd31 (by kernel_rfl) (by kernel_rfl) (by kernel_rfl) ?hQ31 ?hw31 (by assumption) ?rest31
    case hi31 => simp only [List.getElem?_toArray, List.getElem?_cons_succ, List.getElem?_cons_zero]; rfl
    case hd31 => rfl
    case hQ31 => exact fun _ _ _ h => h
    case hw31 => kernel_rfl
    try simp only [Act.put, List.setIfInBounds_toArray, List.set_cons_zero, List.set_cons_succ]
    refine pass_at 24 96 (oi := ?o32) ?hi32 ?hd32 (by kernel_rfl) (by kernel_rfl) (by kernel_rfl) ?hQ32 ?hw32 (by assumption) ?rest32
    case hi32 => simp only [List.getElem?_toArray, List.getElem?_cons_succ, List.getElem?_cons_zero]; rfl
    case hd32 => rfl
    case hQ32 => exact fun _ _ _ h => h
    case hw32 => kernel_rfl
    try simp only [Act.put, List.setIfInBounds_toArray, List.set_cons_zero, List.set_cons_succ]
    refine pass_at 25 97 (oi := ?o33) ?hi33 ?hd33 (by kernel_rfl) (by kernel_rfl) (by kernel_rfl) ?hQ33 ?hw33 (by assumption) ?rest33
    case hi33 => simp only [List.getElem?_toArray, List.getElem?_cons_succ, List.getElem?_cons_zero]; rfl
    case hd33 => rfl
    case hQ33 => exact fun _ _ _ h => h
    case hw33 => kernel_rfl
    try simp only [Act.put, List.setIfInBounds_toArray, List.set_cons_zero, List.set_cons_succ]
    refine pass_at 26 98 (oi := ?o34) ?hi34 ?hd34 (by kernel_rfl) (by kernel_rfl) (by kernel_rfl) ?hQ34 ?hw34 (by assumption) ?rest34
    case hi34 => simp only [List.getElem?_toArray, List.getElem?_cons_succ, List.getElem?_cons_zero]; rfl
    case hd34 => rfl
    case hQ34 => exact fun _ _ _ h => h
    case hw34 => kernel_rfl
    try simp only [Act.put, List.setIfInBounds_toArray, List.set_cons_zero, List.set_cons_succ]
    refine pass_at 27 99 (oi := ?o35) ?hi35 ?hd35 (by kernel_rfl) (by kernel_rfl) (by kernel_rfl) ?hQ35 ?hw35 (by assumption) ?rest35
    case hi35 => simp only [List.getElem?_toArray, List.getElem?_cons_succ, List.getElem?_cons_zero]; rfl
    case hd35 => rfl
    case hQ35 => exact fun _ _ _ h => h
    case hw35 => kernel_rfl
    try simp only [Act.put, List.setIfInBounds_toArray, List.set_cons_zero, List.set_cons_succ]
    refine pass_at 28 100 (oi := ?o36) ?hi36 ?hd36 (by kernel_rfl) (by kernel_rfl) (by kernel_rfl) ?hQ36 ?hw36 (by assumption) ?rest36
    case hi36 => simp only [List.getElem?_toArray, List.getElem?_cons_succ, List.getElem?_cons_zero]; rfl
    case hd36 => rfl
    case hQ36 => exact fun _ _ _ h => h
    case hw36 => kernel_rfl
    try simp only [Act.put, List.setIfInBounds_toArray, List.set_cons_zero, List.set_cons_succ]
    refine take_at 29 101 (oi := ?o37) (v := ?v37) ?hi37 ?hd37 (by kernel_rfl) (by kernel_rfl) (by kernel_rfl) ?hQ37 ?hw37 ?hy37 (by assumption) ?rest37
    case hi37 => simp only [List.getElem?_toArray, List.getElem?_cons_succ, List.getElem?_cons_zero]; rfl
    case hd37 => rfl
    case hw37 => kernel_rfl
    case hy37 => intro W hW; (try dsimp only at hW); go_simp <;> with_reducible rfl
    case hQ37 => exact fun _ _ _ h => h
    try simp only [Act.put, List.setIfInBounds_toArray, List.set_cons_zero, List.set_cons_succ]
    refine take_at 30 102 (oi := ?o38) (v := ?v38) ?hi38 ?hd38 (by kernel_rfl) (by kernel_rfl) (by kernel_rfl) ?hQ38 ?hw38 ?hy38 (by assumption) ?rest38
    case hi38 => simp only [List.getElem?_toArray, List.getElem?_cons_succ, List.getElem?_cons_zero]; rfl
    case hd38 => rfl
    case hw38 => kernel_rfl
    case hy38 => intro W hW; (try dsimp only at hW); go_simp <;> with_reducible rfl
    case hQ38 => exact fun _ _ _ h => h
    try simp only [Act.put, List.setIfInBounds_toArray, List.set_cons_zero, List.set_cons_succ]
    refine take_at 31 2 (oi := ?o39) (v := ?v39) ?hi39 ?hd39 (by kernel_rfl) (by kernel_rfl) (by kernel_rfl) ?hQ39 ?hw39 ?hy39 (by assumption) ?rest39
    case hi39 => simp only [List.getElem?_toArray, List.getElem?_cons_succ, List.getElem?_cons_zero]; rfl
    case hd39 => rfl
    case hw39 => kernel_rfl
    case hy39 => intro W hW; (try dsimp only at hW); go_simp <;> with_reducible rfl
    case hQ39 => exact fun _ _ _ h => h
    try simp only [Act.put, List.setIfInBounds_toArray, List.set_cons_zero, List.set_cons_succ]
    refine wpAnyH_done (by kernel_rfl) ?_ _
    simp only [Exit.then]
    go_wp2
    go_ret
    exact ⟨rfl, HBW.out.next HF1.out⟩
  · have hq := beqB_ne hxy
    clear hxy
    refine take_at 10 82 (oi := ?o40) (v := ?v40) ?hi40 ?hd40 (by kernel_rfl) (by kernel_rfl) (by kernel_rfl) ?hQ40 ?hw40 ?hy40 (by assumption) ?rest40
    case hi40 => simp only [List.getElem?_toArray, List.getElem?_cons_succ, List.getElem?_cons_zero]; rfl
    case hd40 => rfl
    case hw40 => kernel_rfl
    case hy40 => intro W hW; (try dsimp only at hW); go_simp <;> with_reducible rfl
    case hQ40 => exact fun _ _ _ h => h
    try simp only [Act.put, List.setIfInBounds_toArray, List.set_cons_zero, List.set_cons_succ]
    refine take_at 11 83 (oi := ?o41) (v := ?v41) ?hi41 ?hd41 (by kernel_rfl) (by kernel_rfl) (by kernel_rfl) ?hQ41 ?hw41 ?hy41 (by assumption) ?rest41
    case hi41 => simp only [List.getElem?_toArray, List.getElem?_cons_succ, List.getElem?_cons_zero]; rfl
    case hd41 => rfl
    case hw41 => kernel_rfl
    case hy41 => intro W hW; (try dsimp only at hW); go_simp <;> with_reducible rfl
    case hQ41 => exact fun _ _ _ h => h
    try simp only [Act.put, List.setIfInBounds_toArray, List.set_cons_zero, List.set_cons_succ]
    refine take_at 12 84 (oi := ?o42) (v := ?v42) ?hi42 ?hd42 (by kernel_rfl) (by kernel_rfl) (by kernel_rfl) ?hQ42 ?hw42 ?hy42 (by assumption) ?rest42
    case hi42 => simp only [List.getElem?_toArray, List.getElem?_cons_succ, List.getElem?_cons_zero]; rfl
    case hd42 => rfl
    case hw42 => kernel_rfl
    case hy42 => intro W hW; (try dsimp only at hW); go_simp <;> with_reducible rfl
    case hQ42 => exact fun _ _ _ h => h
    try simp only [Act.put, List.setIfInBounds_toArray, List.set_cons_zero, List.set_cons_succ]
    refine take_at 13 85 (oi := ?o43) (v := ?v43) ?hi43 ?hd43 (by kernel_rfl) (by kernel_rfl) (by kernel_rfl) ?hQ43 ?hw43 ?hy43 (by assumption) ?rest43
    case hi43 => simp only [List.getElem?_toArray, List.getElem?_cons_succ, List.getElem?_cons_zero]; rfl
    case hd43 => rfl
    case hw43 => kernel_rfl
    case hy43 => intro W hW; (try dsimp only at hW); go_simp <;> with_reducible rfl
    case hQ43 => exact fun _ _ _ h => h
    try simp only [Act.put, List.setIfInBounds_toArray, List.set_cons_zero, List.set_cons_succ]
    refine take_at 14 86 (oi := ?o44) (v := ?v44) ?hi44 ?hd44 (by kernel_rfl) (by kernel_rfl) (by kernel_rfl) ?hQ44 ?hw44 ?hy44 (by assumption) ?rest44
    case hi44 => simp only [List.getElem?_toArray, List.getElem?_cons_succ, List.getElem?_cons_zero]; rfl
    case hd44 => rfl
    case hw44 => kernel_rfl
    case hy44 => intro W hW; (try dsimp only at hW); go_simp <;> with_reducible rfl
    case hQ44 => exact fun _ _ _ h => h
    try simp only [Act.put, List.setIfInBounds_toArray, List.set_cons_zero, List.set_cons_succ]
    refine take_at 15 87 (oi := ?o45) (v := ?v45) ?hi45 ?hd45 (by kernel_rfl) (by kernel_rfl) (by kernel_rfl) ?hQ45 ?hw45 ?hy45 (by assumption) ?rest45
    case hi45 => simp only [List.getElem?_toArray, List.getElem?_cons_succ, List.getElem?_cons_zero]; rfl
    case hd45 => rfl
    case hw45 => kernel_rfl
    case hy45 => intro W hW; (try dsimp only at hW); go_simp <;> with_reducible rfl
    case hQ45 => exact fun _ _ _ h => h
    try simp only [Act.put, List.setIfInBounds_toArray, List.set_cons_zero, List.set_cons_succ]
    refine take_at 16 88 (oi := ?o46) (v := ?v46) ?hi46 ?hd46 (by kernel_rfl) (by kernel_rfl) (by kernel_rfl) ?hQ46 ?hw46 ?hy46 (by assumption) ?rest46
    case hi46 => simp only [List.getElem?_toArray, List.getElem?_cons_succ, List.getElem?_cons_zero]; rfl
    case hd46 => rfl
    case hw46 => kernel_rfl
    case hy46 => intro W hW; (try dsimp only at hW); go_simp <;> with_reducible rfl
    case hQ46 => exact fun _ _ _ h => h
    try simp only [Act.put, List.setIfInBounds_toArray, List.set_cons_zero, List.set_cons_succ]
    refine take_at 17 89 (oi := ?o47) (v := ?v47) ?hi47 ?hd47 (by kernel_rfl) (by kernel_rfl) (by kernel_rfl) ?hQ47 ?hw47 ?hy47 (by assumption) ?rest47
    case hi47 => simp only [List.getElem?_toArray, List.getElem?_cons_succ, List.getElem?_cons_zero]; rfl
    case hd47 => rfl
    case hw47 => kernel_rfl
    case hy47 => intro W hW; (try dsimp only at hW); go_simp <;> with_reducible rfl
    case hQ47 => exact fun _ _ _ h => h
    try simp only [Act.put, List.setIfInBounds_toArray, List.set_cons_zero, List.set_cons_succ]
    refine take_at 18 90 (oi := ?o48) (v := ?v48) ?hi48 ?hd48 (by kernel_rfl) (by kernel_rfl) (by kernel_rfl) ?hQ48 ?hw48 ?hy48 (by assumption) ?rest48
    case hi48 => simp only [List.getElem?_toArray, List.getElem?_cons_succ, List.getElem?_cons_zero]; rfl
    case hd48 => rfl
    case hw48 => kernel_rfl
    case hy48 => intro W hW; (try dsimp only at hW); go_simp <;> with_reducible rfl
    case hQ48 => exact fun _ _ _ h => h
    try simp only [Act.put, List.setIfInBounds_toArray, List.set_cons_zero, List.set_cons_succ]
    refine take_at 19 91 (oi := ?o49) (v := ?v49) ?hi49 ?hd49 (by kernel_rfl) (by kernel_rfl) (by kernel_rfl) ?hQ49 ?hw49 ?hy49 (by assumption) ?rest49
    case hi49 => simp only [List.getElem?_toArray, List.getElem?_cons_succ, List.getElem?_cons_zero]; rfl
    case hd49 => rfl
    case hw49 => kernel_rfl
    case hy49 => intro W hW; (try dsimp only at hW); go_simp <;> with_reducible rfl
    case hQ49 => exact fun _ _ _ h => h
    try simp only [Act.put, List.setIfInBounds_toArray, List.set_cons_zero, List.set_cons_succ]
    refine take_at 20 92 (oi := ?o50) (v := ?v50) ?hi50 ?hd50 (by kernel_rfl) (by kernel_rfl) (by kernel_rfl) ?hQ50 ?hw50 ?hy50 (by assumption) ?rest50
    case hi50 => simp only [List.getElem?_toArray, List.getElem?_cons_succ, List.getElem?_cons_zero]; rfl
    case hd50 => rfl
    case hw50 => kernel_rfl
    case hy50 => intro W hW; (try dsimp only at hW); go_simp <;> with_reducible rfl
    case hQ50 => exact fun _ _ _ h => h
    try simp only [Act.put, List.setIfInBounds_toArray, List.set_cons_zero, List.set_cons_succ]
    refine take_at 21 93 (oi := ?o51) (v := ?v51) ?hi51 ?hd51 (by kernel_rfl) (by kernel_rfl) (by kernel_rfl) ?hQ51 ?hw51 ?hy51 (by assumption) ?rest51
    case hi51 => simp only [List.getElem?_toArray, List.getElem?_cons_succ, List.getElem?_cons_zero]; rfl
    case hd51 => rfl
    case hw51 => kernel_rfl
    case hy51 => intro W hW; (try dsimp only at hW); go_simp <;> with_reducible rfl
    case hQ51 => exact fun _ _ _ h => h
    try simp only [Act.put, List.setIfInBounds_toArray, List.set_cons_zero, List.set_cons_succ]
    refine take_at 22 94 (oi := ?o52) (v := ?v52) ?hi52 ?hd52 (by kernel_rfl) (by kernel_rfl) (by kernel_rfl) ?hQ52 ?hw52 ?hy52 (by assumption) ?rest52
    case hi52 => simp only [List.getElem?_toArray, List.getElem?_cons_succ, List.getElem?_cons_zero]; rfl
    case hd52 => rfl
    case hw52 => kernel_rfl
    case hy52 => intro W hW; (try dsimp only at hW); go_simp <;> with_reducible rfl
    case hQ52 => exact fun _ _ _ h => h
    try simp only [Act.put, List.setIfInBounds_toArray, List.set_cons_zero, List.set_cons_succ]
    refine take_at 23 95 (oi := ?o53) (v := ?v53) ?hi53 ?hd53 (by kernel_rfl) (by kernel_rfl) (by kernel_rfl) ?hQ53 ?hw53 ?hy53 (by assumption) ?rest53
    case hi53 => simp only [List.getElem?_toArray, List.getElem?_cons_succ, List.getElem?_cons_zero]; rfl
    case hd53 => rfl
    case hw53 => kernel_rfl
    case hy53 => intro W hW; (try dsimp only at hW); go_simp <;> with_reducible rfl
    case hQ53 => exact fun _ _ _ h => h
    try simp only [Act.put, List.setIfInBounds_toArray, List.set_cons_zero, List.set_cons_succ]
    refine take_at 24 96 (oi := ?o54) (v := ?v54) ?hi54 ?hd54 (by kernel_rfl) (by kernel_rfl) (by kernel_rfl) ?hQ54 ?hw54 ?hy54 (by assumption) ?rest54
    case hi54 => simp only [List.getElem?_toArray, List.getElem?_cons_succ, List.getElem?_cons_zero]; rfl
    case hd54 => rfl
    case hw54 => kernel_rfl
    case hy54 => intro W hW; (try dsimp only at hW); go_simp <;> with_reducible rfl
    case hQ54 => exact fun _ _ _ h => h
    try simp only [Act.put, List.setIfInBounds_toArray, List.set_cons_zero, List.set_cons_succ]
    refine take_at 25 97 (oi := ?o55) (v := ?v55) ?hi55 ?hd55 (by kernel_rfl) (by kernel_rfl) (by kernel_rfl) ?hQ55 ?hw55 ?hy55 (by assumption) ?rest55
    case hi55 => simp only [List.getElem?_toArray, List.getElem?_cons_succ, List.getElem?_cons_zero]; rfl
    case hd55 => rfl
    case hw55 => kernel_rfl
    case hy55 => intro W hW; (try dsimp only at hW); go_simp <;> with_reducible rfl
    case hQ55 => exact fun _ _ _ h => h
    try simp only [Act.put, List.setIfInBounds_toArray, List.set_cons_zero, List.set_cons_succ]
    refine take_at 26 98 (oi := ?o56) (v := ?v56) ?hi56 ?hd56 (by kernel_rfl) (by kernel_rfl) (by kernel_rfl) ?hQ56 ?hw56 ?hy56 (by assumption) ?rest56
    case hi56 => simp only [List.getElem?_toArray, List.getElem?_cons_succ, List.getElem?_cons_zero]; rfl
    case hd56 => rfl
    case hw56 => kernel_rfl
    case hy56 => intro W hW; (try dsimp only at hW); go_simp <;> with_reducible rfl
    case hQ56 => exact fun _ _ _ h => h
    try simp only [Act.put, List.setIfInBounds_toArray, List.set_cons_zero, List.set_cons_succ]
    refine wpAnyH_ready (rs := [27]) (by kernel_rfl) (by simp) ?_
    refine AllReadyH.cons rfl (fun K hK => ?_) AllReadyH.nil
    go_simp
    refine (HGr.out _ (HbW.out.trans (HF1.out.mono HbW.out.size))).mono ?_
    rintro e q2 ⟨rfl, hb⟩
    have HF2 := Lib.hid (HF1.out.trans (hb.mono HF1.out.size))
    clear hb
    refine hK.out _ _ (HS.out _ HF2.out) (fun hHeld => ?_)
    clear hK K
    try simp only [Act.put, List.setIfInBounds_toArray, List.set_cons_zero, List.set_cons_succ]
    refine take_at 28 100 (oi := ?o57) (v := ?v57) ?hi57 ?hd57 (by kernel_rfl) (by kernel_rfl) (by kernel_rfl) ?hQ57 ?hw57 ?hy57 (by assumption) ?rest57
    case hi57 => simp only [List.getElem?_toArray, List.getElem?_cons_succ, List.getElem?_cons_zero]; rfl
    case hd57 => rfl
    case hw57 => kernel_rfl
    case hy57 => intro W hW; (try dsimp only at hW); go_simp <;> with_reducible rfl
    case hQ57 => exact fun _ _ _ h => h
    try simp only [Act.put, List.setIfInBounds_toArray, List.set_cons_zero, List.set_cons_succ]
    refine take_at 29 101 (oi := ?o58) (v := ?v58) ?hi58 ?hd58 (by kernel_rfl) (by kernel_rfl) (by kernel_rfl) ?hQ58 ?hw58 ?hy58 (by assumption) ?rest58
    case hi58 => simp only [List.getElem?_toArray, List.getElem?_cons_succ, List.getElem?_cons_zero]; rfl
    case hd58 => rfl
    case hw58 => kernel_rfl
    case hy58 => intro W hW; (try dsimp only at hW); go_simp <;> with_reducible rfl
    case hQ58 => exact fun _ _ _ h => h
    try simp only [Act.put, List.setIfInBounds_toArray, List.set_cons_zero, List.set_cons_succ]
    refine take_at 30 102 (oi := ?o59) (v := ?v59) ?hi59 ?hd59 (by kernel_rfl) (by kernel_rfl) (by kernel_rfl) ?hQ59 ?hw59 ?hy59 (by assumption) ?rest59
    case hi59 => simp only [List.getElem?_toArray, List.getElem?_cons_succ, List.getElem?_cons_zero]; rfl
    case hd59 => rfl
    case hw59 => kernel_rfl
    case hy59 => intro W hW; (try dsimp only at hW); go_simp <;> with_reducible rfl
    case hQ59 => exact fun _ _ _ h => h
    try simp only [Act.put, List.setIfInBounds_toArray, List.set_cons_zero, List.set_cons_succ]
    refine take_at 31 2 (oi := ?o60) (v := ?v60) ?hi60 ?hd60 (by kernel_rfl) (by kernel_rfl) (by kernel_rfl) ?hQ60 ?hw60 ?hy60 (by assumption) ?rest60
    case hi60 => simp only [List.getElem?_toArray, List.getElem?_cons_succ, List.getElem?_cons_zero]; rfl
    case hd60 => rfl
    case hw60 => kernel_rfl
    case hy60 => intro W hW; (try dsimp only at hW); go_simp <;> with_reducible rfl
    case hQ60 => exact fun _ _ _ h => h
    try simp only [Act.put, List.setIfInBounds_toArray, List.set_cons_zero, List.set_cons_succ]
    refine wpAnyH_done (by kernel_rfl) ?_ _
    simp only [Exit.then]
    go_wp2
    go_ret
    exact ⟨rfl, HBW.out.next HF2.out⟩
  · have hq := beqB_ne hxy
    clear hxy
    refine take_at 10 82 (oi := ?o61) (v := ?v61) ?hi61 ?hd61 (by kernel_rfl) (by kernel_rfl) (by kernel_rfl) ?hQ61 ?hw61 ?hy61 (by assumption) ?rest61
    case hi61 => simp only [List.getElem?_toArray, List.getElem?_cons_succ, List.getElem?_cons_zero]; rfl
    case hd61 => rfl
    case hw61 => kernel_rfl
    case hy61 => intro W hW; (try dsimp only at hW); go_simp <;> with_reducible rfl
    case hQ61 => exact fun _ _ _ h => h
    try simp only [Act.put, List.setIfInBounds_toArray, List.set_cons_zero, List.set_cons_succ]
    refine take_at 11 83 (oi := ?o62) (v := ?v62) ?hi62 ?hd62 (by kernel_rfl) (by kernel_rfl) (by kernel_rfl) ?hQ62 ?hw62 ?hy62 (by assumption) ?rest62
    case hi62 => simp only [List.getElem?_toArray, List.getElem?_cons_succ, List.getElem?_cons_zero]; rfl
    case hd62 => rfl
    case hw62 => kernel_rfl
    case hy62 => intro W hW; (try dsimp only at hW); go_simp <;> with_reducible rfl
    case hQ62 => exact fun _ _ _ h => h
    try simp only [Act.put, List.setIfInBounds_toArray, List.set_cons_zero, List.set_cons_succ]
    refine take_at 12 84 (oi := ?o63) (v := ?v63) ?hi63 ?hd63 (by kernel_rfl) (by kernel_rfl) (by kernel_rfl) ?hQ63 ?hw63 ?hy63 (by assumption) ?rest63
    case hi63 => simp only [List.getElem?_toArray, List.getElem?_cons_succ, List.getElem?_cons_zero]; rfl
    case hd63 => rfl
    case hw63 => kernel_rfl
    case hy63 => intro W hW; (try dsimp only at hW); go_simp <;> with_reducible rfl
    case hQ63 => exact fun _ _ _ h => h
    try simp only [Act.put, List.setIfInBounds_toArray, List.set_cons_zero, List.set_cons_succ]
    refine take_at 13 85 (oi := ?o64) (v := ?v64) ?hi64 ?hd64 (by kernel_rfl) (by kernel_rfl) (by kernel_rfl) ?hQ64 ?hw64 ?hy64 (by assumption) ?rest64
    case hi64 => simp only [List.getElem?_toArray, List.getElem?_cons_succ, List.getElem?_cons_zero]; rfl
    case hd64 => rfl
    case hw64 => kernel_rfl
    case hy64 => intro W hW; (try dsimp only at hW); go_simp <;> with_reducible rfl
    case hQ64 => exact fun _ _ _ h => h
    try simp only [Act.put, List.setIfInBounds_toArray, List.set_cons_zero, List.set_cons_succ]
    refine take_at 14 86 (oi := ?o65) (v := ?v65) ?hi65 ?hd65 (by kernel_rfl) (by kernel_rfl) (by kernel_rfl) ?hQ65 ?hw65 ?hy65 (by assumption) ?rest65
    case hi65 => simp only [List.getElem?_toArray, List.getElem?_cons_succ, List.getElem?_cons_zero]; rfl
    case hd65 => rfl
    case hw65 => kernel_rfl
    case hy65 => intro W hW; (try dsimp only at hW); go_simp <;> with_reducible rfl
    case hQ65 => exact fun _ _ _ h => h
    try simp only [Act.put, List.setIfInBounds_toArray, List.set_cons_zero, List.set_cons_succ]
    refine take_at 15 87 (oi := ?o66) (v := ?v66) ?hi66 ?hd66 (by kernel_rfl) (by kernel_rfl) (by kernel_rfl) ?hQ66 ?hw66 ?hy66 (by assumption) ?rest66
    case hi66 => simp only [List.getElem?_toArray, List.getElem?_cons_succ, List.getElem?_cons_zero]; rfl
    case hd66 => rfl
    case hw66 => kernel_rfl
    case hy66 => intro W hW; (try dsimp only at hW); go_simp <;> with_reducible rfl
    case hQ66 => exact fun _ _ _ h => h
    try simp only [Act.put, List.setIfInBounds_toArray, List.set_cons_zero, List.set_cons_succ]
    refine take_at 16 88 (oi := ?o67) (v := ?v67) ?hi67 ?hd67 (by kernel_rfl) (by kernel_rfl) (by kernel_rfl) ?hQ67 ?hw67 ?hy67 (by assumption) ?rest67
    case hi67 => simp only [List.getElem?_toArray, List.getElem?_cons_succ, List.getElem?_cons_zero]; rfl
    case hd67 => rfl
    case hw67 => kernel_rfl
    case hy67 => intro W hW; (try dsimp only at hW); go_simp <;> with_reducible rfl
    case hQ67 => exact fun _ _ _ h => h
    try simp only [Act.put, List.setIfInBounds_toArray, List.set_cons_zero, List.set_cons_succ]
    refine take_at 17 89 (oi := ?o68) (v := ?v68) ?hi68 ?hd68 (by kernel_rfl) (by kernel_rfl) (by kernel_rfl) ?hQ68 ?hw68 ?hy68 (by assumption) ?rest68
    case hi68 => simp only [List.getElem?_toArray, List.getElem?_cons_succ, List.getElem?_cons_zero]; rfl
    case hd68 => rfl
    case hw68 => kernel_rfl
    case hy68 => intro W hW; (try dsimp only at hW); go_simp <;> with_reducible rfl
    case hQ68 => exact fun _ _ _ h => h
    try simp only [Act.put, List.setIfInBounds_toArray, List.set_cons_zero, List.set_cons_succ]
    refine take_at 18 90 (oi := ?o69) (v := ?v69) ?hi69 ?hd69 (by kernel_rfl) (by kernel_rfl) (by kernel_rfl) ?hQ69 ?hw69 ?hy69 (by assumption) ?rest69
    case hi69 => simp only [List.getElem?_toArray, List.getElem?_cons_succ, List.getElem?_cons_zero]; rfl
    case hd69 => rfl
    case hw69 => kernel_rfl
    case hy69 => intro W hW; (try dsimp only at hW); go_simp <;> with_reducible rfl
    case hQ69 => exact fun _ _ _ h => h
    try simp only [Act.put, List.setIfInBounds_toArray, List.set_cons_zero, List.set_cons_succ]
    refine take_at 19 91 (oi := ?o70) (v := ?v70) ?hi70 ?hd70 (by kernel_rfl) (by kernel_rfl) (by kernel_rfl) ?hQ70 ?hw70 ?hy70 (by assumption) ?rest70
    case hi70 => simp only [List.getElem?_toArray, List.getElem?_cons_succ, List.getElem?_cons_zero]; rfl
    case hd70 => rfl
    case hw70 => kernel_rfl
    case hy70 => intro W hW; (try dsimp only at hW); go_simp <;> with_reducible rfl
    case hQ70 => exact fun _ _ _ h => h
    try simp only [Act.put, List.setIfInBounds_toArray, List.set_cons_zero, List.set_cons_succ]
    refine take_at 20 92 (oi := ?o71) (v := ?v71) ?hi71 ?hd71 (by kernel_rfl) (by kernel_rfl) (by kernel_rfl) ?hQ71 ?hw71 ?hy71 (by assumption) ?rest71
    case hi71 => simp only [List.getElem?_toArray, List.getElem?_cons_succ, List.getElem?_cons_zero]; rfl
    case hd71 => rfl
    case hw71 => kernel_rfl
    case hy71 => intro W hW; (try dsimp only at hW); go_simp <;> with_reducible rfl
    case hQ71 => exact fun _ _ _ h => h
    try simp only [Act.put, List.setIfInBounds_toArray, List.set_cons_zero, List.set_cons_succ]
    refine pass_at 21 93 (oi := ?o72) ?hi72 ?hd72 (by kernel_rfl) (by kernel_rfl) (by kernel_rfl) ?hQ72 ?hw72 (by assumption) ?rest72
    case hi72 => simp only [List.getElem?_toArray, List.getElem?_cons_succ, List.getElem?_cons_zero]; rfl
    case hd72 => rfl
    case hQ72 => exact fun _ _ _ h => h
    case hw72 => kernel_rfl
    try simp only [Act.put, List.setIfInBounds_toArray, List.set_cons_zero, List.set_cons_succ]
    refine pass_at 22 94 (oi := ?o73) ?hi73 ?hd73 (by kernel_rfl) (by kernel_rfl) (by kernel_rfl) ?hQ73 ?hw73 (by assumption) ?rest73
    case hi73 => simp only [List.getElem?_toArray, List.getElem?_cons_succ, List.getElem?_cons_zero]; rfl
    case hd73 => rfl
    case hQ73 => exact fun _ _ _ h => h
    case hw73 => kernel_rfl
    try simp only [Act.put, List.setIfInBounds_toArray, List.set_cons_zero, List.set_cons_succ]
    refine pass_at 23 95 (oi := ?o74) ?hi74 ?hd74 (by kernel_rfl) (by kernel_rfl) (by kernel_rfl) ?hQ74 ?hw74 (by assumption) ?rest74
    case hi74 => simp only [List.getElem?_toArray, List.getElem?_cons_succ, List.getElem?_cons_zero]; rfl
    case hd74 => rfl
    case hQ74 => exact fun _ _ _ h => h
    case hw74 => kernel_rfl
    try simp only [Act.put, List.setIfInBounds_toArray, List.set_cons_zero, List.set_cons_succ]
    refine pass_at 24 96 (oi := ?o75) ?hi75 ?hd75 (by kernel_rfl) (by kernel_rfl) (by kernel_rfl) ?hQ75 ?hw75 (by assumption) ?rest75
    case hi75 => simp only [List.getElem?_toArray, List.getElem?_cons_succ, List.getElem?_cons_zero]; rfl
    case hd75 => rfl
    case hQ75 => exact fun _ _ _ h => h
    case hw75 => kernel_rfl
    try simp only [Act.put, List.setIfInBounds_toArray, List.set_cons_zero, List.set_cons_succ]
    refine pass_at 25 97 (oi := ?o76) ?hi76 ?hd76 (by kernel_rfl) (by kernel_rfl) (by kernel_rfl) ?hQ76 ?hw76 (by assumption) ?rest76
    case hi76 => simp only [List.getElem?_toArray, List.getElem?_cons_succ, List.getElem?_cons_zero]; rfl
    case hd76 => rfl
    case hQ76 => exact fun _ _ _ h => h
    case hw76 => kernel_rfl
    try simp only [Act.put, List.setIfInBounds_toArray, List.set_cons_zero, List.set_cons_succ]
    refine pass_at 26 98 (oi := ?o77) ?hi77 ?hd77 (by kernel_rfl) (by kernel_rfl) (by kernel_rfl) ?hQ77 ?hw77 (by assumption) ?rest77
    case hi77 => simp only [List.getElem?_toArray, List.getElem?_cons_succ, List.getElem?_cons_zero]; rfl
    case hd77 => rfl
    case hQ77 => exact fun _ _ _ h => h
    case hw77 => kernel_rfl
    try simp only [Act.put, List.setIfInBounds_toArray, List.set_cons_zero, List.set_cons_succ]
    refine pass_at 27 99 (oi := ?o78) ?hi78 ?hd78 (by kernel_rfl) (by kernel_rfl) (by kernel_rfl) ?hQ78 ?hw78 (by assumption) ?rest78
    case hi78 => simp only [List.getElem?_toArray, List.getElem?_cons_succ, List.getElem?_cons_zero]; rfl
    case hd78 => rfl
    case hQ78 => exact fun _ _ _ h => h
    case hw78 => kernel_rfl
    try simp only [Act.put, List.setIfInBounds_toArray, List.set_cons_zero, List.set_cons_succ]
    refine pass_at 28 100 (oi := ?o79) ?hi79 ?hd79 (by kernel_rfl) (by kernel_rfl) (by kernel_rfl) ?hQ79 ?hw79 (by assumption) ?rest79
    case hi79 => simp only [List.getElem?_toArray, List.getElem?_cons_succ, List.getElem?_cons_zero]; rfl
    case hd79 => rfl
    case hQ79 => exact fun _ _ _ h => h
    case hw79 => kernel_rfl
    try simp only [Act.put, List.setIfInBounds_toArray, List.set_cons_zero, List.set_cons_succ]
    refine take_at 29 101 (oi := ?o80) (v := ?v80) ?hi80 ?hd80 (by kernel_rfl) (by kernel_rfl) (by kernel_rfl) ?hQ80 ?hw80 ?hy80 (by assumption) ?rest80
    case hi80 => simp only [List.getElem?_toArray, List.getElem?_cons_succ, List.getElem?_cons_zero]; rfl
    case hd80 => rfl
    case hw80 => kernel_rfl
    case hy80 => intro W hW; (try dsimp only at hW); go_simp <;> with_reducible rfl
    case hQ80 => exact fun _ _ _ h => h
    try simp only [Act.put, List.setIfInBounds_toArray, List.set_cons_zero, List.set_cons_succ]
    refine take_at 30 102 (oi := ?o81) (v := ?v81) ?hi81 ?hd81 (by kernel_rfl) (by kernel_rfl) (by kernel_rfl) ?hQ81 ?hw81 ?hy81 (by assumption) ?rest81
    case hi81 => simp only [List.getElem?_toArray, List.getElem?_cons_succ, List.getElem?_cons_zero]; rfl
    case hd81 => rfl
    case hw81 => kernel_rfl
    case hy81 => intro W hW; (try dsimp only at hW); go_simp <;> with_reducible rfl
    case hQ81 => exact fun _ _ _ h => h
    try simp only [Act.put, List.setIfInBounds_toArray, List.set_cons_zero, List.set_cons_succ]
    refine take_at 31 2 (oi := ?o82) (v := ?v82) ?hi82 ?hd82 (by kernel_rfl) (by kernel_rfl) (by kernel_rfl) ?hQ82 ?hw82 ?hy82 (by assumption) ?rest82
    case hi82 => simp only [List.getElem?_toArray, List.getElem?_cons_succ, List.getElem?_cons_zero]; rfl
    case hd82 => rfl
    case hw82 => kernel_rfl
    case hy82 => intro W hW; (try dsimp only at hW); go_simp <;> with_reducible rfl
    case hQ82 => exact fun _ _ _ h => h
    try simp only [Act.put, List.setIfInBounds_toArray, List.set_cons_zero, List.set_cons_succ]
    refine wpAnyH_done (by kernel_rfl) ?_ _
    simp only [Exit.then]
    go_wp2
    go_ret
    exact ⟨rfl, HBW.out.next HF1.out⟩

set_option maxRecDepth 100000 in
theorem contract (H : Type) (enc : TypeId × Value → H) (W : World) (base : Nat) (args : Array Value) (ds gs : List (DataW H)) (before : List MemPlace)
    (hval : ∀ (j : Nat) t v, Tryd.f5.params[j]? = some t → args[j]? = some v → Value.okWide Tryd.prog W .any base t v)
    (hW : DataW.Whole enc Tryd.prog Tryd.f5.params.toList Rows.mountainOnlySpec.vars false W args.toList ds gs before) (hL : laidMetH Tryd.prog Rows.mountainOnlyRow.laid W) :
    Calls Tryd.prog 5 args W fun e W' => ∃ v, e = .returned v ∧ Rows.mountainOnlySpec.post enc Tryd.prog Tryd.f5 false true false false W args v W' := by
  have hW' := hW
  obtain ⟨p, q, hA0, hV, rfl, hfz, hnd⟩ := hW
  have hA : DataW.TrodAll enc Tryd.prog W 0 (fun _ => true) true Tryd.f5.params.toList args.toList ds p := hA0
  rw [Tryd.params5] at hA hval
  obtain ⟨v0, vs0, d0, ds0, p0, q0, hargs, rfl, rfl, h0, r0⟩ := trodAll_cons hA
  obtain ⟨rfl, rfl, rfl⟩ := trodAll_nil r0
  obtain rfl : args = #[v0] := by cases args; simp_all
  obtain ⟨rfl, rfl⟩ := trodVars_none hV
  obtain ⟨seed, count, idx, fr, how, at_, leaf, rfl, _, hl, hc, _, _⟩ := claim_in (hval 0 36 v0 rfl rfl) h0
  refine (walk seed leaf count how at_ idx fr W hl hc (tab_of hL) (tz_of hL)).mono fun e W' ⟨he, hb⟩ => ⟨_, he, ?_⟩
  exact law_post hW' rfl (by kernel_rfl) (by kernel_rfl) rfl hb

theorem laid_met (os : Os) : laidMet Tryd.prog Rows.mountainOnlyRow.laid ((laidWorld os).forCall (fun _ _ => 0) ⟨#[], #[.agg #[.string ⟨#[]⟩, .int .u8 0, .int .i64 0, .int .i64 0, .int .u8 0, .int .u8 0, .string ⟨#[]⟩]], []⟩).memory :=
  laidMet_of_run' 8 (by kernel_rfl) (by kernel_rfl)
theorem reads (os : Os) {H : Type} (enc : TypeId × Value → H) : ∃ places, DataW.whole enc Tryd.prog ((laidWorld os).forCall (fun _ _ => 0) ⟨#[], #[.agg #[.string ⟨#[]⟩, .int .u8 0, .int .i64 0, .int .i64 0, .int .u8 0, .int .u8 0, .string ⟨#[]⟩]], []⟩).memory Tryd.f5.params.toList Rows.mountainOnlySpec.vars false (#[.agg #[.string ⟨#[]⟩, .int .u8 0, .int .i64 0, .int .i64 0, .int .u8 0, .int .u8 0, .string ⟨#[]⟩]] : Array Value).toList 8 = some ([.agg [.lit (.string []), .lit (.int .u8 0), .lit (.int .i64 0), .lit (.int .i64 0), .lit (.int .u8 0), .lit (.int .u8 0), .lit (.string [])]], [], places) :=
  ⟨[], by kernel_rfl⟩

set_option maxRecDepth 100000 in
theorem lifted (os : Os) (started : os.Started) (H : Type) (enc : TypeId × Value → H) (F : Stop.Interp) :
    ReturnsInHanded {} Tryd.checked os 5 .any ((OpenSpec.ofChange Rows.mountainOnlySpec).preRow enc Tryd.prog Tryd.f5 Rows.mountainOnlyRow.domain false Rows.mountainOnlyRow.laid) (((OpenSpec.ofChange Rows.mountainOnlySpec).at F).post enc Tryd.prog Tryd.f5 false true false false) := by
  obtain ⟨places, hx⟩ := reads os enc
  refine returnsInHanded_of_row (C := Tryd.checked) (s := OpenSpec.ofChange Rows.mountainOnlySpec) own started (by kernel_rfl) Tryd.func5
    (witness_row_at (enc := enc) (C := Tryd.checked) false (laidWorld os) #[.agg #[.string ⟨#[]⟩, .int .u8 0, .int .i64 0, .int .i64 0, .int .u8 0, .int .u8 0, .string ⟨#[]⟩]] rfl (by kernel_rfl) (by kernel_rfl) (by kernel_rfl)
      (OpenSpec.preRow_of_cond 8 hx (by kernel_rfl) (fun k hk => by cases hk) (by kernel_rfl) (laid_met os))) ?_
  intro W base args ds gs before hval hW _ _ _ hL _ _
  exact contract H enc W base args ds gs before hval hW hL

set_option maxRecDepth 100000 in
theorem said : Rows.MountainOnlySaid :=
  OpenClaim.holds_of_cond 5 Tryd.f5 rfl rfl rfl rfl rfl rfl rfl ⟨rfl, rfl, rfl, rfl, rfl⟩ rfl rfl rfl rfl rfl (by kernel_rfl) Tryd.func5 (by kernel_rfl)
    (of_decide_eq_true (by kernel_rfl)) (by unfold Func.isWrapper; first | (rw [if_pos (by decide +kernel)]; kernel_rfl) | (rw [if_neg (by decide +kernel)]; exact ⟨rfl, rfl⟩))
    (fun os started H enc _ F => by rw [OpenClaim.pre_eq_preRow]; exact lifted os started H enc F)

/-- No parameter wants a stand-in; the program's own looks are off. -/
theorem plain (f : FuncId) (fn : Func) (hf : Tryd.pinned.checked.prog.funcNamed "licit/licitlaw49.MountainOnly" = some f) (hfn : Tryd.pinned.checked.prog.funcs[f]? = some fn) :
    false = Tryd.pinned.checked.prog.looks [] ∧ ∀ (j : Nat) t, fn.params[j]? = some t → Tryd.pinned.checked.prog.wantsStandIn t = false := by
  obtain rfl : f = 5 := Option.some.inj ((show Tryd.prog.funcNamed "licit/licitlaw49.MountainOnly" = some 5 by kernel_rfl).symm.trans hf) |>.symm
  obtain rfl : fn = Tryd.f5 := (Option.some.inj (Tryd.func5.symm.trans hfn)).symm
  refine ⟨by kernel_rfl, fun j t ht => ?_⟩
  have hall : Tryd.f5.params.toList.all (fun t => !Tryd.prog.wantsStandIn t) = true := by kernel_rfl
  have := List.all_eq_true.1 hall t (Array.mem_toList_iff.2 (Array.mem_of_getElem? ht))
  exact (by simpa using this : Tryd.prog.wantsStandIn t = false)

theorem card : Rows.MountainOnlyCardSaid :=
  Claim7.holds_tied_plain_at .later [] _ _ _ _ said (fun _ h => by cases h) (by kernel_rfl) (fun _ h => by cases h) mountainOnly_row_tie rfl ⟨rfl, rfl⟩ (by kernel_rfl) rfl plain (by kernel_rfl)

end Go.Proofs.YtfklmjcjjdliiaaDoor.lawOnly
