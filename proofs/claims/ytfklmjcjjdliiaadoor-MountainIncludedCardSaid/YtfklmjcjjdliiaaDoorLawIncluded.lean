/- The card of MountainIncluded is proved: for every claim the law returns true; the conditions are those of the given row. -/
import Derived.Test.YtfklmjcjjdliiaaDoorLawClaim49
import Derived.Test.YtfklmjcjjdliiaaDoorWkMtD
import Derived.Test.YtfklmjcjjdliiaaDoorWkBend49
import Derived.Deep.Cut
namespace Go.Proofs.YtfklmjcjjdliiaaDoor.lawIncluded
open Go Go.RowKit Licit
open Go.ChangeShapes Go.WideShapes Go.ChangeAt

set_option maxHeartbeats 8000000 in
set_option maxRecDepth 100000 in
theorem walk (seed leaf : Bs) (count how at_ : Nat) (idx fr : Int) (w : World) (hl : leaf.length ≤ maxLen) (hc : count < 256) (hh : how < 256) (hat : at_ < 256) (ht : Tab w) (hz : Tz w) :
    Calls Tryd.prog 4 #[claimV seed count idx fr how at_ leaf] w fun e w' => e = .returned (.bool true) ∧ Below w.heap.size w w' := by
  have HA := Lib.hid (fun W (hb : Below w.heap.size w W) => awake_any49 W (ht.same hb) (hz.same hb))
  have dz : ((B seed).size : Int) = (seed.length : Int) := rfl
  have dy : ((B leaf).size : Int) = (leaf.length : Int) := rfl
  have HBx := Lib.hid ((Below.refl w.heap.size w).alloc (Nat.le_refl _) (.cells #[.string (B seed), .int .u8 (count : Int), .int .i64 idx, .int .i64 fr, .int .u8 (how : Int), .int .u8 (at_ : Int), .string (B leaf)] 36))
  have HXx := Lib.hid (new_of w (.cells #[.string (B seed), .int .u8 (count : Int), .int .i64 idx, .int .i64 fr, .int .u8 (how : Int), .int .u8 (at_ : Int), .string (B leaf)] 36))
  go_enter Tryd.func4, Tryd.ntmps4
  go_wp2_with fail
  refine (HA.out _ HBx.out).mono ?_
  rintro e w1 ⟨rfl, hb⟩
  have HB1 := Lib.hid (HBx.out.next hb)
  have HX1 := Lib.hid ((hb.block _ (lt_of HXx.out)).trans HXx.out)
  clear hb
  obtain ⟨k0, k1, k2, k3, k4, k5, k6⟩ := claim_cells HX1.out
  by_cases h1 : 100 < seed.length
  · have d1 : decide (100 < (seed.length : Int)) = true := by simp; omega
    go_wp2_with fail
    refine (HA.out _ HB1.out).mono ?_
    rintro e w3 ⟨rfl, hb⟩
    have HB3 := Lib.hid (HB1.out.next hb)
    clear hb
    go_wp2
    go_ret
    exact ⟨rfl, HB3.out⟩
  have d1 : decide (100 < (seed.length : Int)) = false := by simp; omega
  by_cases h2 : 40 < count
  · have d2 : decide (40 < (count : Int)) = true := by simp; omega
    go_wp2_with fail
    refine (HA.out _ HB1.out).mono ?_
    rintro e w3 ⟨rfl, hb⟩
    have HB3 := Lib.hid (HB1.out.next hb)
    clear hb
    go_wp2
    go_ret
    exact ⟨rfl, HB3.out⟩
  have d2 : decide (40 < (count : Int)) = false := by simp; omega
  by_cases h3 : 40 < leaf.length
  · have d3 : decide (40 < (leaf.length : Int)) = true := by simp; omega
    go_wp2_with fail
    refine (HA.out _ HB1.out).mono ?_
    rintro e w3 ⟨rfl, hb⟩
    have HB3 := Lib.hid (HB1.out.next hb)
    clear hb
    go_wp2
    go_ret
    exact ⟨rfl, HB3.out⟩
  have d3 : decide (40 < (leaf.length : Int)) = false := by simp; omega
  have hcv : IntKind.i64.wrap (count : Int) = (count : Int) := by rw [IntKind.wrap_i64]; omega
  have HLv := Lib.hid (Leaves_any seed count w1 (by omega) (by omega))
  go_wp2_with fail
  refine HLv.out.mono ?_
  rintro e w2 ⟨vl, rfl, hol, hb⟩
  have HB2 := Lib.hid (HB1.out.next hb)
  have HX2 := Lib.hid ((hb.block _ (lt_of HX1.out)).trans HX1.out)
  obtain ⟨L, hL⟩ : ∃ L, leavesM seed count = L := ⟨_, rfl⟩
  have hLl : L.length = count := by rw [← hL]; exact leavesM_len _ _
  have hL32 : ∀ x ∈ L, x.length = 32 := by rw [← hL]; exact leavesM_32 _ _
  rw [hL] at hol
  clear HLv hb hL k0 k1 k2 k3 k4 k5 k6
  subst hLl
  have hcapl := SlCap.own hol
  have HOl := Lib.hid (IsSl.of_owns (xs := L.map vS) (by rw [List.length_map]; exact hol) (by rw [List.length_map]; unfold maxLen; omega))
  obtain ⟨la, lk, rfl⟩ := own_form hol
  have HL32 := Lib.hid hL32
  have hck := checkM_zero hL32 (by omega)
  have HCk := Lib.hid hck
  have hOf := ROf_any _ L w2 HOl.out hcapl
  rw [HCk.out, show ofS L = (L.length : Int) by unfold ofS; rw [HCk.out, if_pos rfl], show ofP L = peaksOf L by unfold ofP; rw [HCk.out, if_pos rfl]] at hOf
  have HOf := Lib.hid hOf
  have Hcap := Lib.hid hcapl
  clear hol hck hL32 hOf hcapl
  go_wp2_with fail
  refine HOf.out.mono ?_
  rintro e w4 ⟨v4, rfl, hm4, hb⟩
  have HB4 := Lib.hid (HB2.out.next hb)
  have HX4 := Lib.hid ((hb.block _ (lt_of HX2.out)).trans HX2.out)
  have HO4 := Lib.hid (HOl.out.below hb)
  have HM4 := Lib.hid hm4
  obtain ⟨p4, rfl, hp4, _⟩ := hm4
  obtain ⟨ma, mc, rfl⟩ := hp4.formMap
  obtain ⟨V, hV⟩ : ∃ V, w4.alloc (.cells #[.int .i64 (L.length : Int), .slice ma (peaksOf L).length mc] 31) = V := ⟨_, rfl⟩
  obtain ⟨D, hD⟩ : ∃ D, w4.heap.size = D := ⟨_, rfl⟩
  have hbV : Below w4.heap.size w4 V := by rw [← hV]; exact (Below.refl _ _).alloc (Nat.le_refl _) _
  have HDV := Lib.hid (show V.heap[D]? = some (.cells #[.int .i64 (L.length : Int), .slice ma (peaksOf L).length mc] 31) by rw [← hD, ← hV]; exact new_of _ _)
  have HBV := Lib.hid (HB4.out.next hbV)
  have HXV := Lib.hid ((hbV.block _ (lt_of HX4.out)).trans HX4.out)
  have HOV := Lib.hid (HO4.out.below hbV)
  have HMV := Lib.hid (HM4.out.below hbV)
  have hPr := RMtProve_any _ L fr V HOV.out Hcap.out
  obtain ⟨PE, hPE⟩ : ∃ x, proveE L fr = x := ⟨_, rfl⟩
  obtain ⟨PP, hPP⟩ : ∃ x, proveP L fr = x := ⟨_, rfl⟩
  rw [hPE, hPP] at hPr
  have HPr := Lib.hid hPr
  have HPE := Lib.hid hPE
  have HPP := Lib.hid hPP
  have hpl : PP.length ≤ 1000 := by
    rw [← hPP]
    unfold proveP
    split
    · rename_i h0
      obtain ⟨_, h1, h2⟩ := proveE_ok h0
      have h3 := proveN_all (l := L) (by omega) (i := fr.toNat)
      rcases h3 with h3 | h3
      · omega
      · omega
    · simp
  obtain ⟨k0, k1, k2, k3, k4, k5, k6⟩ := claim_cells HXV.out
  have hbf := HBV.out
  clear hb hp4 hbV hPr hPE hPP HOf
  go_wp2_with fail
  clear hV hD
  refine HPr.out.mono ?_
  rintro e w5 ⟨v5, rfl, ho5, hb⟩
  have HB5 := Lib.hid (HBV.out.next hb)
  have HX5 := Lib.hid ((hb.block _ (lt_of HXV.out)).trans HXV.out)
  have HD5 := Lib.hid ((hb.block _ (lt_of HDV.out)).trans HDV.out)
  have HO5 := Lib.hid (HOV.out.below hb)
  have HM5 := Lib.hid (HMV.out.below hb)
  have HI5 := Lib.hid (IsSl.of_owns (xs := PP.map vS) (by rw [List.length_map]; exact ho5) (by rw [List.length_map]; unfold maxLen; omega))
  have hnil := NilOk.own ho5
  obtain ⟨a5, c5, rfl⟩ := own_form ho5
  clear hb ho5 hbf k0 k1 k2 k3 k4 k5 k6
  obtain ⟨k0, k1, k2, k3, k4, k5, k6⟩ := claim_cells HX5.out
  obtain ⟨c0, c1⟩ := mtC HD5.out
  by_cases hne : PE = 0
  rotate_left
  · have hq : (PE == 0) = false := by simpa using hne
    have hq2 : (PE != 0) = true := by rw [bne, hq]; rfl
    have HIn := Lib.hid (Incl_any _ (.slice none 0 0) (L.length : Int) (peaksOf L) fr leaf [] w5 HM5.out (IsSl.of_owns (xs := []) (World.ownsRow_nil w5 0 9 1) (Nat.zero_le _)) hl (ht.same HB5.out))
    have HRn := Lib.hid (fun W (hb : Below w5.heap.size w5 W) => RIncl_any _ (.slice none 0 0) (L.length : Int) (peaksOf L) fr leaf [] W (HM5.out.below hb) (IsSl.of_owns (xs := []) (World.ownsRow_nil W 0 9 1) (Nat.zero_le _)) hl)
    obtain ⟨G, hG⟩ : ∃ G, inclB (L.length : Int) (peaksOf L) fr leaf [] = G := ⟨_, rfl⟩
    rw [hG] at HIn HRn
    clear hG hne hnil
    go_wp2_with fail
    refine HIn.out.mono ?_
    rintro e w6 ⟨rfl, hb⟩
    have HB6 := Lib.hid (HB5.out.next hb)
    have Hb6 := Lib.hid hb
    have HX6 := Lib.hid ((hb.block _ (lt_of HX5.out)).trans HX5.out)
    have HD6 := Lib.hid ((hb.block _ (lt_of HD5.out)).trans HD5.out)
    clear hb k0 k1 k2 k3 k4 k5 k6 c0 c1
    cases G with
    | false =>
      go_wp2
      go_ret
      exact ⟨rfl, HB6.out⟩
    | true =>
      obtain ⟨k0, k1, k2, k3, k4, k5, k6⟩ := claim_cells HX6.out
      obtain ⟨c0, c1⟩ := mtC HD6.out
      go_wp2_with fail
      refine (HRn.out _ Hb6.out).mono ?_
      rintro e w7 ⟨rfl, hb⟩
      have HB7 := Lib.hid (HB6.out.next hb)
      clear hb
      go_wp2
      go_ret
      exact ⟨rfl, HB7.out⟩
  subst hne
  obtain ⟨_, hi0, hil⟩ := proveE_ok HPE.out
  obtain ⟨j, rfl⟩ : ∃ j : Nat, fr = (j : Int) := ⟨fr.toNat, by omega⟩
  have hjl : j < L.length := by omega
  have hp32 : all32 PP = true := by
    have h1 := incl_prove (l := L) (by omega) HL32.out hjl
    have h2 : PP = proveN L (place L.length j).2.2 j (place L.length j).2.1 := by
      rw [← HPP.out]
      unfold proveP
      rw [HPE.out, if_pos rfl, Int.toNat_natCast]
    rw [← h2] at h1
    unfold inclB at h1
    simp only [Bool.and_eq_true] at h1
    exact h1.1.1.2
  obtain ⟨h8, hh8⟩ : ∃ h8, how % 8 = h8 := ⟨_, rfl⟩
  have hrm : (how : Int) % 8 = (h8 : Int) := by rw [← hh8]; simp
  have hrt : (how : Int).tmod 8 = (h8 : Int) := by rw [Int.tmod_eq_emod_of_nonneg (by omega), hrm]
  have h88 : h8 < 8 := by rw [← hh8]; exact Nat.mod_lt _ (by decide)
  have w1' : IntKind.u8.wrap (h8 : Int) = (h8 : Int) := by rw [IntKind.wrap_u8]; omega
  have w2' : IntKind.i64.wrap (h8 : Int) = (h8 : Int) := by rw [IntKind.wrap_i64]; omega
  have w3' : IntKind.i64.wrap (at_ : Int) = (at_ : Int) := by rw [IntKind.wrap_i64]; omega
  have HBe := Lib.hid (Bend49_any _ PP h8 at_ w5 HI5.out hnil hpl (fun x hx => by have := all32_get hp32 x hx; omega))
  clear hp32 hnil hi0 hil hh8
  go_wp2_with fail
  refine HBe.out.mono ?_
  rintro e W ⟨v6, rfl, Q, hq6, hQl, hb⟩
  have HBW := Lib.hid (HB5.out.next hb)
  have HXW := Lib.hid ((hb.block _ (lt_of HX5.out)).trans HX5.out)
  have HDW := Lib.hid ((hb.block _ (lt_of HD5.out)).trans HD5.out)
  have HMW := Lib.hid (HM5.out.below hb)
  have HIW := Lib.hid hq6
  obtain ⟨a6, c6, rfl⟩ := hq6.formMap
  obtain ⟨b, off, cap', hvv, hbb, hcc⟩ := (HO5.out.below hb).text rfl hjl
  simp only [Value.slice.injEq, true_and] at hvv
  obtain ⟨rfl, rfl⟩ := hvv
  have hyl : (L.getD j []).length ≤ maxLen := getD_max (fun y hy => max32 (HL32.out y hy)) j
  obtain ⟨y, hy⟩ : ∃ y, L.getD j [] = y := ⟨_, rfl⟩
  rw [hy] at hcc hyl
  have HS := Lib.hid (show ∀ Wc, Below W.heap.size W Wc → (fun W : World => (W.cell? ⟨w.heap.size, 2, none⟩ = some (.int .i64 idx) ∧ W.cell? ⟨w.heap.size, 3, none⟩ = some (.int .i64 (j : Int))) ∧ W.cell? ⟨D, 0, none⟩ = some (.int .i64 (L.length : Int)) ∧ W.cell? ⟨D, 1, none⟩ = some (.slice ma (peaksOf L).length mc)) Wc from
    fun Wc hb => ⟨⟨(hb.cell (lt_of HXW.out)).trans (claim_cells HXW.out).2.2.1, (hb.cell (lt_of HXW.out)).trans (claim_cells HXW.out).2.2.2.1⟩, (hb.cell (lt_of HDW.out)).trans (mtC HDW.out).1, (hb.cell (lt_of HDW.out)).trans (mtC HDW.out).2⟩)
  clear hb hq6 hy k0 k1 k2 k3 k4 k5 k6 c0 c1 w1' w2' w3' hrm hrt
  obtain ⟨k0, k1, k2, k3, k4, k5, k6⟩ := claim_cells HXW.out
  have hjI : (j : Int) < (L.length : Int) := by omega
  have HCc := Lib.hid hcc
  by_cases h128 : 128 ≤ how
  · have d5 : decide ((128 : Int) ≤ (how : Int)) = true := by simp; omega
    have hxl := hl
    go_upto_region 12 with fail
    clear k0 k1 k2 k3 k4 k5 k6 hcc d5
    have HI1 := Lib.hid (fun u V (hb : Below W.heap.size W V) (hu : IsSl u (Q.map vS) V) => Incl_any _ u (L.length : Int) (peaksOf L) idx leaf Q V (HMW.out.below hb) hu hxl (ht.same (HBW.out.next hb)))
    have HI2 := Lib.hid (fun u V (hb : Below W.heap.size W V) (hu : IsSl u (Q.map vS) V) => Incl_any _ u (L.length : Int) (peaksOf L) (j : Int) leaf Q V (HMW.out.below hb) hu hxl (ht.same (HBW.out.next hb)))
    have HR1 := Lib.hid (fun u V (hb : Below W.heap.size W V) (hu : IsSl u (Q.map vS) V) => RIncl_any _ u (L.length : Int) (peaksOf L) idx leaf Q V (HMW.out.below hb) hu hxl)
    have HR2 := Lib.hid (fun u V (hb : Below W.heap.size W V) (hu : IsSl u (Q.map vS) V) => RIncl_any _ u (L.length : Int) (peaksOf L) (j : Int) leaf Q V (HMW.out.below hb) hu hxl)
    obtain ⟨G1, hG1⟩ : ∃ G, inclB (L.length : Int) (peaksOf L) idx leaf Q = G := ⟨_, rfl⟩
    obtain ⟨G2, hG2⟩ : ∃ G, inclB (L.length : Int) (peaksOf L) (j : Int) leaf Q = G := ⟨_, rfl⟩
    rw [hG1] at HI1 HR1
    rw [hG2] at HI2 HR2
    clear hG1 hG2
    refine wp_region_held_drew (S := (fun W : World => (W.cell? ⟨w.heap.size, 2, none⟩ = some (.int .i64 idx) ∧ W.cell? ⟨w.heap.size, 3, none⟩ = some (.int .i64 (j : Int))) ∧ W.cell? ⟨D, 0, none⟩ = some (.int .i64 (L.length : Int)) ∧ W.cell? ⟨D, 1, none⟩ = some (.slice ma (peaksOf L).length mc))) (by kernel_rfl) (HS.out _ (dr (Below.refl _ _))) (fun hHeld => ?_)
    have HF0 := Lib.hid (show Below W.heap.size W W.drew from dr (Below.refl _ _))
    refine take_at 0 84 (oi := ?o1) (v := ?v1) ?hi1 ?hd1 (by kernel_rfl) (by kernel_rfl) (by kernel_rfl) ?hQ1 ?hw1 ?hy1 (by assumption) ?rest1
    case hi1 => simp only [List.getElem?_toArray, List.getElem?_cons_zero]; rfl
    case hd1 => rfl
    case hw1 => kernel_rfl
    case hy1 => intro W hW; (try dsimp only at hW); go_simp <;> with_reducible rfl
    case hQ1 => exact fun _ _ _ h => h
    try simp only [Act.put, List.setIfInBounds_toArray, List.set_cons_zero, List.set_cons_succ]
    refine take_at 1 85 (oi := ?o2) (v := ?v2) ?hi2 ?hd2 (by kernel_rfl) (by kernel_rfl) (by kernel_rfl) ?hQ2 ?hw2 ?hy2 (by assumption) ?rest2
    case hi2 => simp only [List.getElem?_toArray, List.getElem?_cons_succ, List.getElem?_cons_zero]; rfl
    case hd2 => rfl
    case hw2 => kernel_rfl
    case hy2 => intro W hW; (try dsimp only at hW); go_simp <;> with_reducible rfl
    case hQ2 => exact fun _ _ _ h => h
    try simp only [Act.put, List.setIfInBounds_toArray, List.set_cons_zero, List.set_cons_succ]
    refine take_at 2 86 (oi := ?o3) (v := ?v3) ?hi3 ?hd3 (by kernel_rfl) (by kernel_rfl) (by kernel_rfl) ?hQ3 ?hw3 ?hy3 (by assumption) ?rest3
    case hi3 => simp only [List.getElem?_toArray, List.getElem?_cons_succ, List.getElem?_cons_zero]; rfl
    case hd3 => rfl
    case hw3 => kernel_rfl
    case hy3 => intro W hW; (try dsimp only at hW); go_simp <;> with_reducible rfl
    case hQ3 => exact fun _ _ _ h => h
    try simp only [Act.put, List.setIfInBounds_toArray, List.set_cons_zero, List.set_cons_succ]
    refine take_at 3 87 (oi := ?o4) (v := ?v4) ?hi4 ?hd4 (by kernel_rfl) (by kernel_rfl) (by kernel_rfl) ?hQ4 ?hw4 ?hy4 (by assumption) ?rest4
    case hi4 => simp only [List.getElem?_toArray, List.getElem?_cons_succ, List.getElem?_cons_zero]; rfl
    case hd4 => rfl
    case hw4 => kernel_rfl
    case hy4 => intro W hW; (try dsimp only at hW); go_simp <;> with_reducible rfl
    case hQ4 => exact fun _ _ _ h => h
    try simp only [Act.put, List.setIfInBounds_toArray, List.set_cons_zero, List.set_cons_succ]
    refine take_at 4 88 (oi := ?o5) (v := ?v5) ?hi5 ?hd5 (by kernel_rfl) (by kernel_rfl) (by kernel_rfl) ?hQ5 ?hw5 ?hy5 (by assumption) ?rest5
    case hi5 => simp only [List.getElem?_toArray, List.getElem?_cons_succ, List.getElem?_cons_zero]; rfl
    case hd5 => rfl
    case hw5 => kernel_rfl
    case hy5 => intro W hW; (try dsimp only at hW); go_simp <;> with_reducible rfl
    case hQ5 => exact fun _ _ _ h => h
    try simp only [Act.put, List.setIfInBounds_toArray, List.set_cons_zero, List.set_cons_succ]
    refine take_at 7 91 (oi := ?o6) (v := ?v6) ?hi6 ?hd6 (by kernel_rfl) (by kernel_rfl) (by kernel_rfl) ?hQ6 ?hw6 ?hy6 (by assumption) ?rest6
    case hi6 => simp only [List.getElem?_toArray, List.getElem?_cons_succ, List.getElem?_cons_zero]; rfl
    case hd6 => rfl
    case hw6 => kernel_rfl
    case hy6 => intro W hW; (try dsimp only at hW); go_simp <;> with_reducible rfl
    case hQ6 => exact fun _ _ _ h => h
    try simp only [Act.put, List.setIfInBounds_toArray, List.set_cons_zero, List.set_cons_succ]
    refine take_at 8 92 (oi := ?o7) (v := ?v7) ?hi7 ?hd7 (by kernel_rfl) (by kernel_rfl) (by kernel_rfl) ?hQ7 ?hw7 ?hy7 (by assumption) ?rest7
    case hi7 => simp only [List.getElem?_toArray, List.getElem?_cons_succ, List.getElem?_cons_zero]; rfl
    case hd7 => rfl
    case hw7 => kernel_rfl
    case hy7 => intro W hW; (try dsimp only at hW); go_simp <;> with_reducible rfl
    case hQ7 => exact fun _ _ _ h => h
    try simp only [Act.put, List.setIfInBounds_toArray, List.set_cons_zero, List.set_cons_succ]
    refine take_at 9 93 (oi := ?o8) (v := ?v8) ?hi8 ?hd8 (by kernel_rfl) (by kernel_rfl) (by kernel_rfl) ?hQ8 ?hw8 ?hy8 (by assumption) ?rest8
    case hi8 => simp only [List.getElem?_toArray, List.getElem?_cons_succ, List.getElem?_cons_zero]; rfl
    case hd8 => rfl
    case hw8 => kernel_rfl
    case hy8 => intro W hW; (try dsimp only at hW); go_simp <;> with_reducible rfl
    case hQ8 => exact fun _ _ _ h => h
    try simp only [Act.put, List.setIfInBounds_toArray, List.set_cons_zero, List.set_cons_succ]
    refine take_at 10 94 (oi := ?o9) (v := ?v9) ?hi9 ?hd9 (by kernel_rfl) (by kernel_rfl) (by kernel_rfl) ?hQ9 ?hw9 ?hy9 (by assumption) ?rest9
    case hi9 => simp only [List.getElem?_toArray, List.getElem?_cons_succ, List.getElem?_cons_zero]; rfl
    case hd9 => rfl
    case hw9 => kernel_rfl
    case hy9 => intro W hW; (try dsimp only at hW); go_simp <;> with_reducible rfl
    case hQ9 => exact fun _ _ _ h => h
    try simp only [Act.put, List.setIfInBounds_toArray, List.set_cons_zero, List.set_cons_succ]
    refine take_at 11 95 (oi := ?o10) (v := ?v10) ?hi10 ?hd10 (by kernel_rfl) (by kernel_rfl) (by kernel_rfl) ?hQ10 ?hw10 ?hy10 (by assumption) ?rest10
    case hi10 => simp only [List.getElem?_toArray, List.getElem?_cons_succ, List.getElem?_cons_zero]; rfl
    case hd10 => rfl
    case hw10 => kernel_rfl
    case hy10 => intro W hW; (try dsimp only at hW); go_simp <;> with_reducible rfl
    case hQ10 => exact fun _ _ _ h => h
    try simp only [Act.put, List.setIfInBounds_toArray, List.set_cons_zero, List.set_cons_succ]
    refine wpAnyH_ready (rs := [5]) (by kernel_rfl) (by simp) ?_
    refine AllReadyH.cons rfl (fun K hK => ?_) AllReadyH.nil
    go_simp
    refine (CloneS_any _ Q _ (HIW.out.below HF0.out) (by omega)).mono ?_
    rintro e q1 ⟨v1, rfl, ho, hb⟩
    have HF1 := Lib.hid (HF0.out.trans (hb.mono HF0.out.size))
    have HQ1 := Lib.hid (IsSl.of_owns (xs := Q.map vS) (by rw [List.length_map]; exact ho) (by rw [List.length_map]; unfold maxLen; omega))
    obtain ⟨v1a, v1k, rfl⟩ := own_form ho
    clear hb ho
    refine hK.out _ _ (HS.out _ HF1.out) (fun hHeld => ?_)
    clear hK K
    try simp only [Act.put, List.setIfInBounds_toArray, List.set_cons_zero, List.set_cons_succ]
    refine wpAnyH_ready (rs := [6]) (by kernel_rfl) (by simp) ?_
    refine AllReadyH.cons rfl (fun K hK => ?_) AllReadyH.nil
    go_simp
    refine (HI1.out _ _ HF1.out HQ1.out).mono ?_
    rintro e q2 ⟨rfl, hb⟩
    have HF2 := Lib.hid (HF1.out.trans (hb.mono HF1.out.size))
    clear hb
    refine hK.out _ _ (HS.out _ HF2.out) (fun hHeld => ?_)
    clear hK K
    try simp only [Act.put, List.setIfInBounds_toArray, List.set_cons_zero, List.set_cons_succ]
    have HQ2 := Lib.hid (HIW.out.below HF2.out)
    refine wpAnyH_ready (rs := [12]) (by kernel_rfl) (by simp) ?_
    refine AllReadyH.cons rfl (fun K hK => ?_) AllReadyH.nil
    go_simp
    refine (HR1.out _ _ HF2.out HQ2.out).mono ?_
    rintro e q3 ⟨rfl, hb⟩
    have HF3 := Lib.hid (HF2.out.trans (hb.mono HF2.out.size))
    clear hb
    refine hK.out _ _ (HS.out _ HF3.out) (fun hHeld => ?_)
    clear hK K
    try simp only [Act.put, List.setIfInBounds_toArray, List.set_cons_zero, List.set_cons_succ]
    refine take_at 13 97 (oi := ?o11) (v := ?v11) ?hi11 ?hd11 (by kernel_rfl) (by kernel_rfl) (by kernel_rfl) ?hQ11 ?hw11 ?hy11 (by assumption) ?rest11
    case hi11 => simp only [List.getElem?_toArray, List.getElem?_cons_succ, List.getElem?_cons_zero]; rfl
    case hd11 => rfl
    case hw11 => kernel_rfl
    case hy11 => intro W hW; (try dsimp only at hW); go_simp <;> with_reducible rfl
    case hQ11 => exact fun _ _ _ h => h
    try simp only [Act.put, List.setIfInBounds_toArray, List.set_cons_zero, List.set_cons_succ]
    refine take_at 14 98 (oi := ?o12) (v := ?v12) ?hi12 ?hd12 (by kernel_rfl) (by kernel_rfl) (by kernel_rfl) ?hQ12 ?hw12 ?hy12 (by assumption) ?rest12
    case hi12 => simp only [List.getElem?_toArray, List.getElem?_cons_succ, List.getElem?_cons_zero]; rfl
    case hd12 => rfl
    case hw12 => kernel_rfl
    case hy12 => intro W hW; (try dsimp only at hW); go_simp <;> with_reducible rfl
    case hQ12 => exact fun _ _ _ h => h
    try simp only [Act.put, List.setIfInBounds_toArray, List.set_cons_zero, List.set_cons_succ]
    refine take_at 15 99 (oi := ?o13) (v := ?v13) ?hi13 ?hd13 (by kernel_rfl) (by kernel_rfl) (by kernel_rfl) ?hQ13 ?hw13 ?hy13 (by assumption) ?rest13
    case hi13 => simp only [List.getElem?_toArray, List.getElem?_cons_succ, List.getElem?_cons_zero]; rfl
    case hd13 => rfl
    case hw13 => kernel_rfl
    case hy13 => intro W hW; (try dsimp only at hW); go_simp <;> with_reducible rfl
    case hQ13 => exact fun _ _ _ h => h
    try simp only [Act.put, List.setIfInBounds_toArray, List.set_cons_zero, List.set_cons_succ]
    refine take_at 16 100 (oi := ?o14) (v := ?v14) ?hi14 ?hd14 (by kernel_rfl) (by kernel_rfl) (by kernel_rfl) ?hQ14 ?hw14 ?hy14 (by assumption) ?rest14
    case hi14 => simp only [List.getElem?_toArray, List.getElem?_cons_succ, List.getElem?_cons_zero]; rfl
    case hd14 => rfl
    case hw14 => kernel_rfl
    case hy14 => intro W hW; (try dsimp only at hW); go_simp <;> with_reducible rfl
    case hQ14 => exact fun _ _ _ h => h
    try simp only [Act.put, List.setIfInBounds_toArray, List.set_cons_zero, List.set_cons_succ]
    refine take_at 17 101 (oi := ?o15) (v := ?v15) ?hi15 ?hd15 (by kernel_rfl) (by kernel_rfl) (by kernel_rfl) ?hQ15 ?hw15 ?hy15 (by assumption) ?rest15
    case hi15 => simp only [List.getElem?_toArray, List.getElem?_cons_succ, List.getElem?_cons_zero]; rfl
    case hd15 => rfl
    case hw15 => kernel_rfl
    case hy15 => intro W hW; (try dsimp only at hW); go_simp <;> with_reducible rfl
    case hQ15 => exact fun _ _ _ h => h
    try simp only [Act.put, List.setIfInBounds_toArray, List.set_cons_zero, List.set_cons_succ]
    refine take_at 18 102 (oi := ?o16) (v := ?v16) ?hi16 ?hd16 (by kernel_rfl) (by kernel_rfl) (by kernel_rfl) ?hQ16 ?hw16 ?hy16 (by assumption) ?rest16
    case hi16 => simp only [List.getElem?_toArray, List.getElem?_cons_succ, List.getElem?_cons_zero]; rfl
    case hd16 => rfl
    case hw16 => kernel_rfl
    case hy16 => intro W hW; (try dsimp only at hW); go_simp <;> with_reducible rfl
    case hQ16 => exact fun _ _ _ h => h
    try simp only [Act.put, List.setIfInBounds_toArray, List.set_cons_zero, List.set_cons_succ]
    refine take_at 19 103 (oi := ?o17) (v := ?v17) ?hi17 ?hd17 (by kernel_rfl) (by kernel_rfl) (by kernel_rfl) ?hQ17 ?hw17 ?hy17 (by assumption) ?rest17
    case hi17 => simp only [List.getElem?_toArray, List.getElem?_cons_succ, List.getElem?_cons_zero]; rfl
    case hd17 => rfl
    case hw17 => kernel_rfl
    case hy17 => intro W hW; (try dsimp only at hW); go_simp <;> with_reducible rfl
    case hQ17 => exact fun _ _ _ h => h
    try simp only [Act.put, List.setIfInBounds_toArray, List.set_cons_zero, List.set_cons_succ]
    refine take_at 22 106 (oi := ?o18) (v := ?v18) ?hi18 ?hd18 (by kernel_rfl) (by kernel_rfl) (by kernel_rfl) ?hQ18 ?hw18 ?hy18 (by assumption) ?rest18
    case hi18 => simp only [List.getElem?_toArray, List.getElem?_cons_succ, List.getElem?_cons_zero]; rfl
    case hd18 => rfl
    case hw18 => kernel_rfl
    case hy18 => intro W hW; (try dsimp only at hW); go_simp <;> with_reducible rfl
    case hQ18 => exact fun _ _ _ h => h
    try simp only [Act.put, List.setIfInBounds_toArray, List.set_cons_zero, List.set_cons_succ]
    refine take_at 23 107 (oi := ?o19) (v := ?v19) ?hi19 ?hd19 (by kernel_rfl) (by kernel_rfl) (by kernel_rfl) ?hQ19 ?hw19 ?hy19 (by assumption) ?rest19
    case hi19 => simp only [List.getElem?_toArray, List.getElem?_cons_succ, List.getElem?_cons_zero]; rfl
    case hd19 => rfl
    case hw19 => kernel_rfl
    case hy19 => intro W hW; (try dsimp only at hW); go_simp <;> with_reducible rfl
    case hQ19 => exact fun _ _ _ h => h
    try simp only [Act.put, List.setIfInBounds_toArray, List.set_cons_zero, List.set_cons_succ]
    refine take_at 24 108 (oi := ?o20) (v := ?v20) ?hi20 ?hd20 (by kernel_rfl) (by kernel_rfl) (by kernel_rfl) ?hQ20 ?hw20 ?hy20 (by assumption) ?rest20
    case hi20 => simp only [List.getElem?_toArray, List.getElem?_cons_succ, List.getElem?_cons_zero]; rfl
    case hd20 => rfl
    case hw20 => kernel_rfl
    case hy20 => intro W hW; (try dsimp only at hW); go_simp <;> with_reducible rfl
    case hQ20 => exact fun _ _ _ h => h
    try simp only [Act.put, List.setIfInBounds_toArray, List.set_cons_zero, List.set_cons_succ]
    refine take_at 25 109 (oi := ?o21) (v := ?v21) ?hi21 ?hd21 (by kernel_rfl) (by kernel_rfl) (by kernel_rfl) ?hQ21 ?hw21 ?hy21 (by assumption) ?rest21
    case hi21 => simp only [List.getElem?_toArray, List.getElem?_cons_succ, List.getElem?_cons_zero]; rfl
    case hd21 => rfl
    case hw21 => kernel_rfl
    case hy21 => intro W hW; (try dsimp only at hW); go_simp <;> with_reducible rfl
    case hQ21 => exact fun _ _ _ h => h
    try simp only [Act.put, List.setIfInBounds_toArray, List.set_cons_zero, List.set_cons_succ]
    refine take_at 26 110 (oi := ?o22) (v := ?v22) ?hi22 ?hd22 (by kernel_rfl) (by kernel_rfl) (by kernel_rfl) ?hQ22 ?hw22 ?hy22 (by assumption) ?rest22
    case hi22 => simp only [List.getElem?_toArray, List.getElem?_cons_succ, List.getElem?_cons_zero]; rfl
    case hd22 => rfl
    case hw22 => kernel_rfl
    case hy22 => intro W hW; (try dsimp only at hW); go_simp <;> with_reducible rfl
    case hQ22 => exact fun _ _ _ h => h
    try simp only [Act.put, List.setIfInBounds_toArray, List.set_cons_zero, List.set_cons_succ]
    refine wpAnyH_ready (rs := [20]) (by kernel_rfl) (by simp) ?_
    refine AllReadyH.cons rfl (fun K hK => ?_) AllReadyH.nil
    go_simp
    refine (CloneS_any _ Q _ (HIW.out.below HF3.out) (by omega)).mono ?_
    rintro e q4 ⟨v4, rfl, ho, hb⟩
    have HF4 := Lib.hid (HF3.out.trans (hb.mono HF3.out.size))
    have HQ4 := Lib.hid (IsSl.of_owns (xs := Q.map vS) (by rw [List.length_map]; exact ho) (by rw [List.length_map]; unfold maxLen; omega))
    obtain ⟨v4a, v4k, rfl⟩ := own_form ho
    clear hb ho
    refine hK.out _ _ (HS.out _ HF4.out) (fun hHeld => ?_)
    clear hK K
    try simp only [Act.put, List.setIfInBounds_toArray, List.set_cons_zero, List.set_cons_succ]
    refine wpAnyH_ready (rs := [21]) (by kernel_rfl) (by simp) ?_
    refine AllReadyH.cons rfl (fun K hK => ?_) AllReadyH.nil
    go_simp
    refine (HI2.out _ _ HF4.out HQ4.out).mono ?_
    rintro e q5 ⟨rfl, hb⟩
    have HF5 := Lib.hid (HF4.out.trans (hb.mono HF4.out.size))
    clear hb
    refine hK.out _ _ (HS.out _ HF5.out) (fun hHeld => ?_)
    clear hK K
    try simp only [Act.put, List.setIfInBounds_toArray, List.set_cons_zero, List.set_cons_succ]
    have HQ5 := Lib.hid (HIW.out.below HF5.out)
    refine wpAnyH_ready (rs := [27]) (by kernel_rfl) (by simp) ?_
    refine AllReadyH.cons rfl (fun K hK => ?_) AllReadyH.nil
    go_simp
    refine (HR2.out _ _ HF5.out HQ5.out).mono ?_
    rintro e q6 ⟨rfl, hb⟩
    have HF6 := Lib.hid (HF5.out.trans (hb.mono HF5.out.size))
    clear hb
    refine hK.out _ _ (HS.out _ HF6.out) (fun hHeld => ?_)
    clear hK K
    try simp only [Act.put, List.setIfInBounds_toArray, List.set_cons_zero, List.set_cons_succ]
    refine take_at 28 112 (oi := ?o23) (v := ?v23) ?hi23 ?hd23 (by kernel_rfl) (by kernel_rfl) (by kernel_rfl) ?hQ23 ?hw23 ?hy23 (by assumption) ?rest23
    case hi23 => simp only [List.getElem?_toArray, List.getElem?_cons_succ, List.getElem?_cons_zero]; rfl
    case hd23 => rfl
    case hw23 => kernel_rfl
    case hy23 => intro W hW; (try dsimp only at hW); go_simp <;> with_reducible rfl
    case hQ23 => exact fun _ _ _ h => h
    try simp only [Act.put, List.setIfInBounds_toArray, List.set_cons_zero, List.set_cons_succ]
    refine take_at 29 113 (oi := ?o24) (v := ?v24) ?hi24 ?hd24 (by kernel_rfl) (by kernel_rfl) (by kernel_rfl) ?hQ24 ?hw24 ?hy24 (by assumption) ?rest24
    case hi24 => simp only [List.getElem?_toArray, List.getElem?_cons_succ, List.getElem?_cons_zero]; rfl
    case hd24 => rfl
    case hw24 => kernel_rfl
    case hy24 => intro W hW; (try dsimp only at hW); go_simp <;> with_reducible rfl
    case hQ24 => exact fun _ _ _ h => h
    try simp only [Act.put, List.setIfInBounds_toArray, List.set_cons_zero, List.set_cons_succ]
    refine take_at 30 2 (oi := ?o25) (v := ?v25) ?hi25 ?hd25 (by kernel_rfl) (by kernel_rfl) (by kernel_rfl) ?hQ25 ?hw25 ?hy25 (by assumption) ?rest25
    case hi25 => simp only [List.getElem?_toArray, List.getElem?_cons_succ, List.getElem?_cons_zero]; rfl
    case hd25 => rfl
    case hw25 => kernel_rfl
    case hy25 => intro W hW; (try dsimp only at hW); go_simp <;> with_reducible rfl
    case hQ25 => exact fun _ _ _ h => h
    try simp only [Act.put, List.setIfInBounds_toArray, List.set_cons_zero, List.set_cons_succ]
    refine wpAnyH_done (by kernel_rfl) ?_ _
    simp only [Exit.then]
    go_wp2
    go_ret
    exact ⟨rfl, HBW.out.next HF6.out⟩
  · have d5 : decide ((128 : Int) ≤ (how : Int)) = false := by simp; omega
    have hxl := hyl
    go_upto_region 12 with fail
    clear k0 k1 k2 k3 k4 k5 k6 hcc d5
    have HI1 := Lib.hid (fun u V (hb : Below W.heap.size W V) (hu : IsSl u (Q.map vS) V) => Incl_any _ u (L.length : Int) (peaksOf L) idx y Q V (HMW.out.below hb) hu hxl (ht.same (HBW.out.next hb)))
    have HI2 := Lib.hid (fun u V (hb : Below W.heap.size W V) (hu : IsSl u (Q.map vS) V) => Incl_any _ u (L.length : Int) (peaksOf L) (j : Int) y Q V (HMW.out.below hb) hu hxl (ht.same (HBW.out.next hb)))
    have HR1 := Lib.hid (fun u V (hb : Below W.heap.size W V) (hu : IsSl u (Q.map vS) V) => RIncl_any _ u (L.length : Int) (peaksOf L) idx y Q V (HMW.out.below hb) hu hxl)
    have HR2 := Lib.hid (fun u V (hb : Below W.heap.size W V) (hu : IsSl u (Q.map vS) V) => RIncl_any _ u (L.length : Int) (peaksOf L) (j : Int) y Q V (HMW.out.below hb) hu hxl)
    obtain ⟨G1, hG1⟩ : ∃ G, inclB (L.length : Int) (peaksOf L) idx y Q = G := ⟨_, rfl⟩
    obtain ⟨G2, hG2⟩ : ∃ G, inclB (L.length : Int) (peaksOf L) (j : Int) y Q = G := ⟨_, rfl⟩
    rw [hG1] at HI1 HR1
    rw [hG2] at HI2 HR2
    clear hG1 hG2
    refine wp_region_held_drew (S := (fun W : World => (W.cell? ⟨w.heap.size, 2, none⟩ = some (.int .i64 idx) ∧ W.cell? ⟨w.heap.size, 3, none⟩ = some (.int .i64 (j : Int))) ∧ W.cell? ⟨D, 0, none⟩ = some (.int .i64 (L.length : Int)) ∧ W.cell? ⟨D, 1, none⟩ = some (.slice ma (peaksOf L).length mc))) (by kernel_rfl) (HS.out _ (dr (Below.refl _ _))) (fun hHeld => ?_)
    have HF0 := Lib.hid (show Below W.heap.size W W.drew from dr (Below.refl _ _))
    refine take_at 0 84 (oi := ?o26) (v := ?v26) ?hi26 ?hd26 (by kernel_rfl) (by kernel_rfl) (by kernel_rfl) ?hQ26 ?hw26 ?hy26 (by assumption) ?rest26
    case hi26 => simp only [List.getElem?_toArray, List.getElem?_cons_zero]; rfl
    case hd26 => rfl
    case hw26 => kernel_rfl
    case hy26 => intro W hW; (try dsimp only at hW); go_simp <;> with_reducible rfl
    case hQ26 => exact fun _ _ _ h => h
    try simp only [Act.put, List.setIfInBounds_toArray, List.set_cons_zero, List.set_cons_succ]
    refine take_at 1 85 (oi := ?o27) (v := ?v27) ?hi27 ?hd27 (by kernel_rfl) (by kernel_rfl) (by kernel_rfl) ?hQ27 ?hw27 ?hy27 (by assumption) ?rest27
    case hi27 => simp only [List.getElem?_toArray, List.getElem?_cons_succ, List.getElem?_cons_zero]; rfl
    case hd27 => rfl
    case hw27 => kernel_rfl
    case hy27 => intro W hW; (try dsimp only at hW); go_simp <;> with_reducible rfl
    case hQ27 => exact fun _ _ _ h => h
    try simp only [Act.put, List.setIfInBounds_toArray, List.set_cons_zero, List.set_cons_succ]
    refine take_at 2 86 (oi := ?o28) (v := ?v28) ?hi28 ?hd28 (by kernel_rfl) (by kernel_rfl) (by kernel_rfl) ?hQ28 ?hw28 ?hy28 (by assumption) ?rest28
    case hi28 => simp only [List.getElem?_toArray, List.getElem?_cons_succ, List.getElem?_cons_zero]; rfl
    case hd28 => rfl
    case hw28 => kernel_rfl
    case hy28 => intro W hW; (try dsimp only at hW); go_simp <;> with_reducible rfl
    case hQ28 => exact fun _ _ _ h => h
    try simp only [Act.put, List.setIfInBounds_toArray, List.set_cons_zero, List.set_cons_succ]
    refine take_at 3 87 (oi := ?o29) (v := ?v29) ?hi29 ?hd29 (by kernel_rfl) (by kernel_rfl) (by kernel_rfl) ?hQ29 ?hw29 ?hy29 (by assumption) ?rest29
    case hi29 => simp only [List.getElem?_toArray, List.getElem?_cons_succ, List.getElem?_cons_zero]; rfl
    case hd29 => rfl
    case hw29 => kernel_rfl
    case hy29 => intro W hW; (try dsimp only at hW); go_simp <;> with_reducible rfl
    case hQ29 => exact fun _ _ _ h => h
    try simp only [Act.put, List.setIfInBounds_toArray, List.set_cons_zero, List.set_cons_succ]
    refine take_at 4 88 (oi := ?o30) (v := ?v30) ?hi30 ?hd30 (by kernel_rfl) (by kernel_rfl) (by kernel_rfl) ?hQ30 ?hw30 ?hy30 (by assumption) ?rest30
    case hi30 => simp only [List.getElem?_toArray, List.getElem?_cons_succ, List.getElem?_cons_zero]; rfl
    case hd30 => rfl
    case hw30 => kernel_rfl
    case hy30 => intro W hW; (try dsimp only at hW); go_simp <;> with_reducible rfl
    case hQ30 => exact fun _ _ _ h => h
    try simp only [Act.put, List.setIfInBounds_toArray, List.set_cons_zero, List.set_cons_succ]
    refine take_at 7 91 (oi := ?o31) (v := ?v31) ?hi31 ?hd31 (by kernel_rfl) (by kernel_rfl) (by kernel_rfl) ?hQ31 ?hw31 ?hy31 (by assumption) ?rest31
    case hi31 => simp only [List.getElem?_toArray, List.getElem?_cons_succ, List.getElem?_cons_zero]; rfl
    case hd31 => rfl
    case hw31 => kernel_rfl
    case hy31 => intro W hW; (try dsimp only at hW); go_simp <;> with_reducible rfl
    case hQ31 => exact fun _ _ _ h => h
    try simp only [Act.put, List.setIfInBounds_toArray, List.set_cons_zero, List.set_cons_succ]
    refine take_at 8 92 (oi := ?o32) (v := ?v32) ?hi32 ?hd32 (by kernel_rfl) (by kernel_rfl) (by kernel_rfl) ?hQ32 ?hw32 ?hy32 (by assumption) ?rest32
    case hi32 => simp only [List.getElem?_toArray, List.getElem?_cons_succ, List.getElem?_cons_zero]; rfl
    case hd32 => rfl
    case hw32 => kernel_rfl
    case hy32 => intro W hW; (try dsimp only at hW); go_simp <;> with_reducible rfl
    case hQ32 => exact fun _ _ _ h => h
    try simp only [Act.put, List.setIfInBounds_toArray, List.set_cons_zero, List.set_cons_succ]
    refine take_at 9 93 (oi := ?o33) (v := ?v33) ?hi33 ?hd33 (by kernel_rfl) (by kernel_rfl) (by kernel_rfl) ?hQ33 ?hw33 ?hy33 (by assumption) ?rest33
    case hi33 => simp only [List.getElem?_toArray, List.getElem?_cons_succ, List.getElem?_cons_zero]; rfl
    case hd33 => rfl
    case hw33 => kernel_rfl
    case hy33 => intro W hW; (try dsimp only at hW); go_simp <;> with_reducible rfl
    case hQ33 => exact fun _ _ _ h => h
    try simp only [Act.put, List.setIfInBounds_toArray, List.set_cons_zero, List.set_cons_succ]
    refine take_at 10 94 (oi := ?o34) (v := ?v34) ?hi34 ?hd34 (by kernel_rfl) (by kernel_rfl) (by kernel_rfl) ?hQ34 ?hw34 ?hy34 (by assumption) ?rest34
    case hi34 => simp only [List.getElem?_toArray, List.getElem?_cons_succ, List.getElem?_cons_zero]; rfl
    case hd34 => rfl
    case hw34 => kernel_rfl
    case hy34 => intro W hW; (try dsimp only at hW); go_simp <;> with_reducible rfl
    case hQ34 => exact fun _ _ _ h => h
    try simp only [Act.put, List.setIfInBounds_toArray, List.set_cons_zero, List.set_cons_succ]
    refine take_at 11 95 (oi := ?o35) (v := ?v35) ?hi35 ?hd35 (by kernel_rfl) (by kernel_rfl) (by kernel_rfl) ?hQ35 ?hw35 ?hy35 (by assumption) ?rest35
    case hi35 => simp only [List.getElem?_toArray, List.getElem?_cons_succ, List.getElem?_cons_zero]; rfl
    case hd35 => rfl
    case hw35 => kernel_rfl
    case hy35 => intro W hW; (try dsimp only at hW); go_simp <;> with_reducible rfl
    case hQ35 => exact fun _ _ _ h => h
    try simp only [Act.put, List.setIfInBounds_toArray, List.set_cons_zero, List.set_cons_succ]
    refine wpAnyH_ready (rs := [5]) (by kernel_rfl) (by simp) ?_
    refine AllReadyH.cons rfl (fun K hK => ?_) AllReadyH.nil
    go_simp
    refine (CloneS_any _ Q _ (HIW.out.below HF0.out) (by omega)).mono ?_
    rintro e q1 ⟨v1, rfl, ho, hb⟩
    have HF1 := Lib.hid (HF0.out.trans (hb.mono HF0.out.size))
    have HQ1 := Lib.hid (IsSl.of_owns (xs := Q.map vS) (by rw [List.length_map]; exact ho) (by rw [List.length_map]; unfold maxLen; omega))
    obtain ⟨v1a, v1k, rfl⟩ := own_form ho
    clear hb ho
    refine hK.out _ _ (HS.out _ HF1.out) (fun hHeld => ?_)
    clear hK K
    try simp only [Act.put, List.setIfInBounds_toArray, List.set_cons_zero, List.set_cons_succ]
    refine wpAnyH_ready (rs := [6]) (by kernel_rfl) (by simp) ?_
    refine AllReadyH.cons rfl (fun K hK => ?_) AllReadyH.nil
    go_simp
    refine (HI1.out _ _ HF1.out HQ1.out).mono ?_
    rintro e q2 ⟨rfl, hb⟩
    have HF2 := Lib.hid (HF1.out.trans (hb.mono HF1.out.size))
    clear hb
    refine hK.out _ _ (HS.out _ HF2.out) (fun hHeld => ?_)
    clear hK K
    try simp only [Act.put, List.setIfInBounds_toArray, List.set_cons_zero, List.set_cons_succ]
    have HQ2 := Lib.hid (HIW.out.below HF2.out)
    refine wpAnyH_ready (rs := [12]) (by kernel_rfl) (by simp) ?_
    refine AllReadyH.cons rfl (fun K hK => ?_) AllReadyH.nil
    go_simp
    refine (HR1.out _ _ HF2.out HQ2.out).mono ?_
    rintro e q3 ⟨rfl, hb⟩
    have HF3 := Lib.hid (HF2.out.trans (hb.mono HF2.out.size))
    clear hb
    refine hK.out _ _ (HS.out _ HF3.out) (fun hHeld => ?_)
    clear hK K
    try simp only [Act.put, List.setIfInBounds_toArray, List.set_cons_zero, List.set_cons_succ]
    refine take_at 13 97 (oi := ?o36) (v := ?v36) ?hi36 ?hd36 (by kernel_rfl) (by kernel_rfl) (by kernel_rfl) ?hQ36 ?hw36 ?hy36 (by assumption) ?rest36
    case hi36 => simp only [List.getElem?_toArray, List.getElem?_cons_succ, List.getElem?_cons_zero]; rfl
    case hd36 => rfl
    case hw36 => kernel_rfl
    case hy36 => intro W hW; (try dsimp only at hW); go_simp <;> with_reducible rfl
    case hQ36 => exact fun _ _ _ h => h
    try simp only [Act.put, List.setIfInBounds_toArray, List.set_cons_zero, List.set_cons_succ]
    refine take_at 14 98 (oi := ?o37) (v := ?v37) ?hi37 ?hd37 (by kernel_rfl) (by kernel_rfl) (by kernel_rfl) ?hQ37 ?hw37 ?hy37 (by assumption) ?rest37
    case hi37 => simp only [List.getElem?_toArray, List.getElem?_cons_succ, List.getElem?_cons_zero]; rfl
    case hd37 => rfl
    case hw37 => kernel_rfl
    case hy37 => intro W hW; (try dsimp only at hW); go_simp <;> with_reducible rfl
    case hQ37 => exact fun _ _ _ h => h
    try simp only [Act.put, List.setIfInBounds_toArray, List.set_cons_zero, List.set_cons_succ]
    refine take_at 15 99 (oi := ?o38) (v := ?v38) ?hi38 ?hd38 (by kernel_rfl) (by kernel_rfl) (by kernel_rfl) ?hQ38 ?hw38 ?hy38 (by assumption) ?rest38
    case hi38 => simp only [List.getElem?_toArray, List.getElem?_cons_succ, List.getElem?_cons_zero]; rfl
    case hd38 => rfl
    case hw38 => kernel_rfl
    case hy38 => intro W hW; (try dsimp only at hW); go_simp <;> with_reducible rfl
    case hQ38 => exact fun _ _ _ h => h
    try simp only [Act.put, List.setIfInBounds_toArray, List.set_cons_zero, List.set_cons_succ]
    refine take_at 16 100 (oi := ?o39) (v := ?v39) ?hi39 ?hd39 (by kernel_rfl) (by kernel_rfl) (by kernel_rfl) ?hQ39 ?hw39 ?hy39 (by assumption) ?rest39
    case hi39 => simp only [List.getElem?_toArray, List.getElem?_cons_succ, List.getElem?_cons_zero]; rfl
    case hd39 => rfl
    case hw39 => kernel_rfl
    case hy39 => intro W hW; (try dsimp only at hW); go_simp <;> with_reducible rfl
    case hQ39 => exact fun _ _ _ h => h
    try simp only [Act.put, List.setIfInBounds_toArray, List.set_cons_zero, List.set_cons_succ]
    refine take_at 17 101 (oi := ?o40) (v := ?v40) ?hi40 ?hd40 (by kernel_rfl) (by kernel_rfl) (by kernel_rfl) ?hQ40 ?hw40 ?hy40 (by assumption) ?rest40
    case hi40 => simp only [List.getElem?_toArray, List.getElem?_cons_succ, List.getElem?_cons_zero]; rfl
    case hd40 => rfl
    case hw40 => kernel_rfl
    case hy40 => intro W hW; (try dsimp only at hW); go_simp <;> with_reducible rfl
    case hQ40 => exact fun _ _ _ h => h
    try simp only [Act.put, List.setIfInBounds_toArray, List.set_cons_zero, List.set_cons_succ]
    refine take_at 18 102 (oi := ?o41) (v := ?v41) ?hi41 ?hd41 (by kernel_rfl) (by kernel_rfl) (by kernel_rfl) ?hQ41 ?hw41 ?hy41 (by assumption) ?rest41
    case hi41 => simp only [List.getElem?_toArray, List.getElem?_cons_succ, List.getElem?_cons_zero]; rfl
    case hd41 => rfl
    case hw41 => kernel_rfl
    case hy41 => intro W hW; (try dsimp only at hW); go_simp <;> with_reducible rfl
    case hQ41 => exact fun _ _ _ h => h
    try simp only [Act.put, List.setIfInBounds_toArray, List.set_cons_zero, List.set_cons_succ]
    refine take_at 19 103 (oi := ?o42) (v := ?v42) ?hi42 ?hd42 (by kernel_rfl) (by kernel_rfl) (by kernel_rfl) ?hQ42 ?hw42 ?hy42 (by assumption) ?rest42
    case hi42 => simp only [List.getElem?_toArray, List.getElem?_cons_succ, List.getElem?_cons_zero]; rfl
    case hd42 => rfl
    case hw42 => kernel_rfl
    case hy42 => intro W hW; (try dsimp only at hW); go_simp <;> with_reducible rfl
    case hQ42 => exact fun _ _ _ h => h
    try simp only [Act.put, List.setIfInBounds_toArray, List.set_cons_zero, List.set_cons_succ]
    refine take_at 22 106 (oi := ?o43) (v := ?v43) ?hi43 ?hd43 (by kernel_rfl) (by kernel_rfl) (by kernel_rfl) ?hQ43 ?hw43 ?hy43 (by assumption) ?rest43
    case hi43 => simp only [List.getElem?_toArray, List.getElem?_cons_succ, List.getElem?_cons_zero]; rfl
    case hd43 => rfl
    case hw43 => kernel_rfl
    case hy43 => intro W hW; (try dsimp only at hW); go_simp <;> with_reducible rfl
    case hQ43 => exact fun _ _ _ h => h
    try simp only [Act.put, List.setIfInBounds_toArray, List.set_cons_zero, List.set_cons_succ]
    refine take_at 23 107 (oi := ?o44) (v := ?v44) ?hi44 ?hd44 (by kernel_rfl) (by kernel_rfl) (by kernel_rfl) ?hQ44 ?hw44 ?hy44 (by assumption) ?rest44
    case hi44 => simp only [List.getElem?_toArray, List.getElem?_cons_succ, List.getElem?_cons_zero]; rfl
    case hd44 => rfl
    case hw44 => kernel_rfl
    case hy44 => intro W hW; (try dsimp only at hW); go_simp <;> with_reducible rfl
    case hQ44 => exact fun _ _ _ h => h
    try simp only [Act.put, List.setIfInBounds_toArray, List.set_cons_zero, List.set_cons_succ]
    refine take_at 24 108 (oi := ?o45) (v := ?v45) ?hi45 ?hd45 (by kernel_rfl) (by kernel_rfl) (by kernel_rfl) ?hQ45 ?hw45 ?hy45 (by assumption) ?rest45
    case hi45 => simp only [List.getElem?_toArray, List.getElem?_cons_succ, List.getElem?_cons_zero]; rfl
    case hd45 => rfl
    case hw45 => kernel_rfl
    case hy45 => intro W hW; (try dsimp only at hW); go_simp <;> with_reducible rfl
    case hQ45 => exact fun _ _ _ h => h
    try simp only [Act.put, List.setIfInBounds_toArray, List.set_cons_zero, List.set_cons_succ]
    refine take_at 25 109 (oi := ?o46) (v := ?v46) ?hi46 ?hd46 (by kernel_rfl) (by kernel_rfl) (by kernel_rfl) ?hQ46 ?hw46 ?hy46 (by assumption) ?rest46
    case hi46 => simp only [List.getElem?_toArray, List.getElem?_cons_succ, List.getElem?_cons_zero]; rfl
    case hd46 => rfl
    case hw46 => kernel_rfl
    case hy46 => intro W hW; (try dsimp only at hW); go_simp <;> with_reducible rfl
    case hQ46 => exact fun _ _ _ h => h
    try simp only [Act.put, List.setIfInBounds_toArray, List.set_cons_zero, List.set_cons_succ]
    refine take_at 26 110 (oi := ?o47) (v := ?v47) ?hi47 ?hd47 (by kernel_rfl) (by kernel_rfl) (by kernel_rfl) ?hQ47 ?hw47 ?hy47 (by assumption) ?rest47
    case hi47 => simp only [List.getElem?_toArray, List.getElem?_cons_succ, List.getElem?_cons_zero]; rfl
    case hd47 => rfl
    case hw47 => kernel_rfl
    case hy47 => intro W hW; (try dsimp only at hW); go_simp <;> with_reducible rfl
    case hQ47 => exact fun _ _ _ h => h
    try simp only [Act.put, List.setIfInBounds_toArray, List.set_cons_zero, List.set_cons_succ]
    refine wpAnyH_ready (rs := [20]) (by kernel_rfl) (by simp) ?_
    refine AllReadyH.cons rfl (fun K hK => ?_) AllReadyH.nil
    go_simp
    refine (CloneS_any _ Q _ (HIW.out.below HF3.out) (by omega)).mono ?_
    rintro e q4 ⟨v4, rfl, ho, hb⟩
    have HF4 := Lib.hid (HF3.out.trans (hb.mono HF3.out.size))
    have HQ4 := Lib.hid (IsSl.of_owns (xs := Q.map vS) (by rw [List.length_map]; exact ho) (by rw [List.length_map]; unfold maxLen; omega))
    obtain ⟨v4a, v4k, rfl⟩ := own_form ho
    clear hb ho
    refine hK.out _ _ (HS.out _ HF4.out) (fun hHeld => ?_)
    clear hK K
    try simp only [Act.put, List.setIfInBounds_toArray, List.set_cons_zero, List.set_cons_succ]
    refine wpAnyH_ready (rs := [21]) (by kernel_rfl) (by simp) ?_
    refine AllReadyH.cons rfl (fun K hK => ?_) AllReadyH.nil
    go_simp
    refine (HI2.out _ _ HF4.out HQ4.out).mono ?_
    rintro e q5 ⟨rfl, hb⟩
    have HF5 := Lib.hid (HF4.out.trans (hb.mono HF4.out.size))
    clear hb
    refine hK.out _ _ (HS.out _ HF5.out) (fun hHeld => ?_)
    clear hK K
    try simp only [Act.put, List.setIfInBounds_toArray, List.set_cons_zero, List.set_cons_succ]
    have HQ5 := Lib.hid (HIW.out.below HF5.out)
    refine wpAnyH_ready (rs := [27]) (by kernel_rfl) (by simp) ?_
    refine AllReadyH.cons rfl (fun K hK => ?_) AllReadyH.nil
    go_simp
    refine (HR2.out _ _ HF5.out HQ5.out).mono ?_
    rintro e q6 ⟨rfl, hb⟩
    have HF6 := Lib.hid (HF5.out.trans (hb.mono HF5.out.size))
    clear hb
    refine hK.out _ _ (HS.out _ HF6.out) (fun hHeld => ?_)
    clear hK K
    try simp only [Act.put, List.setIfInBounds_toArray, List.set_cons_zero, List.set_cons_succ]
    refine take_at 28 112 (oi := ?o48) (v := ?v48) ?hi48 ?hd48 (by kernel_rfl) (by kernel_rfl) (by kernel_rfl) ?hQ48 ?hw48 ?hy48 (by assumption) ?rest48
    case hi48 => simp only [List.getElem?_toArray, List.getElem?_cons_succ, List.getElem?_cons_zero]; rfl
    case hd48 => rfl
    case hw48 => kernel_rfl
    case hy48 => intro W hW; (try dsimp only at hW); go_simp <;> with_reducible rfl
    case hQ48 => exact fun _ _ _ h => h
    try simp only [Act.put, List.setIfInBounds_toArray, List.set_cons_zero, List.set_cons_succ]
    refine take_at 29 113 (oi := ?o49) (v := ?v49) ?hi49 ?hd49 (by kernel_rfl) (by kernel_rfl) (by kernel_rfl) ?hQ49 ?hw49 ?hy49 (by assumption) ?rest49
    case hi49 => simp only [List.getElem?_toArray, List.getElem?_cons_succ, List.getElem?_cons_zero]; rfl
    case hd49 => rfl
    case hw49 => kernel_rfl
    case hy49 => intro W hW; (try dsimp only at hW); go_simp <;> with_reducible rfl
    case hQ49 => exact fun _ _ _ h => h
    try simp only [Act.put, List.setIfInBounds_toArray, List.set_cons_zero, List.set_cons_succ]
    refine take_at 30 2 (oi := ?o50) (v := ?v50) ?hi50 ?hd50 (by kernel_rfl) (by kernel_rfl) (by kernel_rfl) ?hQ50 ?hw50 ?hy50 (by assumption) ?rest50
    case hi50 => simp only [List.getElem?_toArray, List.getElem?_cons_succ, List.getElem?_cons_zero]; rfl
    case hd50 => rfl
    case hw50 => kernel_rfl
    case hy50 => intro W hW; (try dsimp only at hW); go_simp <;> with_reducible rfl
    case hQ50 => exact fun _ _ _ h => h
    try simp only [Act.put, List.setIfInBounds_toArray, List.set_cons_zero, List.set_cons_succ]
    refine wpAnyH_done (by kernel_rfl) ?_ _
    simp only [Exit.then]
    go_wp2
    go_ret
    exact ⟨rfl, HBW.out.next HF6.out⟩
set_option maxRecDepth 100000 in
theorem contract (H : Type) (enc : TypeId × Value → H) (W : World) (base : Nat) (args : Array Value) (ds gs : List (DataW H)) (before : List MemPlace)
    (hval : ∀ (j : Nat) t v, Tryd.f4.params[j]? = some t → args[j]? = some v → Value.okWide Tryd.prog W .any base t v)
    (hW : DataW.Whole enc Tryd.prog Tryd.f4.params.toList Rows.mountainIncludedSpec.vars false W args.toList ds gs before) (hL : laidMetH Tryd.prog Rows.mountainIncludedRow.laid W) :
    Calls Tryd.prog 4 args W fun e W' => ∃ v, e = .returned v ∧ Rows.mountainIncludedSpec.post enc Tryd.prog Tryd.f4 false true false false W args v W' := by
  have hW' := hW
  obtain ⟨p, q, hA0, hV, rfl, hfz, hnd⟩ := hW
  have hA : DataW.TrodAll enc Tryd.prog W 0 (fun _ => true) true Tryd.f4.params.toList args.toList ds p := hA0
  rw [Tryd.params4] at hA hval
  obtain ⟨v0, vs0, d0, ds0, p0, q0, hargs, rfl, rfl, h0, r0⟩ := trodAll_cons hA
  obtain ⟨rfl, rfl, rfl⟩ := trodAll_nil r0
  obtain rfl : args = #[v0] := by cases args; simp_all
  obtain ⟨rfl, rfl⟩ := trodVars_none hV
  obtain ⟨seed, count, idx, fr, how, at_, leaf, rfl, _, hl, hc, hh, hat⟩ := claim_in (hval 0 36 v0 rfl rfl) h0
  refine (walk seed leaf count how at_ idx fr W hl hc hh hat (tab_of hL) (tz_of hL)).mono fun e W' ⟨he, hb⟩ => ⟨_, he, ?_⟩
  exact law_post hW' rfl (by kernel_rfl) (by kernel_rfl) rfl hb

theorem laid_met (os : Os) : laidMet Tryd.prog Rows.mountainIncludedRow.laid ((laidWorld os).forCall (fun _ _ => 0) ⟨#[], #[.agg #[.string ⟨#[]⟩, .int .u8 0, .int .i64 0, .int .i64 0, .int .u8 0, .int .u8 0, .string ⟨#[]⟩]], []⟩).memory :=
  laidMet_of_run' 8 (by kernel_rfl) (by kernel_rfl)
theorem reads (os : Os) {H : Type} (enc : TypeId × Value → H) : ∃ places, DataW.whole enc Tryd.prog ((laidWorld os).forCall (fun _ _ => 0) ⟨#[], #[.agg #[.string ⟨#[]⟩, .int .u8 0, .int .i64 0, .int .i64 0, .int .u8 0, .int .u8 0, .string ⟨#[]⟩]], []⟩).memory Tryd.f4.params.toList Rows.mountainIncludedSpec.vars false (#[.agg #[.string ⟨#[]⟩, .int .u8 0, .int .i64 0, .int .i64 0, .int .u8 0, .int .u8 0, .string ⟨#[]⟩]] : Array Value).toList 8 = some ([.agg [.lit (.string []), .lit (.int .u8 0), .lit (.int .i64 0), .lit (.int .i64 0), .lit (.int .u8 0), .lit (.int .u8 0), .lit (.string [])]], [], places) :=
  ⟨[], by kernel_rfl⟩

set_option maxRecDepth 100000 in
theorem lifted (os : Os) (started : os.Started) (H : Type) (enc : TypeId × Value → H) (F : Stop.Interp) :
    ReturnsInHanded {} Tryd.checked os 4 .any ((OpenSpec.ofChange Rows.mountainIncludedSpec).preRow enc Tryd.prog Tryd.f4 Rows.mountainIncludedRow.domain false Rows.mountainIncludedRow.laid) (((OpenSpec.ofChange Rows.mountainIncludedSpec).at F).post enc Tryd.prog Tryd.f4 false true false false) := by
  obtain ⟨places, hx⟩ := reads os enc
  refine returnsInHanded_of_row (C := Tryd.checked) (s := OpenSpec.ofChange Rows.mountainIncludedSpec) own started (by kernel_rfl) Tryd.func4
    (witness_row_at (enc := enc) (C := Tryd.checked) false (laidWorld os) #[.agg #[.string ⟨#[]⟩, .int .u8 0, .int .i64 0, .int .i64 0, .int .u8 0, .int .u8 0, .string ⟨#[]⟩]] rfl (by kernel_rfl) (by kernel_rfl) (by kernel_rfl)
      (OpenSpec.preRow_of_cond 8 hx (by kernel_rfl) (fun k hk => by cases hk) (by kernel_rfl) (laid_met os))) ?_
  intro W base args ds gs before hval hW _ _ _ hL _ _
  exact contract H enc W base args ds gs before hval hW hL

set_option maxRecDepth 100000 in
theorem said : Rows.MountainIncludedSaid :=
  OpenClaim.holds_of_cond 4 Tryd.f4 rfl rfl rfl rfl rfl rfl rfl ⟨rfl, rfl, rfl, rfl, rfl⟩ rfl rfl rfl rfl rfl (by kernel_rfl) Tryd.func4 (by kernel_rfl)
    (of_decide_eq_true (by kernel_rfl)) (by unfold Func.isWrapper; first | (rw [if_pos (by decide +kernel)]; kernel_rfl) | (rw [if_neg (by decide +kernel)]; exact ⟨rfl, rfl⟩))
    (fun os started H enc _ F => by rw [OpenClaim.pre_eq_preRow]; exact lifted os started H enc F)

/-- No parameter wants a stand-in; the program's own looks are off. -/
theorem plain (f : FuncId) (fn : Func) (hf : Tryd.pinned.checked.prog.funcNamed "licit/licitlaw49.MountainIncluded" = some f) (hfn : Tryd.pinned.checked.prog.funcs[f]? = some fn) :
    false = Tryd.pinned.checked.prog.looks [] ∧ ∀ (j : Nat) t, fn.params[j]? = some t → Tryd.pinned.checked.prog.wantsStandIn t = false := by
  obtain rfl : f = 4 := Option.some.inj ((show Tryd.prog.funcNamed "licit/licitlaw49.MountainIncluded" = some 4 by kernel_rfl).symm.trans hf) |>.symm
  obtain rfl : fn = Tryd.f4 := (Option.some.inj (Tryd.func4.symm.trans hfn)).symm
  refine ⟨by kernel_rfl, fun j t ht => ?_⟩
  have hall : Tryd.f4.params.toList.all (fun t => !Tryd.prog.wantsStandIn t) = true := by kernel_rfl
  have := List.all_eq_true.1 hall t (Array.mem_toList_iff.2 (Array.mem_of_getElem? ht))
  exact (by simpa using this : Tryd.prog.wantsStandIn t = false)

theorem card : Rows.MountainIncludedCardSaid :=
  Claim7.holds_tied_plain_at .later [] _ _ _ _ said (fun _ h => by cases h) (by kernel_rfl) (fun _ h => by cases h) mountainIncluded_row_tie rfl ⟨rfl, rfl⟩ (by kernel_rfl) rfl plain (by kernel_rfl)

end Go.Proofs.YtfklmjcjjdliiaaDoor.lawIncluded
