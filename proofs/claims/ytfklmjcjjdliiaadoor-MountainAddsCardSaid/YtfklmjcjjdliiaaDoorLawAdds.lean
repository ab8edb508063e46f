/- The card of MountainAdds is proved: for every range and leaf the law returns true; the conditions are those of the given row. -/
import Derived.Test.YtfklmjcjjdliiaaDoorLawKit49
namespace Go.Proofs.YtfklmjcjjdliiaaDoor.lawAdds
open Go Go.RowKit Licit
open Go.ChangeShapes Go.WideShapes Go.ChangeAt

set_option maxHeartbeats 8000000 in
set_option maxRecDepth 100000 in
theorem walk (v : Value) (s : Int) (P : List Bs) (x : Bs) (w : World) (hv : MtIs v s P w) (ht : Tab w) (hz : Tz w) :
    Calls Tryd.prog 7 #[v, .string (B x)] w fun e w' => e = .returned (.bool true) ∧ Below w.heap.size w w' := by
  have HA := Lib.hid (fun W (hb : Below w.heap.size w W) => awake_any49 W (ht.same hb) (hz.same hb))
  have HV := Lib.hid hv
  have hxz : ((B x).size : Int) = (x.length : Int) := rfl
  obtain ⟨p, rfl, hp, _⟩ := hv
  have HP := Lib.hid hp
  obtain ⟨a, c, rfl⟩ := hp.formMap
  have HBx := Lib.hid ((Below.refl w.heap.size w).alloc (Nat.le_refl _) (.cells #[.int .i64 s, .slice a P.length c] 31))
  have HXx := Lib.hid (new_of w (.cells #[.int .i64 s, .slice a P.length c] 31))
  obtain ⟨F, hF⟩ : ∃ F, fewM 30 P = F := ⟨_, rfl⟩
  have HFw := Lib.hid (fun W (hb : Below w.heap.size w W) => FewM_any _ P 30 W (HP.out.below hb))
  rw [hF] at HFw
  have HFF := Lib.hid hF
  clear hF hp
  go_enter Tryd.func7, Tryd.ntmps7
  go_wp2_with fail
  refine (HA.out _ HBx.out).mono ?_
  rintro e w1 ⟨rfl, hb⟩
  have HB1 := Lib.hid (HBx.out.next hb)
  have HX1 := Lib.hid ((hb.block _ (lt_of HXx.out)).trans HXx.out)
  clear hb
  obtain ⟨c0, c1⟩ := mtC HX1.out
  go_wp2_with fail
  refine (HFw.out _ HB1.out).mono ?_
  rintro e w2 ⟨rfl, rfl⟩
  cases F with
  | false =>
    go_wp2_with fail
    refine (HA.out _ HB1.out).mono ?_
    rintro e w3 ⟨rfl, hb⟩
    have HB3 := Lib.hid (HB1.out.next hb)
    clear hb
    go_wp2
    go_ret
    exact ⟨rfl, HB3.out⟩
  | true =>
    by_cases hx40 : 40 < x.length
    · have d1 : decide (40 < (x.length : Int)) = true := by simp; omega
      go_wp2_with fail
      refine (HA.out _ HB1.out).mono ?_
      rintro e w3 ⟨rfl, hb⟩
      have HB3 := Lib.hid (HB1.out.next hb)
      clear hb
      go_wp2
      go_ret
      exact ⟨rfl, HB3.out⟩
    · have d1 : decide (40 < (x.length : Int)) = false := by simp; omega
      have hPf := (fewM_iff HFF.out).1
      have HCl := Lib.hid (CloneS_any _ P w2 (HP.out.below HB1.out) (by omega))
      go_wp2_with fail
      refine HCl.out.mono ?_
      rintro e w3 ⟨v3, rfl, ho3, hb⟩
      have HB3 := Lib.hid (HB1.out.next hb)
      have HX3 := Lib.hid ((hb.block _ (lt_of HX1.out)).trans HX1.out)
      have HC3 := Lib.hid (IsSl.of_owns (xs := P.map vS) (by rw [List.length_map]; exact ho3) (by rw [List.length_map]; unfold maxLen; omega))
      obtain ⟨a3, k3, rfl⟩ := own_form ho3
      clear hb ho3 c0 c1
      obtain ⟨c0, c1⟩ := mtC HX3.out
      have hAd := MtAdd_any _ s P x w3 (HV.out.below HB3.out) (ht.same HB3.out)
      have hRd := fun W hb => RMtAdd_any _ s P x W (HV.out.below (w' := W) hb)
      obtain ⟨ER, hER⟩ : ∃ q, addE s P x = q := ⟨_, rfl⟩
      obtain ⟨ES, hES⟩ : ∃ q, addS s P x = q := ⟨_, rfl⟩
      obtain ⟨EP, hEP⟩ : ∃ q, addP s P x = q := ⟨_, rfl⟩
      rw [hER, hES, hEP] at hAd
      simp only [hER, hES, hEP] at hRd
      have HAd := Lib.hid hAd
      have HRd := Lib.hid hRd
      clear hAd hRd hER hES hEP
      go_wp2_with fail
      refine HAd.out.mono ?_
      rintro e w5 ⟨v5, rfl, hm5, hb⟩
      have HB5 := Lib.hid (HB3.out.next hb)
      have HX5 := Lib.hid ((hb.block _ (lt_of HX3.out)).trans HX3.out)
      have HC5 := Lib.hid (HC3.out.below hb)
      have HM5 := Lib.hid hm5
      obtain ⟨p6, rfl, hp6, _⟩ := hm5
      obtain ⟨a6, c6, rfl⟩ := hp6.formMap
      have hbA := (Below.refl w5.heap.size w5).alloc (Nat.le_refl _) (.cells #[.int .i64 ES, .slice a6 EP.length c6] 31)
      have HbA := Lib.hid hbA
      have HNA := Lib.hid (new_of w5 (.cells #[.int .i64 ES, .slice a6 EP.length c6] 31))
      have hwz5 : w.heap.size < w5.heap.size := lt_of HX5.out
      clear hb hbA hp6 c0 c1
      obtain ⟨c0, c1⟩ := mtC HX5.out
      go_wp2_with fail
      refine (HRd.out _ (HB5.out.next HbA.out)).mono ?_
      rintro e w7 ⟨v7, rfl, hm7, hb⟩
      have HB7 := Lib.hid (HB5.out.next (HbA.out.trans (hb.mono HbA.out.size)))
      have HX7 := Lib.hid ((hb.block _ (Nat.lt_of_lt_of_le (lt_of HX5.out) HbA.out.size)).trans ((HbA.out.block _ (lt_of HX5.out)).trans HX5.out))
      have HA7 := Lib.hid ((hb.block _ (lt_of HNA.out)).trans HNA.out)
      have HC7 := Lib.hid ((HC5.out.below HbA.out).below hb)
      have HM5' := Lib.hid ((HM5.out.below HbA.out).below hb)
      have HM7 := Lib.hid hm7
      obtain ⟨p8, rfl, hp8, _⟩ := hm7
      obtain ⟨a8, c8, rfl⟩ := hp8.formMap
      obtain ⟨W, hW⟩ : ∃ W, w7.alloc (.cells #[.int .i64 ES, .slice a8 EP.length c8] 31) = W := ⟨_, rfl⟩
      obtain ⟨A, hAe⟩ : ∃ A, w5.heap.size = A := ⟨_, rfl⟩
      obtain ⟨D, hD⟩ : ∃ D, w7.heap.size = D := ⟨_, rfl⟩
      have hb8 : Below w7.heap.size w7 W := by rw [← hW]; exact (Below.refl _ _).alloc (Nat.le_refl _) _
      have HXW := Lib.hid ((hb8.block _ (lt_of HX7.out)).trans HX7.out)
      have HAW := Lib.hid (show W.heap[A]? = some (.cells #[.int .i64 ES, .slice a6 EP.length c6] 31) by rw [← hAe]; exact (hb8.block _ (lt_of HA7.out)).trans HA7.out)
      have HDW := Lib.hid (show W.heap[D]? = some (.cells #[.int .i64 ES, .slice a8 EP.length c8] 31) by rw [← hD, ← hW]; exact new_of _ _)
      have HBW := Lib.hid (HB7.out.next hb8)
      have HCW := Lib.hid (HC7.out.below hb8)
      have HMa := Lib.hid (HM5'.out.below hb8)
      have HMb := Lib.hid (HM7.out.below hb8)
      have HVW := Lib.hid (HV.out.below HBW.out)
      have HPW := Lib.hid (HP.out.below HBW.out)
      clear hb hp8 hb8 c0 c1
      have HS := Lib.hid (show ∀ Wc, Below W.heap.size W Wc → (fun W : World => (W.cell? ⟨w.heap.size, 0, none⟩ = some (.int .i64 s) ∧ W.cell? ⟨w.heap.size, 1, none⟩ = some (.slice a P.length c)) ∧ (W.cell? ⟨A, 0, none⟩ = some (.int .i64 ES) ∧ W.cell? ⟨A, 1, none⟩ = some (.slice a6 EP.length c6)) ∧ (W.cell? ⟨D, 0, none⟩ = some (.int .i64 ES) ∧ W.cell? ⟨D, 1, none⟩ = some (.slice a8 EP.length c8))) Wc from
        fun Wc hb => ⟨⟨(hb.cell (lt_of HXW.out)).trans (mtC HXW.out).1, (hb.cell (lt_of HXW.out)).trans (mtC HXW.out).2⟩, ⟨(hb.cell (lt_of HAW.out)).trans (mtC HAW.out).1, (hb.cell (lt_of HAW.out)).trans (mtC HAW.out).2⟩, ⟨(hb.cell (lt_of HDW.out)).trans (mtC HDW.out).1, (hb.cell (lt_of HDW.out)).trans (mtC HDW.out).2⟩⟩)
      go_wp2
      clear hW hAe hD
      refine wp_region_held_drew (S := (fun W : World => (W.cell? ⟨w.heap.size, 0, none⟩ = some (.int .i64 s) ∧ W.cell? ⟨w.heap.size, 1, none⟩ = some (.slice a P.length c)) ∧ (W.cell? ⟨A, 0, none⟩ = some (.int .i64 ES) ∧ W.cell? ⟨A, 1, none⟩ = some (.slice a6 EP.length c6)) ∧ (W.cell? ⟨D, 0, none⟩ = some (.int .i64 ES) ∧ W.cell? ⟨D, 1, none⟩ = some (.slice a8 EP.length c8)))) (by kernel_rfl) (HS.out _ (dr (Below.refl _ _))) (fun hHeld => ?_)
      have HF0 := Lib.hid (show Below W.heap.size W W.drew from dr (Below.refl _ _))
      refine take_at 0 39 (oi := ?o1) (v := ?v1) ?hi1 ?hd1 (by kernel_rfl) (by kernel_rfl) (by kernel_rfl) ?hQ1 ?hw1 ?hy1 (by assumption) ?rest1
      case hi1 => simp only [List.getElem?_toArray, List.getElem?_cons_zero]; rfl
      case hd1 => rfl
      case hw1 => kernel_rfl
      case hy1 => intro W hW; (try dsimp only at hW); go_simp <;> with_reducible rfl
      case hQ1 => exact fun _ _ _ h => h
      try simp only [Act.put, List.setIfInBounds_toArray, List.set_cons_zero, List.set_cons_succ]
      refine take_at 1 40 (oi := ?o2) (v := ?v2) ?hi2 ?hd2 (by kernel_rfl) (by kernel_rfl) (by kernel_rfl) ?hQ2 ?hw2 ?hy2 (by assumption) ?rest2
      case hi2 => simp only [List.getElem?_toArray, List.getElem?_cons_succ, List.getElem?_cons_zero]; rfl
      case hd2 => rfl
      case hw2 => kernel_rfl
      case hy2 => intro W hW; (try dsimp only at hW); go_simp <;> with_reducible rfl
      case hQ2 => exact fun _ _ _ h => h
      try simp only [Act.put, List.setIfInBounds_toArray, List.set_cons_zero, List.set_cons_succ]
      refine take_at 2 41 (oi := ?o3) (v := ?v3) ?hi3 ?hd3 (by kernel_rfl) (by kernel_rfl) (by kernel_rfl) ?hQ3 ?hw3 ?hy3 (by assumption) ?rest3
      case hi3 => simp only [List.getElem?_toArray, List.getElem?_cons_succ, List.getElem?_cons_zero]; rfl
      case hd3 => rfl
      case hw3 => kernel_rfl
      case hy3 => intro W hW; (try dsimp only at hW); go_simp <;> with_reducible rfl
      case hQ3 => exact fun _ _ _ h => h
      try simp only [Act.put, List.setIfInBounds_toArray, List.set_cons_zero, List.set_cons_succ]
      refine take_at 3 42 (oi := ?o4) (v := ?v4) ?hi4 ?hd4 (by kernel_rfl) (by kernel_rfl) (by kernel_rfl) ?hQ4 ?hw4 ?hy4 (by assumption) ?rest4
      case hi4 => simp only [List.getElem?_toArray, List.getElem?_cons_succ, List.getElem?_cons_zero]; rfl
      case hd4 => rfl
      case hw4 => kernel_rfl
      case hy4 => intro W hW; (try dsimp only at hW); go_simp <;> with_reducible rfl
      case hQ4 => exact fun _ _ _ h => h
      try simp only [Act.put, List.setIfInBounds_toArray, List.set_cons_zero, List.set_cons_succ]
      refine take_at 4 43 (oi := ?o5) (v := ?v5) ?hi5 ?hd5 (by kernel_rfl) (by kernel_rfl) (by kernel_rfl) ?hQ5 ?hw5 ?hy5 (by assumption) ?rest5
      case hi5 => simp only [List.getElem?_toArray, List.getElem?_cons_succ, List.getElem?_cons_zero]; rfl
      case hd5 => rfl
      case hw5 => kernel_rfl
      case hy5 => intro W hW; (try dsimp only at hW); go_simp <;> with_reducible rfl
      case hQ5 => exact fun _ _ _ h => h
      try simp only [Act.put, List.setIfInBounds_toArray, List.set_cons_zero, List.set_cons_succ]
      refine take_at 5 44 (oi := ?o6) (v := ?v6) ?hi6 ?hd6 (by kernel_rfl) (by kernel_rfl) (by kernel_rfl) ?hQ6 ?hw6 ?hy6 (by assumption) ?rest6
      case hi6 => simp only [List.getElem?_toArray, List.getElem?_cons_succ, List.getElem?_cons_zero]; rfl
      case hd6 => rfl
      case hw6 => kernel_rfl
      case hy6 => intro W hW; (try dsimp only at hW); go_simp <;> with_reducible rfl
      case hQ6 => exact fun _ _ _ h => h
      try simp only [Act.put, List.setIfInBounds_toArray, List.set_cons_zero, List.set_cons_succ]
      refine wpAnyH_ready (rs := [6]) (by kernel_rfl) (by simp) ?_
      refine AllReadyH.cons rfl (fun K hK => ?_) AllReadyH.nil
      go_simp
      have h6 := MtSame_any _ _ ES ES EP EP W.drew (HMa.out.below HF0.out) (HMb.out.below HF0.out)
      rw [show sameMt ES EP ES EP = true by simp [sameMt]] at h6
      refine h6.mono ?_
      rintro e u1 ⟨rfl, hb⟩
      have HF1 := Lib.hid (HF0.out.trans (hb.mono HF0.out.size))
      clear hb
      refine hK.out _ _ (HS.out _ HF1.out) (fun hHeld => ?_)
      clear hK K
      try simp only [Act.put, List.setIfInBounds_toArray, List.set_cons_zero, List.set_cons_succ]
      refine take_at 7 46 (oi := ?o7) (v := ?v7) ?hi7 ?hd7 (by kernel_rfl) (by kernel_rfl) (by kernel_rfl) ?hQ7 ?hw7 ?hy7 (by assumption) ?rest7
      case hi7 => simp only [List.getElem?_toArray, List.getElem?_cons_succ, List.getElem?_cons_zero]; rfl
      case hd7 => rfl
      case hw7 => kernel_rfl
      case hy7 => intro W hW; (try dsimp only at hW); go_simp <;> with_reducible rfl
      case hQ7 => exact fun _ _ _ h => h
      try simp only [Act.put, List.setIfInBounds_toArray, List.set_cons_zero, List.set_cons_succ]
      refine take_at 8 47 (oi := ?o8) (v := ?v8) ?hi8 ?hd8 (by kernel_rfl) (by kernel_rfl) (by kernel_rfl) ?hQ8 ?hw8 ?hy8 (by assumption) ?rest8
      case hi8 => simp only [List.getElem?_toArray, List.getElem?_cons_succ, List.getElem?_cons_zero]; rfl
      case hd8 => rfl
      case hw8 => kernel_rfl
      case hy8 => intro W hW; (try dsimp only at hW); go_simp <;> with_reducible rfl
      case hQ8 => exact fun _ _ _ h => h
      try simp only [Act.put, List.setIfInBounds_toArray, List.set_cons_zero, List.set_cons_succ]
      refine take_at 9 48 (oi := ?o9) (v := ?v9) ?hi9 ?hd9 (by kernel_rfl) (by kernel_rfl) (by kernel_rfl) ?hQ9 ?hw9 ?hy9 (by assumption) ?rest9
      case hi9 => simp only [List.getElem?_toArray, List.getElem?_cons_succ, List.getElem?_cons_zero]; rfl
      case hd9 => rfl
      case hw9 => kernel_rfl
      case hy9 => intro W hW; (try dsimp only at hW); go_simp <;> with_reducible rfl
      case hQ9 => exact fun _ _ _ h => h
      try simp only [Act.put, List.setIfInBounds_toArray, List.set_cons_zero, List.set_cons_succ]
      refine take_at 11 50 (oi := ?o10) (v := ?v10) ?hi10 ?hd10 (by kernel_rfl) (by kernel_rfl) (by kernel_rfl) ?hQ10 ?hw10 ?hy10 (by assumption) ?rest10
      case hi10 => simp only [List.getElem?_toArray, List.getElem?_cons_succ, List.getElem?_cons_zero]; rfl
      case hd10 => rfl
      case hw10 => kernel_rfl
      case hy10 => intro W hW; (try dsimp only at hW); go_simp <;> with_reducible rfl
      case hQ10 => exact fun _ _ _ h => h
      try simp only [Act.put, List.setIfInBounds_toArray, List.set_cons_zero, List.set_cons_succ]
      refine wpAnyH_ready (rs := [10]) (by kernel_rfl) (by simp) ?_
      refine AllReadyH.cons rfl (fun K hK => ?_) AllReadyH.nil
      go_simp
      refine (MtValid_any _ s P u1 (HVW.out.below HF1.out)).mono ?_
      rintro e u2 ⟨rfl, hb⟩
      have HF2 := Lib.hid (HF1.out.next hb)
      clear hb
      refine hK.out _ _ (HS.out _ HF2.out) (fun hHeld => ?_)
      clear hK K
      try simp only [Act.put, List.setIfInBounds_toArray, List.set_cons_zero, List.set_cons_succ]
      refine wpAnyH_ready (rs := [12]) (by kernel_rfl) (by simp) ?_
      refine AllReadyH.cons rfl (fun K hK => ?_) AllReadyH.nil
      go_simp
      refine (RMtValid_any _ s P u2 (HVW.out.below HF2.out)).mono ?_
      rintro e u3 ⟨rfl, hb⟩
      have HF3 := Lib.hid (HF2.out.next hb)
      clear hb
      refine hK.out _ _ (HS.out _ HF3.out) (fun hHeld => ?_)
      clear hK K
      try simp only [Act.put, List.setIfInBounds_toArray, List.set_cons_zero, List.set_cons_succ]
      refine take_at 13 52 (oi := ?o11) (v := ?v11) ?hi11 ?hd11 (by kernel_rfl) (by kernel_rfl) (by kernel_rfl) ?hQ11 ?hw11 ?hy11 (by assumption) ?rest11
      case hi11 => simp only [List.getElem?_toArray, List.getElem?_cons_succ, List.getElem?_cons_zero]; rfl
      case hd11 => rfl
      case hw11 => kernel_rfl
      case hy11 => intro W hW; (try dsimp only at hW); go_simp <;> with_reducible rfl
      case hQ11 => exact fun _ _ _ h => h
      try simp only [Act.put, List.setIfInBounds_toArray, List.set_cons_zero, List.set_cons_succ]
      refine take_at 14 53 (oi := ?o12) (v := ?v12) ?hi12 ?hd12 (by kernel_rfl) (by kernel_rfl) (by kernel_rfl) ?hQ12 ?hw12 ?hy12 (by assumption) ?rest12
      case hi12 => simp only [List.getElem?_toArray, List.getElem?_cons_succ, List.getElem?_cons_zero]; rfl
      case hd12 => rfl
      case hw12 => kernel_rfl
      case hy12 => intro W hW; (try dsimp only at hW); go_simp <;> with_reducible rfl
      case hQ12 => exact fun _ _ _ h => h
      try simp only [Act.put, List.setIfInBounds_toArray, List.set_cons_zero, List.set_cons_succ]
      refine take_at 15 54 (oi := ?o13) (v := ?v13) ?hi13 ?hd13 (by kernel_rfl) (by kernel_rfl) (by kernel_rfl) ?hQ13 ?hw13 ?hy13 (by assumption) ?rest13
      case hi13 => simp only [List.getElem?_toArray, List.getElem?_cons_succ, List.getElem?_cons_zero]; rfl
      case hd13 => rfl
      case hw13 => kernel_rfl
      case hy13 => intro W hW; (try dsimp only at hW); go_simp <;> with_reducible rfl
      case hQ13 => exact fun _ _ _ h => h
      try simp only [Act.put, List.setIfInBounds_toArray, List.set_cons_zero, List.set_cons_succ]
      refine take_at 16 55 (oi := ?o14) (v := ?v14) ?hi14 ?hd14 (by kernel_rfl) (by kernel_rfl) (by kernel_rfl) ?hQ14 ?hw14 ?hy14 (by assumption) ?rest14
      case hi14 => simp only [List.getElem?_toArray, List.getElem?_cons_succ, List.getElem?_cons_zero]; rfl
      case hd14 => rfl
      case hw14 => kernel_rfl
      case hy14 => intro W hW; (try dsimp only at hW); go_simp <;> with_reducible rfl
      case hQ14 => exact fun _ _ _ h => h
      try simp only [Act.put, List.setIfInBounds_toArray, List.set_cons_zero, List.set_cons_succ]
      refine take_at 17 56 (oi := ?o15) (v := ?v15) ?hi15 ?hd15 (by kernel_rfl) (by kernel_rfl) (by kernel_rfl) ?hQ15 ?hw15 ?hy15 (by assumption) ?rest15
      case hi15 => simp only [List.getElem?_toArray, List.getElem?_cons_succ, List.getElem?_cons_zero]; rfl
      case hd15 => rfl
      case hw15 => kernel_rfl
      case hy15 => intro W hW; (try dsimp only at hW); go_simp <;> with_reducible rfl
      case hQ15 => exact fun _ _ _ h => h
      try simp only [Act.put, List.setIfInBounds_toArray, List.set_cons_zero, List.set_cons_succ]
      refine take_at 18 57 (oi := ?o16) (v := ?v16) ?hi16 ?hd16 (by kernel_rfl) (by kernel_rfl) (by kernel_rfl) ?hQ16 ?hw16 ?hy16 (by assumption) ?rest16
      case hi16 => simp only [List.getElem?_toArray, List.getElem?_cons_succ, List.getElem?_cons_zero]; rfl
      case hd16 => rfl
      case hw16 => kernel_rfl
      case hy16 => intro W hW; (try dsimp only at hW); go_simp <;> with_reducible rfl
      case hQ16 => exact fun _ _ _ h => h
      try simp only [Act.put, List.setIfInBounds_toArray, List.set_cons_zero, List.set_cons_succ]
      refine wpAnyH_ready (rs := [19]) (by kernel_rfl) (by simp) ?_
      refine AllReadyH.cons rfl (fun K hK => ?_) AllReadyH.nil
      go_simp
      have h19 := Equal_any _ _ P P u3 (HPW.out.below HF3.out) (HCW.out.below HF3.out)
      rw [decide_eq_true rfl] at h19
      refine h19.mono ?_
      rintro e u4 ⟨rfl, q, rfl⟩
      have HF4 := Lib.hid (below_drewN HF3.out q)
      refine hK.out _ _ (HS.out _ HF4.out) (fun hHeld => ?_)
      clear hK K
      try simp only [Act.put, List.setIfInBounds_toArray, List.set_cons_zero, List.set_cons_succ]
      refine take_at 20 59 (oi := ?o17) (v := ?v17) ?hi17 ?hd17 (by kernel_rfl) (by kernel_rfl) (by kernel_rfl) ?hQ17 ?hw17 ?hy17 (by assumption) ?rest17
      case hi17 => simp only [List.getElem?_toArray, List.getElem?_cons_succ, List.getElem?_cons_zero]; rfl
      case hd17 => rfl
      case hw17 => kernel_rfl
      case hy17 => intro W hW; (try dsimp only at hW); go_simp <;> with_reducible rfl
      case hQ17 => exact fun _ _ _ h => h
      try simp only [Act.put, List.setIfInBounds_toArray, List.set_cons_zero, List.set_cons_succ]
      refine take_at 21 4 (oi := ?o18) (v := ?v18) ?hi18 ?hd18 (by kernel_rfl) (by kernel_rfl) (by kernel_rfl) ?hQ18 ?hw18 ?hy18 (by assumption) ?rest18
      case hi18 => simp only [List.getElem?_toArray, List.getElem?_cons_succ, List.getElem?_cons_zero]; rfl
      case hd18 => rfl
      case hw18 => kernel_rfl
      case hy18 => intro W hW; (try dsimp only at hW); go_simp <;> with_reducible rfl
      case hQ18 => exact fun _ _ _ h => h
      try simp only [Act.put, List.setIfInBounds_toArray, List.set_cons_zero, List.set_cons_succ]
      refine wpAnyH_done (by kernel_rfl) ?_ _
      simp only [Exit.then]
      go_wp2
      go_ret
      exact ⟨rfl, HBW.out.next HF4.out⟩

set_option maxRecDepth 100000 in
theorem contract (H : Type) (enc : TypeId × Value → H) (W : World) (base : Nat) (args : Array Value) (ds gs : List (DataW H)) (before : List MemPlace)
    (hval : ∀ (j : Nat) t v, Tryd.f7.params[j]? = some t → args[j]? = some v → Value.okWide Tryd.prog W .any base t v)
    (hW : DataW.Whole enc Tryd.prog Tryd.f7.params.toList Rows.mountainAddsSpec.vars false W args.toList ds gs before) (hL : laidMetH Tryd.prog Rows.mountainAddsRow.laid W) :
    Calls Tryd.prog 7 args W fun e W' => ∃ v, e = .returned v ∧ Rows.mountainAddsSpec.post enc Tryd.prog Tryd.f7 false true false false W args v W' := by
  have hW' := hW
  obtain ⟨p, q, hA0, hV, rfl, hfz, hnd⟩ := hW
  have hA : DataW.TrodAll enc Tryd.prog W 0 (fun _ => true) true Tryd.f7.params.toList args.toList ds p := hA0
  rw [Tryd.params7] at hA hval
  obtain ⟨v0, vs0, d0, ds0, p0, q0, hargs, rfl, rfl, h0, r0⟩ := trodAll_cons hA
  obtain ⟨v1, vs1, d1, ds1, p1, q1, rfl, rfl, rfl, h1, r1⟩ := trodAll_cons r0
  obtain ⟨rfl, rfl, rfl⟩ := trodAll_nil r1
  obtain rfl : args = #[v0, v1] := by cases args; simp_all
  obtain ⟨rfl, rfl⟩ := trodVars_none hV
  obtain ⟨s, P, hm⟩ := mt_in (hval 0 31 v0 rfl rfl) h0
  obtain ⟨x, rfl, _⟩ := str_in (hval 1 9 v1 rfl rfl) h1
  refine (walk v0 s P x W hm (tab_of hL) (tz_of hL)).mono fun e W' ⟨he, hb⟩ => ⟨_, he, ?_⟩
  exact law_post hW' rfl (by kernel_rfl) (by kernel_rfl) rfl hb

theorem laid_met (os : Os) : laidMet Tryd.prog Rows.mountainAddsRow.laid ((laidWorld os).forCall (fun _ _ => 0) ⟨#[], #[.agg #[.int .i64 0, .slice none 0 0], .string ⟨#[]⟩], []⟩).memory :=
  laidMet_of_run' 8 (by kernel_rfl) (by kernel_rfl)
theorem reads (os : Os) {H : Type} (enc : TypeId × Value → H) : ∃ places, DataW.whole enc Tryd.prog ((laidWorld os).forCall (fun _ _ => 0) ⟨#[], #[.agg #[.int .i64 0, .slice none 0 0], .string ⟨#[]⟩], []⟩).memory Tryd.f7.params.toList Rows.mountainAddsSpec.vars false (#[.agg #[.int .i64 0, .slice none 0 0], .string ⟨#[]⟩] : Array Value).toList 8 = some ([.agg [.lit (.int .i64 0), .nil], .lit (.string [])], [], places) :=
  ⟨[], by kernel_rfl⟩

set_option maxRecDepth 100000 in
theorem lifted (os : Os) (started : os.Started) (H : Type) (enc : TypeId × Value → H) (F : Stop.Interp) :
    ReturnsInHanded {} Tryd.checked os 7 .any ((OpenSpec.ofChange Rows.mountainAddsSpec).preRow enc Tryd.prog Tryd.f7 Rows.mountainAddsRow.domain false Rows.mountainAddsRow.laid) (((OpenSpec.ofChange Rows.mountainAddsSpec).at F).post enc Tryd.prog Tryd.f7 false true false false) := by
  obtain ⟨places, hx⟩ := reads os enc
  refine returnsInHanded_of_row (C := Tryd.checked) (s := OpenSpec.ofChange Rows.mountainAddsSpec) own started (by kernel_rfl) Tryd.func7
    (witness_row_at (enc := enc) (C := Tryd.checked) false (laidWorld os) #[.agg #[.int .i64 0, .slice none 0 0], .string ⟨#[]⟩] rfl (by kernel_rfl) (by kernel_rfl) (by kernel_rfl)
      (OpenSpec.preRow_of_cond 8 hx (by kernel_rfl) (fun k hk => by cases hk) (by kernel_rfl) (laid_met os))) ?_
  intro W base args ds gs before hval hW _ _ _ hL _ _
  exact contract H enc W base args ds gs before hval hW hL

set_option maxRecDepth 100000 in
theorem said : Rows.MountainAddsSaid :=
  OpenClaim.holds_of_cond 7 Tryd.f7 rfl rfl rfl rfl rfl rfl rfl ⟨rfl, rfl, rfl, rfl, rfl⟩ rfl rfl rfl rfl rfl (by kernel_rfl) Tryd.func7 (by kernel_rfl)
    (of_decide_eq_true (by kernel_rfl)) (by unfold Func.isWrapper; first | (rw [if_pos (by decide +kernel)]; kernel_rfl) | (rw [if_neg (by decide +kernel)]; exact ⟨rfl, rfl⟩))
    (fun os started H enc _ F => by rw [OpenClaim.pre_eq_preRow]; exact lifted os started H enc F)

/-- No parameter wants a stand-in; the program's own looks are off. -/
theorem plain (f : FuncId) (fn : Func) (hf : Tryd.pinned.checked.prog.funcNamed "licit/licitlaw49.MountainAdds" = some f) (hfn : Tryd.pinned.checked.prog.funcs[f]? = some fn) :
    false = Tryd.pinned.checked.prog.looks [] ∧ ∀ (j : Nat) t, fn.params[j]? = some t → Tryd.pinned.checked.prog.wantsStandIn t = false := by
  obtain rfl : f = 7 := Option.some.inj ((show Tryd.prog.funcNamed "licit/licitlaw49.MountainAdds" = some 7 by kernel_rfl).symm.trans hf) |>.symm
  obtain rfl : fn = Tryd.f7 := (Option.some.inj (Tryd.func7.symm.trans hfn)).symm
  refine ⟨by kernel_rfl, fun j t ht => ?_⟩
  have hall : Tryd.f7.params.toList.all (fun t => !Tryd.prog.wantsStandIn t) = true := by kernel_rfl
  have := List.all_eq_true.1 hall t (Array.mem_toList_iff.2 (Array.mem_of_getElem? ht))
  exact (by simpa using this : Tryd.prog.wantsStandIn t = false)

theorem card : Rows.MountainAddsCardSaid :=
  Claim7.holds_tied_plain_at .later [] _ _ _ _ said (fun _ h => by cases h) (by kernel_rfl) (fun _ h => by cases h) mountainAdds_row_tie rfl ⟨rfl, rfl⟩ (by kernel_rfl) rfl plain (by kernel_rfl)

end Go.Proofs.YtfklmjcjjdliiaaDoor.lawAdds
