/- The card of MountainProves is proved: for every list of leaves and index the law returns true; the conditions are those of the given row. -/
import Derived.Test.YtfklmjcjjdliiaaDoorLawKit49
import Derived.Test.YtfklmjcjjdliiaaDoorWkMtC
namespace Go.Proofs.YtfklmjcjjdliiaaDoor.lawProves
open Go Go.RowKit Licit
open Go.ChangeShapes Go.WideShapes Go.ChangeAt

theorem proveE_zero {l : List Bs} {i : Int} (h : proveE l i = 0) : checkM l = 0 ∧ 0 ≤ i ∧ i < (l.length : Int) := by
  unfold proveE at h
  split at h
  · rename_i hc
    split at h
    · rename_i hi
      exact ⟨hc, hi.1, hi.2⟩
    · cases h
  · rename_i hc
    exact absurd h hc

set_option maxHeartbeats 8000000 in
set_option maxRecDepth 100000 in
theorem walk (v : Value) (l : List Bs) (i : Int) (w : World) (hv : IsSl v (l.map vS) w) (hcv : SlCap v) (ht : Tab w) (hz : Tz w) :
    Calls Tryd.prog 3 #[v, .int .i64 i] w fun e w' => e = .returned (.bool true) ∧ Below w.heap.size w w' := by
  have HA := Lib.hid (fun W (hb : Below w.heap.size w W) => awake_any49 W (ht.same hb) (hz.same hb))
  have HV := Lib.hid hv
  have HRP := Lib.hid (fun W (hb : Below w.heap.size w W) => RMtProve_any v l i W (hv.below hb) hcv)
  have HFw := Lib.hid (fun W (hb : Below w.heap.size w W) => FewM_any _ l 40 W (hv.below hb))
  obtain ⟨a, c, rfl⟩ := hv.formMap
  obtain ⟨F, hF⟩ : ∃ F, fewM 40 l = F := ⟨_, rfl⟩
  rw [hF] at HFw
  have HFF := Lib.hid hF
  have HB0 := Lib.hid (Below.refl w.heap.size w)
  clear hv hF
  go_enter Tryd.func3, Tryd.ntmps3
  go_wp2_with fail
  refine (HA.out _ HB0.out).mono ?_
  rintro e w1 ⟨rfl, hb⟩
  have HB1 := Lib.hid (HB0.out.next hb)
  clear hb
  go_wp2_with fail
  refine (HFw.out _ HB1.out).mono ?_
  rintro e w2 ⟨rfl, rfl⟩
  cases F with
  | false =>
    go_wp2_with fail
    refine (HA.out _ HB1.out).mono ?_
    rintro e w3 ⟨rfl, hb⟩
    have HB3 := Lib.hid (HB1.out.next hb)
    clear hb
    go_wp2
    go_ret
    exact ⟨rfl, HB3.out⟩
  | true =>
    have hPf := (fewM_iff HFF.out).1
    have hP40 := (fewM_iff HFF.out).2
    have HP40 := Lib.hid hP40
    clear hP40
    have HCl := Lib.hid (CloneS_any _ l w2 (HV.out.below HB1.out) (by omega))
    go_wp2_with fail
    refine HCl.out.mono ?_
    rintro e w3 ⟨v3, rfl, ho3, hb⟩
    have HB3 := Lib.hid (HB1.out.next hb)
    have hPr := MtProve_any v3 l i w3 (IsSl.of_owns (xs := l.map vS) (by rw [List.length_map]; exact ho3) (by rw [List.length_map]; unfold maxLen; omega)) (SlCap.own ho3) (ht.same HB3.out)
    obtain ⟨PE, hPE⟩ : ∃ x, proveE l i = x := ⟨_, rfl⟩
    obtain ⟨PP, hPP⟩ : ∃ x, proveP l i = x := ⟨_, rfl⟩
    have hRP := fun W hb => HRP.out W hb
    rw [hPE, hPP] at hPr
    simp only [hPE, hPP] at hRP
    have HPr := Lib.hid hPr
    have HRP2 := Lib.hid hRP
    have HPE := Lib.hid hPE
    have HPP := Lib.hid hPP
    have hpl : PP.length ≤ 1000 := by
      rw [← hPP]
      unfold proveP
      split
      · rename_i h0
        obtain ⟨_, h1, h2⟩ := proveE_zero h0
        have h3 := proveN_all (l := l) (by omega) (i := i.toNat)
        rcases h3 with h3 | h3
        · omega
        · omega
      · simp
    obtain ⟨a3, k3, rfl⟩ := own_form ho3
    clear hb ho3 hPr hRP hPE hPP
    go_wp2_with fail
    refine HPr.out.mono ?_
    rintro e w5 ⟨v5, rfl, ho5, hb⟩
    have HB5 := Lib.hid (HB3.out.next hb)
    have HI5 := Lib.hid (IsSl.of_owns (xs := PP.map vS) (by rw [List.length_map]; exact ho5) (by rw [List.length_map]; unfold maxLen; omega))
    obtain ⟨a5, k5, rfl⟩ := own_form ho5
    clear hb ho5
    go_wp2_with fail
    refine (HRP2.out _ HB5.out).mono ?_
    rintro e w6 ⟨v6, rfl, ho6, hb⟩
    have HB6 := Lib.hid (HB5.out.next hb)
    have HI6 := Lib.hid (HI5.out.below hb)
    have HJ6 := Lib.hid (IsSl.of_owns (xs := PP.map vS) (by rw [List.length_map]; exact ho6) (by rw [List.length_map]; unfold maxLen; omega))
    obtain ⟨a6, k6, rfl⟩ := own_form ho6
    have hEq := Equal_any _ _ PP PP w6 HI6.out HJ6.out
    rw [decide_eq_true rfl] at hEq
    have HEq := Lib.hid hEq
    clear hb ho6 hEq
    go_wp2_with fail
    refine HEq.out.mono ?_
    rintro e w7 ⟨rfl, q, rfl⟩
    obtain ⟨W7, hW7⟩ : ∃ W7, w6.drewN q = W7 := ⟨_, rfl⟩
    have HB7 := Lib.hid (show Below w.heap.size w W7 from hW7 ▸ below_drewN HB6.out q)
    have HI7 := Lib.hid (show IsSl _ (PP.map vS) W7 from hW7 ▸ HI6.out.below (below_drewN (Below.refl _ _) q))
    rw [hW7]
    clear hW7
    by_cases hne : PE = 0
    rotate_left
    · have hq : (PE == 0) = false := by simpa using hne
      have hq2 : (PE != 0) = true := by rw [bne, hq]; rfl
      go_wp2
      go_ret
      exact ⟨rfl, HB7.out⟩
    subst hne
    obtain ⟨hck, hi0, hil⟩ := proveE_zero HPE.out
    obtain ⟨j, rfl⟩ : ∃ j : Nat, i = (j : Int) := ⟨i.toNat, by omega⟩
    have d1 : decide ((j : Int) < 0) = false := by simp
    have d2 : decide ((l.length : Int) ≤ (j : Int)) = false := by simp; omega
    have hjl : j < l.length := by omega
    have HC7 := Lib.hid (CloneS_any _ l W7 (HV.out.below HB7.out) (by omega))
    obtain ⟨hl1024, h32⟩ := checkM_iff.1 hck
    have hIn : inclB (l.length : Int) (peaksOf l) (j : Int) (l.getD j []) PP = true := by
      have := incl_prove hl1024 (all32_get h32) hjl
      have hpp : PP = proveN l (place l.length j).2.2 j (place l.length j).2.1 := by
        rw [← HPP.out]
        unfold proveP
        rw [HPE.out, if_pos rfl, Int.toNat_natCast]
      rw [hpp]
      exact this
    have HIn := Lib.hid hIn
    have HCk := Lib.hid hck
    have HS0 := Lib.hid (show ofS l = (l.length : Int) by unfold ofS; rw [hck, if_pos rfl])
    have HP0 := Lib.hid (show ofP l = peaksOf l by unfold ofP; rw [hck, if_pos rfl])
    clear hck h32 hIn hi0 hil
    go_wp2_with fail
    refine HC7.out.mono ?_
    rintro e w8 ⟨v8, rfl, ho8, hb⟩
    have HB8 := Lib.hid (HB7.out.next hb)
    have HI8 := Lib.hid (HI7.out.below hb)
    have hOf := MtOf_any v8 l w8 (IsSl.of_owns (xs := l.map vS) (by rw [List.length_map]; exact ho8) (by rw [List.length_map]; unfold maxLen; omega)) (ht.same HB8.out)
    rw [HCk.out, HS0.out, HP0.out] at hOf
    have HOf := Lib.hid hOf
    obtain ⟨a8, k8, rfl⟩ := own_form ho8
    clear hb ho8 hOf
    go_wp2_with fail
    refine HOf.out.mono ?_
    rintro e w9 ⟨v9, rfl, hm9, hb⟩
    have HB9 := Lib.hid (HB8.out.next hb)
    have HI9 := Lib.hid (HI8.out.below hb)
    have HM9 := Lib.hid hm9
    obtain ⟨p9, rfl, hp9, _⟩ := hm9
    obtain ⟨ma, mc, rfl⟩ := hp9.formMap
    obtain ⟨W, hW⟩ : ∃ W, w9.alloc (.cells #[.int .i64 (l.length : Int), .slice ma (peaksOf l).length mc] 31) = W := ⟨_, rfl⟩
    obtain ⟨D, hD⟩ : ∃ D, w9.heap.size = D := ⟨_, rfl⟩
    have hbW : Below w9.heap.size w9 W := by rw [← hW]; exact (Below.refl _ _).alloc (Nat.le_refl _) _
    have HDW := Lib.hid (show W.heap[D]? = some (.cells #[.int .i64 (l.length : Int), .slice ma (peaksOf l).length mc] 31) by rw [← hD, ← hW]; exact new_of _ _)
    have HBW := Lib.hid (HB9.out.next hbW)
    have HIW := Lib.hid (HI9.out.below hbW)
    have HMW := Lib.hid (HM9.out.below hbW)
    obtain ⟨b, off, cap', hvv, hbb, hcc⟩ := (HV.out.below HBW.out).text rfl hjl
    simp only [Value.slice.injEq, true_and] at hvv
    obtain ⟨rfl, rfl⟩ := hvv
    have hbz : b < W.heap.size := World.block_lt_of_cell? W _ hcc
    have hxl : (l.getD j []).length ≤ maxLen := by
      rw [List.getD_eq_getElem?_getD, List.getElem?_eq_getElem hjl]
      have := HP40.out _ (List.getElem_mem hjl)
      unfold maxLen
      exact Nat.le_trans this (by decide)
    obtain ⟨x, hx⟩ : ∃ x, l.getD j [] = x := ⟨_, rfl⟩
    have HIx := Lib.hid (show inclB (l.length : Int) (peaksOf l) (j : Int) x PP = true by rw [← hx]; exact HIn.out)
    rw [hx] at hcc hxl
    have HS := Lib.hid (show ∀ Wc, Below W.heap.size W Wc → (fun W : World => (W.cell? ⟨D, 0, none⟩ = some (.int .i64 (l.length : Int)) ∧ W.cell? ⟨D, 1, none⟩ = some (.slice ma (peaksOf l).length mc)) ∧ W.cell? ⟨b, off + j, none⟩ = some (.string (B x))) Wc from
      fun Wc hb => ⟨⟨(hb.cell (lt_of HDW.out)).trans (mtC HDW.out).1, (hb.cell (lt_of HDW.out)).trans (mtC HDW.out).2⟩, (hb.cell hbz).trans hcc⟩)
    clear hb hp9 hbW hx hcc hbb HIn
    go_wp2
    clear hW hD
    refine wp_region_held_drew (S := (fun W : World => (W.cell? ⟨D, 0, none⟩ = some (.int .i64 (l.length : Int)) ∧ W.cell? ⟨D, 1, none⟩ = some (.slice ma (peaksOf l).length mc)) ∧ W.cell? ⟨b, off + j, none⟩ = some (.string (B x)))) (by kernel_rfl) (HS.out _ (dr (Below.refl _ _))) (fun hHeld => ?_)
    have HF0 := Lib.hid (show Below W.heap.size W W.drew from dr (Below.refl _ _))
    refine take_at 0 61 (oi := ?o1) (v := ?v1) ?hi1 ?hd1 (by kernel_rfl) (by kernel_rfl) (by kernel_rfl) ?hQ1 ?hw1 ?hy1 (by assumption) ?rest1
    case hi1 => simp only [List.getElem?_toArray, List.getElem?_cons_zero]; rfl
    case hd1 => rfl
    case hw1 => kernel_rfl
    case hy1 => intro W hW; (try dsimp only at hW); go_simp <;> with_reducible rfl
    case hQ1 => exact fun _ _ _ h => h
    try simp only [Act.put, List.setIfInBounds_toArray, List.set_cons_zero, List.set_cons_succ]
    refine take_at 1 62 (oi := ?o2) (v := ?v2) ?hi2 ?hd2 (by kernel_rfl) (by kernel_rfl) (by kernel_rfl) ?hQ2 ?hw2 ?hy2 (by assumption) ?rest2
    case hi2 => simp only [List.getElem?_toArray, List.getElem?_cons_succ, List.getElem?_cons_zero]; rfl
    case hd2 => rfl
    case hw2 => kernel_rfl
    case hy2 => intro W hW; (try dsimp only at hW); go_simp <;> with_reducible rfl
    case hQ2 => exact fun _ _ _ h => h
    try simp only [Act.put, List.setIfInBounds_toArray, List.set_cons_zero, List.set_cons_succ]
    refine take_at 2 63 (oi := ?o3) (v := ?v3) ?hi3 ?hd3 (by kernel_rfl) (by kernel_rfl) (by kernel_rfl) ?hQ3 ?hw3 ?hy3 (by assumption) ?rest3
    case hi3 => simp only [List.getElem?_toArray, List.getElem?_cons_succ, List.getElem?_cons_zero]; rfl
    case hd3 => rfl
    case hw3 => kernel_rfl
    case hy3 => intro W hW; (try dsimp only at hW); go_simp <;> with_reducible rfl
    case hQ3 => exact fun _ _ _ h => h
    try simp only [Act.put, List.setIfInBounds_toArray, List.set_cons_zero, List.set_cons_succ]
    refine take_at 3 64 (oi := ?o4) (v := ?v4) ?hi4 ?hd4 (by kernel_rfl) (by kernel_rfl) (by kernel_rfl) ?hQ4 ?hw4 ?hy4 (by assumption) ?rest4
    case hi4 => simp only [List.getElem?_toArray, List.getElem?_cons_succ, List.getElem?_cons_zero]; rfl
    case hd4 => rfl
    case hw4 => kernel_rfl
    case hy4 => intro W hW; (try dsimp only at hW); go_simp <;> with_reducible rfl
    case hQ4 => exact fun _ _ _ h => h
    try simp only [Act.put, List.setIfInBounds_toArray, List.set_cons_zero, List.set_cons_succ]
    refine take_at 4 65 (oi := ?o5) (v := ?v5) ?hi5 ?hd5 (by kernel_rfl) (by kernel_rfl) (by kernel_rfl) ?hQ5 ?hw5 ?hy5 (by assumption) ?rest5
    case hi5 => simp only [List.getElem?_toArray, List.getElem?_cons_succ, List.getElem?_cons_zero]; rfl
    case hd5 => rfl
    case hw5 => kernel_rfl
    case hy5 => intro W hW; (try dsimp only at hW); go_simp <;> with_reducible rfl
    case hQ5 => exact fun _ _ _ h => h
    try simp only [Act.put, List.setIfInBounds_toArray, List.set_cons_zero, List.set_cons_succ]
    refine take_at 5 66 (oi := ?o6) (v := ?v6) ?hi6 ?hd6 (by kernel_rfl) (by kernel_rfl) (by kernel_rfl) ?hQ6 ?hw6 ?hy6 (by assumption) ?rest6
    case hi6 => simp only [List.getElem?_toArray, List.getElem?_cons_succ, List.getElem?_cons_zero]; rfl
    case hd6 => rfl
    case hw6 => kernel_rfl
    case hy6 => intro W hW; (try dsimp only at hW); go_simp <;> with_reducible rfl
    case hQ6 => exact fun _ _ _ h => h
    try simp only [Act.put, List.setIfInBounds_toArray, List.set_cons_zero, List.set_cons_succ]
    refine take_at 6 67 (oi := ?o7) (v := ?v7) ?hi7 ?hd7 (by kernel_rfl) (by kernel_rfl) (by kernel_rfl) ?hQ7 ?hw7 ?hy7 (by assumption) ?rest7
    case hi7 => simp only [List.getElem?_toArray, List.getElem?_cons_succ, List.getElem?_cons_zero]; rfl
    case hd7 => rfl
    case hw7 => kernel_rfl
    case hy7 => intro W hW; (try dsimp only at hW); go_simp <;> with_reducible rfl
    case hQ7 => exact fun _ _ _ h => h
    try simp only [Act.put, List.setIfInBounds_toArray, List.set_cons_zero, List.set_cons_succ]
    refine take_at 7 68 (oi := ?o8) (v := ?v8) ?hi8 ?hd8 (by kernel_rfl) (by kernel_rfl) (by kernel_rfl) ?hQ8 ?hw8 ?hy8 (by assumption) ?rest8
    case hi8 => simp only [List.getElem?_toArray, List.getElem?_cons_succ, List.getElem?_cons_zero]; rfl
    case hd8 => rfl
    case hw8 => kernel_rfl
    case hy8 => intro W hW; (try dsimp only at hW); go_simp <;> with_reducible rfl
    case hQ8 => exact fun _ _ _ h => h
    try simp only [Act.put, List.setIfInBounds_toArray, List.set_cons_zero, List.set_cons_succ]
    refine take_at 8 69 (oi := ?o9) (v := ?v9) ?hi9 ?hd9 (by kernel_rfl) (by kernel_rfl) (by kernel_rfl) ?hQ9 ?hw9 ?hy9 (by assumption) ?rest9
    case hi9 => simp only [List.getElem?_toArray, List.getElem?_cons_succ, List.getElem?_cons_zero]; rfl
    case hd9 => rfl
    case hw9 => kernel_rfl
    case hy9 => intro W hW; (try dsimp only at hW); go_simp <;> with_reducible rfl
    case hQ9 => exact fun _ _ _ h => h
    try simp only [Act.put, List.setIfInBounds_toArray, List.set_cons_zero, List.set_cons_succ]
    refine take_at 9 70 (oi := ?o10) (v := ?v10) ?hi10 ?hd10 (by kernel_rfl) (by kernel_rfl) (by kernel_rfl) ?hQ10 ?hw10 ?hy10 (by assumption) ?rest10
    case hi10 => simp only [List.getElem?_toArray, List.getElem?_cons_succ, List.getElem?_cons_zero]; rfl
    case hd10 => rfl
    case hw10 => kernel_rfl
    case hy10 => intro W hW; (try dsimp only at hW); go_simp <;> with_reducible rfl
    case hQ10 => exact fun _ _ _ h => h
    try simp only [Act.put, List.setIfInBounds_toArray, List.set_cons_zero, List.set_cons_succ]
    refine wpAnyH_ready (rs := [10]) (by kernel_rfl) (by simp) ?_
    refine AllReadyH.cons rfl (fun K hK => ?_) AllReadyH.nil
    go_simp
    have hI := Incl_any _ _ (l.length : Int) (peaksOf l) (j : Int) x PP W.drew (HMW.out.below HF0.out) (HIW.out.below HF0.out) hxl (ht.same (HBW.out.next HF0.out))
    rw [HIx.out] at hI
    refine hI.mono ?_
    rintro e u1 ⟨rfl, hb⟩
    have HF1 := Lib.hid (HF0.out.trans (hb.mono HF0.out.size))
    clear hb hI
    refine hK.out _ _ (HS.out _ HF1.out) (fun hHeld => ?_)
    clear hK K
    try simp only [Act.put, List.setIfInBounds_toArray, List.set_cons_zero, List.set_cons_succ]
    refine take_at 11 72 (oi := ?o11) (v := ?v11) ?hi11 ?hd11 (by kernel_rfl) (by kernel_rfl) (by kernel_rfl) ?hQ11 ?hw11 ?hy11 (by assumption) ?rest11
    case hi11 => simp only [List.getElem?_toArray, List.getElem?_cons_succ, List.getElem?_cons_zero]; rfl
    case hd11 => rfl
    case hw11 => kernel_rfl
    case hy11 => intro W hW; (try dsimp only at hW); go_simp <;> with_reducible rfl
    case hQ11 => exact fun _ _ _ h => h
    try simp only [Act.put, List.setIfInBounds_toArray, List.set_cons_zero, List.set_cons_succ]
    refine take_at 12 4 (oi := ?o12) (v := ?v12) ?hi12 ?hd12 (by kernel_rfl) (by kernel_rfl) (by kernel_rfl) ?hQ12 ?hw12 ?hy12 (by assumption) ?rest12
    case hi12 => simp only [List.getElem?_toArray, List.getElem?_cons_succ, List.getElem?_cons_zero]; rfl
    case hd12 => rfl
    case hw12 => kernel_rfl
    case hy12 => intro W hW; (try dsimp only at hW); go_simp <;> with_reducible rfl
    case hQ12 => exact fun _ _ _ h => h
    try simp only [Act.put, List.setIfInBounds_toArray, List.set_cons_zero, List.set_cons_succ]
    refine wpAnyH_done (by kernel_rfl) ?_ _
    simp only [Exit.then]
    go_wp2
    go_ret
    exact ⟨rfl, HBW.out.next HF1.out⟩

set_option maxRecDepth 100000 in
theorem contract (H : Type) (enc : TypeId × Value → H) (W : World) (base : Nat) (args : Array Value) (ds gs : List (DataW H)) (before : List MemPlace)
    (hval : ∀ (j : Nat) t v, Tryd.f3.params[j]? = some t → args[j]? = some v → Value.okWide Tryd.prog W .any base t v)
    (hW : DataW.Whole enc Tryd.prog Tryd.f3.params.toList Rows.mountainProvesSpec.vars false W args.toList ds gs before) (hL : laidMetH Tryd.prog Rows.mountainProvesRow.laid W) :
    Calls Tryd.prog 3 args W fun e W' => ∃ v, e = .returned v ∧ Rows.mountainProvesSpec.post enc Tryd.prog Tryd.f3 false true false false W args v W' := by
  have hW' := hW
  obtain ⟨p, q, hA0, hV, rfl, hfz, hnd⟩ := hW
  have hA : DataW.TrodAll enc Tryd.prog W 0 (fun _ => true) true Tryd.f3.params.toList args.toList ds p := hA0
  rw [Tryd.params3] at hA hval
  obtain ⟨v0, vs0, d0, ds0, p0, q0, hargs, rfl, rfl, h0, r0⟩ := trodAll_cons hA
  obtain ⟨v1, vs1, d1, ds1, p1, q1, rfl, rfl, rfl, h1, r1⟩ := trodAll_cons r0
  obtain ⟨rfl, rfl, rfl⟩ := trodAll_nil r1
  obtain rfl : args = #[v0, v1] := by cases args; simp_all
  obtain ⟨rfl, rfl⟩ := trodVars_none hV
  obtain ⟨l, hl, _, hcv⟩ := strs_in (hval 0 22 v0 rfl rfl) h0
  obtain ⟨i, rfl⟩ := int_in (hval 1 3 v1 rfl rfl) h1
  refine (walk v0 l i W hl hcv (tab_of hL) (tz_of hL)).mono fun e W' ⟨he, hb⟩ => ⟨_, he, ?_⟩
  exact law_post hW' rfl (by kernel_rfl) (by kernel_rfl) rfl hb

theorem laid_met (os : Os) : laidMet Tryd.prog Rows.mountainProvesRow.laid ((laidWorld os).forCall (fun _ _ => 0) ⟨#[], #[.slice none 0 0, .int .i64 0], []⟩).memory :=
  laidMet_of_run' 8 (by kernel_rfl) (by kernel_rfl)
theorem reads (os : Os) {H : Type} (enc : TypeId × Value → H) : ∃ places, DataW.whole enc Tryd.prog ((laidWorld os).forCall (fun _ _ => 0) ⟨#[], #[.slice none 0 0, .int .i64 0], []⟩).memory Tryd.f3.params.toList Rows.mountainProvesSpec.vars false (#[.slice none 0 0, .int .i64 0] : Array Value).toList 8 = some ([.nil, .lit (.int .i64 0)], [], places) :=
  ⟨[], by kernel_rfl⟩

set_option maxRecDepth 100000 in
theorem lifted (os : Os) (started : os.Started) (H : Type) (enc : TypeId × Value → H) (F : Stop.Interp) :
    ReturnsInHanded {} Tryd.checked os 3 .any ((OpenSpec.ofChange Rows.mountainProvesSpec).preRow enc Tryd.prog Tryd.f3 Rows.mountainProvesRow.domain false Rows.mountainProvesRow.laid) (((OpenSpec.ofChange Rows.mountainProvesSpec).at F).post enc Tryd.prog Tryd.f3 false true false false) := by
  obtain ⟨places, hx⟩ := reads os enc
  refine returnsInHanded_of_row (C := Tryd.checked) (s := OpenSpec.ofChange Rows.mountainProvesSpec) own started (by kernel_rfl) Tryd.func3
    (witness_row_at (enc := enc) (C := Tryd.checked) false (laidWorld os) #[.slice none 0 0, .int .i64 0] rfl (by kernel_rfl) (by kernel_rfl) (by kernel_rfl)
      (OpenSpec.preRow_of_cond 8 hx (by kernel_rfl) (fun k hk => by cases hk) (by kernel_rfl) (laid_met os))) ?_
  intro W base args ds gs before hval hW _ _ _ hL _ _
  exact contract H enc W base args ds gs before hval hW hL

set_option maxRecDepth 100000 in
theorem said : Rows.MountainProvesSaid :=
  OpenClaim.holds_of_cond 3 Tryd.f3 rfl rfl rfl rfl rfl rfl rfl ⟨rfl, rfl, rfl, rfl, rfl⟩ rfl rfl rfl rfl rfl (by kernel_rfl) Tryd.func3 (by kernel_rfl)
    (of_decide_eq_true (by kernel_rfl)) (by unfold Func.isWrapper; first | (rw [if_pos (by decide +kernel)]; kernel_rfl) | (rw [if_neg (by decide +kernel)]; exact ⟨rfl, rfl⟩))
    (fun os started H enc _ F => by rw [OpenClaim.pre_eq_preRow]; exact lifted os started H enc F)

/-- No parameter wants a stand-in; the program's own looks are off. -/
theorem plain (f : FuncId) (fn : Func) (hf : Tryd.pinned.checked.prog.funcNamed "licit/licitlaw49.MountainProves" = some f) (hfn : Tryd.pinned.checked.prog.funcs[f]? = some fn) :
    false = Tryd.pinned.checked.prog.looks [] ∧ ∀ (j : Nat) t, fn.params[j]? = some t → Tryd.pinned.checked.prog.wantsStandIn t = false := by
  obtain rfl : f = 3 := Option.some.inj ((show Tryd.prog.funcNamed "licit/licitlaw49.MountainProves" = some 3 by kernel_rfl).symm.trans hf) |>.symm
  obtain rfl : fn = Tryd.f3 := (Option.some.inj (Tryd.func3.symm.trans hfn)).symm
  refine ⟨by kernel_rfl, fun j t ht => ?_⟩
  have hall : Tryd.f3.params.toList.all (fun t => !Tryd.prog.wantsStandIn t) = true := by kernel_rfl
  have := List.all_eq_true.1 hall t (Array.mem_toList_iff.2 (Array.mem_of_getElem? ht))
  exact (by simpa using this : Tryd.prog.wantsStandIn t = false)

theorem card : Rows.MountainProvesCardSaid :=
  Claim7.holds_tied_plain_at .later [] _ _ _ _ said (fun _ h => by cases h) (by kernel_rfl) (fun _ h => by cases h) mountainProves_row_tie rfl ⟨rfl, rfl⟩ (by kernel_rfl) rfl plain (by kernel_rfl)

end Go.Proofs.YtfklmjcjjdliiaaDoor.lawProves
