/- The card of MountainGrows is proved: for every list of leaves and index the law returns true; the conditions are those of the given row. -/
import Derived.Test.YtfklmjcjjdliiaaDoorLawKit49
import Derived.Test.YtfklmjcjjdliiaaDoorWkMtG
import Derived.Deep.Cut
namespace Go.Proofs.YtfklmjcjjdliiaaDoor.lawGrows
open Go Go.RowKit Licit
open Go.ChangeShapes Go.WideShapes Go.ChangeAt

theorem growE_zero {l : List Bs} {i : Int} (h : growE l i = 0) : checkM l = 0 ∧ 0 ≤ i ∧ i ≤ (l.length : Int) := by
  unfold growE at h
  split at h
  · rename_i hc
    split at h
    · rename_i hi
      exact ⟨hc, hi.1, hi.2⟩
    · cases h
  · rename_i hc
    exact absurd h hc
set_option maxHeartbeats 8000000 in
set_option maxRecDepth 100000 in
theorem walk (v : Value) (l : List Bs) (i : Int) (w : World) (hv : IsSl v (l.map vS) w) (hcv : SlCap v) (ht : Tab w) (hz : Tz w) :
    Calls Tryd.prog 8 #[v, .int .i64 i] w fun e w' => e = .returned (.bool true) ∧ Below w.heap.size w w' := by
  have HA := Lib.hid (fun W (hb : Below w.heap.size w W) => awake_any49 W (ht.same hb) (hz.same hb))
  have HV := Lib.hid hv
  have HRP := Lib.hid (fun W (hb : Below w.heap.size w W) => RMtGrow_any v l i W (hv.below hb) hcv)
  have HFw := Lib.hid (fun W (hb : Below w.heap.size w W) => FewM_any _ l 40 W (hv.below hb))
  obtain ⟨a, c, rfl⟩ := hv.formMap
  obtain ⟨F, hF⟩ : ∃ F, fewM 40 l = F := ⟨_, rfl⟩
  rw [hF] at HFw
  have HFF := Lib.hid hF
  have HB0 := Lib.hid (Below.refl w.heap.size w)
  clear hv hF
  go_enter Tryd.func8, Tryd.ntmps8
  go_wp2_with fail
  refine (HA.out _ HB0.out).mono ?_
  rintro e w1 ⟨rfl, hb⟩
  have HB1 := Lib.hid (HB0.out.next hb)
  clear hb
  go_wp2_with fail
  refine (HFw.out _ HB1.out).mono ?_
  rintro e w2 ⟨rfl, rfl⟩
  cases F with
  | false =>
    go_wp2_with fail
    refine (HA.out _ HB1.out).mono ?_
    rintro e w3 ⟨rfl, hb⟩
    have HB3 := Lib.hid (HB1.out.next hb)
    clear hb
    go_wp2
    go_ret
    exact ⟨rfl, HB3.out⟩
  | true =>
    have hPf := (fewM_iff HFF.out).1
    have hP40 := (fewM_iff HFF.out).2
    have HP40 := Lib.hid hP40
    clear hP40
    have HCl := Lib.hid (CloneS_any _ l w2 (HV.out.below HB1.out) (by omega))
    go_wp2_with fail
    refine HCl.out.mono ?_
    rintro e w3 ⟨v3, rfl, ho3, hb⟩
    have HB3 := Lib.hid (HB1.out.next hb)
    have hPr := MtGrow_any v3 l i w3 (IsSl.of_owns (xs := l.map vS) (by rw [List.length_map]; exact ho3) (by rw [List.length_map]; unfold maxLen; omega)) (SlCap.own ho3) (ht.same HB3.out) (hz.same HB3.out)
    obtain ⟨PE, hPE⟩ : ∃ x, growE l i = x := ⟨_, rfl⟩
    obtain ⟨PP, hPP⟩ : ∃ x, growP l i = x := ⟨_, rfl⟩
    have hRP := fun W hb => HRP.out W hb
    rw [hPE, hPP] at hPr
    simp only [hPE, hPP] at hRP
    have HPr := Lib.hid hPr
    have HRP2 := Lib.hid hRP
    have HPE := Lib.hid hPE
    have HPP := Lib.hid hPP
    have hpl : PP.length ≤ 1000 := by
      rw [← hPP]
      unfold growP
      split
      · rename_i h0
        obtain ⟨_, h1, h2⟩ := growE_zero h0
        unfold growN
        rw [cutsL_len]
        have := stepsL_few i.toNat l.length (by omega)
        omega
      · simp
    obtain ⟨a3, k3, rfl⟩ := own_form ho3
    clear hb ho3 hPr hRP hPE hPP
    go_wp2_with fail
    refine HPr.out.mono ?_
    rintro e w5 ⟨v5, rfl, ho5, hb⟩
    have HB5 := Lib.hid (HB3.out.next hb)
    have HI5 := Lib.hid (IsSl.of_owns (xs := PP.map vS) (by rw [List.length_map]; exact ho5) (by rw [List.length_map]; unfold maxLen; omega))
    obtain ⟨a5, k5, rfl⟩ := own_form ho5
    clear hb ho5
    go_wp2_with fail
    refine (HRP2.out _ HB5.out).mono ?_
    rintro e w6 ⟨v6, rfl, ho6, hb⟩
    have HB6 := Lib.hid (HB5.out.next hb)
    have HI6 := Lib.hid (HI5.out.below hb)
    have HJ6 := Lib.hid (IsSl.of_owns (xs := PP.map vS) (by rw [List.length_map]; exact ho6) (by rw [List.length_map]; unfold maxLen; omega))
    obtain ⟨a6, k6, rfl⟩ := own_form ho6
    have hEq := Equal_any _ _ PP PP w6 HI6.out HJ6.out
    rw [decide_eq_true rfl] at hEq
    have HEq := Lib.hid hEq
    clear hb ho6 hEq
    go_wp2_with fail
    refine HEq.out.mono ?_
    rintro e w7 ⟨rfl, q, rfl⟩
    obtain ⟨W7, hW7⟩ : ∃ W7, w6.drewN q = W7 := ⟨_, rfl⟩
    have HB7 := Lib.hid (show Below w.heap.size w W7 from hW7 ▸ below_drewN HB6.out q)
    have HI7 := Lib.hid (show IsSl _ (PP.map vS) W7 from hW7 ▸ HI6.out.below (below_drewN (Below.refl _ _) q))
    rw [hW7]
    clear hW7
    by_cases hne : PE = 0
    rotate_left
    · have hq : (PE == 0) = false := by simpa using hne
      have hq2 : (PE != 0) = true := by rw [bne, hq]; rfl
      go_wp2
      go_ret
      exact ⟨rfl, HB7.out⟩
    subst hne
    obtain ⟨hck, hi0, hil⟩ := growE_zero HPE.out
    obtain ⟨j, rfl⟩ : ∃ j : Nat, i = (j : Int) := ⟨i.toNat, by omega⟩
    have d1 : decide ((j : Int) < 0) = false := by simp
    have hjl : j ≤ l.length := by omega
    have d2 : decide ((l.length : Int) < (j : Int)) = false := by simp; omega
    obtain ⟨hl1024, h32⟩ := checkM_iff.1 hck
    have hG := grown_grow hl1024 (all32_get h32) hjl
    have hpp : PP = growN l j l.length := by rw [← HPP.out]; unfold growP; rw [HPE.out, if_pos rfl, Int.toNat_natCast]
    rw [← hpp] at hG
    have HG := Lib.hid hG
    have htl : (l.take j).length = j := by rw [List.length_take]; omega
    have hckt := checkM_zero (l := l.take j) (fun x hx => all32_get h32 x (List.mem_of_mem_take hx)) (by omega)
    have HC7 := Lib.hid (CloneS_any (.slice a j c) (l.take j) W7 (isSl_takes (HV.out.below HB7.out) hjl) (by omega))
    have hcap : l.length ≤ c := hcv
    have hjc : j ≤ c := by omega
    have hjcI : (j : Int) ≤ (c : Int) := by omega
    have hj0 : (0 : Int) ≤ (j : Int) := by omega
    have HOf1 := Lib.hid (fun v W (h : IsSl v ((l.take j).map vS) W) (hb : Below w.heap.size w W) => MtOf_any v (l.take j) W h (ht.same hb))
    have HOf2 := Lib.hid (fun v W (h : IsSl v (l.map vS) W) (hb : Below w.heap.size w W) => MtOf_any v l W h (ht.same hb))
    simp only [hckt, hck, show ofS (l.take j) = (j : Int) by unfold ofS; rw [hckt, if_pos rfl, htl], show ofP (l.take j) = peaksOf (l.take j) by unfold ofP; rw [hckt, if_pos rfl],
      show ofS l = (l.length : Int) by unfold ofS; rw [hck, if_pos rfl], show ofP l = peaksOf l by unfold ofP; rw [hck, if_pos rfl]] at HOf1 HOf2
    have Htl := Lib.hid htl
    obtain ⟨P1, hP1⟩ : ∃ x, peaksOf (l.take j) = x := ⟨_, rfl⟩
    obtain ⟨P2, hP2⟩ : ∃ x, peaksOf l = x := ⟨_, rfl⟩
    simp only [hP1] at HOf1 HG
    simp only [hP2] at HOf2 HG
    clear hG hckt hck h32 hi0 hil hpp htl hP1 hP2
    go_wp2_with fail
    refine HC7.out.mono ?_
    rintro e w8 ⟨v8, rfl, ho8, hb⟩
    have HB8 := Lib.hid (HB7.out.next hb)
    rw [Htl.out] at ho8
    have HI8 := Lib.hid (HI7.out.below hb)
    have HOf := Lib.hid (HOf1.out v8 w8 (IsSl.of_owns (xs := (l.take j).map vS) (by rw [List.length_map, Htl.out]; exact ho8) (by rw [List.length_map, Htl.out]; unfold maxLen; omega)) HB8.out)
    obtain ⟨a8, k8, rfl⟩ := own_form ho8
    clear hb ho8
    go_wp2_with fail
    refine HOf.out.mono ?_
    rintro e w9 ⟨v9, rfl, hm9, hb⟩
    have HB9 := Lib.hid (HB8.out.next hb)
    have HI9 := Lib.hid (HI8.out.below hb)
    have HM9 := Lib.hid hm9
    obtain ⟨p9, rfl, hp9, _⟩ := hm9
    obtain ⟨ma, mc, rfl⟩ := hp9.formMap
    obtain ⟨W9, hW9⟩ : ∃ W9, w9.alloc (.cells #[.int .i64 (j : Int), .slice ma P1.length mc] 31) = W9 := ⟨_, rfl⟩
    obtain ⟨D, hD⟩ : ∃ D, w9.heap.size = D := ⟨_, rfl⟩
    have hbW : Below w9.heap.size w9 W9 := by rw [← hW9]; exact (Below.refl _ _).alloc (Nat.le_refl _) _
    have HD9 := Lib.hid (show W9.heap[D]? = some (.cells #[.int .i64 (j : Int), .slice ma P1.length mc] 31) by rw [← hD, ← hW9]; exact new_of _ _)
    have HB10 := Lib.hid (HB9.out.next hbW)
    have HI10 := Lib.hid (HI9.out.below hbW)
    have HM10 := Lib.hid (HM9.out.below hbW)
    have HC10 := Lib.hid (CloneS_any _ l W9 (HV.out.below HB10.out) (by omega))
    clear hb hp9 hbW HOf HC7
    go_upto_region 10 with fail
    clear hW9 hD
    go_wp2_with fail
    refine HC10.out.mono ?_
    rintro e w11 ⟨v11, rfl, ho11, hb⟩
    have HB11 := Lib.hid (HB10.out.next hb)
    have HI11 := Lib.hid (HI10.out.below hb)
    have HM11 := Lib.hid (HM10.out.below hb)
    have HD11 := Lib.hid ((hb.block _ (lt_of HD9.out)).trans HD9.out)
    have HOf := Lib.hid (HOf2.out v11 w11 (IsSl.of_owns (xs := l.map vS) (by rw [List.length_map]; exact ho11) (by rw [List.length_map]; unfold maxLen; omega)) HB11.out)
    obtain ⟨a11, k11, rfl⟩ := own_form ho11
    clear hb ho11
    go_wp2_with fail
    refine HOf.out.mono ?_
    rintro e w12 ⟨v12, rfl, hm12, hb⟩
    have HB12 := Lib.hid (HB11.out.next hb)
    have HI12 := Lib.hid (HI11.out.below hb)
    have HM12 := Lib.hid (HM11.out.below hb)
    have HD12 := Lib.hid ((hb.block _ (lt_of HD11.out)).trans HD11.out)
    have HN12 := Lib.hid hm12
    obtain ⟨p12, rfl, hp12, _⟩ := hm12
    obtain ⟨na, nc, rfl⟩ := hp12.formMap
    obtain ⟨W, hW⟩ : ∃ W, w12.alloc (.cells #[.int .i64 (l.length : Int), .slice na P2.length nc] 31) = W := ⟨_, rfl⟩
    obtain ⟨E, hE⟩ : ∃ E, w12.heap.size = E := ⟨_, rfl⟩
    have hbW : Below w12.heap.size w12 W := by rw [← hW]; exact (Below.refl _ _).alloc (Nat.le_refl _) _
    have hEW := show W.heap[E]? = some (.cells #[.int .i64 (l.length : Int), .slice na P2.length nc] 31) by rw [← hE, ← hW]; exact new_of _ _
    have hDW := (hbW.block _ (lt_of HD12.out)).trans HD12.out
    have HBW := Lib.hid (HB12.out.next hbW)
    have HGr := Lib.hid (Grown_any _ _ _ (j : Int) (l.length : Int) P1 P2 PP W (HM12.out.below hbW) (HN12.out.below hbW) (HI12.out.below hbW) (by omega) (ht.same HBW.out) (hz.same HBW.out))
    have HEW := Lib.hid hEW
    have HDW := Lib.hid hDW
    clear hb hp12 hbW HOf HC10 hEW hDW
    go_upto_region 11 with fail
    clear hW hE
    obtain ⟨c0, c1⟩ := mtC HDW.out
    obtain ⟨e0, e1⟩ := mtC HEW.out
    rw [HG.out] at HGr
    go_wp2_with fail
    refine HGr.out.mono ?_
    rintro e w13 ⟨rfl, hb⟩
    have HB13 := Lib.hid (HBW.out.next hb)
    clear hb c0 c1 e0 e1
    go_wp2
    go_ret
    exact ⟨rfl, HB13.out⟩

set_option maxRecDepth 100000 in
theorem contract (H : Type) (enc : TypeId × Value → H) (W : World) (base : Nat) (args : Array Value) (ds gs : List (DataW H)) (before : List MemPlace)
    (hval : ∀ (j : Nat) t v, Tryd.f8.params[j]? = some t → args[j]? = some v → Value.okWide Tryd.prog W .any base t v)
    (hW : DataW.Whole enc Tryd.prog Tryd.f8.params.toList Rows.mountainGrowsSpec.vars false W args.toList ds gs before) (hL : laidMetH Tryd.prog Rows.mountainGrowsRow.laid W) :
    Calls Tryd.prog 8 args W fun e W' => ∃ v, e = .returned v ∧ Rows.mountainGrowsSpec.post enc Tryd.prog Tryd.f8 false true false false W args v W' := by
  have hW' := hW
  obtain ⟨p, q, hA0, hV, rfl, hfz, hnd⟩ := hW
  have hA : DataW.TrodAll enc Tryd.prog W 0 (fun _ => true) true Tryd.f8.params.toList args.toList ds p := hA0
  rw [Tryd.params8] at hA hval
  obtain ⟨v0, vs0, d0, ds0, p0, q0, hargs, rfl, rfl, h0, r0⟩ := trodAll_cons hA
  obtain ⟨v1, vs1, d1, ds1, p1, q1, rfl, rfl, rfl, h1, r1⟩ := trodAll_cons r0
  obtain ⟨rfl, rfl, rfl⟩ := trodAll_nil r1
  obtain rfl : args = #[v0, v1] := by cases args; simp_all
  obtain ⟨rfl, rfl⟩ := trodVars_none hV
  obtain ⟨l, hl, _, hcv⟩ := strs_in (hval 0 22 v0 rfl rfl) h0
  obtain ⟨i, rfl⟩ := int_in (hval 1 3 v1 rfl rfl) h1
  refine (walk v0 l i W hl hcv (tab_of hL) (tz_of hL)).mono fun e W' ⟨he, hb⟩ => ⟨_, he, ?_⟩
  exact law_post hW' rfl (by kernel_rfl) (by kernel_rfl) rfl hb

theorem laid_met (os : Os) : laidMet Tryd.prog Rows.mountainGrowsRow.laid ((laidWorld os).forCall (fun _ _ => 0) ⟨#[], #[.slice none 0 0, .int .i64 0], []⟩).memory :=
  laidMet_of_run' 8 (by kernel_rfl) (by kernel_rfl)
theorem reads (os : Os) {H : Type} (enc : TypeId × Value → H) : ∃ places, DataW.whole enc Tryd.prog ((laidWorld os).forCall (fun _ _ => 0) ⟨#[], #[.slice none 0 0, .int .i64 0], []⟩).memory Tryd.f8.params.toList Rows.mountainGrowsSpec.vars false (#[.slice none 0 0, .int .i64 0] : Array Value).toList 8 = some ([.nil, .lit (.int .i64 0)], [], places) :=
  ⟨[], by kernel_rfl⟩

set_option maxRecDepth 100000 in
theorem lifted (os : Os) (started : os.Started) (H : Type) (enc : TypeId × Value → H) (F : Stop.Interp) :
    ReturnsInHanded {} Tryd.checked os 8 .any ((OpenSpec.ofChange Rows.mountainGrowsSpec).preRow enc Tryd.prog Tryd.f8 Rows.mountainGrowsRow.domain false Rows.mountainGrowsRow.laid) (((OpenSpec.ofChange Rows.mountainGrowsSpec).at F).post enc Tryd.prog Tryd.f8 false true false false) := by
  obtain ⟨places, hx⟩ := reads os enc
  refine returnsInHanded_of_row (C := Tryd.checked) (s := OpenSpec.ofChange Rows.mountainGrowsSpec) own started (by kernel_rfl) Tryd.func8
    (witness_row_at (enc := enc) (C := Tryd.checked) false (laidWorld os) #[.slice none 0 0, .int .i64 0] rfl (by kernel_rfl) (by kernel_rfl) (by kernel_rfl)
      (OpenSpec.preRow_of_cond 8 hx (by kernel_rfl) (fun k hk => by cases hk) (by kernel_rfl) (laid_met os))) ?_
  intro W base args ds gs before hval hW _ _ _ hL _ _
  exact contract H enc W base args ds gs before hval hW hL

set_option maxRecDepth 100000 in
theorem said : Rows.MountainGrowsSaid :=
  OpenClaim.holds_of_cond 8 Tryd.f8 rfl rfl rfl rfl rfl rfl rfl ⟨rfl, rfl, rfl, rfl, rfl⟩ rfl rfl rfl rfl rfl (by kernel_rfl) Tryd.func8 (by kernel_rfl)
    (of_decide_eq_true (by kernel_rfl)) (by unfold Func.isWrapper; first | (rw [if_pos (by decide +kernel)]; kernel_rfl) | (rw [if_neg (by decide +kernel)]; exact ⟨rfl, rfl⟩))
    (fun os started H enc _ F => by rw [OpenClaim.pre_eq_preRow]; exact lifted os started H enc F)

/-- No parameter wants a stand-in; the program's own looks are off. -/
theorem plain (f : FuncId) (fn : Func) (hf : Tryd.pinned.checked.prog.funcNamed "licit/licitlaw49.MountainGrows" = some f) (hfn : Tryd.pinned.checked.prog.funcs[f]? = some fn) :
    false = Tryd.pinned.checked.prog.looks [] ∧ ∀ (j : Nat) t, fn.params[j]? = some t → Tryd.pinned.checked.prog.wantsStandIn t = false := by
  obtain rfl : f = 8 := Option.some.inj ((show Tryd.prog.funcNamed "licit/licitlaw49.MountainGrows" = some 8 by kernel_rfl).symm.trans hf) |>.symm
  obtain rfl : fn = Tryd.f8 := (Option.some.inj (Tryd.func8.symm.trans hfn)).symm
  refine ⟨by kernel_rfl, fun j t ht => ?_⟩
  have hall : Tryd.f8.params.toList.all (fun t => !Tryd.prog.wantsStandIn t) = true := by kernel_rfl
  have := List.all_eq_true.1 hall t (Array.mem_toList_iff.2 (Array.mem_of_getElem? ht))
  exact (by simpa using this : Tryd.prog.wantsStandIn t = false)

theorem card : Rows.MountainGrowsCardSaid :=
  Claim7.holds_tied_plain_at .later [] _ _ _ _ said (fun _ h => by cases h) (by kernel_rfl) (fun _ h => by cases h) mountainGrows_row_tie rfl ⟨rfl, rfl⟩ (by kernel_rfl) rfl plain (by kernel_rfl)

end Go.Proofs.YtfklmjcjjdliiaaDoor.lawGrows
