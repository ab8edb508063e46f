/- The card of MountainOf is proved: for every list of leaves the law returns true; the conditions are those of the given row. -/
import Derived.Test.YtfklmjcjjdliiaaDoorLawKit49
import Derived.Test.YtfklmjcjjdliiaaDoorWkMtB
namespace Go.Proofs.YtfklmjcjjdliiaaDoor.lawOf
open Go Go.RowKit Licit
open Go.ChangeShapes Go.WideShapes Go.ChangeAt

set_option maxHeartbeats 8000000 in
set_option maxRecDepth 100000 in
theorem walk (v : Value) (l : List Bs) (w : World) (hv : IsSl v (l.map vS) w) (hcv : SlCap v) (ht : Tab w) (hz : Tz w) :
    Calls Tryd.prog 6 #[v] w fun e w' => e = .returned (.bool true) ∧ Below w.heap.size w w' := by
  have HA := Lib.hid (fun W (hb : Below w.heap.size w W) => awake_any49 W (ht.same hb) (hz.same hb))
  have HV := Lib.hid hv
  have HRO := Lib.hid (fun W (hb : Below w.heap.size w W) => ROf_any v l W (hv.below hb) hcv)
  have HFw := Lib.hid (fun W (hb : Below w.heap.size w W) => FewM_any _ l 1030 W (hv.below hb))
  obtain ⟨a, c, rfl⟩ := hv.formMap
  have HL1 := Lib.hid (fun W (hT : Tab W) => show Gives 27 #[.string ⟨#[100, 97, 116, 97]⟩] W (.string (B (leafM [100, 97, 116, 97]))) from Leaf_any [100, 97, 116, 97] W (by decide) hT)
  have HL2 := Lib.hid (fun W => show Gives 25 #[.string ⟨#[100, 97, 116, 97]⟩] W (.string (B (leafM [100, 97, 116, 97]))) from RLeaf49_any [100, 97, 116, 97] W (by decide))
  obtain ⟨LD, hLD⟩ : ∃ x, leafM [100, 97, 116, 97] = x := ⟨_, rfl⟩
  rw [hLD] at HL1 HL2
  obtain ⟨F, hF⟩ : ∃ F, fewM 1030 l = F := ⟨_, rfl⟩
  rw [hF] at HFw
  have HFF := Lib.hid hF
  have HB0 := Lib.hid (Below.refl w.heap.size w)
  clear hv hLD hF
  go_enter Tryd.func6, Tryd.ntmps6
  go_wp2_with fail
  refine (HA.out _ HB0.out).mono ?_
  rintro e w1 ⟨rfl, hb⟩
  have HB1 := Lib.hid (HB0.out.next hb)
  clear hb
  by_cases h1 : 40 < l.length ∧ l.length ≤ 1024
  · have d1 : decide (40 < (l.length : Int)) = true := by simp; omega
    have d2 : decide ((l.length : Int) ≤ 1024) = true := by simp; omega
    go_wp2_with fail
    refine (HA.out _ HB1.out).mono ?_
    rintro e w3 ⟨rfl, hb⟩
    have HB3 := Lib.hid (HB1.out.next hb)
    clear hb
    go_wp2
    go_ret
    exact ⟨rfl, HB3.out⟩
  · have hrest : ∀ {Q : Prop}, (∀ d : Bool, decide (40 < (l.length : Int)) = d → (d = true → decide ((l.length : Int) ≤ 1024) = false) → Q) → Q := fun {Q} k => by
      by_cases h40 : 40 < l.length
      · exact k true (by simp; omega) (fun _ => by simp; omega)
      · exact k false (by simp; omega) (fun e => by cases e)
    refine hrest fun d d1 d2 => ?_
    clear h1 hrest
    cases d with
    | true =>
      have d2 := d2 rfl
      go_wp2_with fail
      refine (HFw.out _ HB1.out).mono ?_
      rintro e w2 ⟨rfl, rfl⟩
      cases F with
      | false =>
        go_wp2_with fail
        refine (HA.out _ HB1.out).mono ?_
        rintro e w3 ⟨rfl, hb⟩
        have HB3 := Lib.hid (HB1.out.next hb)
        clear hb
        go_wp2
        go_ret
        exact ⟨rfl, HB3.out⟩
      | true =>
        have hPf := (fewM_iff HFF.out).1
        have HCl := Lib.hid (CloneS_any _ l w2 (HV.out.below HB1.out) (by omega))
        go_wp2_with fail
        refine HCl.out.mono ?_
        rintro e w3 ⟨v3, rfl, ho3, hb⟩
        have HB3 := Lib.hid (HB1.out.next hb)
        have hOf := MtOf_any v3 l w3 (IsSl.of_owns (xs := l.map vS) (by rw [List.length_map]; exact ho3) (by rw [List.length_map]; unfold maxLen; omega)) (ht.same HB3.out)
        have hRO := fun W hb => HRO.out W hb
        obtain ⟨CC, hCC⟩ : ∃ x, checkM l = x := ⟨_, rfl⟩
        obtain ⟨ES, hES⟩ : ∃ x, ofS l = x := ⟨_, rfl⟩
        obtain ⟨EP, hEP⟩ : ∃ x, ofP l = x := ⟨_, rfl⟩
        rw [hCC, hES, hEP] at hOf
        simp only [hCC, hES, hEP] at hRO
        have HOf := Lib.hid hOf
        have HRO2 := Lib.hid hRO
        obtain ⟨a3, k3, rfl⟩ := own_form ho3
        clear hb ho3 hOf hRO hCC hES hEP
        go_wp2_with fail
        refine HOf.out.mono ?_
        rintro e w5 ⟨v5, rfl, hm5, hb⟩
        have HB5 := Lib.hid (HB3.out.next hb)
        have HM5 := Lib.hid hm5
        obtain ⟨p6, rfl, hp6, _⟩ := hm5
        obtain ⟨a6, c6, rfl⟩ := hp6.formMap
        have hbA := (Below.refl w5.heap.size w5).alloc (Nat.le_refl _) (.cells #[.int .i64 ES, .slice a6 EP.length c6] 31)
        have HbA := Lib.hid hbA
        have HNA := Lib.hid (new_of w5 (.cells #[.int .i64 ES, .slice a6 EP.length c6] 31))
        clear hb hbA hp6
        go_wp2_with fail
        refine (HRO2.out _ (HB5.out.next HbA.out)).mono ?_
        rintro e w7 ⟨v7, rfl, hm7, hb⟩
        have HB7 := Lib.hid (HB5.out.next (HbA.out.trans (hb.mono HbA.out.size)))
        have HA7 := Lib.hid ((hb.block _ (lt_of HNA.out)).trans HNA.out)
        have HM5' := Lib.hid ((HM5.out.below HbA.out).below hb)
        have HM7 := Lib.hid hm7
        obtain ⟨p8, rfl, hp8, _⟩ := hm7
        obtain ⟨a8, c8, rfl⟩ := hp8.formMap
        have hb8 := (Below.refl w7.heap.size w7).alloc (Nat.le_refl _) (.cells #[.int .i64 ES, .slice a8 EP.length c8] 31)
        have hSm := MtSame_any _ _ ES ES EP EP _ (HM5'.out.below hb8) (HM7.out.below hb8)
        rw [show sameMt ES EP ES EP = true by simp [sameMt]] at hSm
        have HSm := Lib.hid hSm
        have HB8 := Lib.hid (HB7.out.next hb8)
        obtain ⟨m0, m1⟩ := mtC HA7.out
        have hww : w5.heap.size < w7.heap.size := lt_of HA7.out
        clear hb hp8 hb8 hSm
        go_wp2_with fail
        refine HSm.out.mono ?_
        rintro e w9 ⟨rfl, hb⟩
        have HB9 := Lib.hid (HB8.out.next hb)
        clear hb m0 m1
        go_wp2_with fail
        refine (HL1.out _ (ht.same HB9.out)).mono ?_
        rintro e w10 ⟨rfl, hb⟩
        have HB10 := Lib.hid (HB9.out.next hb)
        clear hb
        go_wp2_with fail
        refine (HL2.out _).mono ?_
        rintro e w11 ⟨rfl, hb⟩
        have HB11 := Lib.hid (HB10.out.next hb)
        clear hb
        go_wp2
        go_ret
        exact ⟨rfl, HB11.out⟩
    | false =>
      clear d2
      go_wp2_with fail
      refine (HFw.out _ HB1.out).mono ?_
      rintro e w2 ⟨rfl, rfl⟩
      cases F with
      | false =>
        go_wp2_with fail
        refine (HA.out _ HB1.out).mono ?_
        rintro e w3 ⟨rfl, hb⟩
        have HB3 := Lib.hid (HB1.out.next hb)
        clear hb
        go_wp2
        go_ret
        exact ⟨rfl, HB3.out⟩
      | true =>
        have hPf := (fewM_iff HFF.out).1
        have HCl := Lib.hid (CloneS_any _ l w2 (HV.out.below HB1.out) (by omega))
        go_wp2_with fail
        refine HCl.out.mono ?_
        rintro e w3 ⟨v3, rfl, ho3, hb⟩
        have HB3 := Lib.hid (HB1.out.next hb)
        have hOf := MtOf_any v3 l w3 (IsSl.of_owns (xs := l.map vS) (by rw [List.length_map]; exact ho3) (by rw [List.length_map]; unfold maxLen; omega)) (ht.same HB3.out)
        have hRO := fun W hb => HRO.out W hb
        obtain ⟨CC, hCC⟩ : ∃ x, checkM l = x := ⟨_, rfl⟩
        obtain ⟨ES, hES⟩ : ∃ x, ofS l = x := ⟨_, rfl⟩
        obtain ⟨EP, hEP⟩ : ∃ x, ofP l = x := ⟨_, rfl⟩
        rw [hCC, hES, hEP] at hOf
        simp only [hCC, hES, hEP] at hRO
        have HOf := Lib.hid hOf
        have HRO2 := Lib.hid hRO
        obtain ⟨a3, k3, rfl⟩ := own_form ho3
        clear hb ho3 hOf hRO hCC hES hEP
        go_wp2_with fail
        refine HOf.out.mono ?_
        rintro e w5 ⟨v5, rfl, hm5, hb⟩
        have HB5 := Lib.hid (HB3.out.next hb)
        have HM5 := Lib.hid hm5
        obtain ⟨p6, rfl, hp6, _⟩ := hm5
        obtain ⟨a6, c6, rfl⟩ := hp6.formMap
        have hbA := (Below.refl w5.heap.size w5).alloc (Nat.le_refl _) (.cells #[.int .i64 ES, .slice a6 EP.length c6] 31)
        have HbA := Lib.hid hbA
        have HNA := Lib.hid (new_of w5 (.cells #[.int .i64 ES, .slice a6 EP.length c6] 31))
        clear hb hbA hp6
        go_wp2_with fail
        refine (HRO2.out _ (HB5.out.next HbA.out)).mono ?_
        rintro e w7 ⟨v7, rfl, hm7, hb⟩
        have HB7 := Lib.hid (HB5.out.next (HbA.out.trans (hb.mono HbA.out.size)))
        have HA7 := Lib.hid ((hb.block _ (lt_of HNA.out)).trans HNA.out)
        have HM5' := Lib.hid ((HM5.out.below HbA.out).below hb)
        have HM7 := Lib.hid hm7
        obtain ⟨p8, rfl, hp8, _⟩ := hm7
        obtain ⟨a8, c8, rfl⟩ := hp8.formMap
        have hb8 := (Below.refl w7.heap.size w7).alloc (Nat.le_refl _) (.cells #[.int .i64 ES, .slice a8 EP.length c8] 31)
        have hSm := MtSame_any _ _ ES ES EP EP _ (HM5'.out.below hb8) (HM7.out.below hb8)
        rw [show sameMt ES EP ES EP = true by simp [sameMt]] at hSm
        have HSm := Lib.hid hSm
        have HB8 := Lib.hid (HB7.out.next hb8)
        obtain ⟨m0, m1⟩ := mtC HA7.out
        have hww : w5.heap.size < w7.heap.size := lt_of HA7.out
        clear hb hp8 hb8 hSm
        go_wp2_with fail
        refine HSm.out.mono ?_
        rintro e w9 ⟨rfl, hb⟩
        have HB9 := Lib.hid (HB8.out.next hb)
        clear hb m0 m1
        go_wp2_with fail
        refine (HL1.out _ (ht.same HB9.out)).mono ?_
        rintro e w10 ⟨rfl, hb⟩
        have HB10 := Lib.hid (HB9.out.next hb)
        clear hb
        go_wp2_with fail
        refine (HL2.out _).mono ?_
        rintro e w11 ⟨rfl, hb⟩
        have HB11 := Lib.hid (HB10.out.next hb)
        clear hb
        go_wp2
        go_ret
        exact ⟨rfl, HB11.out⟩

set_option maxRecDepth 100000 in
theorem contract (H : Type) (enc : TypeId × Value → H) (W : World) (base : Nat) (args : Array Value) (ds gs : List (DataW H)) (before : List MemPlace)
    (hval : ∀ (j : Nat) t v, Tryd.f6.params[j]? = some t → args[j]? = some v → Value.okWide Tryd.prog W .any base t v)
    (hW : DataW.Whole enc Tryd.prog Tryd.f6.params.toList Rows.mountainOfSpec.vars false W args.toList ds gs before) (hL : laidMetH Tryd.prog Rows.mountainOfRow.laid W) :
    Calls Tryd.prog 6 args W fun e W' => ∃ v, e = .returned v ∧ Rows.mountainOfSpec.post enc Tryd.prog Tryd.f6 false true false false W args v W' := by
  have hW' := hW
  obtain ⟨p, q, hA0, hV, rfl, hfz, hnd⟩ := hW
  have hA : DataW.TrodAll enc Tryd.prog W 0 (fun _ => true) true Tryd.f6.params.toList args.toList ds p := hA0
  rw [Tryd.params6] at hA hval
  obtain ⟨v0, vs0, d0, ds0, p0, q0, hargs, rfl, rfl, h0, r0⟩ := trodAll_cons hA
  obtain ⟨rfl, rfl, rfl⟩ := trodAll_nil r0
  obtain rfl : args = #[v0] := by cases args; simp_all
  obtain ⟨rfl, rfl⟩ := trodVars_none hV
  obtain ⟨l, hl, _, hcv⟩ := strs_in (hval 0 22 v0 rfl rfl) h0
  refine (walk v0 l W hl hcv (tab_of hL) (tz_of hL)).mono fun e W' ⟨he, hb⟩ => ⟨_, he, ?_⟩
  exact law_post hW' rfl (by kernel_rfl) (by kernel_rfl) rfl hb


theorem laid_met (os : Os) : laidMet Tryd.prog Rows.mountainOfRow.laid ((laidWorld os).forCall (fun _ _ => 0) ⟨#[], #[.slice none 0 0], []⟩).memory :=
  laidMet_of_run' 8 (by kernel_rfl) (by kernel_rfl)
theorem reads (os : Os) {H : Type} (enc : TypeId × Value → H) : ∃ places, DataW.whole enc Tryd.prog ((laidWorld os).forCall (fun _ _ => 0) ⟨#[], #[.slice none 0 0], []⟩).memory Tryd.f6.params.toList Rows.mountainOfSpec.vars false (#[.slice none 0 0] : Array Value).toList 8 = some ([.nil], [], places) :=
  ⟨[], by kernel_rfl⟩

set_option maxRecDepth 100000 in
theorem lifted (os : Os) (started : os.Started) (H : Type) (enc : TypeId × Value → H) (F : Stop.Interp) :
    ReturnsInHanded {} Tryd.checked os 6 .any ((OpenSpec.ofChange Rows.mountainOfSpec).preRow enc Tryd.prog Tryd.f6 Rows.mountainOfRow.domain false Rows.mountainOfRow.laid) (((OpenSpec.ofChange Rows.mountainOfSpec).at F).post enc Tryd.prog Tryd.f6 false true false false) := by
  obtain ⟨places, hx⟩ := reads os enc
  refine returnsInHanded_of_row (C := Tryd.checked) (s := OpenSpec.ofChange Rows.mountainOfSpec) own started (by kernel_rfl) Tryd.func6
    (witness_row_at (enc := enc) (C := Tryd.checked) false (laidWorld os) #[.slice none 0 0] rfl (by kernel_rfl) (by kernel_rfl) (by kernel_rfl)
      (OpenSpec.preRow_of_cond 8 hx (by kernel_rfl) (fun k hk => by cases hk) (by kernel_rfl) (laid_met os))) ?_
  intro W base args ds gs before hval hW _ _ _ hL _ _
  exact contract H enc W base args ds gs before hval hW hL

set_option maxRecDepth 100000 in
theorem said : Rows.MountainOfSaid :=
  OpenClaim.holds_of_cond 6 Tryd.f6 rfl rfl rfl rfl rfl rfl rfl ⟨rfl, rfl, rfl, rfl, rfl⟩ rfl rfl rfl rfl rfl (by kernel_rfl) Tryd.func6 (by kernel_rfl)
    (of_decide_eq_true (by kernel_rfl)) (by unfold Func.isWrapper; first | (rw [if_pos (by decide +kernel)]; kernel_rfl) | (rw [if_neg (by decide +kernel)]; exact ⟨rfl, rfl⟩))
    (fun os started H enc _ F => by rw [OpenClaim.pre_eq_preRow]; exact lifted os started H enc F)

/-- No parameter wants a stand-in; the program's own looks are off. -/
theorem plain (f : FuncId) (fn : Func) (hf : Tryd.pinned.checked.prog.funcNamed "licit/licitlaw49.MountainOf" = some f) (hfn : Tryd.pinned.checked.prog.funcs[f]? = some fn) :
    false = Tryd.pinned.checked.prog.looks [] ∧ ∀ (j : Nat) t, fn.params[j]? = some t → Tryd.pinned.checked.prog.wantsStandIn t = false := by
  obtain rfl : f = 6 := Option.some.inj ((show Tryd.prog.funcNamed "licit/licitlaw49.MountainOf" = some 6 by kernel_rfl).symm.trans hf) |>.symm
  obtain rfl : fn = Tryd.f6 := (Option.some.inj (Tryd.func6.symm.trans hfn)).symm
  refine ⟨by kernel_rfl, fun j t ht => ?_⟩
  have hall : Tryd.f6.params.toList.all (fun t => !Tryd.prog.wantsStandIn t) = true := by kernel_rfl
  have := List.all_eq_true.1 hall t (Array.mem_toList_iff.2 (Array.mem_of_getElem? ht))
  exact (by simpa using this : Tryd.prog.wantsStandIn t = false)

theorem card : Rows.MountainOfCardSaid :=
  Claim7.holds_tied_plain_at .later [] _ _ _ _ said (fun _ h => by cases h) (by kernel_rfl) (fun _ h => by cases h) mountainOf_row_tie rfl ⟨rfl, rfl⟩ (by kernel_rfl) rfl plain (by kernel_rfl)

end Go.Proofs.YtfklmjcjjdliiaaDoor.lawOf
