/- The card of MountainBytes is proved: for every text the law returns true; the conditions are those of the given row. -/
import Derived.Test.YtfklmjcjjdliiaaDoorLawKit49
import Derived.Test.YtfklmjcjjdliiaaDoorWkMtI
import Derived.Deep.Cut
namespace Go.Proofs.YtfklmjcjjdliiaaDoor.lawBytes
open Go Go.RowKit Licit
open Go.ChangeShapes Go.WideShapes Go.ChangeAt

set_option maxHeartbeats 8000000 in
set_option maxRecDepth 100000 in
theorem walk (d : Bs) (w : World) (ht : Tab w) (hz : Tz w) :
    Calls Tryd.prog 11 #[.string (B d)] w fun e w' => e = .returned (.bool true) ∧ Below w.heap.size w w' := by
  have HA := Lib.hid (fun W (hb : Below w.heap.size w W) => awake_any49 W (ht.same hb) (hz.same hb))
  have dz : ((B d).size : Int) = (d.length : Int) := rfl
  have HB0 := Lib.hid (Below.refl w.heap.size w)
  go_enter Tryd.func11, Tryd.ntmps11
  go_wp2_with fail
  refine (HA.out _ HB0.out).mono ?_
  rintro e w1 ⟨rfl, hb⟩
  have HB1 := Lib.hid (HB0.out.next hb)
  clear hb
  by_cases h1 : 1000 < d.length
  · have d1 : decide (1000 < (d.length : Int)) = true := by simp; omega
    go_wp2_with fail
    refine (HA.out _ HB1.out).mono ?_
    rintro e w3 ⟨rfl, hb⟩
    have HB3 := Lib.hid (HB1.out.next hb)
    clear hb
    go_wp2
    go_ret
    exact ⟨rfl, HB3.out⟩
  have d1 : decide (1000 < (d.length : Int)) = false := by simp; omega
  have HDa := Lib.hid (fun W => MtDec_any d W (by omega))
  have HDb := Lib.hid (fun W => RMtDec_any d W (by omega))
  have HCn := Lib.hid (fun h => mt_canon (d := d) h)
  obtain ⟨ER, hER⟩ : ∃ x, mdecE d = x := ⟨_, rfl⟩
  obtain ⟨SS, hSS⟩ : ∃ x, mdecS d = x := ⟨_, rfl⟩
  obtain ⟨PP, hPP⟩ : ∃ x, mdecP d = x := ⟨_, rfl⟩
  rw [hER, hSS, hPP] at HDa HDb HCn
  clear hER hSS hPP
  go_wp2_with fail
  refine (HDa.out w1).mono ?_
  rintro e w2 ⟨v4, rfl, hm4, hb⟩
  have HM2x := Lib.hid hm4
  obtain ⟨p4, rfl, hp4, _⟩ := hm4
  obtain ⟨m2a, m2c, rfl⟩ := hp4.formMap
  obtain ⟨V2, hV⟩ : ∃ V, w2.alloc (.cells #[.int .i64 SS, .slice m2a PP.length m2c] 31) = V := ⟨_, rfl⟩
  obtain ⟨D2, hD⟩ : ∃ D, w2.heap.size = D := ⟨_, rfl⟩
  have hbV : Below w2.heap.size w2 V2 := by rw [← hV]; exact (Below.refl _ _).alloc (Nat.le_refl _) _
  have HB2 := Lib.hid ((HB1.out.next hb).next hbV)
  have HM2 := Lib.hid (HM2x.out.below hbV)
  have HD2 := Lib.hid (show V2.heap[D2]? = some (.cells #[.int .i64 SS, .slice m2a PP.length m2c] 31) by rw [← hD, ← hV]; exact new_of _ _)
  have Hn2 := Lib.hid (hb.trans (hbV.mono hb.size))
  have HV := Lib.hid hV
  have HE := Lib.hid hD
  clear hb hp4 hbV hV hD
  go_upto_region 4 with fail
  rw [HV.out, HE.out]
  clear HV HE
  go_wp2_with fail
  refine (HDb.out V2).mono ?_
  rintro e w3 ⟨v4, rfl, hm4, hb⟩
  have HM3x := Lib.hid hm4
  obtain ⟨p4, rfl, hp4, _⟩ := hm4
  obtain ⟨m3a, m3c, rfl⟩ := hp4.formMap
  obtain ⟨W, hV⟩ : ∃ V, w3.alloc (.cells #[.int .i64 SS, .slice m3a PP.length m3c] 31) = V := ⟨_, rfl⟩
  obtain ⟨D3, hD⟩ : ∃ D, w3.heap.size = D := ⟨_, rfl⟩
  have hbV : Below w3.heap.size w3 W := by rw [← hV]; exact (Below.refl _ _).alloc (Nat.le_refl _) _
  have HB3 := Lib.hid ((HB2.out.next hb).next hbV)
  have HM3 := Lib.hid (HM3x.out.below hbV)
  have HD3 := Lib.hid (show W.heap[D3]? = some (.cells #[.int .i64 SS, .slice m3a PP.length m3c] 31) by rw [← hD, ← hV]; exact new_of _ _)
  have Hn3 := Lib.hid (hb.trans (hbV.mono hb.size))
  have HV := Lib.hid hV
  have HE := Lib.hid hD
  clear hb hp4 hbV hV hD
  go_upto_region 5 with fail
  rw [HV.out, HE.out]
  clear HV HE
  have HDW := Lib.hid ((Hn3.out.block _ (lt_of HD2.out)).trans HD2.out)
  have HMa := Lib.hid (HM2.out.below Hn3.out)
  have hSm := MtSame_any _ _ SS SS PP PP W HMa.out HM3.out
  rw [show sameMt SS PP SS PP = true by simp [sameMt]] at hSm
  have HSm := Lib.hid hSm
  clear hSm
  obtain ⟨c0, c1⟩ := mtC HDW.out
  obtain ⟨e0, e1⟩ := mtC HD3.out
  go_wp2_with fail
  refine HSm.out.mono ?_
  rintro e w5 ⟨rfl, hb⟩
  have HB5 := Lib.hid (HB3.out.next hb)
  have HX5 := Lib.hid ((hb.block _ (lt_of HDW.out)).trans HDW.out)
  have hEn := MtEnc_any _ SS PP w5 (HMa.out.below hb) (ht.same HB5.out)
  obtain ⟨ET, hET⟩ : ∃ x, encT SS PP = x := ⟨_, rfl⟩
  obtain ⟨VM, hVM⟩ : ∃ x, validM SS PP = x := ⟨_, rfl⟩
  rw [hET, hVM] at hEn
  have HEn := Lib.hid hEn
  have HET := Lib.hid hET
  have HVM := Lib.hid hVM
  clear hb hEn hET hVM c0 c1 e0 e1
  obtain ⟨c0, c1⟩ := mtC HX5.out
  go_wp2_with fail
  refine HEn.out.mono ?_
  rintro e w6 ⟨rfl, hb⟩
  have HB6 := Lib.hid (HB5.out.next hb)
  clear hb c0 c1
  by_cases hne : ER = 0
  · subst hne
    obtain ⟨h1, h2⟩ := HCn.out rfl
    obtain rfl : VM = 0 := by rw [← HVM.out]; unfold validM; rw [h1]; rfl
    obtain rfl : ET = d := by rw [← HET.out]; exact h2
    have hq := beqB_eq ET
    clear h1 h2
    go_wp2
    go_ret
    exact ⟨rfl, HB6.out⟩
  · have hq : (ER == 0) = false := by simpa using hne
    have hq2 : (ER != 0) = true := by rw [bne, hq]; rfl
    clear hne
    go_wp2
    go_ret
    exact ⟨rfl, HB6.out⟩

set_option maxRecDepth 100000 in
theorem contract (H : Type) (enc : TypeId × Value → H) (W : World) (base : Nat) (args : Array Value) (ds gs : List (DataW H)) (before : List MemPlace)
    (hval : ∀ (j : Nat) t v, Tryd.f11.params[j]? = some t → args[j]? = some v → Value.okWide Tryd.prog W .any base t v)
    (hW : DataW.Whole enc Tryd.prog Tryd.f11.params.toList Rows.mountainBytesSpec.vars false W args.toList ds gs before) (hL : laidMetH Tryd.prog Rows.mountainBytesRow.laid W) :
    Calls Tryd.prog 11 args W fun e W' => ∃ v, e = .returned v ∧ Rows.mountainBytesSpec.post enc Tryd.prog Tryd.f11 false true false false W args v W' := by
  have hW' := hW
  obtain ⟨p, q, hA0, hV, rfl, hfz, hnd⟩ := hW
  have hA : DataW.TrodAll enc Tryd.prog W 0 (fun _ => true) true Tryd.f11.params.toList args.toList ds p := hA0
  rw [Tryd.params11] at hA hval
  obtain ⟨v0, vs0, d0, ds0, p0, q0, hargs, rfl, rfl, h0, r0⟩ := trodAll_cons hA
  obtain ⟨rfl, rfl, rfl⟩ := trodAll_nil r0
  obtain rfl : args = #[v0] := by cases args; simp_all
  obtain ⟨rfl, rfl⟩ := trodVars_none hV
  obtain ⟨x, rfl, _⟩ := str_in (hval 0 9 v0 rfl rfl) h0
  refine (walk x W (tab_of hL) (tz_of hL)).mono fun e W' ⟨he, hb⟩ => ⟨_, he, ?_⟩
  exact law_post hW' rfl (by kernel_rfl) (by kernel_rfl) rfl hb

theorem laid_met (os : Os) : laidMet Tryd.prog Rows.mountainBytesRow.laid ((laidWorld os).forCall (fun _ _ => 0) ⟨#[], #[.string ⟨#[]⟩], []⟩).memory :=
  laidMet_of_run' 8 (by kernel_rfl) (by kernel_rfl)
theorem reads (os : Os) {H : Type} (enc : TypeId × Value → H) : ∃ places, DataW.whole enc Tryd.prog ((laidWorld os).forCall (fun _ _ => 0) ⟨#[], #[.string ⟨#[]⟩], []⟩).memory Tryd.f11.params.toList Rows.mountainBytesSpec.vars false (#[.string ⟨#[]⟩] : Array Value).toList 8 = some ([.lit (.string [])], [], places) :=
  ⟨[], by kernel_rfl⟩

set_option maxRecDepth 100000 in
theorem lifted (os : Os) (started : os.Started) (H : Type) (enc : TypeId × Value → H) (F : Stop.Interp) :
    ReturnsInHanded {} Tryd.checked os 11 .any ((OpenSpec.ofChange Rows.mountainBytesSpec).preRow enc Tryd.prog Tryd.f11 Rows.mountainBytesRow.domain false Rows.mountainBytesRow.laid) (((OpenSpec.ofChange Rows.mountainBytesSpec).at F).post enc Tryd.prog Tryd.f11 false true false false) := by
  obtain ⟨places, hx⟩ := reads os enc
  refine returnsInHanded_of_row (C := Tryd.checked) (s := OpenSpec.ofChange Rows.mountainBytesSpec) own started (by kernel_rfl) Tryd.func11
    (witness_row_at (enc := enc) (C := Tryd.checked) false (laidWorld os) #[.string ⟨#[]⟩] rfl (by kernel_rfl) (by kernel_rfl) (by kernel_rfl)
      (OpenSpec.preRow_of_cond 8 hx (by kernel_rfl) (fun k hk => by cases hk) (by kernel_rfl) (laid_met os))) ?_
  intro W base args ds gs before hval hW _ _ _ hL _ _
  exact contract H enc W base args ds gs before hval hW hL

set_option maxRecDepth 100000 in
theorem said : Rows.MountainBytesSaid :=
  OpenClaim.holds_of_cond 11 Tryd.f11 rfl rfl rfl rfl rfl rfl rfl ⟨rfl, rfl, rfl, rfl, rfl⟩ rfl rfl rfl rfl rfl (by kernel_rfl) Tryd.func11 (by kernel_rfl)
    (of_decide_eq_true (by kernel_rfl)) (by unfold Func.isWrapper; first | (rw [if_pos (by decide +kernel)]; kernel_rfl) | (rw [if_neg (by decide +kernel)]; exact ⟨rfl, rfl⟩))
    (fun os started H enc _ F => by rw [OpenClaim.pre_eq_preRow]; exact lifted os started H enc F)

/-- No parameter wants a stand-in; the program's own looks are off. -/
theorem plain (f : FuncId) (fn : Func) (hf : Tryd.pinned.checked.prog.funcNamed "licit/licitlaw49.MountainBytes" = some f) (hfn : Tryd.pinned.checked.prog.funcs[f]? = some fn) :
    false = Tryd.pinned.checked.prog.looks [] ∧ ∀ (j : Nat) t, fn.params[j]? = some t → Tryd.pinned.checked.prog.wantsStandIn t = false := by
  obtain rfl : f = 11 := Option.some.inj ((show Tryd.prog.funcNamed "licit/licitlaw49.MountainBytes" = some 11 by kernel_rfl).symm.trans hf) |>.symm
  obtain rfl : fn = Tryd.f11 := (Option.some.inj (Tryd.func11.symm.trans hfn)).symm
  refine ⟨by kernel_rfl, fun j t ht => ?_⟩
  have hall : Tryd.f11.params.toList.all (fun t => !Tryd.prog.wantsStandIn t) = true := by kernel_rfl
  have := List.all_eq_true.1 hall t (Array.mem_toList_iff.2 (Array.mem_of_getElem? ht))
  exact (by simpa using this : Tryd.prog.wantsStandIn t = false)

theorem card : Rows.MountainBytesCardSaid :=
  Claim7.holds_tied_plain_at .later [] _ _ _ _ said (fun _ h => by cases h) (by kernel_rfl) (fun _ h => by cases h) mountainBytes_row_tie rfl ⟨rfl, rfl⟩ (by kernel_rfl) rfl plain (by kernel_rfl)

end Go.Proofs.YtfklmjcjjdliiaaDoor.lawBytes
