/- The card of LamportStrange is proved: for every string the law returns true; the conditions are those of the given row. -/
import Derived.Test.YtdkjehagkmkokaaDoorLawKit48
import Derived.Test.YtdkjehagkmkokaaDoorWkAwake48
import Derived.Test.YtdkjehagkmkokaaDoorWkRSigText
namespace Go.Proofs.YtdkjehagkmkokaaDoor.lawStrange
open Go Go.RowKit Licit
open Go.ChangeShapes Go.WideShapes Go.ChangeAt

/-- What is decoded has just those bytes. -/
theorem dec_enc (d : Bs) : decE d = 17 ∨ (decE d = 0 ∧ encS (decI d) (decS d) (decH d) (decR d) = d ∧ encE (decI d) (decS d) (decH d) (decR d) = 0) := by
  unfold decE decI decS decH decR
  cases h : decOk d with
  | false => exact .inl (by simp)
  | true =>
    refine .inr ⟨by simp, ?_⟩
    unfold decOk at h
    simp only [Bool.and_eq_true, decide_eq_true_eq] at h
    obtain ⟨h0, hk⟩ := h
    simp only [if_true]
    unfold encS encE
    rw [hk]
    simp only [if_true, and_true]
    exact (sig_canon (d := d) (i := (dec1 d).1) (s1 := (dec1 d).2) (s2 := (dec2 d).2) (s3 := (dec3 d).2) (s4 := (dec4 d).2) rfl rfl rfl rfl h0).symm

set_option maxHeartbeats 4000000 in
set_option maxRecDepth 100000 in
theorem walk (d : Bs) (w : World) (ht : Tab w) :
    Calls Tryd.prog 10 #[.string (B d)] w fun e w' => e = .returned (.bool true) ∧ Below w.heap.size w w' := by
  have HA := Lib.hid (fun W (hT : Tab W) => awake_any48 W hT)
  have hdz : ((B d).size : Int) = (d.length : Int) := rfl
  go_enter Tryd.func10, Tryd.ntmps10
  go_wp2_with fail
  refine (HA.out _ ht).mono ?_
  rintro e w1 ⟨rfl, hb1⟩
  have Hb1 := Lib.hid hb1
  have ht1 := ht.same hb1
  clear hb1
  by_cases hm : 2000 < d.length
  · have d1 : decide (2000 < (d.length : Int)) = true := by simp; omega
    go_wp2_with fail
    refine (HA.out _ ht1).mono ?_
    rintro e w3 ⟨rfl, hb⟩
    have Hb3 := Lib.hid (Hb1.out.next hb)
    clear hb
    go_wp2
    go_ret
    exact ⟨rfl, Hb3.out⟩
  have d1 : decide (2000 < (d.length : Int)) = false := by simp; omega
  have HD := Lib.hid (fun W => Decode_any d W (by omega))
  have HRD := Lib.hid (fun W => RDecode_any d W (by omega))
  have hcase := dec_enc d
  obtain ⟨E, hE⟩ : ∃ x, decE d = x := ⟨_, rfl⟩
  obtain ⟨I, hI⟩ : ∃ x, decI d = x := ⟨_, rfl⟩
  obtain ⟨S, hS⟩ : ∃ x, decS d = x := ⟨_, rfl⟩
  obtain ⟨HH, hH⟩ : ∃ x, decH d = x := ⟨_, rfl⟩
  obtain ⟨R, hR⟩ : ∃ x, decR d = x := ⟨_, rfl⟩
  rw [hE, hI, hS, hH, hR] at HD HRD hcase
  clear hE hI hS hH hR
  have Hcase := Lib.hid hcase
  clear hcase
  go_wp2_with fail
  refine (HD.out _).mono ?_
  rintro e w3 ⟨v, rfl, hv, hb⟩
  have Hb3 := Lib.hid (Hb1.out.next hb)
  have HV := Lib.hid hv
  obtain ⟨vs, vh, vr, rfl, o1, o2, o3⟩ := hv
  obtain ⟨sa, sc, rfl⟩ := o1.formMap
  obtain ⟨ha, hc, rfl⟩ := o2.formMap
  obtain ⟨ra, rc, rfl⟩ := o3.formMap
  clear hb o1 o2 o3
  go_wp2_with fail
  refine (HRD.out _).mono ?_
  rintro e w4 ⟨u, rfl, hu, hb⟩
  have hb4 : Below w3.heap.size w3 w4 := ((Below.refl _ _).alloc (Nat.le_refl _) _).trans (hb.mono (by simp))
  have hA4 := Lib.hid (show w4.heap[w3.heap.size]? = some (.cells #[.int .i64 I, .slice sa S.length sc, .slice ha HH.length hc, .slice ra R.length rc] 34) from (hb.block _ (by simp)).trans (new_of _ _))
  have Hb4 := Lib.hid (Hb3.out.next hb4)
  have HV4 := Lib.hid (HV.out.below hb4)
  have HU := Lib.hid hu
  obtain ⟨a0, a1, a2, a3⟩ := sigC hA4.out
  have hwz3 : w3.heap.size < w4.heap.size := lt_of hA4.out
  obtain ⟨us, uh, ur, rfl, o1, o2, o3⟩ := hu
  obtain ⟨sa', sc', rfl⟩ := o1.formMap
  obtain ⟨ha', hc', rfl⟩ := o2.formMap
  obtain ⟨ra', rc', rfl⟩ := o3.formMap
  clear hb hb4 o1 o2 o3
  have hbA := (Below.refl w4.heap.size w4).alloc (Nat.le_refl _) (.cells #[.int .i64 I, .slice sa' S.length sc', .slice ha' HH.length hc', .slice ra' R.length rc'] 34)
  have HSm := Lib.hid (RSame_any _ _ I I S HH R S HH R _ (HV4.out.below hbA) (HU.out.below hbA))
  rw [show sameSig I S HH R I S HH R = true by simp [sameSig]] at HSm
  have HbA := Lib.hid (Hb4.out.trans (hbA.mono Hb4.out.size))
  have HVA := Lib.hid (HV4.out.below hbA)
  have HAA := Lib.hid ((hbA.block _ (lt_of hA4.out)).trans hA4.out)
  clear hbA
  go_wp2_with fail
  refine HSm.out.mono ?_
  rintro e w5 ⟨rfl, hb⟩
  have Hb5 := Lib.hid (HbA.out.next hb)
  have HV5 := Lib.hid (HVA.out.below hb)
  have HA5 := Lib.hid ((hb.block _ (lt_of HAA.out)).trans HAA.out)
  clear hb a0 a1 a2 a3
  obtain ⟨a0, a1, a2, a3⟩ := sigC HA5.out
  rcases Hcase.out with rfl | ⟨rfl, hs, he⟩
  · go_wp2
    go_ret
    exact ⟨rfl, Hb5.out⟩
  · have HE := Lib.hid (Encode_any _ I S HH R w5 HV5.out (ht.same Hb5.out))
    rw [hs, he] at HE
    clear hs he Hcase
    go_wp2_with fail
    refine HE.out.mono ?_
    rintro e w6 ⟨rfl, hb⟩
    have Hb6 := Lib.hid (Hb5.out.next hb)
    clear hb
    go_wp2
    go_ret
    exact ⟨rfl, Hb6.out⟩

set_option maxRecDepth 100000 in
theorem contract (H : Type) (enc : TypeId × Value → H) (W : World) (base : Nat) (args : Array Value) (ds gs : List (DataW H)) (before : List MemPlace)
    (hval : ∀ (j : Nat) t v, Tryd.f10.params[j]? = some t → args[j]? = some v → Value.okWide Tryd.prog W .any base t v)
    (hW : DataW.Whole enc Tryd.prog Tryd.f10.params.toList Rows.lamportStrangeSpec.vars false W args.toList ds gs before) (hL : laidMetH Tryd.prog Rows.lamportStrangeRow.laid W) :
    Calls Tryd.prog 10 args W fun e W' => ∃ v, e = .returned v ∧ Rows.lamportStrangeSpec.post enc Tryd.prog Tryd.f10 false true false false W args v W' := by
  have hW' := hW
  obtain ⟨p, q, hA0, hV, rfl, hfz, hnd⟩ := hW
  have hA : DataW.TrodAll enc Tryd.prog W 0 (fun _ => true) true Tryd.f10.params.toList args.toList ds p := hA0
  rw [Tryd.params10] at hA hval
  obtain ⟨v0, vs0, d0, ds0, p0, q0, hargs, rfl, rfl, h0, r0⟩ := trodAll_cons hA
  obtain ⟨rfl, rfl, rfl⟩ := trodAll_nil r0
  obtain rfl : args = #[v0] := by cases args; simp_all
  obtain ⟨rfl, rfl⟩ := trodVars_none hV
  obtain ⟨d, rfl, _⟩ := str_in (hval 0 9 v0 rfl rfl) h0
  refine (walk d W (tab_of hL)).mono fun e W' ⟨he, hb⟩ => ⟨_, he, ?_⟩
  exact law_post hW' rfl (by kernel_rfl) (by kernel_rfl) rfl hb

theorem laid_met (os : Os) : laidMet Tryd.prog Rows.lamportStrangeRow.laid ((laidWorld os).forCall (fun _ _ => 0) ⟨#[], #[.string ⟨#[]⟩], []⟩).memory :=
  laidMet_of_run' 8 (by kernel_rfl) (by kernel_rfl)
theorem reads (os : Os) {H : Type} (enc : TypeId × Value → H) : ∃ places, DataW.whole enc Tryd.prog ((laidWorld os).forCall (fun _ _ => 0) ⟨#[], #[.string ⟨#[]⟩], []⟩).memory Tryd.f10.params.toList Rows.lamportStrangeSpec.vars false (#[.string ⟨#[]⟩] : Array Value).toList 8 = some ([.lit (.string [])], [], places) :=
  ⟨[], by kernel_rfl⟩

set_option maxRecDepth 100000 in
theorem lifted (os : Os) (started : os.Started) (H : Type) (enc : TypeId × Value → H) (F : Stop.Interp) :
    ReturnsInHanded {} Tryd.checked os 10 .any ((OpenSpec.ofChange Rows.lamportStrangeSpec).preRow enc Tryd.prog Tryd.f10 Rows.lamportStrangeRow.domain false Rows.lamportStrangeRow.laid) (((OpenSpec.ofChange Rows.lamportStrangeSpec).at F).post enc Tryd.prog Tryd.f10 false true false false) := by
  obtain ⟨places, hx⟩ := reads os enc
  refine returnsInHanded_of_row (C := Tryd.checked) (s := OpenSpec.ofChange Rows.lamportStrangeSpec) own started (by kernel_rfl) Tryd.func10
    (witness_row_at (enc := enc) (C := Tryd.checked) false (laidWorld os) #[.string ⟨#[]⟩] rfl (by kernel_rfl) (by kernel_rfl) (by kernel_rfl)
      (OpenSpec.preRow_of_cond 8 hx (by kernel_rfl) (fun k hk => by cases hk) (by kernel_rfl) (laid_met os))) ?_
  intro W base args ds gs before hval hW _ _ _ hL _ _
  exact contract H enc W base args ds gs before hval hW hL

set_option maxRecDepth 100000 in
theorem said : Rows.LamportStrangeSaid :=
  OpenClaim.holds_of_cond 10 Tryd.f10 rfl rfl rfl rfl rfl rfl rfl ⟨rfl, rfl, rfl, rfl, rfl⟩ rfl rfl rfl rfl rfl (by kernel_rfl) Tryd.func10 (by kernel_rfl)
    (of_decide_eq_true (by kernel_rfl)) (by unfold Func.isWrapper; first | (rw [if_pos (by decide +kernel)]; kernel_rfl) | (rw [if_neg (by decide +kernel)]; exact ⟨rfl, rfl⟩))
    (fun os started H enc _ F => by rw [OpenClaim.pre_eq_preRow]; exact lifted os started H enc F)

/-- No parameter wants a stand-in; the program's own looks are off. -/
theorem plain (f : FuncId) (fn : Func) (hf : Tryd.pinned.checked.prog.funcNamed "licit/licitlaw48.LamportStrange" = some f) (hfn : Tryd.pinned.checked.prog.funcs[f]? = some fn) :
    false = Tryd.pinned.checked.prog.looks [] ∧ ∀ (j : Nat) t, fn.params[j]? = some t → Tryd.pinned.checked.prog.wantsStandIn t = false := by
  obtain rfl : f = 10 := Option.some.inj ((show Tryd.prog.funcNamed "licit/licitlaw48.LamportStrange" = some 10 by kernel_rfl).symm.trans hf) |>.symm
  obtain rfl : fn = Tryd.f10 := (Option.some.inj (Tryd.func10.symm.trans hfn)).symm
  refine ⟨by kernel_rfl, fun j t ht => ?_⟩
  have hall : Tryd.f10.params.toList.all (fun t => !Tryd.prog.wantsStandIn t) = true := by kernel_rfl
  have := List.all_eq_true.1 hall t (Array.mem_toList_iff.2 (Array.mem_of_getElem? ht))
  exact (by simpa using this : Tryd.prog.wantsStandIn t = false)

theorem card : Rows.LamportStrangeCardSaid :=
  Claim7.holds_tied_plain_at .later [] _ _ _ _ said (fun _ h => by cases h) (by kernel_rfl) (fun _ h => by cases h) lamportStrange_row_tie rfl ⟨rfl, rfl⟩ (by kernel_rfl) rfl plain (by kernel_rfl)

end Go.Proofs.YtdkjehagkmkokaaDoor.lawStrange
