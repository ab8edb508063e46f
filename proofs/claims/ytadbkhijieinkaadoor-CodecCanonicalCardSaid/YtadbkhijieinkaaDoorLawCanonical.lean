/- The card of CodecCanonical is proved: for every string the law returns true; the conditions are those of the given row. -/
import Derived.Test.YtadbkhijieinkaaDoorLawKit
import Derived.Test.YtadbkhijieinkaaDoorWkAwake
import Derived.Test.YtadbkhijieinkaaDoorWkValues
import Derived.Lib.SmallJoins
namespace Go.Proofs.YtadbkhijieinkaaDoor.lawCanonical
open Go Go.RowKit Licit
open Go.ChangeShapes Go.WideShapes Go.ChangeAt Go.Joins
open Go.ChangeMaps (open_string)

set_option maxRecDepth 100000 in
set_option maxHeartbeats 3200000 in
theorem walk (d : Bs) (w : World) (hd : d.length ≤ maxLen) (ht : Tab w) :
    Calls Tryd.prog 8 #[.string (B d)] w fun e w' => e = .returned (.bool true) ∧ Below w.heap.size w w' := by
  unfold maxLen at hd
  have hss : (B d).size = d.length := rfl
  by_cases hbig : 1000 < d.length
  · go_enter Tryd.func8, Tryd.ntmps8
    go_wp2_with (go_at_call 10; refine (awake_any _ ht).mono ?_; rintro e w1 ⟨rfl, hb⟩)
    go_ret
    exact ⟨rfl, hb⟩
  · have L0 : d.length ≤ 1000 := by omega
    obtain ⟨n, s1, e1⟩ : ∃ n s1, rdNum 0 281474976710656 (d, 0) = (n, s1) := ⟨_, _, rfl⟩
    obtain ⟨s, s2, e2⟩ : ∃ s s2, rdText 65536 s1 = (s, s2) := ⟨_, _, rfl⟩
    obtain ⟨l, s3, e3⟩ : ∃ l s3, rdNums 0 281474976710656 s2 = (l, s3) := ⟨_, _, rfl⟩
    obtain ⟨t, s4, e4⟩ : ∃ t s4, rdTexts 65536 s3 = (t, s4) := ⟨_, _, rfl⟩
    have L1 : s1.1.length ≤ 1000 := by have := rdNum_len 0 281474976710656 (d, 0); rw [e1] at this; exact Nat.le_trans this L0
    have L2 : s2.1.length ≤ 1000 := by have := rdText_len 65536 s1; rw [e2] at this; exact Nat.le_trans this L1
    have L3 : s3.1.length ≤ 1000 := by have := rdMany_st _ (rdNum_len 0 281474976710656) s2; rw [show rdMany (rdNum 0 281474976710656) s2 = _ from e3] at this; exact Nat.le_trans this L2
    have L4 : s4.1.length ≤ 1000 := by have := rdMany_st _ (rdText_len 65536) s3; rw [show rdMany (rdText 65536) s3 = _ from e4] at this; exact Nat.le_trans this L3
    have M1 : l.length ≤ 1024 := by have := rdMany_len (rdNum 0 281474976710656) s2; rw [show rdMany (rdNum 0 281474976710656) s2 = _ from e3] at this; exact this
    have M2 : t.length ≤ 1024 := by have := rdMany_len (rdText 65536) s3; rw [show rdMany (rdText 65536) s3 = _ from e4] at this; exact this
    have E1 := Lib.hid e1
    have E2 := Lib.hid e2
    have E3 := Lib.hid e3
    have E4 := Lib.hid e4
    clear e1 e2 e3 e4
    go_enter Tryd.func8, Tryd.ntmps8
    go_wp2_with fail
    refine (awake_any _ ht).mono ?_
    rintro e w3 ⟨rfl, hb⟩
    have HB3 := Lib.hid hb
    have ht3 := ht.same hb
    clear hb
    go_wp2_with fail
    refine (newReader_any _ _).mono ?_
    rintro e w4 ⟨rfl, rfl⟩
    have hR4 : Rdr w3.heap.size (B d) 0 (w3.alloc (.cells #[.string (B d), .int .i64 0] 63)) := new_of _ _
    have hK4 : Kept (One w3.heap.size) w3 (w3.alloc (.cells #[.string (B d), .int .i64 0] 63)) := (Kept.refl _ _).alloc _
    have HR4 := Lib.hid hR4
    clear hR4
    go_wp2_with fail
    refine (number_any w3.heap.size _ _ _ _ _ HR4.out (by rw [B_size]; unfold maxLen; omega)).mono ?_
    rw [B_list, E1.out]
    rintro e w5 ⟨rfl, hR, hK⟩
    have HR5 := Lib.hid hR
    have HK5 := Lib.hid (hK4.trans hK)
    clear hR hK hK4
    go_wp2_with fail
    refine (text_any w3.heap.size _ _ _ _ HR5.out (by rw [B_size]; omega)).mono ?_
    rw [B_list, show ((n, s1).2.1, (n, s1).2.2) = s1 from rfl, E2.out]
    rintro e w6 ⟨rfl, hR, hK⟩
    have HR6 := Lib.hid hR
    have HK6 := Lib.hid (HK5.out.trans hK)
    clear hR hK
    go_wp2_with fail
    refine (numbers_any w3.heap.size _ _ _ _ _ HR6.out (by rw [B_size]; omega)).mono ?_
    rw [B_list, show ((s, s2).2.1, (s, s2).2.2) = s2 from rfl, E3.out]
    rintro e w7 ⟨v1, rfl, hown1, hR, hK⟩
    have HR7 := Lib.hid hR
    have HK7 := Lib.hid (HK6.out.trans hK)
    have hsz6 : w3.heap.size < w6.heap.size := HR6.out.lt
    have HO1 := Lib.hid hown1
    clear hR hK hown1
    go_wp2_with fail
    refine (texts_any w3.heap.size _ _ _ _ HR7.out (by rw [B_size]; omega)).mono ?_
    rw [B_list, show ((l, s3).2.1, (l, s3).2.2) = s3 from rfl, E4.out]
    rintro e w8 ⟨v2, rfl, hown2, hR, hK⟩
    have hR8 : Rdr w3.heap.size (B s4.1) s4.2 w8 := hR
    have HR8 := Lib.hid hR8
    have hK8 := HK7.out.trans hK
    have hown1' := ownsRow_kept HO1.out hK (fun k hk => by show ¬ k = _; omega)
    have HS1 := Lib.hid (IsSl.of_owns hown1' (by rw [List.length_map]; exact Nat.le_trans M1 (by decide)))
    have HS2 := Lib.hid (IsSl.of_owns hown2 (by rw [List.length_map]; exact Nat.le_trans M2 (by decide)))
    have hb38 : Below w3.heap.size w3 w8 := hK8.below (Nat.le_refl _) (fun k hk => by show ¬ k = _; omega)
    have HB8 := Lib.hid (HB3.out.trans (hb38.mono HB3.out.size))
    have ht8 := ht3.same hb38
    obtain ⟨a1, c1, hv1⟩ := HS1.out.formMap
    obtain ⟨a2, c2, hv2⟩ := HS2.out.formMap
    have HV1 := Lib.hid hv1
    have HV2 := Lib.hid hv2
    clear hR hR8 hK hK8 hown1' hown2 hb38 hv1 hv2
    by_cases h0 : s4.2 = 0
    · obtain ⟨hw, hdd⟩ := reads_canon E1.out E2.out E3.out E4.out h0
      have hok := wrB_iff.1 hw
      have hv : Vals v1 v2 s l t (w8.alloc (.cells #[.int .i64 n, .string (B s), v1, v2] 51)) := by
        have hal : Below w8.heap.size w8 (w8.alloc (.cells #[.int .i64 n, .string (B s), v1, v2] 51)) := (Below.refl _ _).alloc (Nat.le_refl _) _
        refine ⟨?_, HS1.out.below hal, HS2.out.below hal, fun x hx => ?_, fun x hx => ?_⟩
        · exact Nat.le_trans (eText_ok hok.2.1) (by decide)
        · exact Int.le_trans (eNum_ok ((eList_ok hok.2.2.1).2.1 x hx)).2 (by decide)
        · exact Nat.le_trans (eText_ok ((eList_ok hok.2.2.2).2.1 x hx)) (by decide)
      have HV := Lib.hid hv
      have HW := Lib.hid hw
      have HDD := Lib.hid hdd
      have h0' : (s4.2 != 0) = false := by simp [h0]
      have H00 := Lib.hid h0
      have hbA : Below w.heap.size w (w8.alloc (.cells #[.int .i64 n, .string (B s), v1, v2] 51)) := HB8.out.alloc HB8.out.size _
      have HBA := Lib.hid hbA
      have htA := ht8.same ((Below.refl _ _).alloc (Nat.le_refl _) (.cells #[.int .i64 n, .string (B s), v1, v2] 51))
      have HRA := Lib.hid (HR8.out.alloc (.cells #[.int .i64 n, .string (B s), v1, v2] 51))
      have hfin : s4.1.length ≤ d.length ∧ B (wrS n s l t) = B (d.take (d.length - s4.1.length)) := by
        have hlen : d.length = (wrS n s l t).length + s4.1.length := by rw [← List.length_append, ← hdd]
        refine ⟨by omega, ?_⟩
        rw [show d.length - s4.1.length = (wrS n s l t).length by omega]
        conv => rhs; rw [hdd, List.take_left]
      have hle := hfin.1
      have HF := Lib.hid hfin.2
      have hsz4 : (B s4.1).size = s4.1.length := rfl
      clear hv hw hdd h0 hbA hok hfin
      rw [HV1.out, HV2.out] at *
      go_wp2_with (first
        | (go_at_call 30; refine (err_any w3.heap.size _ _ _ HRA.out).mono ?_; rintro e w9 ⟨rfl, rfl⟩))
      refine (write_any n _ _ s l t _ HV.out htA).mono ?_
      rw [HW.out]
      rintro e w9 ⟨rfl, hb⟩
      have HR9 := Lib.hid (HRA.out.below hb)
      have HB9 := Lib.hid (HBA.out.trans (hb.mono HBA.out.size))
      clear hb
      go_wp2_with fail
      refine (left_any w3.heap.size _ _ _ HR9.out).mono ?_
      rintro e w10 ⟨rfl, rfl⟩
      have hsub : (d.length : Int) - (s4.1.length : Int) = ((d.length - s4.1.length : Nat) : Int) := by omega
      have hex : (B d).extract 0 (d.length - s4.1.length) = B (d.take (d.length - s4.1.length)) := by
        rw [extract_B, B_list, List.drop_zero, Nat.sub_zero]
      have hle' : d.length - s4.1.length ≤ d.length := by omega
      have hbq : ((B (wrS n s l t)).toList == (B (d.take (d.length - s4.1.length))).toList) = true := by rw [HF.out]; simp
      go_wp2
      go_ret
      exact ⟨rfl, HB9.out⟩
    · have h0' : (s4.2 != 0) = true := by simpa using h0
      have HRA := Lib.hid (HR8.out.alloc (.cells #[.int .i64 n, .string (B s), v1, v2] 51))
      have hbA : Below w.heap.size w (w8.alloc (.cells #[.int .i64 n, .string (B s), v1, v2] 51)) := HB8.out.alloc HB8.out.size _
      have HBA := Lib.hid hbA
      clear h0 hbA
      rw [HV1.out, HV2.out] at *
      go_wp2_with (first
        | (go_at_call 30; refine (err_any w3.heap.size _ _ _ HRA.out).mono ?_; rintro e w9 ⟨rfl, rfl⟩))
      go_ret
      exact ⟨rfl, HBA.out⟩

theorem contract (H : Type) (enc : TypeId × Value → H) (W : World) (base : Nat) (args : Array Value) (ds gs : List (DataW H)) (before : List MemPlace)
    (hval : ∀ (j : Nat) t v, Tryd.f8.params[j]? = some t → args[j]? = some v → Value.okWide Tryd.prog W .any base t v)
    (hW : DataW.Whole enc Tryd.prog Tryd.f8.params.toList Rows.codecCanonicalSpec.vars false W args.toList ds gs before) (hL : laidMetH Tryd.prog Rows.codecCanonicalRow.laid W) :
    Calls Tryd.prog 8 args W fun e W' => ∃ v, e = .returned v ∧ Rows.codecCanonicalSpec.post enc Tryd.prog Tryd.f8 false true false false W args v W' := by
  have hW' := hW
  obtain ⟨p, q, hA0, hV, rfl, hfz, hnd⟩ := hW
  have hA : DataW.TrodAll enc Tryd.prog W 0 (fun _ => true) true Tryd.f8.params.toList args.toList ds p := hA0
  rw [Tryd.params8] at hA hval
  obtain ⟨v0, vs0, d0, ds0, p0, q0, hargs, rfl, rfl, h0, r0⟩ := trodAll_cons hA
  obtain ⟨rfl, rfl, rfl⟩ := trodAll_nil r0
  obtain rfl : args = #[v0] := by cases args; simp_all
  obtain ⟨rfl, rfl⟩ := trodVars_none hV
  obtain ⟨d, rfl, rfl, rfl, htl⟩ := open_string Tryd.underlying9 (hval 0 9 v0 rfl rfl) h0
  rw [← B_eta d] at htl ⊢
  refine (walk d.data.toList W htl (tab_of hL)).mono fun e W' ⟨he, hb⟩ => ⟨_, he, ?_⟩
  exact law_post hW' rfl (by kernel_rfl) (by kernel_rfl) rfl hb

theorem laid_met (os : Os) : laidMet Tryd.prog Rows.codecCanonicalRow.laid ((laidWorld os).forCall (fun _ _ => 0) ⟨#[], #[.string ⟨#[]⟩], []⟩).memory :=
  laidMet_of_run' 8 (by kernel_rfl) (by kernel_rfl)
theorem reads (os : Os) {H : Type} (enc : TypeId × Value → H) : ∃ places, DataW.whole enc Tryd.prog ((laidWorld os).forCall (fun _ _ => 0) ⟨#[], #[.string ⟨#[]⟩], []⟩).memory Tryd.f8.params.toList Rows.codecCanonicalSpec.vars false (#[.string ⟨#[]⟩] : Array Value).toList 8 = some ([.lit (.string [])], [], places) :=
  ⟨[], by kernel_rfl⟩

set_option maxRecDepth 100000 in
theorem lifted (os : Os) (started : os.Started) (H : Type) (enc : TypeId × Value → H) (F : Stop.Interp) :
    ReturnsInHanded {} Tryd.checked os 8 .any ((OpenSpec.ofChange Rows.codecCanonicalSpec).preRow enc Tryd.prog Tryd.f8 Rows.codecCanonicalRow.domain false Rows.codecCanonicalRow.laid) (((OpenSpec.ofChange Rows.codecCanonicalSpec).at F).post enc Tryd.prog Tryd.f8 false true false false) := by
  obtain ⟨places, hx⟩ := reads os enc
  refine returnsInHanded_of_row (C := Tryd.checked) (s := OpenSpec.ofChange Rows.codecCanonicalSpec) own started (by kernel_rfl) Tryd.func8
    (witness_row_at (enc := enc) (C := Tryd.checked) false (laidWorld os) #[.string ⟨#[]⟩] rfl (by kernel_rfl) (by kernel_rfl) (by kernel_rfl)
      (OpenSpec.preRow_of_cond 8 hx (by kernel_rfl) (fun k hk => by cases hk) (by kernel_rfl) (laid_met os))) ?_
  intro W base args ds gs before hval hW _ _ _ hL _ _
  exact contract H enc W base args ds gs before hval hW hL

theorem said : Rows.CodecCanonicalSaid :=
  OpenClaim.holds_of_cond 8 Tryd.f8 rfl rfl rfl rfl rfl rfl rfl ⟨rfl, rfl, rfl, rfl, rfl⟩ rfl rfl rfl rfl rfl (by kernel_rfl) Tryd.func8 (by kernel_rfl)
    (of_decide_eq_true (by kernel_rfl)) (by unfold Func.isWrapper; first | (rw [if_pos (by decide +kernel)]; kernel_rfl) | (rw [if_neg (by decide +kernel)]; exact ⟨rfl, rfl⟩))
    (fun os started H enc _ F => by rw [OpenClaim.pre_eq_preRow]; exact lifted os started H enc F)

/-- No parameter wants a stand-in; the program's own looks are off. -/
theorem plain (f : FuncId) (fn : Func) (hf : Tryd.pinned.checked.prog.funcNamed "licit/licitlaw02.CodecCanonical" = some f) (hfn : Tryd.pinned.checked.prog.funcs[f]? = some fn) :
    false = Tryd.pinned.checked.prog.looks [] ∧ ∀ (j : Nat) t, fn.params[j]? = some t → Tryd.pinned.checked.prog.wantsStandIn t = false := by
  obtain rfl : f = 8 := Option.some.inj ((show Tryd.prog.funcNamed "licit/licitlaw02.CodecCanonical" = some 8 by kernel_rfl).symm.trans hf) |>.symm
  obtain rfl : fn = Tryd.f8 := (Option.some.inj (Tryd.func8.symm.trans hfn)).symm
  refine ⟨by kernel_rfl, fun j t ht => ?_⟩
  have hall : Tryd.f8.params.toList.all (fun t => !Tryd.prog.wantsStandIn t) = true := by kernel_rfl
  have := List.all_eq_true.1 hall t (Array.mem_toList_iff.2 (Array.mem_of_getElem? ht))
  exact (by simpa using this : Tryd.prog.wantsStandIn t = false)

theorem card : Rows.CodecCanonicalCardSaid :=
  Claim7.holds_tied_plain_at .later [] _ _ _ _ said (fun _ h => by cases h) (by kernel_rfl) (fun _ h => by cases h) codecCanonical_row_tie rfl ⟨rfl, rfl⟩ (by kernel_rfl) rfl plain (by kernel_rfl)

end Go.Proofs.YtadbkhijieinkaaDoor.lawCanonical
