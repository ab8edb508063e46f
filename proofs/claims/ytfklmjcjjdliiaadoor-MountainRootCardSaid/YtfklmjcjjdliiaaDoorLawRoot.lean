/- The card of MountainRoot is proved: for every range the law returns true; the conditions are those of the given row. -/
import Derived.Test.YtfklmjcjjdliiaaDoorLawKit49
import Derived.Test.YtfklmjcjjdliiaaDoorWkMtI
import Derived.Deep.Cut
namespace Go.Proofs.YtfklmjcjjdliiaaDoor.lawRoot
open Go Go.RowKit Licit
open Go.ChangeShapes Go.WideShapes Go.ChangeAt

theorem enc32_len {l : List Bs} (h : all32 l = true) (hl : l.length ≤ 1024) : (eList eText l).1.length ≤ 100000000 := by
  have he : ∀ x ∈ l, (eText x).2 = 0 := fun x m => by unfold eText; rw [if_neg (by rw [all32_mem h x m]; omega)]
  unfold eList
  rw [if_neg (by omega)]
  have := eAll_len eText eText_len l (Lib.decDigits l.length ++ [59])
  have hd := dec_size (n := (l.length : Int)) (by omega) (by omega)
  rw [B_size, Int.toNat_natCast] at hd
  rw [List.length_append, List.length_singleton] at this
  omega

set_option maxHeartbeats 8000000 in
set_option maxRecDepth 100000 in
theorem walk (v : Value) (s : Int) (P : List Bs) (w : World) (hv : MtIs v s P w) (ht : Tab w) (hz : Tz w) :
    Calls Tryd.prog 12 #[v] w fun e w' => e = .returned (.bool true) ∧ Below w.heap.size w w' := by
  have HA := Lib.hid (fun W (hb : Below w.heap.size w W) => awake_any49 W (ht.same hb) (hz.same hb))
  have HV := Lib.hid hv
  obtain ⟨p, rfl, hp, _⟩ := hv
  have HP := Lib.hid hp
  obtain ⟨a, c, rfl⟩ := hp.formMap
  have HBx := Lib.hid ((Below.refl w.heap.size w).alloc (Nat.le_refl _) (.cells #[.int .i64 s, .slice a P.length c] 31))
  have HXx := Lib.hid (new_of w (.cells #[.int .i64 s, .slice a P.length c] 31))
  obtain ⟨F, hF⟩ : ∃ F, fewM 30 P = F := ⟨_, rfl⟩
  have HFw := Lib.hid (fun W (hb : Below w.heap.size w W) => FewM_any _ P 30 W (HP.out.below hb))
  rw [hF] at HFw
  have HRa := Lib.hid (fun W (hb : Below w.heap.size w W) => MtRoot_any _ s P W (HV.out.below hb) (ht.same hb))
  have HRb := Lib.hid (fun W (hb : Below w.heap.size w W) => RMtRoot_any _ s P W (HV.out.below hb))
  have HEa := Lib.hid (fun W (hb : Below w.heap.size w W) => MtEnc_any _ s P W (HV.out.below hb) (ht.same hb))
  have HEb := Lib.hid (fun W (hb : Below w.heap.size w W) => RMtEnc_any _ s P W (HV.out.below hb))
  have hl : okM s P = true → (encT s P).length ≤ 1000000000 := by
    intro hk
    obtain ⟨⟨h0, h1⟩, hl, h32⟩ := okM_iff.1 hk
    have h2 := enc32_len h32 (by rw [hl]; exact Nat.le_trans (hts_len 21 _) (by decide))
    have h3 := num_few s
    unfold encT
    rw [if_pos hk, List.length_append]
    omega
  have HBk := Lib.hid (fun hk => mt_back (s := s) (P := P) hk)
  obtain ⟨RT, hRT⟩ : ∃ x, rootT s P = x := ⟨_, rfl⟩
  obtain ⟨ET, hET⟩ : ∃ x, encT s P = x := ⟨_, rfl⟩
  obtain ⟨VM, hVM⟩ : ∃ x, validM s P = x := ⟨_, rfl⟩
  rw [hRT, hVM] at HRa HRb
  rw [hET, hVM] at HEa HEb
  rw [hET] at hl HBk
  have HL := Lib.hid hl
  have HVM := Lib.hid hVM
  have hq1 := beqB_eq RT
  have hq2 := beqB_eq ET
  clear hF hp hRT hET hVM hl
  go_enter Tryd.func12, Tryd.ntmps12
  go_wp2_with fail
  refine (HA.out _ HBx.out).mono ?_
  rintro e w1 ⟨rfl, hb⟩
  have HB1 := Lib.hid (HBx.out.next hb)
  have HX1 := Lib.hid ((hb.block _ (lt_of HXx.out)).trans HXx.out)
  clear hb
  obtain ⟨c0, c1⟩ := mtC HX1.out
  go_wp2_with fail
  refine (HFw.out _ HB1.out).mono ?_
  rintro e w2 ⟨rfl, rfl⟩
  cases F with
  | false =>
    go_wp2_with fail
    refine (HA.out _ HB1.out).mono ?_
    rintro e w3 ⟨rfl, hb⟩
    have HB3 := Lib.hid (HB1.out.next hb)
    clear hb
    go_wp2
    go_ret
    exact ⟨rfl, HB3.out⟩
  | true =>
  go_wp2_with fail
  refine (HRa.out _ HB1.out).mono ?_
  rintro e w3 ⟨rfl, hb⟩
  have HB3 := Lib.hid (HB1.out.next hb)
  have HX3 := Lib.hid ((hb.block _ (lt_of HX1.out)).trans HX1.out)
  clear hb c0 c1
  obtain ⟨c0, c1⟩ := mtC HX3.out
  go_wp2_with fail
  refine (HRb.out _ HB3.out).mono ?_
  rintro e w4 ⟨rfl, hb⟩
  have HB4 := Lib.hid (HB3.out.next hb)
  have HX4 := Lib.hid ((hb.block _ (lt_of HX3.out)).trans HX3.out)
  clear hb c0 c1
  obtain ⟨c0, c1⟩ := mtC HX4.out
  go_wp2_with fail
  refine (HEa.out _ HB4.out).mono ?_
  rintro e w5 ⟨rfl, hb⟩
  have HB5 := Lib.hid (HB4.out.next hb)
  have HX5 := Lib.hid ((hb.block _ (lt_of HX4.out)).trans HX4.out)
  clear hb c0 c1
  obtain ⟨c0, c1⟩ := mtC HX5.out
  go_wp2_with fail
  refine (HEb.out _ HB5.out).mono ?_
  rintro e w6 ⟨rfl, hb⟩
  have HB6 := Lib.hid (HB5.out.next hb)
  have HX6 := Lib.hid ((hb.block _ (lt_of HX5.out)).trans HX5.out)
  clear hb c0 c1
  cases hk : okM s P with
  | false =>
    obtain rfl : VM = 1 := by rw [← HVM.out]; unfold validM; rw [hk]; rfl
    clear hk
    go_wp2
    go_ret
    exact ⟨rfl, HB6.out⟩
  | true =>
    obtain rfl : VM = 0 := by rw [← HVM.out]; unfold validM; rw [hk]; rfl
    obtain ⟨k1, k2, k3⟩ := HBk.out hk
    have HDc := Lib.hid (MtDec_any ET w6 (HL.out hk))
    rw [k1, k2, k3] at HDc
    clear hk k1 k2 k3
    go_wp2_with fail
    refine HDc.out.mono ?_
    rintro e w7 ⟨v7, rfl, hm7, hb⟩
    have HB7 := Lib.hid (HB6.out.next hb)
    have HX7 := Lib.hid ((hb.block _ (lt_of HX6.out)).trans HX6.out)
    have HM7 := Lib.hid hm7
    obtain ⟨p7, rfl, hp7, _⟩ := hm7
    obtain ⟨na, nc, rfl⟩ := hp7.formMap
    obtain ⟨W, hW⟩ : ∃ W, w7.alloc (.cells #[.int .i64 s, .slice na P.length nc] 31) = W := ⟨_, rfl⟩
    obtain ⟨E, hE⟩ : ∃ E, w7.heap.size = E := ⟨_, rfl⟩
    have hbW : Below w7.heap.size w7 W := by rw [← hW]; exact (Below.refl _ _).alloc (Nat.le_refl _) _
    have HEW := Lib.hid (show W.heap[E]? = some (.cells #[.int .i64 s, .slice na P.length nc] 31) by rw [← hE, ← hW]; exact new_of _ _)
    have HXW := Lib.hid ((hbW.block _ (lt_of HX7.out)).trans HX7.out)
    have HBW := Lib.hid (HB7.out.next hbW)
    have hSm := MtSame_any _ _ s s P P W (HM7.out.below hbW) (HV.out.below HBW.out)
    rw [show sameMt s P s P = true by simp [sameMt]] at hSm
    have HSm := Lib.hid hSm
    have HW := Lib.hid hW
    have HE := Lib.hid hE
    clear hb hp7 hbW hSm hW hE
    go_upto_region 12 with fail
    rw [HW.out, HE.out]
    clear HW HE
    obtain ⟨c0, c1⟩ := mtC HXW.out
    obtain ⟨e0, e1⟩ := mtC HEW.out
    go_wp2_with fail
    refine HSm.out.mono ?_
    rintro e w8 ⟨rfl, hb⟩
    have HB8 := Lib.hid (HBW.out.next hb)
    clear hb c0 c1 e0 e1
    go_wp2
    go_ret
    exact ⟨rfl, HB8.out⟩

set_option maxRecDepth 100000 in
theorem contract (H : Type) (enc : TypeId × Value → H) (W : World) (base : Nat) (args : Array Value) (ds gs : List (DataW H)) (before : List MemPlace)
    (hval : ∀ (j : Nat) t v, Tryd.f12.params[j]? = some t → args[j]? = some v → Value.okWide Tryd.prog W .any base t v)
    (hW : DataW.Whole enc Tryd.prog Tryd.f12.params.toList Rows.mountainRootSpec.vars false W args.toList ds gs before) (hL : laidMetH Tryd.prog Rows.mountainRootRow.laid W) :
    Calls Tryd.prog 12 args W fun e W' => ∃ v, e = .returned v ∧ Rows.mountainRootSpec.post enc Tryd.prog Tryd.f12 false true false false W args v W' := by
  have hW' := hW
  obtain ⟨p, q, hA0, hV, rfl, hfz, hnd⟩ := hW
  have hA : DataW.TrodAll enc Tryd.prog W 0 (fun _ => true) true Tryd.f12.params.toList args.toList ds p := hA0
  rw [Tryd.params12] at hA hval
  obtain ⟨v0, vs0, d0, ds0, p0, q0, hargs, rfl, rfl, h0, r0⟩ := trodAll_cons hA
  obtain ⟨rfl, rfl, rfl⟩ := trodAll_nil r0
  obtain rfl : args = #[v0] := by cases args; simp_all
  obtain ⟨rfl, rfl⟩ := trodVars_none hV
  obtain ⟨s, P, hm⟩ := mt_in (hval 0 31 v0 rfl rfl) h0
  refine (walk v0 s P W hm (tab_of hL) (tz_of hL)).mono fun e W' ⟨he, hb⟩ => ⟨_, he, ?_⟩
  exact law_post hW' rfl (by kernel_rfl) (by kernel_rfl) rfl hb

theorem laid_met (os : Os) : laidMet Tryd.prog Rows.mountainRootRow.laid ((laidWorld os).forCall (fun _ _ => 0) ⟨#[], #[.agg #[.int .i64 0, .slice none 0 0]], []⟩).memory :=
  laidMet_of_run' 8 (by kernel_rfl) (by kernel_rfl)
theorem reads (os : Os) {H : Type} (enc : TypeId × Value → H) : ∃ places, DataW.whole enc Tryd.prog ((laidWorld os).forCall (fun _ _ => 0) ⟨#[], #[.agg #[.int .i64 0, .slice none 0 0]], []⟩).memory Tryd.f12.params.toList Rows.mountainRootSpec.vars false (#[.agg #[.int .i64 0, .slice none 0 0]] : Array Value).toList 8 = some ([.agg [.lit (.int .i64 0), .nil]], [], places) :=
  ⟨[], by kernel_rfl⟩

set_option maxRecDepth 100000 in
theorem lifted (os : Os) (started : os.Started) (H : Type) (enc : TypeId × Value → H) (F : Stop.Interp) :
    ReturnsInHanded {} Tryd.checked os 12 .any ((OpenSpec.ofChange Rows.mountainRootSpec).preRow enc Tryd.prog Tryd.f12 Rows.mountainRootRow.domain false Rows.mountainRootRow.laid) (((OpenSpec.ofChange Rows.mountainRootSpec).at F).post enc Tryd.prog Tryd.f12 false true false false) := by
  obtain ⟨places, hx⟩ := reads os enc
  refine returnsInHanded_of_row (C := Tryd.checked) (s := OpenSpec.ofChange Rows.mountainRootSpec) own started (by kernel_rfl) Tryd.func12
    (witness_row_at (enc := enc) (C := Tryd.checked) false (laidWorld os) #[.agg #[.int .i64 0, .slice none 0 0]] rfl (by kernel_rfl) (by kernel_rfl) (by kernel_rfl)
      (OpenSpec.preRow_of_cond 8 hx (by kernel_rfl) (fun k hk => by cases hk) (by kernel_rfl) (laid_met os))) ?_
  intro W base args ds gs before hval hW _ _ _ hL _ _
  exact contract H enc W base args ds gs before hval hW hL

set_option maxRecDepth 100000 in
theorem said : Rows.MountainRootSaid :=
  OpenClaim.holds_of_cond 12 Tryd.f12 rfl rfl rfl rfl rfl rfl rfl ⟨rfl, rfl, rfl, rfl, rfl⟩ rfl rfl rfl rfl rfl (by kernel_rfl) Tryd.func12 (by kernel_rfl)
    (of_decide_eq_true (by kernel_rfl)) (by unfold Func.isWrapper; first | (rw [if_pos (by decide +kernel)]; kernel_rfl) | (rw [if_neg (by decide +kernel)]; exact ⟨rfl, rfl⟩))
    (fun os started H enc _ F => by rw [OpenClaim.pre_eq_preRow]; exact lifted os started H enc F)

/-- No parameter wants a stand-in; the program's own looks are off. -/
theorem plain (f : FuncId) (fn : Func) (hf : Tryd.pinned.checked.prog.funcNamed "licit/licitlaw49.MountainRoot" = some f) (hfn : Tryd.pinned.checked.prog.funcs[f]? = some fn) :
    false = Tryd.pinned.checked.prog.looks [] ∧ ∀ (j : Nat) t, fn.params[j]? = some t → Tryd.pinned.checked.prog.wantsStandIn t = false := by
  obtain rfl : f = 12 := Option.some.inj ((show Tryd.prog.funcNamed "licit/licitlaw49.MountainRoot" = some 12 by kernel_rfl).symm.trans hf) |>.symm
  obtain rfl : fn = Tryd.f12 := (Option.some.inj (Tryd.func12.symm.trans hfn)).symm
  refine ⟨by kernel_rfl, fun j t ht => ?_⟩
  have hall : Tryd.f12.params.toList.all (fun t => !Tryd.prog.wantsStandIn t) = true := by kernel_rfl
  have := List.all_eq_true.1 hall t (Array.mem_toList_iff.2 (Array.mem_of_getElem? ht))
  exact (by simpa using this : Tryd.prog.wantsStandIn t = false)

theorem card : Rows.MountainRootCardSaid :=
  Claim7.holds_tied_plain_at .later [] _ _ _ _ said (fun _ h => by cases h) (by kernel_rfl) (fun _ h => by cases h) mountainRoot_row_tie rfl ⟨rfl, rfl⟩ (by kernel_rfl) rfl plain (by kernel_rfl)

end Go.Proofs.YtfklmjcjjdliiaaDoor.lawRoot
