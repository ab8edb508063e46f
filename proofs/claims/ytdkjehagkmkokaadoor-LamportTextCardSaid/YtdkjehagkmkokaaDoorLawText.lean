/- The card of LamportText is proved: for every signature the law returns true; the conditions are those of the given row. -/
import Derived.Test.YtdkjehagkmkokaaDoorLawKit48
import Derived.Test.YtdkjehagkmkokaaDoorWkAwake48
import Derived.Test.YtdkjehagkmkokaaDoorWkSigText
import Derived.Test.YtdkjehagkmkokaaDoorWkFew
namespace Go.Proofs.YtdkjehagkmkokaaDoor.lawText
open Go Go.RowKit Licit
open Go.ChangeShapes Go.WideShapes Go.ChangeAt

theorem enc_dec {i : Int} {S H R : List Bs} (h : sigOk i S H R = true) : decE (encSig i S H R) = 0 ∧ decI (encSig i S H R) = i ∧ decS (encSig i S H R) = S ∧ decH (encSig i S H R) = H ∧ decR (encSig i S H R) = R := by
  obtain ⟨d1, d2, d3, h1, h2, h3, h4⟩ := sig_back h
  have e1 : dec1 (encSig i S H R) = (i, (d1, 0)) := h1
  have e2 : dec2 (encSig i S H R) = (S, (d2, 0)) := by unfold dec2; rw [e1]; exact h2
  have e3 : dec3 (encSig i S H R) = (H, (d3, 0)) := by unfold dec3; rw [e2]; exact h3
  have e4 : dec4 (encSig i S H R) = (R, ([], 0)) := by unfold dec4; rw [e3]; exact h4
  have hc : rdClose (([], 0) : St) = 0 := by decide
  have hok : decOk (encSig i S H R) = true := by
    unfold decOk
    rw [e1, e2, e3, e4]
    simp only [Bool.and_eq_true, decide_eq_true_eq]
    exact ⟨hc, h⟩
  unfold decE decI decS decH decR
  rw [hok, e1, e2, e3, e4]
  simp
theorem encSig_len {i : Int} {S H R : List Bs} (h : sigOk i S H R = true) : (encSig i S H R).length ≤ 1000000000 := by
  obtain ⟨k0, k1, k2, k3, k4, k5, k6, k7⟩ := sigOk_iff.1 h
  have x1 := enc32_len k5 (by omega)
  have x2 := enc32_len k6 (by omega)
  have x3 := enc32_len k7 (by omega)
  have x0 := num_len' i
  unfold encSig
  simp only [List.length_append]
  omega
theorem sig_cells {w : World} {r : Nat} {x0 x1 x2 x3 : Value} {T : TypeId} (h : w.heap[r]? = some (.cells #[x0, x1, x2, x3] T)) :
    w.cell? ⟨r, 0, none⟩ = some x0 ∧ w.cell? ⟨r, 1, none⟩ = some x1 ∧ w.cell? ⟨r, 2, none⟩ = some x2 ∧ w.cell? ⟨r, 3, none⟩ = some x3 := ⟨cell_of h 0, cell_of h 1, cell_of h 2, cell_of h 3⟩

set_option maxHeartbeats 4000000 in
set_option maxRecDepth 100000 in
theorem walk (v : Value) (i : Int) (S HH R : List Bs) (w : World) (h : SigIs v i S HH R w) (ht : Tab w) :
    Calls Tryd.prog 9 #[v] w fun e w' => e = .returned (.bool true) ∧ Below w.heap.size w w' := by
  have HA := Lib.hid (fun W (hT : Tab W) => awake_any48 W hT)
  have Hs := Lib.hid h
  obtain ⟨vs, vh, vr, rfl, o1, o2, o3⟩ := h
  obtain ⟨sa, sc, rfl⟩ := o1.formMap
  obtain ⟨ha, hc, rfl⟩ := o2.formMap
  obtain ⟨ra, rc, rfl⟩ := o3.formMap
  clear o1 o2 o3
  have hBx := (Below.refl w.heap.size w).alloc (Nat.le_refl _) (.cells #[.int .i64 i, .slice sa S.length sc, .slice ha HH.length hc, .slice ra R.length rc] 34)
  have HBx := Lib.hid hBx
  have HXx := Lib.hid (new_of w (.cells #[.int .i64 i, .slice sa S.length sc, .slice ha HH.length hc, .slice ra R.length rc] 34))
  clear hBx
  obtain ⟨F, hF⟩ : ∃ F, (fewB 260 S && fewB 260 HH && fewB 260 R) = F := ⟨_, rfl⟩
  have HFw := Lib.hid (fun W (hs : SigIs (.agg #[.int .i64 i, .slice sa S.length sc, .slice ha HH.length hc, .slice ra R.length rc]) i S HH R W) => Few_any _ i S HH R W hs)
  rw [hF] at HFw
  clear hF
  go_enter Tryd.func9, Tryd.ntmps9
  go_wp2_with fail
  refine (HA.out _ (ht.same HBx.out)).mono ?_
  rintro e w1 ⟨rfl, hb⟩
  have Hb1 := Lib.hid (HBx.out.next hb)
  have Hk1 := Lib.hid ((hb.block _ (lt_of HXx.out)).trans HXx.out)
  have HS1 := Lib.hid (Hs.out.below (HBx.out.trans (hb.mono HBx.out.size)))
  clear hb
  obtain ⟨k0, k1, k2, k3⟩ := sig_cells Hk1.out
  go_wp2_with fail
  refine (HFw.out _ HS1.out).mono ?_
  rintro e w2 ⟨rfl, hb⟩
  have Hb2 := Lib.hid (Hb1.out.next hb)
  have Hk2 := Lib.hid ((hb.block _ (lt_of Hk1.out)).trans Hk1.out)
  have HS2 := Lib.hid (HS1.out.below hb)
  clear hb k0 k1 k2 k3
  obtain ⟨k0, k1, k2, k3⟩ := sig_cells Hk2.out
  cases F with
  | false =>
    go_wp2_with fail
    refine (HA.out _ (ht.same Hb2.out)).mono ?_
    rintro e w3 ⟨rfl, hb⟩
    have Hb3 := Lib.hid (Hb2.out.next hb)
    clear hb
    go_wp2
    go_ret
    exact ⟨rfl, Hb3.out⟩
  | true =>
    have HE := Lib.hid (Encode_any _ i S HH R w2 HS2.out (ht.same Hb2.out))
    obtain ⟨ES, hES⟩ : ∃ x, encS i S HH R = x := ⟨_, rfl⟩
    obtain ⟨EE, hEE⟩ : ∃ x, encE i S HH R = x := ⟨_, rfl⟩
    rw [hES, hEE] at HE
    have HRE := Lib.hid (fun W (hs : SigIs (.agg #[.int .i64 i, .slice sa S.length sc, .slice ha HH.length hc, .slice ra R.length rc]) i S HH R W) => REncode_any _ i S HH R W hs)
    rw [hES, hEE] at HRE
    have HES := Lib.hid hES
    have HEE := Lib.hid hEE
    clear hES hEE
    go_wp2_with fail
    refine HE.out.mono ?_
    rintro e w3 ⟨rfl, hb⟩
    have Hb3 := Lib.hid (Hb2.out.next hb)
    have Hk3 := Lib.hid ((hb.block _ (lt_of Hk2.out)).trans Hk2.out)
    have HS3 := Lib.hid (HS2.out.below hb)
    clear hb k0 k1 k2 k3
    obtain ⟨k0, k1, k2, k3⟩ := sig_cells Hk3.out
    go_wp2_with fail
    refine (HRE.out _ HS3.out).mono ?_
    rintro e w4 ⟨rfl, hb⟩
    have Hb4 := Lib.hid (Hb3.out.next hb)
    have Hk4 := Lib.hid ((hb.block _ (lt_of Hk3.out)).trans Hk3.out)
    have HS4 := Lib.hid (HS3.out.below hb)
    clear hb k0 k1 k2 k3
    obtain ⟨k0, k1, k2, k3⟩ := sig_cells Hk4.out
    have hwz4 : w.heap.size < w4.heap.size := lt_of Hk4.out
    cases hok : sigOk i S HH R with
    | false =>
      have hE1 : EE = 1 := by rw [← HEE.out]; unfold encE; rw [hok]; rfl
      subst hE1
      have HW := Lib.hid (WellF_any _ i S HH R w4 HS4.out)
      rw [hok] at HW
      clear hok
      go_wp2_with fail
      refine HW.out.mono ?_
      rintro e w5 ⟨rfl, hb⟩
      have Hb5 := Lib.hid (Hb4.out.next hb)
      clear hb
      go_wp2
      go_ret
      exact ⟨rfl, Hb5.out⟩
    | true =>
      have hE0 : EE = 0 := by rw [← HEE.out]; unfold encE; rw [hok]; rfl
      subst hE0
      have hS0 : ES = encSig i S HH R := by rw [← HES.out]; unfold encS; rw [hok]; rfl
      have HD := Lib.hid (Decode_any ES w4 (by rw [hS0]; exact encSig_len hok))
      obtain ⟨q0, q1, q2, q3, q4⟩ := enc_dec hok
      rw [← hS0] at q0 q1 q2 q3 q4
      rw [q0, q1, q2, q3, q4] at HD
      clear q0 q1 q2 q3 q4 hS0 hok HES HEE
      go_wp2_with fail
      refine HD.out.mono ?_
      rintro e w5 ⟨u, rfl, hu, hb⟩
      have Hb5 := Lib.hid (Hb4.out.next hb)
      have Hk5 := Lib.hid ((hb.block _ (lt_of Hk4.out)).trans Hk4.out)
      have HS5 := Lib.hid (HS4.out.below hb)
      have HU := Lib.hid hu
      obtain ⟨us, uh, ur, rfl, o1, o2, o3⟩ := hu
      obtain ⟨sa', sc', rfl⟩ := o1.formMap
      obtain ⟨ha', hc', rfl⟩ := o2.formMap
      obtain ⟨ra', rc', rfl⟩ := o3.formMap
      clear hb o1 o2 o3 k0 k1 k2 k3
      obtain ⟨k0, k1, k2, k3⟩ := sig_cells Hk5.out
      have hwz5 : w.heap.size < w5.heap.size := lt_of Hk5.out
      have hbA := (Below.refl w5.heap.size w5).alloc (Nat.le_refl _) (.cells #[.int .i64 i, .slice sa' S.length sc', .slice ha' HH.length hc', .slice ra' R.length rc'] 34)
      have HSm := Lib.hid (RSame_any _ _ i i S HH R S HH R _ (HU.out.below hbA) (HS5.out.below hbA))
      rw [show sameSig i S HH R i S HH R = true by simp [sameSig]] at HSm
      have HbA := Lib.hid (Hb5.out.trans (hbA.mono Hb5.out.size))
      clear hbA
      go_wp2_with fail
      refine HSm.out.mono ?_
      rintro e w6 ⟨rfl, hb⟩
      have Hb6 := Lib.hid (HbA.out.next hb)
      clear hb
      go_wp2
      go_ret
      exact ⟨rfl, Hb6.out⟩

section
variable {H : Type} {enc : TypeId × Value → H} {W : World} {base b0 : Nat} {held : Bool} {v : Value} {d : DataW H} {ps : List MemPlace} {r : Reach}
set_option maxRecDepth 100000 in
theorem sig_in (hval : Value.okWide Tryd.prog W r b0 34 v) (hd : DataW.Trod enc Tryd.prog W base (fun _ => true) held 34 v d ps) :
    ∃ (i : Int) (S HH R : List Bs), SigIs v i S HH R W := by
  obtain ⟨v0, v1, v2, v3, y0, y1, y2, y3, n, rfl, _, _, h0, h1, h2, h3⟩ := Go.Joins.open_agg4 Tryd.underlying34 (by kernel_rfl) (by kernel_rfl) hval hd
  obtain ⟨i, hi, _, _⟩ := DataW.trod_int Tryd.underlying3 h0
  simp only [List.cons.injEq, and_true] at hi
  subst hi
  obtain ⟨S, hS, _⟩ := sl_strs_of Tryd.underlying32 Tryd.underlying9 (by kernel_rfl) h1
  obtain ⟨HH, hH, _⟩ := sl_strs_of Tryd.underlying32 Tryd.underlying9 (by kernel_rfl) h2
  obtain ⟨R, hR, _⟩ := sl_strs_of Tryd.underlying32 Tryd.underlying9 (by kernel_rfl) h3
  exact ⟨i, S, HH, R, _, _, _, rfl, hS, hH, hR⟩
end

set_option maxRecDepth 100000 in
theorem contract (H : Type) (enc : TypeId × Value → H) (W : World) (base : Nat) (args : Array Value) (ds gs : List (DataW H)) (before : List MemPlace)
    (hval : ∀ (j : Nat) t v, Tryd.f9.params[j]? = some t → args[j]? = some v → Value.okWide Tryd.prog W .any base t v)
    (hW : DataW.Whole enc Tryd.prog Tryd.f9.params.toList Rows.lamportTextSpec.vars false W args.toList ds gs before) (hL : laidMetH Tryd.prog Rows.lamportTextRow.laid W) :
    Calls Tryd.prog 9 args W fun e W' => ∃ v, e = .returned v ∧ Rows.lamportTextSpec.post enc Tryd.prog Tryd.f9 false true false false W args v W' := by
  have hW' := hW
  obtain ⟨p, q, hA0, hV, rfl, hfz, hnd⟩ := hW
  have hA : DataW.TrodAll enc Tryd.prog W 0 (fun _ => true) true Tryd.f9.params.toList args.toList ds p := hA0
  rw [Tryd.params9] at hA hval
  obtain ⟨v0, vs0, d0, ds0, p0, q0, hargs, rfl, rfl, h0, r0⟩ := trodAll_cons hA
  obtain ⟨rfl, rfl, rfl⟩ := trodAll_nil r0
  obtain rfl : args = #[v0] := by cases args; simp_all
  obtain ⟨rfl, rfl⟩ := trodVars_none hV
  obtain ⟨i, S, HH, R, hs⟩ := sig_in (hval 0 34 v0 rfl rfl) h0
  refine (walk v0 i S HH R W hs (tab_of hL)).mono fun e W' ⟨he, hb⟩ => ⟨_, he, ?_⟩
  exact law_post hW' rfl (by kernel_rfl) (by kernel_rfl) rfl hb

theorem laid_met (os : Os) : laidMet Tryd.prog Rows.lamportTextRow.laid ((laidWorld os).forCall (fun _ _ => 0) ⟨#[], #[.agg #[.int .i64 0, .slice none 0 0, .slice none 0 0, .slice none 0 0]], []⟩).memory :=
  laidMet_of_run' 8 (by kernel_rfl) (by kernel_rfl)
theorem reads (os : Os) {H : Type} (enc : TypeId × Value → H) : ∃ places, DataW.whole enc Tryd.prog ((laidWorld os).forCall (fun _ _ => 0) ⟨#[], #[.agg #[.int .i64 0, .slice none 0 0, .slice none 0 0, .slice none 0 0]], []⟩).memory Tryd.f9.params.toList Rows.lamportTextSpec.vars false (#[.agg #[.int .i64 0, .slice none 0 0, .slice none 0 0, .slice none 0 0]] : Array Value).toList 8 = some ([.agg [.lit (.int .i64 0), .nil, .nil, .nil]], [], places) :=
  ⟨[], by kernel_rfl⟩

set_option maxRecDepth 100000 in
theorem lifted (os : Os) (started : os.Started) (H : Type) (enc : TypeId × Value → H) (F : Stop.Interp) :
    ReturnsInHanded {} Tryd.checked os 9 .any ((OpenSpec.ofChange Rows.lamportTextSpec).preRow enc Tryd.prog Tryd.f9 Rows.lamportTextRow.domain false Rows.lamportTextRow.laid) (((OpenSpec.ofChange Rows.lamportTextSpec).at F).post enc Tryd.prog Tryd.f9 false true false false) := by
  obtain ⟨places, hx⟩ := reads os enc
  refine returnsInHanded_of_row (C := Tryd.checked) (s := OpenSpec.ofChange Rows.lamportTextSpec) own started (by kernel_rfl) Tryd.func9
    (witness_row_at (enc := enc) (C := Tryd.checked) false (laidWorld os) #[.agg #[.int .i64 0, .slice none 0 0, .slice none 0 0, .slice none 0 0]] rfl (by kernel_rfl) (by kernel_rfl) (by kernel_rfl)
      (OpenSpec.preRow_of_cond 8 hx (by kernel_rfl) (fun k hk => by cases hk) (by kernel_rfl) (laid_met os))) ?_
  intro W base args ds gs before hval hW _ _ _ hL _ _
  exact contract H enc W base args ds gs before hval hW hL

set_option maxRecDepth 100000 in
theorem said : Rows.LamportTextSaid :=
  OpenClaim.holds_of_cond 9 Tryd.f9 rfl rfl rfl rfl rfl rfl rfl ⟨rfl, rfl, rfl, rfl, rfl⟩ rfl rfl rfl rfl rfl (by kernel_rfl) Tryd.func9 (by kernel_rfl)
    (of_decide_eq_true (by kernel_rfl)) (by unfold Func.isWrapper; first | (rw [if_pos (by decide +kernel)]; kernel_rfl) | (rw [if_neg (by decide +kernel)]; exact ⟨rfl, rfl⟩))
    (fun os started H enc _ F => by rw [OpenClaim.pre_eq_preRow]; exact lifted os started H enc F)

/-- No parameter wants a stand-in; the program's own looks are off. -/
theorem plain (f : FuncId) (fn : Func) (hf : Tryd.pinned.checked.prog.funcNamed "licit/licitlaw48.LamportText" = some f) (hfn : Tryd.pinned.checked.prog.funcs[f]? = some fn) :
    false = Tryd.pinned.checked.prog.looks [] ∧ ∀ (j : Nat) t, fn.params[j]? = some t → Tryd.pinned.checked.prog.wantsStandIn t = false := by
  obtain rfl : f = 9 := Option.some.inj ((show Tryd.prog.funcNamed "licit/licitlaw48.LamportText" = some 9 by kernel_rfl).symm.trans hf) |>.symm
  obtain rfl : fn = Tryd.f9 := (Option.some.inj (Tryd.func9.symm.trans hfn)).symm
  refine ⟨by kernel_rfl, fun j t ht => ?_⟩
  have hall : Tryd.f9.params.toList.all (fun t => !Tryd.prog.wantsStandIn t) = true := by kernel_rfl
  have := List.all_eq_true.1 hall t (Array.mem_toList_iff.2 (Array.mem_of_getElem? ht))
  exact (by simpa using this : Tryd.prog.wantsStandIn t = false)

theorem card : Rows.LamportTextCardSaid :=
  Claim7.holds_tied_plain_at .later [] _ _ _ _ said (fun _ h => by cases h) (by kernel_rfl) (fun _ h => by cases h) lamportText_row_tie rfl ⟨rfl, rfl⟩ (by kernel_rfl) rfl plain (by kernel_rfl)

end Go.Proofs.YtdkjehagkmkokaaDoor.lawText
