/- The card of CodecBeginnings is proved: for all values and every number the law returns true; the conditions are those of the given row. -/
import Derived.Test.YtadbkhijieinkaaDoorLawKit
import Derived.Test.YtadbkhijieinkaaDoorWkAwake
import Derived.Test.YtadbkhijieinkaaDoorWkValues
import Derived.Lib.SmallJoins
namespace Go.Proofs.YtadbkhijieinkaaDoor.lawBeginnings
open Go Go.RowKit Licit
open Go.ChangeShapes Go.WideShapes Go.ChangeAt Go.Joins

theorem wrS_pos {n : Int} {s : Bs} {l : List Int} {t : List Bs} (h : wrB n s l t = true) : 0 < (wrS n s l t).length := by
  have := eNum_pos n (wrB_iff.1 h).1
  unfold wrS
  rw [List.length_append, List.length_append, List.length_append]
  omega

set_option maxRecDepth 100000 in
set_option maxHeartbeats 3200000 in
theorem walk (n : Int) (vL vT : Value) (s : Bs) (l : List Int) (t : List Bs) (m : Nat) (w : World) (h : Vals vL vT s l t w) (hm : m ≤ 65535) (ht : Tab w) :
    Calls Tryd.prog 7 #[.agg #[.int .i64 n, .string (B s), vL, vT], .int .u16 m] w fun e w' => e = .returned (.bool true) ∧ Below w.heap.size w w' := by
  obtain ⟨aL, cL, rfl⟩ := h.sl.formMap
  obtain ⟨aT, cT, rfl⟩ := h.st.formMap
  have hb0 : Below w.heap.size w (w.alloc (.cells #[.int .i64 n, .string (B s), .slice aL l.length cL, .slice aT t.length cT] 51)) := (Below.refl _ _).alloc (Nat.le_refl _) _
  have hbk0 : (w.alloc (.cells #[.int .i64 n, .string (B s), .slice aL l.length cL, .slice aT t.length cT] 51)).heap[w.heap.size]? = some (.cells #[.int .i64 n, .string (B s), .slice aL l.length cL, .slice aT t.length cT] 51 (0, 0)) := new_of _ _
  have ht0 := ht.same hb0
  have H0 := Lib.hid (h.below hb0)
  have HB0 := Lib.hid hb0
  have HK0 := Lib.hid hbk0
  clear h hb0 hbk0
  go_enter Tryd.func7, Tryd.ntmps7
  go_wp2_with fail
  refine (awake_any _ ht0).mono ?_
  rintro e w1 ⟨rfl, hb⟩
  have hbk1 := (hb.block w.heap.size (by simp)).trans HK0.out
  have HB1 := Lib.hid (HB0.out.trans (hb.mono HB0.out.size))
  have H1 := Lib.hid (H0.out.below hb)
  have ht1 := ht0.same hb
  have c10 : w1.cell? ⟨w.heap.size, 0, none⟩ = some (.int .i64 n) := by rw [cell_of hbk1]; rfl
  have c11 : w1.cell? ⟨w.heap.size, 1, none⟩ = some (.string (B s)) := by rw [cell_of hbk1]; rfl
  have c12 : w1.cell? ⟨w.heap.size, 2, none⟩ = some (.slice aL l.length cL) := by rw [cell_of hbk1]; rfl
  have c13 : w1.cell? ⟨w.heap.size, 3, none⟩ = some (.slice aT t.length cT) := by rw [cell_of hbk1]; rfl
  have HK1 := Lib.hid hbk1
  clear hb hbk1
  go_wp2_with fail
  refine (few_any n _ _ s l t _ H1.out).mono ?_
  cases hf : fewB s l t
  · rintro e w2 ⟨rfl, hb⟩
    have HB2 := Lib.hid (HB1.out.trans (hb.mono HB1.out.size))
    clear hb c10 c11 c12 c13 hf
    go_wp2_with fail
    go_ret
    exact ⟨rfl, HB2.out⟩
  · rintro e w2 ⟨rfl, hb⟩
    have hbk2 := (hb.block w.heap.size (lt_of HK1.out)).trans HK1.out
    have HB2 := Lib.hid (HB1.out.trans (hb.mono HB1.out.size))
    have H2 := Lib.hid (H1.out.below hb)
    have ht2 := ht1.same hb
    have c20 : w2.cell? ⟨w.heap.size, 0, none⟩ = some (.int .i64 n) := by rw [cell_of hbk2]; rfl
    have c21 : w2.cell? ⟨w.heap.size, 1, none⟩ = some (.string (B s)) := by rw [cell_of hbk2]; rfl
    have c22 : w2.cell? ⟨w.heap.size, 2, none⟩ = some (.slice aL l.length cL) := by rw [cell_of hbk2]; rfl
    have c23 : w2.cell? ⟨w.heap.size, 3, none⟩ = some (.slice aT t.length cT) := by rw [cell_of hbk2]; rfl
    clear hb hbk2 c10 c11 c12 c13 hf
    go_wp2_with fail
    refine (write_any n _ _ s l t _ H2.out ht2).mono ?_
    cases hw : wrB n s l t
    · rintro e w3 ⟨rfl, hb⟩
      have HB3 := Lib.hid (HB2.out.trans (hb.mono HB2.out.size))
      clear hb c20 c21 c22 c23 hw
      go_wp2_with fail
      go_ret
      exact ⟨rfl, HB3.out⟩
    · rintro e w3 ⟨rfl, hb⟩
      have HB3 := Lib.hid (HB2.out.trans (hb.mono HB2.out.size))
      have hwl : (B (wrS n s l t)).size ≤ 200000000 := wrS_len n s l t
      have hwp : 0 < (B (wrS n s l t)).size := wrS_pos hw
      have hne : (B (wrS n s l t)).toList.isEmpty = false := by
        rw [ByteArray.toList_eq, B_list]
        cases hx : wrS n s l t with
        | nil => rw [hx] at hwp; exact (Nat.lt_irrefl _ hwp).elim
        | cons a r => rfl
      have hmod := Nat.mod_lt m hwp
      have HW := Lib.hid hw
      clear hb c20 c21 c22 c23 hw
      go_wp2_with fail
      obtain ⟨k, hk⟩ : ∃ k, k = m % (B (wrS n s l t)).size := ⟨_, rfl⟩
      have hex : (B (wrS n s l t)).extract 0 (m % (B (wrS n s l t)).size) = B ((wrS n s l t).take k) := by
        rw [extract_B, B_list, List.drop_zero, Nat.sub_zero, hk]
      rw [← hk] at hmod
      rw [hex]
      obtain ⟨d, hd⟩ : ∃ d, d = (wrS n s l t).take k := ⟨_, rfl⟩
      rw [← hd]
      have L0 : d.length ≤ 200000000 := by rw [hd, List.length_take]; rw [B_size] at hwl; omega
      obtain ⟨x1, s1, e1⟩ : ∃ n s1, rdNum 0 281474976710656 (d, 0) = (n, s1) := ⟨_, _, rfl⟩
      obtain ⟨x2, s2, e2⟩ : ∃ s s2, rdText 65536 s1 = (s, s2) := ⟨_, _, rfl⟩
      obtain ⟨x3, s3, e3⟩ : ∃ l s3, rdNums 0 281474976710656 s2 = (l, s3) := ⟨_, _, rfl⟩
      obtain ⟨x4, s4, e4⟩ : ∃ t s4, rdTexts 65536 s3 = (t, s4) := ⟨_, _, rfl⟩
      have L1 : s1.1.length ≤ 200000000 := by have := rdNum_len 0 281474976710656 (d, 0); rw [e1] at this; exact Nat.le_trans this L0
      have L2 : s2.1.length ≤ 200000000 := by have := rdText_len 65536 s1; rw [e2] at this; exact Nat.le_trans this L1
      have L3 : s3.1.length ≤ 200000000 := by have := rdMany_st _ (rdNum_len 0 281474976710656) s2; rw [show rdMany (rdNum 0 281474976710656) s2 = _ from e3] at this; exact Nat.le_trans this L2
      have hs4 : s4 = ([], 13) := by
        have := reads_short HW.out hmod
        rw [← hd, e1, e2, e3, e4] at this
        exact this
      subst hs4
      have E1 := Lib.hid e1
      have E2 := Lib.hid e2
      have E3 := Lib.hid e3
      have E4 := Lib.hid e4
      clear e1 e2 e3 e4 hd hex hk hmod hwl hwp hne
      refine (newReader_any _ _).mono ?_
      rintro e w4 ⟨rfl, rfl⟩
      have hR4 : Rdr w3.heap.size (B d) 0 (w3.alloc (.cells #[.string (B d), .int .i64 0] 63)) := new_of _ _
      have hK4 : Kept (One w3.heap.size) w3 (w3.alloc (.cells #[.string (B d), .int .i64 0] 63)) := (Kept.refl _ _).alloc _
      have HR4 := Lib.hid hR4
      clear hR4
      go_wp2_with fail
      refine (number_any w3.heap.size _ _ _ _ _ HR4.out (by rw [B_size]; unfold maxLen; omega)).mono ?_
      rw [B_list, E1.out]
      rintro e w5 ⟨rfl, hR, hK⟩
      have HR5 := Lib.hid hR
      have HK5 := Lib.hid (hK4.trans hK)
      clear hR hK hK4
      go_wp2_with fail
      refine (text_any w3.heap.size _ _ _ _ HR5.out (by rw [B_size]; omega)).mono ?_
      rw [B_list, show ((x1, s1).2.1, (x1, s1).2.2) = s1 from rfl, E2.out]
      rintro e w6 ⟨rfl, hR, hK⟩
      have HR6 := Lib.hid hR
      have HK6 := Lib.hid (HK5.out.trans hK)
      clear hR hK
      go_wp2_with fail
      refine (numbers_any w3.heap.size _ _ _ _ _ HR6.out (by rw [B_size]; omega)).mono ?_
      rw [B_list, show ((x2, s2).2.1, (x2, s2).2.2) = s2 from rfl, E3.out]
      rintro e w7 ⟨v1, rfl, hown1, hR, hK⟩
      have HR7 := Lib.hid hR
      have HK7 := Lib.hid (HK6.out.trans hK)
      clear hR hK hown1
      go_wp2_with fail
      refine (texts_any w3.heap.size _ _ _ _ HR7.out (by rw [B_size]; omega)).mono ?_
      rw [B_list, show ((x3, s3).2.1, (x3, s3).2.2) = s3 from rfl, E4.out]
      rintro e w8 ⟨v2, rfl, hown2, hR, hK⟩
      have hR8 : Rdr w3.heap.size (B []) 13 w8 := hR
      have hK8 := HK7.out.trans hK
      have hb38 : Below w3.heap.size w3 w8 := hK8.below (Nat.le_refl _) (fun k hk => by show ¬ k = _; omega)
      have HB8 := Lib.hid (HB3.out.trans (hb38.mono HB3.out.size))
      have HR8 := Lib.hid hR8
      clear hR hR8 hK hK8 hown2 hb38
      go_wp2_with (first
        | (go_at_call 30; refine (err_any w3.heap.size _ _ _ HR8.out).mono ?_; rintro e w11 ⟨rfl, rfl⟩)
        | (go_at_call 31; refine (left_any w3.heap.size _ _ _ HR8.out).mono ?_; rw [show ((B []).size : Int) = 0 from rfl]; rintro e w11 ⟨rfl, rfl⟩)
        | (go_at_call 32; refine (close_any w3.heap.size _ _ _ HR8.out).mono ?_; rw [show rdClose ((B []).data.toList, 13) = 13 from rfl]; rintro e w11 ⟨rfl, rfl⟩))
      go_ret
      exact ⟨rfl, HB8.out⟩

theorem contract (H : Type) (enc : TypeId × Value → H) (W : World) (base : Nat) (args : Array Value) (ds gs : List (DataW H)) (before : List MemPlace)
    (hval : ∀ (j : Nat) t v, Tryd.f7.params[j]? = some t → args[j]? = some v → Value.okWide Tryd.prog W .any base t v)
    (hW : DataW.Whole enc Tryd.prog Tryd.f7.params.toList Rows.codecBeginningsSpec.vars false W args.toList ds gs before) (hL : laidMetH Tryd.prog Rows.codecBeginningsRow.laid W) :
    Calls Tryd.prog 7 args W fun e W' => ∃ v, e = .returned v ∧ Rows.codecBeginningsSpec.post enc Tryd.prog Tryd.f7 false true false false W args v W' := by
  have hW' := hW
  obtain ⟨p, q, hA0, hV, rfl, hfz, hnd⟩ := hW
  have hA : DataW.TrodAll enc Tryd.prog W 0 (fun _ => true) true Tryd.f7.params.toList args.toList ds p := hA0
  rw [Tryd.params7] at hA hval
  obtain ⟨v0, vs0, d0, ds0, p0, q0, hargs, rfl, rfl, h0, r0⟩ := trodAll_cons hA
  obtain ⟨v1, vs1, d1, ds1, p1, q1, rfl, rfl, rfl, h1, r1⟩ := trodAll_cons r0
  obtain ⟨rfl, rfl, rfl⟩ := trodAll_nil r1
  obtain rfl : args = #[v0, v1] := by cases args; simp_all
  obtain ⟨rfl, rfl⟩ := trodVars_none hV
  obtain ⟨n, s, l, t, vL, vT, rfl, hvals⟩ := open_values (hval 0 51 v0 rfl rfl) h0
  obtain ⟨m, rfl, rfl, rfl, wm⟩ := open_int Tryd.underlying56 (hval 1 56 v1 rfl rfl) h1
  have hm := bounds_u16 wm
  obtain ⟨m', rfl⟩ := Int.eq_ofNat_of_zero_le hm.1
  refine (walk n vL vT s l t m' W hvals (by omega) (tab_of hL)).mono fun e W' ⟨he, hb⟩ => ⟨_, he, ?_⟩
  exact law_post hW' rfl (by kernel_rfl) (by kernel_rfl) rfl hb

theorem laid_met (os : Os) : laidMet Tryd.prog Rows.codecBeginningsRow.laid ((laidWorld os).forCall (fun _ _ => 0) ⟨#[], #[.agg #[.int .i64 0, .string ⟨#[]⟩, .slice none 0 0, .slice none 0 0], .int .u16 0], []⟩).memory :=
  laidMet_of_run' 8 (by kernel_rfl) (by kernel_rfl)
theorem reads (os : Os) {H : Type} (enc : TypeId × Value → H) : ∃ places, DataW.whole enc Tryd.prog ((laidWorld os).forCall (fun _ _ => 0) ⟨#[], #[.agg #[.int .i64 0, .string ⟨#[]⟩, .slice none 0 0, .slice none 0 0], .int .u16 0], []⟩).memory Tryd.f7.params.toList Rows.codecBeginningsSpec.vars false (#[.agg #[.int .i64 0, .string ⟨#[]⟩, .slice none 0 0, .slice none 0 0], .int .u16 0] : Array Value).toList 8 = some ([.agg [.lit (.int .i64 0), .lit (.string []), .nil, .nil], .lit (.int .u16 0)], [], places) :=
  ⟨[], by kernel_rfl⟩

set_option maxRecDepth 100000 in
theorem lifted (os : Os) (started : os.Started) (H : Type) (enc : TypeId × Value → H) (F : Stop.Interp) :
    ReturnsInHanded {} Tryd.checked os 7 .any ((OpenSpec.ofChange Rows.codecBeginningsSpec).preRow enc Tryd.prog Tryd.f7 Rows.codecBeginningsRow.domain false Rows.codecBeginningsRow.laid) (((OpenSpec.ofChange Rows.codecBeginningsSpec).at F).post enc Tryd.prog Tryd.f7 false true false false) := by
  obtain ⟨places, hx⟩ := reads os enc
  refine returnsInHanded_of_row (C := Tryd.checked) (s := OpenSpec.ofChange Rows.codecBeginningsSpec) own started (by kernel_rfl) Tryd.func7
    (witness_row_at (enc := enc) (C := Tryd.checked) false (laidWorld os) #[.agg #[.int .i64 0, .string ⟨#[]⟩, .slice none 0 0, .slice none 0 0], .int .u16 0] rfl (by kernel_rfl) (by kernel_rfl) (by kernel_rfl)
      (OpenSpec.preRow_of_cond 8 hx (by kernel_rfl) (fun k hk => by cases hk) (by kernel_rfl) (laid_met os))) ?_
  intro W base args ds gs before hval hW _ _ _ hL _ _
  exact contract H enc W base args ds gs before hval hW hL

theorem said : Rows.CodecBeginningsSaid :=
  OpenClaim.holds_of_cond 7 Tryd.f7 rfl rfl rfl rfl rfl rfl rfl ⟨rfl, rfl, rfl, rfl, rfl⟩ rfl rfl rfl rfl rfl (by kernel_rfl) Tryd.func7 (by kernel_rfl)
    (of_decide_eq_true (by kernel_rfl)) (by unfold Func.isWrapper; first | (rw [if_pos (by decide +kernel)]; kernel_rfl) | (rw [if_neg (by decide +kernel)]; exact ⟨rfl, rfl⟩))
    (fun os started H enc _ F => by rw [OpenClaim.pre_eq_preRow]; exact lifted os started H enc F)

/-- No parameter wants a stand-in; the program's own looks are off. -/
theorem plain (f : FuncId) (fn : Func) (hf : Tryd.pinned.checked.prog.funcNamed "licit/licitlaw02.CodecBeginnings" = some f) (hfn : Tryd.pinned.checked.prog.funcs[f]? = some fn) :
    false = Tryd.pinned.checked.prog.looks [] ∧ ∀ (j : Nat) t, fn.params[j]? = some t → Tryd.pinned.checked.prog.wantsStandIn t = false := by
  obtain rfl : f = 7 := Option.some.inj ((show Tryd.prog.funcNamed "licit/licitlaw02.CodecBeginnings" = some 7 by kernel_rfl).symm.trans hf) |>.symm
  obtain rfl : fn = Tryd.f7 := (Option.some.inj (Tryd.func7.symm.trans hfn)).symm
  refine ⟨by kernel_rfl, fun j t ht => ?_⟩
  have hall : Tryd.f7.params.toList.all (fun t => !Tryd.prog.wantsStandIn t) = true := by kernel_rfl
  have := List.all_eq_true.1 hall t (Array.mem_toList_iff.2 (Array.mem_of_getElem? ht))
  exact (by simpa using this : Tryd.prog.wantsStandIn t = false)

theorem card : Rows.CodecBeginningsCardSaid :=
  Claim7.holds_tied_plain_at .later [] _ _ _ _ said (fun _ h => by cases h) (by kernel_rfl) (fun _ h => by cases h) codecBeginnings_row_tie rfl ⟨rfl, rfl⟩ (by kernel_rfl) rfl plain (by kernel_rfl)

end Go.Proofs.YtadbkhijieinkaaDoor.lawBeginnings
