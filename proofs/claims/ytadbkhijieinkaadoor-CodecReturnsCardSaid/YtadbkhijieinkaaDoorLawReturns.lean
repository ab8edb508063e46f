/- The card of CodecReturns is proved: for all values and every tail the law returns true; the conditions are those of the given row. -/
import Derived.Test.YtadbkhijieinkaaDoorLawKit
import Derived.Test.YtadbkhijieinkaaDoorWkAwake
import Derived.Test.YtadbkhijieinkaaDoorWkValues
import Derived.Lib.SmallJoins
namespace Go.Proofs.YtadbkhijieinkaaDoor.lawReturns
open Go Go.RowKit Licit
open Go.ChangeShapes Go.WideShapes Go.ChangeAt Go.Joins
open Go.ChangeMaps (open_string)

set_option maxRecDepth 100000 in
set_option maxHeartbeats 3200000 in
theorem walk (n : Int) (vL vT : Value) (s : Bs) (l : List Int) (t : List Bs) (tail : Bs) (w : World) (h : Vals vL vT s l t w) (htl : tail.length ≤ maxLen) (ht : Tab w) :
    Calls Tryd.prog 6 #[.agg #[.int .i64 n, .string (B s), vL, vT], .string (B tail)] w fun e w' => e = .returned (.bool true) ∧ Below w.heap.size w w' := by
  obtain ⟨aL, cL, rfl⟩ := h.sl.formMap
  obtain ⟨aT, cT, rfl⟩ := h.st.formMap
  unfold maxLen at htl
  have hss : (B tail).size = tail.length := rfl
  have hb0 : Below w.heap.size w (w.alloc (.cells #[.int .i64 n, .string (B s), .slice aL l.length cL, .slice aT t.length cT] 51)) := (Below.refl _ _).alloc (Nat.le_refl _) _
  have hbk0 : (w.alloc (.cells #[.int .i64 n, .string (B s), .slice aL l.length cL, .slice aT t.length cT] 51)).heap[w.heap.size]? = some (.cells #[.int .i64 n, .string (B s), .slice aL l.length cL, .slice aT t.length cT] 51 (0, 0)) := new_of _ _
  have ht0 := ht.same hb0
  have H0 := Lib.hid (h.below hb0)
  have HB0 := Lib.hid hb0
  have HK0 := Lib.hid hbk0
  clear h hb0 hbk0
  go_enter Tryd.func6, Tryd.ntmps6
  go_wp2_with fail
  refine (awake_any _ ht0).mono ?_
  rintro e w1 ⟨rfl, hb⟩
  have hbk1 := (hb.block w.heap.size (by simp)).trans HK0.out
  have HB1 := Lib.hid (HB0.out.trans (hb.mono HB0.out.size))
  have H1 := Lib.hid (H0.out.below hb)
  have ht1 := ht0.same hb
  have c10 : w1.cell? ⟨w.heap.size, 0, none⟩ = some (.int .i64 n) := by rw [cell_of hbk1]; rfl
  have c11 : w1.cell? ⟨w.heap.size, 1, none⟩ = some (.string (B s)) := by rw [cell_of hbk1]; rfl
  have c12 : w1.cell? ⟨w.heap.size, 2, none⟩ = some (.slice aL l.length cL) := by rw [cell_of hbk1]; rfl
  have c13 : w1.cell? ⟨w.heap.size, 3, none⟩ = some (.slice aT t.length cT) := by rw [cell_of hbk1]; rfl
  have HK1 := Lib.hid hbk1
  clear hb hbk1
  go_wp2_with fail
  refine (few_any n _ _ s l t _ H1.out).mono ?_
  cases hf : fewB s l t
  · rintro e w2 ⟨rfl, hb⟩
    have HB2 := Lib.hid (HB1.out.trans (hb.mono HB1.out.size))
    clear hb c10 c11 c12 c13 hf
    go_wp2_with fail
    go_ret
    exact ⟨rfl, HB2.out⟩
  · rintro e w2 ⟨rfl, hb⟩
    have hbk2 := (hb.block w.heap.size (lt_of HK1.out)).trans HK1.out
    have HB2 := Lib.hid (HB1.out.trans (hb.mono HB1.out.size))
    have H2 := Lib.hid (H1.out.below hb)
    have ht2 := ht1.same hb
    have c20 : w2.cell? ⟨w.heap.size, 0, none⟩ = some (.int .i64 n) := by rw [cell_of hbk2]; rfl
    have c21 : w2.cell? ⟨w.heap.size, 1, none⟩ = some (.string (B s)) := by rw [cell_of hbk2]; rfl
    have c22 : w2.cell? ⟨w.heap.size, 2, none⟩ = some (.slice aL l.length cL) := by rw [cell_of hbk2]; rfl
    have c23 : w2.cell? ⟨w.heap.size, 3, none⟩ = some (.slice aT t.length cT) := by rw [cell_of hbk2]; rfl
    have HK2 := Lib.hid hbk2
    clear hb hbk2 c10 c11 c12 c13 hf
    by_cases hbig : 100 < tail.length
    · clear c20 c21 c22 c23
      go_wp2_with fail
      go_ret
      exact ⟨rfl, HB2.out⟩
    · go_wp2_with fail
      refine (write_any n _ _ s l t _ H2.out ht2).mono ?_
      cases hw : wrB n s l t
      · rintro e w3 ⟨rfl, hb⟩
        have HB3 := Lib.hid (HB2.out.trans (hb.mono HB2.out.size))
        clear hb c20 c21 c22 c23 hw
        go_wp2_with fail
        go_ret
        exact ⟨rfl, HB3.out⟩
      · rintro e w3 ⟨rfl, hb⟩
        have hbk3 := (hb.block w.heap.size (lt_of HK2.out)).trans HK2.out
        have HB3 := Lib.hid (HB2.out.trans (hb.mono HB2.out.size))
        have H3 := Lib.hid (H2.out.below hb)
        have HK3 := Lib.hid hbk3
        have hwl : (B (wrS n s l t)).size ≤ 200000000 := wrS_len n s l t
        clear hb hbk3 c20 c21 c22 c23
        obtain ⟨d1, d2, d3, e1, e2, e3, e4⟩ := reads_back hw tail
        have E1 := Lib.hid e1
        have E2 := Lib.hid e2
        have E3 := Lib.hid e3
        have E4 := Lib.hid e4
        have L0 : (wrS n s l t ++ tail).length ≤ 200000100 := by rw [List.length_append]; rw [B_size] at hwl; omega
        have L1 : d1.length ≤ 200000100 := by have := rdNum_len 0 281474976710656 (wrS n s l t ++ tail, 0); rw [e1] at this; exact Nat.le_trans this L0
        have L2 : d2.length ≤ 200000100 := by have := rdText_len 65536 (d1, 0); rw [e2] at this; exact Nat.le_trans this L1
        have L3 : d3.length ≤ 200000100 := by have := rdMany_st _ (rdNum_len 0 281474976710656) (d2, 0); rw [show rdMany (rdNum 0 281474976710656) (d2, 0) = _ from e3] at this; exact Nat.le_trans this L2
        clear e1 e2 e3 e4 hw
        go_wp2_with fail
        refine (newReader_any _ _).mono ?_
        rintro e w4 ⟨rfl, rfl⟩
        rw [B_append]
        have hR4 : Rdr w3.heap.size (B (wrS n s l t ++ tail)) 0 (w3.alloc (.cells #[.string (B (wrS n s l t ++ tail)), .int .i64 0] 63)) := new_of _ _
        have hK4 : Kept (One w3.heap.size) w3 (w3.alloc (.cells #[.string (B (wrS n s l t ++ tail)), .int .i64 0] 63)) := (Kept.refl _ _).alloc _
        have HR4 := Lib.hid hR4
        clear hR4
        go_wp2_with fail
        refine (number_any w3.heap.size _ _ _ _ _ HR4.out (by rw [B_size]; unfold maxLen; omega)).mono ?_
        rw [B_list, E1.out]
        rintro e w5 ⟨rfl, hR, hK⟩
        have HR5 := Lib.hid hR
        have HK5 := Lib.hid (hK4.trans hK)
        clear hR hK hK4
        go_wp2_with fail
        refine (text_any w3.heap.size _ _ _ _ HR5.out (by rw [B_size]; omega)).mono ?_
        rw [B_list, E2.out]
        rintro e w6 ⟨rfl, hR, hK⟩
        have HR6 := Lib.hid hR
        have HK6 := Lib.hid (HK5.out.trans hK)
        clear hR hK
        go_wp2_with fail
        refine (numbers_any w3.heap.size _ _ _ _ _ HR6.out (by rw [B_size]; omega)).mono ?_
        rw [B_list, E3.out]
        rintro e w7 ⟨v1, rfl, hown1, hR, hK⟩
        have HR7 := Lib.hid hR
        have HK7 := Lib.hid (HK6.out.trans hK)
        have hsz6 : w3.heap.size < w6.heap.size := HR6.out.lt
        have HO1 := Lib.hid hown1
        clear hR hK hown1
        go_wp2_with fail
        refine (texts_any w3.heap.size _ _ _ _ HR7.out (by rw [B_size]; omega)).mono ?_
        rw [B_list, E4.out]
        rintro e w8 ⟨v2, rfl, hown2, hR, hK⟩
        have hR8 : Rdr w3.heap.size (B tail) 0 w8 := hR
        have HR8 := Lib.hid hR8
        have hK8 := HK7.out.trans hK
        have hown1' := ownsRow_kept HO1.out hK (fun k hk => by show ¬ k = _; omega)
        have HS1 := Lib.hid (IsSl.of_owns hown1' (by rw [List.length_map]; have := H3.out.sl.1; rwa [List.length_map] at this))
        have HS2 := Lib.hid (IsSl.of_owns hown2 (by rw [List.length_map]; have := H3.out.st.1; rwa [List.length_map] at this))
        have hbk8 := (hK8.block w.heap.size (lt_of HK3.out) (by show ¬ _ = _; have := lt_of HK3.out; omega)).trans HK3.out
        have c80 : w8.cell? ⟨w.heap.size, 0, none⟩ = some (.int .i64 n) := by rw [cell_of hbk8]; rfl
        have c81 : w8.cell? ⟨w.heap.size, 1, none⟩ = some (.string (B s)) := by rw [cell_of hbk8]; rfl
        have c82 : w8.cell? ⟨w.heap.size, 2, none⟩ = some (.slice aL l.length cL) := by rw [cell_of hbk8]; rfl
        have c83 : w8.cell? ⟨w.heap.size, 3, none⟩ = some (.slice aT t.length cT) := by rw [cell_of hbk8]; rfl
        have hb38 : Below w3.heap.size w3 w8 := hK8.below (Nat.le_refl _) (fun k hk => by show ¬ k = _; omega)
        have H8 := Lib.hid (H3.out.below hb38)
        have HB8 := Lib.hid (HB3.out.trans (hb38.mono HB3.out.size))
        have HK8 := Lib.hid hbk8
        clear hR hR8 hK hK8 hown1' hown2 hbk8 hb38
        go_wp2_with fail
        refine (sameI_any v1 _ l l _ HS1.out H8.out.sl).mono ?_
        rw [decide_eq_true rfl]
        rintro e w9 ⟨rfl, hb⟩
        have hbk9 := (hb.block w.heap.size (lt_of HK8.out)).trans HK8.out
        have c93 : w9.cell? ⟨w.heap.size, 3, none⟩ = some (.slice aT t.length cT) := by rw [cell_of hbk9]; rfl
        have HS29 := Lib.hid (HS2.out.below hb)
        have H9 := Lib.hid (H8.out.below hb)
        have HR9 := Lib.hid (HR8.out.below hb)
        have HB9 := Lib.hid (HB8.out.trans (hb.mono HB8.out.size))
        clear hb hbk9 c80 c81 c82 c83
        go_wp2_with fail
        refine (sameS_any v2 _ t t _ HS29.out H9.out.st).mono ?_
        rw [decide_eq_true rfl]
        rintro e w10 ⟨rfl, hb⟩
        have HR10 := Lib.hid (HR9.out.below hb)
        have HB10 := Lib.hid (HB9.out.trans (hb.mono HB9.out.size))
        clear hb c93
        by_cases htail : tail = []
        · have hq : (B tail).toList.isEmpty = true := by rw [ByteArray.toList_eq, B_list, htail]; rfl
          have HC := Lib.hid (show rdClose ((B tail).data.toList, 0) = 0 by rw [B_list, htail]; rfl)
          clear htail
          go_wp2_with (first
            | (go_at_call 30; refine (err_any w3.heap.size _ _ _ HR10.out).mono ?_; rintro e w11 ⟨rfl, rfl⟩)
            | (go_at_call 31; refine (left_any w3.heap.size _ _ _ HR10.out).mono ?_; rintro e w11 ⟨rfl, rfl⟩)
            | (go_at_call 32; refine (close_any w3.heap.size _ _ _ HR10.out).mono ?_; rw [HC.out]; rintro e w11 ⟨rfl, rfl⟩))
          go_ret
          exact ⟨rfl, HB10.out⟩
        · have hq : (B tail).toList.isEmpty = false := by rw [ByteArray.toList_eq, B_list]; simpa using htail
          have HC := Lib.hid (show rdClose ((B tail).data.toList, 0) = 17 by rw [B_list]; simp [rdClose, htail])
          clear htail
          go_wp2_with (first
            | (go_at_call 30; refine (err_any w3.heap.size _ _ _ HR10.out).mono ?_; rintro e w11 ⟨rfl, rfl⟩)
            | (go_at_call 31; refine (left_any w3.heap.size _ _ _ HR10.out).mono ?_; rintro e w11 ⟨rfl, rfl⟩)
            | (go_at_call 32; refine (close_any w3.heap.size _ _ _ HR10.out).mono ?_; rw [HC.out]; rintro e w11 ⟨rfl, rfl⟩))
          go_ret
          exact ⟨rfl, HB10.out⟩

theorem contract (H : Type) (enc : TypeId × Value → H) (W : World) (base : Nat) (args : Array Value) (ds gs : List (DataW H)) (before : List MemPlace)
    (hval : ∀ (j : Nat) t v, Tryd.f6.params[j]? = some t → args[j]? = some v → Value.okWide Tryd.prog W .any base t v)
    (hW : DataW.Whole enc Tryd.prog Tryd.f6.params.toList Rows.codecReturnsSpec.vars false W args.toList ds gs before) (hL : laidMetH Tryd.prog Rows.codecReturnsRow.laid W) :
    Calls Tryd.prog 6 args W fun e W' => ∃ v, e = .returned v ∧ Rows.codecReturnsSpec.post enc Tryd.prog Tryd.f6 false true false false W args v W' := by
  have hW' := hW
  obtain ⟨p, q, hA0, hV, rfl, hfz, hnd⟩ := hW
  have hA : DataW.TrodAll enc Tryd.prog W 0 (fun _ => true) true Tryd.f6.params.toList args.toList ds p := hA0
  rw [Tryd.params6] at hA hval
  obtain ⟨v0, vs0, d0, ds0, p0, q0, hargs, rfl, rfl, h0, r0⟩ := trodAll_cons hA
  obtain ⟨v1, vs1, d1, ds1, p1, q1, rfl, rfl, rfl, h1, r1⟩ := trodAll_cons r0
  obtain ⟨rfl, rfl, rfl⟩ := trodAll_nil r1
  obtain rfl : args = #[v0, v1] := by cases args; simp_all
  obtain ⟨rfl, rfl⟩ := trodVars_none hV
  obtain ⟨n, s, l, t, vL, vT, rfl, hvals⟩ := open_values (hval 0 51 v0 rfl rfl) h0
  obtain ⟨tail, rfl, rfl, rfl, htl⟩ := open_string Tryd.underlying9 (hval 1 9 v1 rfl rfl) h1
  rw [← B_eta tail] at htl ⊢
  refine (walk n vL vT s l t tail.data.toList W hvals htl (tab_of hL)).mono fun e W' ⟨he, hb⟩ => ⟨_, he, ?_⟩
  exact law_post hW' rfl (by kernel_rfl) (by kernel_rfl) rfl hb

theorem laid_met (os : Os) : laidMet Tryd.prog Rows.codecReturnsRow.laid ((laidWorld os).forCall (fun _ _ => 0) ⟨#[], #[.agg #[.int .i64 0, .string ⟨#[]⟩, .slice none 0 0, .slice none 0 0], .string ⟨#[]⟩], []⟩).memory :=
  laidMet_of_run' 8 (by kernel_rfl) (by kernel_rfl)
theorem reads (os : Os) {H : Type} (enc : TypeId × Value → H) : ∃ places, DataW.whole enc Tryd.prog ((laidWorld os).forCall (fun _ _ => 0) ⟨#[], #[.agg #[.int .i64 0, .string ⟨#[]⟩, .slice none 0 0, .slice none 0 0], .string ⟨#[]⟩], []⟩).memory Tryd.f6.params.toList Rows.codecReturnsSpec.vars false (#[.agg #[.int .i64 0, .string ⟨#[]⟩, .slice none 0 0, .slice none 0 0], .string ⟨#[]⟩] : Array Value).toList 8 = some ([.agg [.lit (.int .i64 0), .lit (.string []), .nil, .nil], .lit (.string [])], [], places) :=
  ⟨[], by kernel_rfl⟩

set_option maxRecDepth 100000 in
theorem lifted (os : Os) (started : os.Started) (H : Type) (enc : TypeId × Value → H) (F : Stop.Interp) :
    ReturnsInHanded {} Tryd.checked os 6 .any ((OpenSpec.ofChange Rows.codecReturnsSpec).preRow enc Tryd.prog Tryd.f6 Rows.codecReturnsRow.domain false Rows.codecReturnsRow.laid) (((OpenSpec.ofChange Rows.codecReturnsSpec).at F).post enc Tryd.prog Tryd.f6 false true false false) := by
  obtain ⟨places, hx⟩ := reads os enc
  refine returnsInHanded_of_row (C := Tryd.checked) (s := OpenSpec.ofChange Rows.codecReturnsSpec) own started (by kernel_rfl) Tryd.func6
    (witness_row_at (enc := enc) (C := Tryd.checked) false (laidWorld os) #[.agg #[.int .i64 0, .string ⟨#[]⟩, .slice none 0 0, .slice none 0 0], .string ⟨#[]⟩] rfl (by kernel_rfl) (by kernel_rfl) (by kernel_rfl)
      (OpenSpec.preRow_of_cond 8 hx (by kernel_rfl) (fun k hk => by cases hk) (by kernel_rfl) (laid_met os))) ?_
  intro W base args ds gs before hval hW _ _ _ hL _ _
  exact contract H enc W base args ds gs before hval hW hL

theorem said : Rows.CodecReturnsSaid :=
  OpenClaim.holds_of_cond 6 Tryd.f6 rfl rfl rfl rfl rfl rfl rfl ⟨rfl, rfl, rfl, rfl, rfl⟩ rfl rfl rfl rfl rfl (by kernel_rfl) Tryd.func6 (by kernel_rfl)
    (of_decide_eq_true (by kernel_rfl)) (by unfold Func.isWrapper; first | (rw [if_pos (by decide +kernel)]; kernel_rfl) | (rw [if_neg (by decide +kernel)]; exact ⟨rfl, rfl⟩))
    (fun os started H enc _ F => by rw [OpenClaim.pre_eq_preRow]; exact lifted os started H enc F)

/-- No parameter wants a stand-in; the program's own looks are off. -/
theorem plain (f : FuncId) (fn : Func) (hf : Tryd.pinned.checked.prog.funcNamed "licit/licitlaw02.CodecReturns" = some f) (hfn : Tryd.pinned.checked.prog.funcs[f]? = some fn) :
    false = Tryd.pinned.checked.prog.looks [] ∧ ∀ (j : Nat) t, fn.params[j]? = some t → Tryd.pinned.checked.prog.wantsStandIn t = false := by
  obtain rfl : f = 6 := Option.some.inj ((show Tryd.prog.funcNamed "licit/licitlaw02.CodecReturns" = some 6 by kernel_rfl).symm.trans hf) |>.symm
  obtain rfl : fn = Tryd.f6 := (Option.some.inj (Tryd.func6.symm.trans hfn)).symm
  refine ⟨by kernel_rfl, fun j t ht => ?_⟩
  have hall : Tryd.f6.params.toList.all (fun t => !Tryd.prog.wantsStandIn t) = true := by kernel_rfl
  have := List.all_eq_true.1 hall t (Array.mem_toList_iff.2 (Array.mem_of_getElem? ht))
  exact (by simpa using this : Tryd.prog.wantsStandIn t = false)

theorem card : Rows.CodecReturnsCardSaid :=
  Claim7.holds_tied_plain_at .later [] _ _ _ _ said (fun _ h => by cases h) (by kernel_rfl) (fun _ h => by cases h) codecReturns_row_tie rfl ⟨rfl, rfl⟩ (by kernel_rfl) rfl plain (by kernel_rfl)

end Go.Proofs.YtadbkhijieinkaaDoor.lawReturns
