/- The card of CodecStops is proved: for every string and every act the law returns true; the conditions are those of the given row. -/
import Derived.Test.YtadbkhijieinkaaDoorLawKit
import Derived.Test.YtadbkhijieinkaaDoorWkAwake
import Derived.Test.YtadbkhijieinkaaDoorPlainCodecLaws
import Derived.Lib.SmallJoins
namespace Go.Proofs.YtadbkhijieinkaaDoor.lawStops
open Go Go.RowKit Licit
open Go.ChangeShapes Go.WideShapes Go.ChangeAt Go.Joins
open Go.ChangeMaps (open_string)

set_option maxRecDepth 100000 in
set_option maxHeartbeats 3200000 in
theorem walk (d : Bs) (kd lo hi : Int) (w : World) (hd : d.length ≤ maxLen) (hk0 : 0 ≤ kd) (hk1 : kd ≤ 255) (ht : Tab w) :
    Calls Tryd.prog 9 #[.string (B d), .agg #[.int .u8 kd, .int .i64 lo, .int .i64 hi]] w fun e w' => e = .returned (.bool true) ∧ Below w.heap.size w w' := by
  unfold maxLen at hd
  have hss : (B d).size = d.length := rfl
  have hb0 : Below w.heap.size w (w.alloc (.cells #[.int .u8 kd, .int .i64 lo, .int .i64 hi] 40)) := (Below.refl _ _).alloc (Nat.le_refl _) _
  have hbk0 : (w.alloc (.cells #[.int .u8 kd, .int .i64 lo, .int .i64 hi] 40)).heap[w.heap.size]? = some (.cells #[.int .u8 kd, .int .i64 lo, .int .i64 hi] 40 (0, 0)) := new_of _ _
  have ht0 := ht.same hb0
  have HB0 := Lib.hid hb0
  have HK0 := Lib.hid hbk0
  clear hb0 hbk0
  by_cases hbig : 300 < d.length
  · go_enter Tryd.func9, Tryd.ntmps9
    go_wp2_with (go_at_call 10; refine (awake_any _ ht0).mono ?_; rintro e w1 ⟨rfl, hb⟩)
    go_ret
    exact ⟨rfl, HB0.out.trans (hb.mono HB0.out.size)⟩
  · go_enter Tryd.func9, Tryd.ntmps9
    go_wp2_with fail
    refine (awake_any _ ht0).mono ?_
    rintro e w3 ⟨rfl, hb⟩
    have hbk3 := (hb.block w.heap.size (lt_of HK0.out)).trans HK0.out
    have HB3 := Lib.hid (HB0.out.trans (hb.mono HB0.out.size))
    have HK3 := Lib.hid hbk3
    clear hb hbk3
    go_wp2_with fail
    refine (newReader_any _ _).mono ?_
    rintro e w4 ⟨rfl, rfl⟩
    have hR4 : Rdr w3.heap.size (B d) 0 (w3.alloc (.cells #[.string (B d), .int .i64 0] 63)) := new_of _ _
    have hK4 : Kept (One w3.heap.size) w3 (w3.alloc (.cells #[.string (B d), .int .i64 0] 63)) := (Kept.refl _ _).alloc _
    have HR4 := Lib.hid hR4
    have HK4 := Lib.hid hK4
    have hwlt : w.heap.size < w3.heap.size := lt_of HK3.out
    clear hR4 hK4
    go_wp2_with fail
    go_loopw [16] (fun i wr => ∃ (k : Nat) (st : St), k ≤ 310 ∧ i = .int .i64 k ∧ Rdr w3.heap.size (B st.1) st.2 wr ∧ Kept (One w3.heap.size) w3 wr ∧ Inv300 k st) (fun i _ => 310 - (intOf i).toNat)
    case atStart => exact ⟨0, (d, 0), by omega, rfl, HR4.out, HK4.out, fun _ => by simp only; omega, fun h => (h rfl).elim⟩
    case round =>
      obtain ⟨k, st, hk, rfl, hR, hK, hI⟩ := hrel
      have hln := inv_len hI
      have hln2 : (B st.1).size ≤ 281474976710656 := by rw [B_size]; omega
      have hln3 : (B st.1).size ≤ maxLen := by rw [B_size]; unfold maxLen; omega
      have hbkr := (hK.block w.heap.size hwlt (by show ¬ _ = _; omega)).trans HK3.out
      have x0 : wr.cell? ⟨w.heap.size, 0, none⟩ = some (.int .u8 kd) := by rw [cell_of hbkr]; rfl
      have x1 : wr.cell? ⟨w.heap.size, 1, none⟩ = some (.int .i64 lo) := by rw [cell_of hbkr]; rfl
      have x2 : wr.cell? ⟨w.heap.size, 2, none⟩ = some (.int .i64 hi) := by rw [cell_of hbkr]; rfl
      have HR := Lib.hid hR
      have HK := Lib.hid hK
      have HI := Lib.hid hI
      clear hR hK hI hbkr
      by_cases hlt : k < 310
      · go_wp2_with (first
          | (go_at_call 20; refine (number_any w3.heap.size _ _ _ _ _ HR.out hln3).mono ?_; rw [B_list]; rintro e w5 ⟨rfl, hA, hKA⟩; have HA := Lib.hid hA; have HKA := Lib.hid hKA; clear hA hKA)
          | (go_at_call 22; refine (text_any w3.heap.size _ _ _ _ HR.out hln2).mono ?_; rw [B_list]; rintro e w5 ⟨rfl, hA, hKA⟩; have HA := Lib.hid hA; have HKA := Lib.hid hKA; clear hA hKA)
          | (go_at_call 25; refine (numbers_any w3.heap.size _ _ _ _ _ HR.out hln2).mono ?_; rw [B_list]; rintro e w5 ⟨v1, rfl, hown1, hA, hKA⟩; have HA := Lib.hid hA; have HKA := Lib.hid hKA; clear hA hKA hown1)
          | (go_at_call 28; refine (texts_any w3.heap.size _ _ _ _ HR.out hln2).mono ?_; rw [B_list]; rintro e w5 ⟨v1, rfl, hown1, hA, hKA⟩; have HA := Lib.hid hA; have HKA := Lib.hid hKA; clear hA hKA hown1))
        all_goals
          go_roundw
          case rel => first
            | exact ⟨k + 1, _, by omega, by go_num, HA.out, HK.out.trans HKA.out, inv_num HI.out⟩
            | exact ⟨k + 1, _, by omega, by go_num, HA.out, HK.out.trans HKA.out, inv_text HI.out⟩
            | exact ⟨k + 1, _, by omega, by go_num, HA.out, HK.out.trans HKA.out, inv_nums HI.out⟩
            | exact ⟨k + 1, _, by omega, by go_num, HA.out, HK.out.trans HKA.out, inv_texts HI.out⟩
          case measure => simp [intOf]; omega
      · obtain rfl : k = 310 := by omega
        obtain ⟨hne, hnil⟩ := inv_end HI.out
        obtain ⟨rest, E⟩ := st
        simp only at hne hnil
        subst hnil
        have hne' : (E != 0) = true := by simpa using hne
        have HN := Lib.hid hne
        have hbf : Below w.heap.size w wr := HB3.out.trans ((HK.out.below (Nat.le_refl _) (fun q hq => by show ¬ q = _; omega)).mono HB3.out.size)
        have HBF := Lib.hid hbf
        clear hbf x0 x1 x2 hne
        have HR' : Hid (Rdr w3.heap.size (B []) E wr) := HR.out
        have a1 := Lib.hid (show rdNum 0 9 ((B []).data.toList, E) = (0, ([], E)) from num_stop HN.out)
        have a2 := Lib.hid (show rdText 9 ((B []).data.toList, E) = ([], ([], E)) from text_stop HN.out)
        have a3 := Lib.hid (show rdNums 0 9 ((B []).data.toList, E) = ([], ([], E)) from many_stop HN.out)
        have a4 := Lib.hid (show rdTexts 9 ((B []).data.toList, E) = ([], ([], E)) from many_stop HN.out)
        have a5 := Lib.hid (show rdClose ((B []).data.toList, E) = E by rw [B_list]; simp [rdClose])
        go_wp2_with fail
        refine (err_any w3.heap.size _ _ _ HR'.out).mono ?_
        rintro e w5 ⟨rfl, rfl⟩
        go_wp2_with fail
        refine (number_any w3.heap.size _ _ _ _ _ HR'.out (by decide)).mono ?_
        rw [a1.out]
        rintro e w6 ⟨rfl, hA, hKA⟩
        have HA6 : Hid (Rdr w3.heap.size (B []) E w6) := hA
        have HK6 := Lib.hid (HK.out.trans hKA)
        clear hA hKA
        go_wp2_with fail
        refine (text_any w3.heap.size _ _ _ _ HA6.out (by decide)).mono ?_
        rw [a2.out, show B ([] : Bs) = ⟨#[]⟩ from rfl]
        rintro e w7 ⟨rfl, hA, hKA⟩
        have HA7 : Hid (Rdr w3.heap.size (B []) E w7) := hA
        have HK7 := Lib.hid (HK6.out.trans hKA)
        clear hA hKA
        go_wp2_with fail
        refine (numbers_any w3.heap.size _ _ _ _ _ HA7.out (by decide)).mono ?_
        rw [a3.out]
        rintro e w8 ⟨v1, rfl, hown, hA, hKA⟩
        obtain ⟨q1, q2, hv1⟩ := (IsSl.of_owns hown (by simp)).form
        have HV1 : Hid (v1 = .slice q1 0 q2) := hv1
        have HA8 : Hid (Rdr w3.heap.size (B []) E w8) := hA
        have HK8 := Lib.hid (HK7.out.trans hKA)
        clear hA hKA hown hv1
        rw [HV1.out]
        go_wp2_with fail
        refine (texts_any w3.heap.size _ _ _ _ HA8.out (by decide)).mono ?_
        rw [a4.out]
        rintro e w9 ⟨v2, rfl, hown, hA, hKA⟩
        obtain ⟨q3, q4, hv2⟩ := (IsSl.of_owns hown (by simp)).form
        have HV2 : Hid (v2 = .slice q3 0 q4) := hv2
        have HA9 : Hid (Rdr w3.heap.size (B []) E w9) := hA
        have HK9 := Lib.hid (HK8.out.trans hKA)
        clear hA hKA hown hv2
        rw [HV2.out]
        go_wp2_with (first
          | (go_at_call 30; refine (err_any w3.heap.size _ _ _ HA9.out).mono ?_; rintro e w11 ⟨rfl, rfl⟩)
          | (go_at_call 31; refine (left_any w3.heap.size _ _ _ HA9.out).mono ?_; rw [show ((B []).size : Int) = 0 from rfl]; rintro e w11 ⟨rfl, rfl⟩)
          | (go_at_call 32; refine (close_any w3.heap.size _ _ _ HA9.out).mono ?_; rw [a5.out]; rintro e w11 ⟨rfl, rfl⟩))
        go_ret
        exact ⟨rfl, HB3.out.trans ((HK9.out.below (Nat.le_refl _) (fun q hq => by show ¬ q = _; omega)).mono HB3.out.size)⟩

theorem contract (H : Type) (enc : TypeId × Value → H) (W : World) (base : Nat) (args : Array Value) (ds gs : List (DataW H)) (before : List MemPlace)
    (hval : ∀ (j : Nat) t v, Tryd.f9.params[j]? = some t → args[j]? = some v → Value.okWide Tryd.prog W .any base t v)
    (hW : DataW.Whole enc Tryd.prog Tryd.f9.params.toList Rows.codecStopsSpec.vars false W args.toList ds gs before) (hL : laidMetH Tryd.prog Rows.codecStopsRow.laid W) :
    Calls Tryd.prog 9 args W fun e W' => ∃ v, e = .returned v ∧ Rows.codecStopsSpec.post enc Tryd.prog Tryd.f9 false true false false W args v W' := by
  have hW' := hW
  obtain ⟨p, q, hA0, hV, rfl, hfz, hnd⟩ := hW
  have hA : DataW.TrodAll enc Tryd.prog W 0 (fun _ => true) true Tryd.f9.params.toList args.toList ds p := hA0
  rw [Tryd.params9] at hA hval
  obtain ⟨v0, vs0, d0, ds0, p0, q0, hargs, rfl, rfl, h0, r0⟩ := trodAll_cons hA
  obtain ⟨v1, vs1, d1, ds1, p1, q1, rfl, rfl, rfl, h1, r1⟩ := trodAll_cons r0
  obtain ⟨rfl, rfl, rfl⟩ := trodAll_nil r1
  obtain rfl : args = #[v0, v1] := by cases args; simp_all
  obtain ⟨rfl, rfl⟩ := trodVars_none hV
  obtain ⟨d, rfl, rfl, rfl, htl⟩ := open_string Tryd.underlying9 (hval 0 9 v0 rfl rfl) h0
  obtain ⟨u0, u1, u2, y0, y1, y2, m, rfl, _, _, g0, g1, g2⟩ := Go.Joins.open_agg3 Tryd.underlying40 (by kernel_rfl) (by kernel_rfl) (hval 1 40 v1 rfl rfl) h1
  have e0 : ∃ z, u0 = .int .u8 z ∧ 0 ≤ z ∧ z ≤ 255 := by
    obtain ⟨z, a, _, b⟩ := DataW.trod_int Tryd.underlying5 g0
    exact ⟨z, (List.cons.inj a).1, bounds_u8 b⟩
  have e1 : ∃ z, u1 = .int .i64 z := by
    obtain ⟨z, a, _⟩ := DataW.trod_int Tryd.underlying3 g1
    exact ⟨z, (List.cons.inj a).1⟩
  have e2 : ∃ z, u2 = .int .i64 z := by
    obtain ⟨z, a, _⟩ := DataW.trod_int Tryd.underlying3 g2
    exact ⟨z, (List.cons.inj a).1⟩
  obtain ⟨z0, rfl, b0, b1⟩ := e0
  obtain ⟨z1, rfl⟩ := e1
  obtain ⟨z2, rfl⟩ := e2
  rw [← B_eta d] at htl ⊢
  refine (walk d.data.toList z0 z1 z2 W htl b0 b1 (tab_of hL)).mono fun e W' ⟨he, hb⟩ => ⟨_, he, ?_⟩
  exact law_post hW' rfl (by kernel_rfl) (by kernel_rfl) rfl hb

theorem laid_met (os : Os) : laidMet Tryd.prog Rows.codecStopsRow.laid ((laidWorld os).forCall (fun _ _ => 0) ⟨#[], #[.string ⟨#[]⟩, .agg #[.int .u8 0, .int .i64 0, .int .i64 0]], []⟩).memory :=
  laidMet_of_run' 8 (by kernel_rfl) (by kernel_rfl)
theorem reads (os : Os) {H : Type} (enc : TypeId × Value → H) : ∃ places, DataW.whole enc Tryd.prog ((laidWorld os).forCall (fun _ _ => 0) ⟨#[], #[.string ⟨#[]⟩, .agg #[.int .u8 0, .int .i64 0, .int .i64 0]], []⟩).memory Tryd.f9.params.toList Rows.codecStopsSpec.vars false (#[.string ⟨#[]⟩, .agg #[.int .u8 0, .int .i64 0, .int .i64 0]] : Array Value).toList 8 = some ([.lit (.string []), .agg [.lit (.int .u8 0), .lit (.int .i64 0), .lit (.int .i64 0)]], [], places) :=
  ⟨[], by kernel_rfl⟩

set_option maxRecDepth 100000 in
theorem lifted (os : Os) (started : os.Started) (H : Type) (enc : TypeId × Value → H) (F : Stop.Interp) :
    ReturnsInHanded {} Tryd.checked os 9 .any ((OpenSpec.ofChange Rows.codecStopsSpec).preRow enc Tryd.prog Tryd.f9 Rows.codecStopsRow.domain false Rows.codecStopsRow.laid) (((OpenSpec.ofChange Rows.codecStopsSpec).at F).post enc Tryd.prog Tryd.f9 false true false false) := by
  obtain ⟨places, hx⟩ := reads os enc
  refine returnsInHanded_of_row (C := Tryd.checked) (s := OpenSpec.ofChange Rows.codecStopsSpec) own started (by kernel_rfl) Tryd.func9
    (witness_row_at (enc := enc) (C := Tryd.checked) false (laidWorld os) #[.string ⟨#[]⟩, .agg #[.int .u8 0, .int .i64 0, .int .i64 0]] rfl (by kernel_rfl) (by kernel_rfl) (by kernel_rfl)
      (OpenSpec.preRow_of_cond 8 hx (by kernel_rfl) (fun k hk => by cases hk) (by kernel_rfl) (laid_met os))) ?_
  intro W base args ds gs before hval hW _ _ _ hL _ _
  exact contract H enc W base args ds gs before hval hW hL

theorem said : Rows.CodecStopsSaid :=
  OpenClaim.holds_of_cond 9 Tryd.f9 rfl rfl rfl rfl rfl rfl rfl ⟨rfl, rfl, rfl, rfl, rfl⟩ rfl rfl rfl rfl rfl (by kernel_rfl) Tryd.func9 (by kernel_rfl)
    (of_decide_eq_true (by kernel_rfl)) (by unfold Func.isWrapper; first | (rw [if_pos (by decide +kernel)]; kernel_rfl) | (rw [if_neg (by decide +kernel)]; exact ⟨rfl, rfl⟩))
    (fun os started H enc _ F => by rw [OpenClaim.pre_eq_preRow]; exact lifted os started H enc F)

/-- No parameter wants a stand-in; the program's own looks are off. -/
theorem plain (f : FuncId) (fn : Func) (hf : Tryd.pinned.checked.prog.funcNamed "licit/licitlaw02.CodecStops" = some f) (hfn : Tryd.pinned.checked.prog.funcs[f]? = some fn) :
    false = Tryd.pinned.checked.prog.looks [] ∧ ∀ (j : Nat) t, fn.params[j]? = some t → Tryd.pinned.checked.prog.wantsStandIn t = false := by
  obtain rfl : f = 9 := Option.some.inj ((show Tryd.prog.funcNamed "licit/licitlaw02.CodecStops" = some 9 by kernel_rfl).symm.trans hf) |>.symm
  obtain rfl : fn = Tryd.f9 := (Option.some.inj (Tryd.func9.symm.trans hfn)).symm
  refine ⟨by kernel_rfl, fun j t ht => ?_⟩
  have hall : Tryd.f9.params.toList.all (fun t => !Tryd.prog.wantsStandIn t) = true := by kernel_rfl
  have := List.all_eq_true.1 hall t (Array.mem_toList_iff.2 (Array.mem_of_getElem? ht))
  exact (by simpa using this : Tryd.prog.wantsStandIn t = false)

theorem card : Rows.CodecStopsCardSaid :=
  Claim7.holds_tied_plain_at .later [] _ _ _ _ said (fun _ h => by cases h) (by kernel_rfl) (fun _ h => by cases h) codecStops_row_tie rfl ⟨rfl, rfl⟩ (by kernel_rfl) rfl plain (by kernel_rfl)

end Go.Proofs.YtadbkhijieinkaaDoor.lawStops
