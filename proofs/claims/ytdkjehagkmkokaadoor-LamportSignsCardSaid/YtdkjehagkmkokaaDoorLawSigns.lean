/- The card of LamportSigns is proved: for every job the law returns true; the conditions are those of the given row. -/
import Derived.Test.YtdkjehagkmkokaaDoorLawKit48
import Derived.Test.YtdkjehagkmkokaaDoorWkAwake48
import Derived.Test.YtdkjehagkmkokaaDoorWkSignAll
namespace Go.Proofs.YtdkjehagkmkokaaDoor.lawSigns
open Go Go.RowKit Licit
open Go.ChangeShapes Go.WideShapes Go.ChangeAt

theorem job_cells {w : World} {r : Nat} {x0 x1 x2 x3 x4 x5 x6 : Value} {T : TypeId} (h : w.heap[r]? = some (.cells #[x0, x1, x2, x3, x4, x5, x6] T)) :
    w.cell? ⟨r, 0, none⟩ = some x0 ∧ w.cell? ⟨r, 1, none⟩ = some x1 ∧ w.cell? ⟨r, 2, none⟩ = some x2 ∧ w.cell? ⟨r, 3, none⟩ = some x3 ∧ w.cell? ⟨r, 4, none⟩ = some x4 := ⟨cell_of h 0, cell_of h 1, cell_of h 2, cell_of h 3, cell_of h 4⟩

set_option maxHeartbeats 2000000 in
set_option maxRecDepth 100000 in
theorem walk (seed m : Bs) (b h i : Int) (how at_ : Nat) (w : World) (hs : seed.length ≤ maxLen) (ht : Tab w) :
    Calls Tryd.prog 7 #[jobV seed m b h i how at_] w fun e w' => e = .returned (.bool true) ∧ Below w.heap.size w w' := by
  have HL := Lib.hid (fun W => Light_any seed b h W)
  have HA := Lib.hid (fun W (hT : Tab W) => awake_any48 W hT)
  obtain ⟨l, hl⟩ : ∃ l, lightB seed b h = l := ⟨_, rfl⟩
  rw [hl] at HL
  have hmz : ((B m).size : Int) = (m.length : Int) := rfl
  clear hl
  go_enter Tryd.func7, Tryd.ntmps7
  go_wp2_with fail
  refine (HA.out _ (ht.same ((Below.refl _ _).alloc (Nat.le_refl _) _))).mono ?_
  rintro e w1 ⟨rfl, hb⟩
  have hk1 : w1.heap[w.heap.size]? = some (.cells #[.string (B seed), .string (B m), .int .i64 b, .int .i64 h, .int .i64 i, .int .u8 (how : Int), .int .u8 (at_ : Int)] 31) := (hb.block _ (by simp)).trans (new_of _ _)
  have hb1 := ((Below.refl w.heap.size w).alloc (Nat.le_refl _) _).next hb
  have Hk1 := Lib.hid hk1
  have ht1 := ht.same hb1
  have Hb1 := Lib.hid hb1
  obtain ⟨k0, k1, k2, k3, k4⟩ := job_cells hk1
  clear hb hb1 hk1
  go_wp2_with fail
  refine (HL.out _).mono ?_
  rintro e w2 ⟨rfl, hb⟩
  have hk2 := (hb.block _ (lt_of Hk1.out)).trans Hk1.out
  have Hk2 := Lib.hid hk2
  have hb2 := Hb1.out.next hb
  have ht2 := ht.same hb2
  have Hb2 := Lib.hid hb2
  clear k0 k1 k2 k3 k4
  obtain ⟨k0, k1, k2, k3, k4⟩ := job_cells hk2
  clear hb hb2 hk2
  cases l with
  | false =>
    go_wp2_with fail
    refine (HA.out _ ht2).mono ?_
    rintro e w3 ⟨rfl, hb⟩
    have Hb3 := Lib.hid (Hb2.out.next hb)
    clear hb
    go_wp2
    go_ret
    exact ⟨rfl, Hb3.out⟩
  | true =>
    by_cases hm : 200 < m.length
    · have d1 : decide (200 < (m.length : Int)) = true := by simp; omega
      go_wp2_with fail
      refine (HA.out _ ht2).mono ?_
      rintro e w3 ⟨rfl, hb⟩
      have Hb3 := Lib.hid (Hb2.out.next hb)
      clear hb
      go_wp2
      go_ret
      exact ⟨rfl, Hb3.out⟩
    · have d1 : decide (200 < (m.length : Int)) = false := by simp; omega
      have HSg := Lib.hid (fun W hT => sign_both seed m b h i W hs (by omega) hT)
      have HSr := Lib.hid (fun W => rsign_both seed m b h i W hs (by omega))
      obtain ⟨ER, hER⟩ : ∃ x, signE b h i = x := ⟨_, rfl⟩
      obtain ⟨I, hI⟩ : ∃ x, sigI b h i = x := ⟨_, rfl⟩
      obtain ⟨S, hS⟩ : ∃ x, sigS seed m b h i = x := ⟨_, rfl⟩
      obtain ⟨HH, hH⟩ : ∃ x, sigH seed m b h i = x := ⟨_, rfl⟩
      obtain ⟨R, hR⟩ : ∃ x, sigR seed b h i = x := ⟨_, rfl⟩
      rw [hER, hI, hS, hH, hR] at HSg HSr
      clear hER hI hS hH hR
      go_wp2_with fail
      refine (HSg.out _ ht2).mono ?_
      rintro e w3 ⟨v, rfl, hv, hb⟩
      have hk3 := (hb.block _ (lt_of Hk2.out)).trans Hk2.out
      have Hk3 := Lib.hid hk3
      have Hb3 := Lib.hid (Hb2.out.next hb)
      have hwz : w.heap.size < w3.heap.size := lt_of hk3
      clear k0 k1 k2 k3 k4
      obtain ⟨k0, k1, k2, k3, k4⟩ := job_cells hk3
      have HV := Lib.hid hv
      obtain ⟨vs, vh, vr, rfl, o1, o2, o3⟩ := hv
      obtain ⟨sa, sc, rfl⟩ := o1.formMap
      obtain ⟨ha, hc, rfl⟩ := o2.formMap
      obtain ⟨ra, rc, rfl⟩ := o3.formMap
      clear hb hk3 o1 o2 o3
      go_wp2_with fail
      refine (HSr.out _).mono ?_
      rintro e w4 ⟨u, rfl, hu, hb⟩
      have hb4 : Below w3.heap.size w3 w4 := ((Below.refl _ _).alloc (Nat.le_refl _) _).trans (hb.mono (by simp))
      have ha4 : w4.heap[w3.heap.size]? = some (.cells #[.int .i64 I, .slice sa S.length sc, .slice ha HH.length hc, .slice ra R.length rc] 34) := (hb.block _ (by simp)).trans (new_of _ _)
      have Hb4 := Lib.hid (Hb3.out.next hb4)
      have HV4 := Lib.hid (HV.out.below hb4)
      have HU := Lib.hid hu
      obtain ⟨a0, a1, a2, a3⟩ := sigC ha4
      have hwz3 : w3.heap.size < w4.heap.size := lt_of ha4
      obtain ⟨us, uh, ur, rfl, o1, o2, o3⟩ := hu
      obtain ⟨sa', sc', rfl⟩ := o1.formMap
      obtain ⟨ha', hc', rfl⟩ := o2.formMap
      obtain ⟨ra', rc', rfl⟩ := o3.formMap
      clear hb hb4 ha4 o1 o2 o3 k0 k1 k2 k3 k4
      have hbA := (Below.refl w4.heap.size w4).alloc (Nat.le_refl _) (.cells #[.int .i64 I, .slice sa' S.length sc', .slice ha' HH.length hc', .slice ra' R.length rc'] 34)
      have HSm := Lib.hid (RSame_any _ _ I I S HH R S HH R _ (HV4.out.below hbA) (HU.out.below hbA))
      rw [show sameSig I S HH R I S HH R = true by simp [sameSig]] at HSm
      have HbA := Lib.hid (Hb4.out.trans (hbA.mono Hb4.out.size))
      clear hbA
      go_wp2_with fail
      refine HSm.out.mono ?_
      rintro e w5 ⟨rfl, hb⟩
      have Hb5 := Lib.hid (HbA.out.next hb)
      clear hb
      go_wp2
      go_ret
      exact ⟨rfl, Hb5.out⟩

set_option maxRecDepth 100000 in
theorem contract (H : Type) (enc : TypeId × Value → H) (W : World) (base : Nat) (args : Array Value) (ds gs : List (DataW H)) (before : List MemPlace)
    (hval : ∀ (j : Nat) t v, Tryd.f7.params[j]? = some t → args[j]? = some v → Value.okWide Tryd.prog W .any base t v)
    (hW : DataW.Whole enc Tryd.prog Tryd.f7.params.toList Rows.lamportSignsSpec.vars false W args.toList ds gs before) (hL : laidMetH Tryd.prog Rows.lamportSignsRow.laid W) :
    Calls Tryd.prog 7 args W fun e W' => ∃ v, e = .returned v ∧ Rows.lamportSignsSpec.post enc Tryd.prog Tryd.f7 false true false false W args v W' := by
  have hW' := hW
  obtain ⟨p, q, hA0, hV, rfl, hfz, hnd⟩ := hW
  have hA : DataW.TrodAll enc Tryd.prog W 0 (fun _ => true) true Tryd.f7.params.toList args.toList ds p := hA0
  rw [Tryd.params7] at hA hval
  obtain ⟨v0, vs0, d0, ds0, p0, q0, hargs, rfl, rfl, h0, r0⟩ := trodAll_cons hA
  obtain ⟨rfl, rfl, rfl⟩ := trodAll_nil r0
  obtain rfl : args = #[v0] := by cases args; simp_all
  obtain ⟨rfl, rfl⟩ := trodVars_none hV
  obtain ⟨seed, m, b, h, i, how, at_, rfl, hsl, hml, _⟩ := job_in (hval 0 31 v0 rfl rfl) h0
  refine (walk seed m b h i how at_ W hsl (tab_of hL)).mono fun e W' ⟨he, hb⟩ => ⟨_, he, ?_⟩
  exact law_post hW' rfl (by kernel_rfl) (by kernel_rfl) rfl hb

theorem laid_met (os : Os) : laidMet Tryd.prog Rows.lamportSignsRow.laid ((laidWorld os).forCall (fun _ _ => 0) ⟨#[], #[.agg #[.string ⟨#[]⟩, .string ⟨#[]⟩, .int .i64 0, .int .i64 0, .int .i64 0, .int .u8 0, .int .u8 0]], []⟩).memory :=
  laidMet_of_run' 8 (by kernel_rfl) (by kernel_rfl)
theorem reads (os : Os) {H : Type} (enc : TypeId × Value → H) : ∃ places, DataW.whole enc Tryd.prog ((laidWorld os).forCall (fun _ _ => 0) ⟨#[], #[.agg #[.string ⟨#[]⟩, .string ⟨#[]⟩, .int .i64 0, .int .i64 0, .int .i64 0, .int .u8 0, .int .u8 0]], []⟩).memory Tryd.f7.params.toList Rows.lamportSignsSpec.vars false (#[.agg #[.string ⟨#[]⟩, .string ⟨#[]⟩, .int .i64 0, .int .i64 0, .int .i64 0, .int .u8 0, .int .u8 0]] : Array Value).toList 8 = some ([.agg [.lit (.string []), .lit (.string []), .agg [.lit (.int .i64 0), .lit (.int .i64 0)], .lit (.int .i64 0), .lit (.int .u8 0), .lit (.int .u8 0)]], [], places) :=
  ⟨[], by kernel_rfl⟩

set_option maxRecDepth 100000 in
theorem lifted (os : Os) (started : os.Started) (H : Type) (enc : TypeId × Value → H) (F : Stop.Interp) :
    ReturnsInHanded {} Tryd.checked os 7 .any ((OpenSpec.ofChange Rows.lamportSignsSpec).preRow enc Tryd.prog Tryd.f7 Rows.lamportSignsRow.domain false Rows.lamportSignsRow.laid) (((OpenSpec.ofChange Rows.lamportSignsSpec).at F).post enc Tryd.prog Tryd.f7 false true false false) := by
  obtain ⟨places, hx⟩ := reads os enc
  refine returnsInHanded_of_row (C := Tryd.checked) (s := OpenSpec.ofChange Rows.lamportSignsSpec) own started (by kernel_rfl) Tryd.func7
    (witness_row_at (enc := enc) (C := Tryd.checked) false (laidWorld os) #[.agg #[.string ⟨#[]⟩, .string ⟨#[]⟩, .int .i64 0, .int .i64 0, .int .i64 0, .int .u8 0, .int .u8 0]] rfl (by kernel_rfl) (by kernel_rfl) (by kernel_rfl)
      (OpenSpec.preRow_of_cond 8 hx (by kernel_rfl) (fun k hk => by cases hk) (by kernel_rfl) (laid_met os))) ?_
  intro W base args ds gs before hval hW _ _ _ hL _ _
  exact contract H enc W base args ds gs before hval hW hL

set_option maxRecDepth 100000 in
theorem said : Rows.LamportSignsSaid :=
  OpenClaim.holds_of_cond 7 Tryd.f7 rfl rfl rfl rfl rfl rfl rfl ⟨rfl, rfl, rfl, rfl, rfl⟩ rfl rfl rfl rfl rfl (by kernel_rfl) Tryd.func7 (by kernel_rfl)
    (of_decide_eq_true (by kernel_rfl)) (by unfold Func.isWrapper; first | (rw [if_pos (by decide +kernel)]; kernel_rfl) | (rw [if_neg (by decide +kernel)]; exact ⟨rfl, rfl⟩))
    (fun os started H enc _ F => by rw [OpenClaim.pre_eq_preRow]; exact lifted os started H enc F)

/-- No parameter wants a stand-in; the program's own looks are off. -/
theorem plain (f : FuncId) (fn : Func) (hf : Tryd.pinned.checked.prog.funcNamed "licit/licitlaw48.LamportSigns" = some f) (hfn : Tryd.pinned.checked.prog.funcs[f]? = some fn) :
    false = Tryd.pinned.checked.prog.looks [] ∧ ∀ (j : Nat) t, fn.params[j]? = some t → Tryd.pinned.checked.prog.wantsStandIn t = false := by
  obtain rfl : f = 7 := Option.some.inj ((show Tryd.prog.funcNamed "licit/licitlaw48.LamportSigns" = some 7 by kernel_rfl).symm.trans hf) |>.symm
  obtain rfl : fn = Tryd.f7 := (Option.some.inj (Tryd.func7.symm.trans hfn)).symm
  refine ⟨by kernel_rfl, fun j t ht => ?_⟩
  have hall : Tryd.f7.params.toList.all (fun t => !Tryd.prog.wantsStandIn t) = true := by kernel_rfl
  have := List.all_eq_true.1 hall t (Array.mem_toList_iff.2 (Array.mem_of_getElem? ht))
  exact (by simpa using this : Tryd.prog.wantsStandIn t = false)

theorem card : Rows.LamportSignsCardSaid :=
  Claim7.holds_tied_plain_at .later [] _ _ _ _ said (fun _ h => by cases h) (by kernel_rfl) (fun _ h => by cases h) lamportSigns_row_tie rfl ⟨rfl, rfl⟩ (by kernel_rfl) rfl plain (by kernel_rfl)

end Go.Proofs.YtdkjehagkmkokaaDoor.lawSigns
