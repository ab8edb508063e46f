/- The card of CodecNumbers is proved: for every number and every list of numbers the law returns true; the conditions are those of the given row. -/
import Derived.Test.YtadbkhijieinkaaDoorLawKit
import Derived.Test.YtadbkhijieinkaaDoorWkAwake
import Derived.Test.YtadbkhijieinkaaDoorWkRefEncL
namespace Go.Proofs.YtadbkhijieinkaaDoor.lawNumbers
open Go Go.RowKit Licit
open Go.ChangeShapes Go.WideShapes Go.ChangeAt

set_option maxHeartbeats 800000 in
theorem walk (n : Int) (v : Value) (xs : List Int) (w : World) (h : IsSl v (xs.map vI) w) (hl : ∀ x ∈ xs, x ≤ 9223372036854775807) (ht : Tab w) :
    Calls Tryd.prog 3 #[.int .i64 n, v] w fun e w' => e = .returned (.bool true) ∧ Below w.heap.size w w' := by
  obtain ⟨a, cap, hv⟩ := h.formMap
  have hm := h.1
  rw [List.length_map] at hm
  unfold maxLen at hm
  by_cases hg : (40 < xs.length ∧ xs.length < 1020) ∨ 1030 < xs.length
  · subst hv
    have HG := Lib.hid hg
    by_cases h1 : 1030 < xs.length
    · clear hg
      go_enter Tryd.func3, Tryd.ntmps3
      go_wp2_with (go_at_call 10; refine (awake_any _ ht).mono ?_; rintro e w1 ⟨rfl, hb⟩)
      go_ret
      exact ⟨rfl, hb⟩
    · have h2 : 40 < xs.length := by omega
      have h3 : xs.length < 1020 := by omega
      clear hg
      go_enter Tryd.func3, Tryd.ntmps3
      go_wp2_with (go_at_call 10; refine (awake_any _ ht).mono ?_; rintro e w1 ⟨rfl, hb⟩)
      go_ret
      exact ⟨rfl, hb⟩
  · have HG := Lib.hid hg
    have g1 : xs.length ≤ 1030 := by omega
    have H := Lib.hid h
    have HL := Lib.hid hl
    by_cases h1 : 40 < xs.length
    all_goals
      have g2 : 40 < xs.length → 1020 ≤ xs.length := by omega
      clear hg h hl
      subst hv
      go_enter Tryd.func3, Tryd.ntmps3
      go_wp2_with (go_at_call 10; refine (awake_any _ ht).mono ?_; rintro e w1 ⟨rfl, hb⟩; have Hb1 := Lib.hid hb; have ht1 := ht.same hb; have H1 := Lib.hid (H.out.below hb); clear hb)
      refine (encNumber_any n _ ht1).mono ?_
      rintro e w2 ⟨rfl, hb⟩
      have Hb2 := Lib.hid hb
      have ht2 := ht1.same hb
      have H2 := Lib.hid (H1.out.below hb)
      clear hb
      go_wp2_with fail
      refine (rencNumber_any n _).mono ?_
      rintro e w3 ⟨rfl, hb⟩
      have Hb3 := Lib.hid hb
      have ht3 := ht2.same hb
      have H3 := Lib.hid (H2.out.below hb)
      clear hb
      go_wp2_with fail
      refine (encNumbers_any _ xs _ H3.out HL.out ht3).mono ?_
      rintro e w4 ⟨rfl, hb⟩
      have Hb4 := Lib.hid hb
      have H4 := Lib.hid (H3.out.below hb)
      clear hb
      go_wp2_with fail
      refine (rencNumbers_any _ xs _ H4.out HL.out).mono ?_
      rintro e w5 ⟨rfl, hb⟩
      have Hb5 := Lib.hid hb
      clear hb
      go_wp2
      go_ret
      exact ⟨rfl, (((Hb1.out.trans (Hb2.out.mono Hb1.out.size)).trans (Hb3.out.mono (Nat.le_trans Hb1.out.size Hb2.out.size))).trans (Hb4.out.mono (Nat.le_trans (Nat.le_trans Hb1.out.size Hb2.out.size) Hb3.out.size))).trans (Hb5.out.mono (Nat.le_trans (Nat.le_trans (Nat.le_trans Hb1.out.size Hb2.out.size) Hb3.out.size) Hb4.out.size))⟩

/-- What the walk gives, for every argument and every world that holds the tables. -/
theorem contract (H : Type) (enc : TypeId × Value → H) (W : World) (base : Nat) (args : Array Value) (ds gs : List (DataW H)) (before : List MemPlace)
    (hval : ∀ (j : Nat) t v, Tryd.f3.params[j]? = some t → args[j]? = some v → Value.okWide Tryd.prog W .any base t v)
    (hW : DataW.Whole enc Tryd.prog Tryd.f3.params.toList Rows.codecNumbersSpec.vars false W args.toList ds gs before) (hL : laidMetH Tryd.prog Rows.codecNumbersRow.laid W) :
    Calls Tryd.prog 3 args W fun e W' => ∃ v, e = .returned v ∧ Rows.codecNumbersSpec.post enc Tryd.prog Tryd.f3 false true false false W args v W' := by
  have hW' := hW
  obtain ⟨p, q, hA0, hV, rfl, hfz, hnd⟩ := hW
  have hA : DataW.TrodAll enc Tryd.prog W 0 (fun _ => true) true Tryd.f3.params.toList args.toList ds p := hA0
  rw [Tryd.params3] at hA hval
  obtain ⟨v0, vs0, d0, ds0, p0, q0, hargs, rfl, rfl, h0, r0⟩ := trodAll_cons hA
  obtain ⟨v1, vs1, d1, ds1, p1, q1, rfl, rfl, rfl, h1, r1⟩ := trodAll_cons r0
  obtain ⟨rfl, rfl, rfl⟩ := trodAll_nil r1
  obtain rfl : args = #[v0, v1] := by cases args; simp_all
  obtain ⟨rfl, rfl⟩ := trodVars_none hV
  obtain ⟨n, rfl, rfl, rfl, wn⟩ := open_int Tryd.underlying3 (hval 0 3 v0 rfl rfl) h0
  obtain ⟨xs, hsl, hxs⟩ := sl_ints Tryd.underlying22 Tryd.underlying3 (by kernel_rfl) (hval 1 22 v1 rfl rfl) h1
  refine (walk n v1 xs W hsl (fun x hx => (hxs x hx).2) (tab_of hL)).mono fun e W' ⟨he, hb⟩ => ⟨_, he, ?_⟩
  exact law_post hW' rfl (by kernel_rfl) (by kernel_rfl) rfl hb

theorem laid_met (os : Os) : laidMet Tryd.prog Rows.codecNumbersRow.laid ((laidWorld os).forCall (fun _ _ => 0) ⟨#[], #[.int .i64 0, .slice none 0 0], []⟩).memory :=
  laidMet_of_run' 8 (by kernel_rfl) (by kernel_rfl)
theorem reads (os : Os) {H : Type} (enc : TypeId × Value → H) : ∃ places, DataW.whole enc Tryd.prog ((laidWorld os).forCall (fun _ _ => 0) ⟨#[], #[.int .i64 0, .slice none 0 0], []⟩).memory Tryd.f3.params.toList Rows.codecNumbersSpec.vars false (#[.int .i64 0, .slice none 0 0] : Array Value).toList 8 = some ([.lit (.int .i64 0), .nil], [], places) :=
  ⟨[], by kernel_rfl⟩

set_option maxRecDepth 100000 in
theorem lifted (os : Os) (started : os.Started) (H : Type) (enc : TypeId × Value → H) (F : Stop.Interp) :
    ReturnsInHanded {} Tryd.checked os 3 .any ((OpenSpec.ofChange Rows.codecNumbersSpec).preRow enc Tryd.prog Tryd.f3 Rows.codecNumbersRow.domain false Rows.codecNumbersRow.laid) (((OpenSpec.ofChange Rows.codecNumbersSpec).at F).post enc Tryd.prog Tryd.f3 false true false false) := by
  obtain ⟨places, hx⟩ := reads os enc
  refine returnsInHanded_of_row (C := Tryd.checked) (s := OpenSpec.ofChange Rows.codecNumbersSpec) own started (by kernel_rfl) Tryd.func3
    (witness_row_at (enc := enc) (C := Tryd.checked) false (laidWorld os) #[.int .i64 0, .slice none 0 0] rfl (by kernel_rfl) (by kernel_rfl) (by kernel_rfl)
      (OpenSpec.preRow_of_cond 8 hx (by kernel_rfl) (fun k hk => by cases hk) (by kernel_rfl) (laid_met os))) ?_
  intro W base args ds gs before hval hW _ _ _ hL _ _
  exact contract H enc W base args ds gs before hval hW hL

theorem said : Rows.CodecNumbersSaid :=
  OpenClaim.holds_of_cond 3 Tryd.f3 rfl rfl rfl rfl rfl rfl rfl ⟨rfl, rfl, rfl, rfl, rfl⟩ rfl rfl rfl rfl rfl (by kernel_rfl) Tryd.func3 (by kernel_rfl)
    (of_decide_eq_true (by kernel_rfl)) (by unfold Func.isWrapper; first | (rw [if_pos (by decide +kernel)]; kernel_rfl) | (rw [if_neg (by decide +kernel)]; exact ⟨rfl, rfl⟩))
    (fun os started H enc _ F => by rw [OpenClaim.pre_eq_preRow]; exact lifted os started H enc F)

/-- No parameter wants a stand-in; the program's own looks are off. -/
theorem plain (f : FuncId) (fn : Func) (hf : Tryd.pinned.checked.prog.funcNamed "licit/licitlaw02.CodecNumbers" = some f) (hfn : Tryd.pinned.checked.prog.funcs[f]? = some fn) :
    false = Tryd.pinned.checked.prog.looks [] ∧ ∀ (j : Nat) t, fn.params[j]? = some t → Tryd.pinned.checked.prog.wantsStandIn t = false := by
  obtain rfl : f = 3 := Option.some.inj ((show Tryd.prog.funcNamed "licit/licitlaw02.CodecNumbers" = some 3 by kernel_rfl).symm.trans hf) |>.symm
  obtain rfl : fn = Tryd.f3 := (Option.some.inj (Tryd.func3.symm.trans hfn)).symm
  refine ⟨by kernel_rfl, fun j t ht => ?_⟩
  have hall : Tryd.f3.params.toList.all (fun t => !Tryd.prog.wantsStandIn t) = true := by kernel_rfl
  have := List.all_eq_true.1 hall t (Array.mem_toList_iff.2 (Array.mem_of_getElem? ht))
  exact (by simpa using this : Tryd.prog.wantsStandIn t = false)

theorem card : Rows.CodecNumbersCardSaid :=
  Claim7.holds_tied_plain_at .later [] _ _ _ _ said (fun _ h => by cases h) (by kernel_rfl) (fun _ h => by cases h) codecNumbers_row_tie rfl ⟨rfl, rfl⟩ (by kernel_rfl) rfl plain (by kernel_rfl)

end Go.Proofs.YtadbkhijieinkaaDoor.lawNumbers
