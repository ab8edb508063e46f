/- The card of CodecTexts is proved: for every string and every list of strings the law returns true; the conditions are those of the given row. -/
import Derived.Test.YtadbkhijieinkaaDoorLawKit
import Derived.Test.YtadbkhijieinkaaDoorWkAwake
import Derived.Test.YtadbkhijieinkaaDoorWkRefEncL
namespace Go.Proofs.YtadbkhijieinkaaDoor.lawTexts
open Go Go.RowKit Licit
open Go.ChangeShapes Go.WideShapes Go.ChangeAt
open Go.ChangeMaps (open_string)

set_option maxRecDepth 100000 in
set_option maxHeartbeats 1600000 in
theorem walk (s : Bs) (v : Value) (xs : List Bs) (w : World) (hs : s.length ≤ maxLen) (h : IsSl v (xs.map vS) w) (hl : ∀ x ∈ xs, x.length ≤ maxLen) (ht : Tab w) :
    Calls Tryd.prog 4 #[.string (B s), v] w fun e w' => e = .returned (.bool true) ∧ Below w.heap.size w w' := by
  obtain ⟨a, cap, hv⟩ := h.formMap
  have hm := h.1
  rw [List.length_map] at hm
  unfold maxLen at hm hs
  have hss : (B s).size = s.length := rfl
  by_cases hg : ((100 < s.length ∧ s.length < 65534) ∨ 65538 < s.length) ∨ 20 < xs.length
  · subst hv
    clear h
    by_cases g0 : 65538 < s.length
    · clear hg
      go_enter Tryd.func4, Tryd.ntmps4
      go_wp2_with (go_at_call 10; refine (awake_any _ ht).mono ?_; rintro e w1 ⟨rfl, hb⟩)
      go_ret
      exact ⟨rfl, hb⟩
    · by_cases g1 : 100 < s.length
      · by_cases g2 : s.length < 65534
        · clear hg
          go_enter Tryd.func4, Tryd.ntmps4
          go_wp2_with (go_at_call 10; refine (awake_any _ ht).mono ?_; rintro e w1 ⟨rfl, hb⟩)
          go_ret
          exact ⟨rfl, hb⟩
        · have g3 : 20 < xs.length := by omega
          clear hg
          go_enter Tryd.func4, Tryd.ntmps4
          go_wp2_with (go_at_call 10; refine (awake_any _ ht).mono ?_; rintro e w1 ⟨rfl, hb⟩)
          go_ret
          exact ⟨rfl, hb⟩
      · have g3 : 20 < xs.length := by omega
        clear hg
        go_enter Tryd.func4, Tryd.ntmps4
        go_wp2_with (go_at_call 10; refine (awake_any _ ht).mono ?_; rintro e w1 ⟨rfl, hb⟩)
        go_ret
        exact ⟨rfl, hb⟩
  · have g1 : s.length ≤ 65538 := by omega
    have g2 : xs.length ≤ 20 := by omega
    have g3 : 100 < s.length → 65534 ≤ s.length := by omega
    have H := Lib.hid h
    have HL := Lib.hid hl
    have hcell : ∀ k (hk : k < xs.length), ∃ b off, a = some ⟨b, off, none⟩ ∧ b < w.heap.size ∧ w.cell? ⟨b, off + k, none⟩ = some (.string (B xs[k])) := by
      intro k hk
      rcases h.2 with ⟨a', cap', e, h0⟩ | ⟨b, off, cap', e, h0, hc⟩
      · rw [List.map_eq_nil_iff] at h0
        subst h0
        exact (Nat.not_lt_zero _ hk).elim
      · rw [hv] at e
        simp only [Value.slice.injEq] at e
        have hx := hc k (by simpa using hk)
        have hx' : w.cell? ⟨b, off + k, none⟩ = some (.string (B xs[k])) := by rw [hx]; simp [hk, vS]
        exact ⟨b, off, e.1, World.block_lt_of_cell? w _ hx', hx'⟩
    have HCELL := Lib.hid hcell
    clear hg h hl hcell
    by_cases g4 : 100 < s.length
    all_goals
      subst hv
      go_enter Tryd.func4, Tryd.ntmps4
      go_wp2_with (first | (go_at_call 10; refine (awake_any _ ht).mono ?_; rintro e w1 ⟨rfl, hb⟩; have Hb1 := Lib.hid hb; clear hb) | (go_at_call 9999))
      go_loopw [37] (fun i wr => ∃ k : Nat, k ≤ xs.length ∧ i = .int .i64 k ∧ Below w.heap.size w wr) (fun i _ => xs.length - (intOf i).toNat)
      case atStart => exact ⟨0, Nat.zero_le _, rfl, Hb1.out⟩
      case round =>
        obtain ⟨k, hk, rfl, hbr⟩ := hrel
        have Hbr := Lib.hid hbr
        have htr := ht.same hbr
        by_cases hlt : k < xs.length
        · obtain ⟨b, off, hab, hbw, hx⟩ := HCELL.out k hlt
          have hx' : wr.cell? ⟨b, off + k, none⟩ = some (.string (B xs[k])) := by rw [hbr.cell (p := ⟨b, off + k, none⟩) hbw]; exact hx
          have hsz : (B xs[k]).size = xs[k].length := rfl
          clear hbr hx
          rw [hab]
          go_wp2
          · go_ret
            exact ⟨rfl, Hbr.out⟩
          · go_roundw
            case rel => exact ⟨k + 1, by omega, by go_num, Hbr.out⟩
            case measure => simp [intOf]; omega
        · have H1 := Lib.hid (H.out.below hbr)
          clear hbr
          go_wp2_with fail
          refine (encText_any s _ (by unfold maxLen; omega) htr).mono ?_
          rintro e w2 ⟨rfl, hb⟩
          have Hb2 := Lib.hid (Hbr.out.trans (hb.mono Hbr.out.size))
          have ht2 := htr.same hb
          have H2 := Lib.hid (H1.out.below hb)
          clear hb
          go_wp2_with fail
          refine (rencText_any s _ (by unfold maxLen; omega)).mono ?_
          rintro e w3 ⟨rfl, hb⟩
          have Hb3 := Lib.hid (Hb2.out.trans (hb.mono Hb2.out.size))
          have ht3 := ht2.same hb
          have H3 := Lib.hid (H2.out.below hb)
          clear hb
          go_wp2_with fail
          refine (encTexts_any _ xs _ H3.out HL.out ht3).mono ?_
          rintro e w4 ⟨rfl, hb⟩
          have Hb4 := Lib.hid (Hb3.out.trans (hb.mono Hb3.out.size))
          have H4 := Lib.hid (H3.out.below hb)
          clear hb
          go_wp2_with fail
          refine (rencTexts_any _ xs _ H4.out HL.out).mono ?_
          rintro e w5 ⟨rfl, hb⟩
          have Hb5 := Lib.hid (Hb4.out.trans (hb.mono Hb4.out.size))
          clear hb
          go_wp2
          go_ret
          exact ⟨rfl, Hb5.out⟩

theorem contract (H : Type) (enc : TypeId × Value → H) (W : World) (base : Nat) (args : Array Value) (ds gs : List (DataW H)) (before : List MemPlace)
    (hval : ∀ (j : Nat) t v, Tryd.f4.params[j]? = some t → args[j]? = some v → Value.okWide Tryd.prog W .any base t v)
    (hW : DataW.Whole enc Tryd.prog Tryd.f4.params.toList Rows.codecTextsSpec.vars false W args.toList ds gs before) (hL : laidMetH Tryd.prog Rows.codecTextsRow.laid W) :
    Calls Tryd.prog 4 args W fun e W' => ∃ v, e = .returned v ∧ Rows.codecTextsSpec.post enc Tryd.prog Tryd.f4 false true false false W args v W' := by
  have hW' := hW
  obtain ⟨p, q, hA0, hV, rfl, hfz, hnd⟩ := hW
  have hA : DataW.TrodAll enc Tryd.prog W 0 (fun _ => true) true Tryd.f4.params.toList args.toList ds p := hA0
  rw [Tryd.params4] at hA hval
  obtain ⟨v0, vs0, d0, ds0, p0, q0, hargs, rfl, rfl, h0, r0⟩ := trodAll_cons hA
  obtain ⟨v1, vs1, d1, ds1, p1, q1, rfl, rfl, rfl, h1, r1⟩ := trodAll_cons r0
  obtain ⟨rfl, rfl, rfl⟩ := trodAll_nil r1
  obtain rfl : args = #[v0, v1] := by cases args; simp_all
  obtain ⟨rfl, rfl⟩ := trodVars_none hV
  obtain ⟨s, rfl, rfl, rfl, hs⟩ := open_string Tryd.underlying9 (hval 0 9 v0 rfl rfl) h0
  obtain ⟨xs, hsl, hxs⟩ := sl_strs Tryd.underlying29 Tryd.underlying9 (by kernel_rfl) (hval 1 29 v1 rfl rfl) h1
  rw [← B_eta s] at hs ⊢
  refine (walk s.data.toList v1 xs W hs hsl hxs (tab_of hL)).mono fun e W' ⟨he, hb⟩ => ⟨_, he, ?_⟩
  exact law_post hW' rfl (by kernel_rfl) (by kernel_rfl) rfl hb

theorem laid_met (os : Os) : laidMet Tryd.prog Rows.codecTextsRow.laid ((laidWorld os).forCall (fun _ _ => 0) ⟨#[], #[.string ⟨#[]⟩, .slice none 0 0], []⟩).memory :=
  laidMet_of_run' 8 (by kernel_rfl) (by kernel_rfl)
theorem reads (os : Os) {H : Type} (enc : TypeId × Value → H) : ∃ places, DataW.whole enc Tryd.prog ((laidWorld os).forCall (fun _ _ => 0) ⟨#[], #[.string ⟨#[]⟩, .slice none 0 0], []⟩).memory Tryd.f4.params.toList Rows.codecTextsSpec.vars false (#[.string ⟨#[]⟩, .slice none 0 0] : Array Value).toList 8 = some ([.lit (.string []), .nil], [], places) :=
  ⟨[], by kernel_rfl⟩

set_option maxRecDepth 100000 in
theorem lifted (os : Os) (started : os.Started) (H : Type) (enc : TypeId × Value → H) (F : Stop.Interp) :
    ReturnsInHanded {} Tryd.checked os 4 .any ((OpenSpec.ofChange Rows.codecTextsSpec).preRow enc Tryd.prog Tryd.f4 Rows.codecTextsRow.domain false Rows.codecTextsRow.laid) (((OpenSpec.ofChange Rows.codecTextsSpec).at F).post enc Tryd.prog Tryd.f4 false true false false) := by
  obtain ⟨places, hx⟩ := reads os enc
  refine returnsInHanded_of_row (C := Tryd.checked) (s := OpenSpec.ofChange Rows.codecTextsSpec) own started (by kernel_rfl) Tryd.func4
    (witness_row_at (enc := enc) (C := Tryd.checked) false (laidWorld os) #[.string ⟨#[]⟩, .slice none 0 0] rfl (by kernel_rfl) (by kernel_rfl) (by kernel_rfl)
      (OpenSpec.preRow_of_cond 8 hx (by kernel_rfl) (fun k hk => by cases hk) (by kernel_rfl) (laid_met os))) ?_
  intro W base args ds gs before hval hW _ _ _ hL _ _
  exact contract H enc W base args ds gs before hval hW hL

theorem said : Rows.CodecTextsSaid :=
  OpenClaim.holds_of_cond 4 Tryd.f4 rfl rfl rfl rfl rfl rfl rfl ⟨rfl, rfl, rfl, rfl, rfl⟩ rfl rfl rfl rfl rfl (by kernel_rfl) Tryd.func4 (by kernel_rfl)
    (of_decide_eq_true (by kernel_rfl)) (by unfold Func.isWrapper; first | (rw [if_pos (by decide +kernel)]; kernel_rfl) | (rw [if_neg (by decide +kernel)]; exact ⟨rfl, rfl⟩))
    (fun os started H enc _ F => by rw [OpenClaim.pre_eq_preRow]; exact lifted os started H enc F)

/-- No parameter wants a stand-in; the program's own looks are off. -/
theorem plain (f : FuncId) (fn : Func) (hf : Tryd.pinned.checked.prog.funcNamed "licit/licitlaw02.CodecTexts" = some f) (hfn : Tryd.pinned.checked.prog.funcs[f]? = some fn) :
    false = Tryd.pinned.checked.prog.looks [] ∧ ∀ (j : Nat) t, fn.params[j]? = some t → Tryd.pinned.checked.prog.wantsStandIn t = false := by
  obtain rfl : f = 4 := Option.some.inj ((show Tryd.prog.funcNamed "licit/licitlaw02.CodecTexts" = some 4 by kernel_rfl).symm.trans hf) |>.symm
  obtain rfl : fn = Tryd.f4 := (Option.some.inj (Tryd.func4.symm.trans hfn)).symm
  refine ⟨by kernel_rfl, fun j t ht => ?_⟩
  have hall : Tryd.f4.params.toList.all (fun t => !Tryd.prog.wantsStandIn t) = true := by kernel_rfl
  have := List.all_eq_true.1 hall t (Array.mem_toList_iff.2 (Array.mem_of_getElem? ht))
  exact (by simpa using this : Tryd.prog.wantsStandIn t = false)

theorem card : Rows.CodecTextsCardSaid :=
  Claim7.holds_tied_plain_at .later [] _ _ _ _ said (fun _ h => by cases h) (by kernel_rfl) (fun _ h => by cases h) codecTexts_row_tie rfl ⟨rfl, rfl⟩ (by kernel_rfl) rfl plain (by kernel_rfl)

end Go.Proofs.YtadbkhijieinkaaDoor.lawTexts
