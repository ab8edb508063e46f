/- The card of ReviewDecodes is proved: for every string the law returns true; the conditions are those of the given row. -/
import Derived.Test.YtknpbekoenbphaaGreatDoorPk27
import Derived.Test.YtknpbekoenbphaaGreatDoorPk38
import Derived.Test.YtknpbekoenbphaaGreatDoorPk43
set_option linter.unusedVariables false
set_option linter.unusedSimpArgs false
namespace Go.Proofs.YtknpbekoenbphaaGreatDoor.lawDecodes
open Go Go.RowKit Licit
open Go.ChangeShapes Go.WideShapes Go.ChangeAt
set_option maxHeartbeats 8000000 in
set_option maxRecDepth 100000 in
theorem walk (d : Bs) (w : World) (ht : Tab w) : Calls Tryz.prog 11 #[.string (B d)] w fun en w' => en = .returned (.bool true) ∧ Below w.heap.size w w' := by
 have HTb := hdd (fun (W : World) (hb : Below w.heap.size w W) => ht.same hb)
 have HA0 := hdd (kbk w ht)
 have hdz : ((B d).size : Int) = (d.length : Int) := rfl
 clear ht
 go_enter Tryz.func11, Tryz.ntmps11
 by_cases hm : 2000 < d.length
 · have d1 : decide (2000 < (d.length : Int)) = true := by simp; omega
   go_wp2_with (first
    | (go_at_call 14; refine (kbk _ (HTb.out _ HB1.out)).mono ?_
       rintro en w2 ⟨rfl, hb⟩
       have HB2 := hdd (HB1.out.next hb)
       clear hb)
    | (go_at_call 14; refine (HA0.out).mono ?_
       rintro en w1 ⟨rfl, hb⟩
       have HB1 := hdd hb
       clear hb)
    | fail)
   go_ret
   exact ⟨rfl, HB2.out⟩
 have d1 : decide (2000 < (d.length : Int)) = false := by simp; omega
 have hlen : d.length ≤ 1000000000 := by omega
 obtain ⟨F, hF⟩ : ∃ F, vdF d = F := ⟨_, rfl⟩
 obtain ⟨X, hX⟩ : ∃ X, vdV d = X := ⟨_, rfl⟩
 obtain ⟨G, hG⟩ : ∃ G, upF d = G := ⟨_, rfl⟩
 obtain ⟨Y, hY⟩ : ∃ Y, upV d = Y := ⟨_, rfl⟩
 have C1 := hdd (fun (W : World) => by have := kkb d W hlen; rw [hF, hX] at this; exact this)
 have C2 := hdd (fun (W : World) => by have := klv d W hlen; rw [(kxa d).1, (kxa d).2, hF, hX] at this; exact this)
 have C3 := hdd (fun (W : World) => by have := kno d W hlen; rw [hG, hY] at this; exact this)
 have C4 := hdd (fun (W : World) => by have := ksp d W hlen; rw [hG, hY] at this; exact this)
 have hFc : F = 0 ∨ F = 17 := by rw [← hF]; unfold vdF; split <;> simp
 have hGc : G = 0 ∨ G = 17 := by rw [← hG]; unfold upF; split <;> simp
 have HN := hdd (fun (h0 : F = 0) => by
  have := kpp (hF.trans h0)
  rw [hX] at this
  exact this)
 have HU := hdd (fun (h0 : G = 0) => by
  have := k2i (hG.trans h0)
  rw [hY] at this
  exact this)
 have qd : ((B d).toList == (B d).toList) = true := kcl d
 clear hF hX hG hY hlen hm
 go_upto_region 3 with (first
  | (go_at_call 14; refine (HA0.out).mono ?_
     rintro en w1 ⟨rfl, hb⟩
     have HBw1 := hdd hb
     clear hb)
  | fail)
 clear HA0
 go_upto_region 4 with (first
  | (go_at_call 41; refine (C1.out _).mono ?_
     rintro en w2 ⟨v3, rfl, hi, hb⟩
     have hi := hi w2 (fun _ _ _ => rfl)
     have HI3 := hdd hi
     obtain ⟨-, a3, b3, c3, d3, e3, f3, g3, h3, i3, j3, rfl, -⟩ := hi
     have HBw2 := hdd (HBw1.out.next hb)
     clear hb)
  | (refine kaa rfl 45 _ _ rfl w2.heap.size rfl (evS X a3 b3 c3 d3 e3 f3 g3 h3 i3 j3) rfl 45 evZ (kaj rfl rfl) (by kernel_rfl) rfl (kax _ _ _ _ _ _ rfl rfl rfl rfl rfl) ?_
     intro w3 hw hk
     have HX3w3 := hdd hw
     have hbn : Below w2.heap.size w2 w3 := ((Below.refl _ _).alloc (Nat.le_refl _) _).trans (hk.below (B := w2.heap.size) (by simp) (fun q hq e => by have : q = w2.heap.size := e; omega))
     have HBw3 := hdd (HBw2.out.next hbn)
     have HJ3w3 := hdd (HI3.out.below hbn)
     clear hw hk hbn)
  | fail)
 obtain ⟨x3, hx3⟩ : ∃ x, w2.heap.size = x := ⟨_, rfl⟩
 rw [hx3] at HX3w3
 try simp only [hx3]
 clear hx3
 go_upto_region 5 with (first
  | (go_at_call 42; refine (C2.out _).mono ?_
     rintro en w4 ⟨v5, rfl, hi, hb⟩
     have hi := hi w4 (fun _ _ _ => rfl)
     have HI5 := hdd hi
     obtain ⟨-, a5, b5, c5, d5, e5, f5, g5, h5, i5, j5, rfl, -⟩ := hi
     have HBw4 := hdd (HBw3.out.next hb)
     have HX3w4 := bhh hb HX3w3
     have HJ3w4 := hdd (HJ3w3.out.below hb)
     clear hb)
  | (refine kaa rfl 45 _ _ rfl w4.heap.size rfl (evS X a5 b5 c5 d5 e5 f5 g5 h5 i5 j5) rfl 45 evZ (kaj rfl rfl) (by kernel_rfl) rfl (kax _ _ _ _ _ _ rfl rfl rfl rfl rfl) ?_
     intro w5 hw hk
     have HX5w5 := hdd hw
     have hbn : Below w4.heap.size w4 w5 := ((Below.refl _ _).alloc (Nat.le_refl _) _).trans (hk.below (B := w4.heap.size) (by simp) (fun q hq e => by have : q = w4.heap.size := e; omega))
     have HBw5 := hdd (HBw4.out.next hbn)
     have HJ5w5 := hdd (HI5.out.below hbn)
     have HX3w5 := bhh hbn HX3w4
     have HJ3w5 := hdd (HJ3w4.out.below hbn)
     clear hw hk hbn)
  | fail)
 obtain ⟨x5, hx5⟩ : ∃ x, w4.heap.size = x := ⟨_, rfl⟩
 rw [hx5] at HX5w5
 try simp only [hx5]
 clear hx5
 go_upto_region 6 with (first
  | (go_at_call 43; refine (C3.out _).mono ?_
     rintro en w6 ⟨v7, rfl, hi, hb⟩
     have HI7 := hdd hi
     obtain ⟨-, a7, b7, c7, d7, e7, f7, g7, h7, i7, j7, rfl, -⟩ := hi
     have HBw6 := hdd (HBw5.out.next hb)
     have HX3w6 := bhh hb HX3w5
     have HJ3w6 := hdd (HJ3w5.out.below hb)
     have HX5w6 := bhh hb HX5w5
     have HJ5w6 := hdd (HJ5w5.out.below hb)
     clear hb)
  | (refine kaa rfl 45 _ _ rfl w6.heap.size rfl (evS Y a7 b7 c7 d7 e7 f7 g7 h7 i7 j7) rfl 45 evZ (kaj rfl rfl) (by kernel_rfl) rfl (kax _ _ _ _ _ _ rfl rfl rfl rfl rfl) ?_
     intro w7 hw hk
     have HX7w7 := hdd hw
     have hbn : Below w6.heap.size w6 w7 := ((Below.refl _ _).alloc (Nat.le_refl _) _).trans (hk.below (B := w6.heap.size) (by simp) (fun q hq e => by have : q = w6.heap.size := e; omega))
     have HBw7 := hdd (HBw6.out.next hbn)
     have HJ7w7 := hdd (HI7.out.below hbn)
     have HX3w7 := bhh hbn HX3w6
     have HJ3w7 := hdd (HJ3w6.out.below hbn)
     have HX5w7 := bhh hbn HX5w6
     have HJ5w7 := hdd (HJ5w6.out.below hbn)
     clear hw hk hbn)
  | fail)
 obtain ⟨x7, hx7⟩ : ∃ x, w6.heap.size = x := ⟨_, rfl⟩
 rw [hx7] at HX7w7
 try simp only [hx7]
 clear hx7
 go_upto_region 7 with (first
  | (go_at_call 44; refine (C4.out _).mono ?_
     rintro en w8 ⟨v9, rfl, hi, hb⟩
     have HI9 := hdd hi
     obtain ⟨-, a9, b9, c9, d9, e9, f9, g9, h9, i9, j9, rfl, -⟩ := hi
     have HBw8 := hdd (HBw7.out.next hb)
     have HX3w8 := bhh hb HX3w7
     have HJ3w8 := hdd (HJ3w7.out.below hb)
     have HX5w8 := bhh hb HX5w7
     have HJ5w8 := hdd (HJ5w7.out.below hb)
     have HX7w8 := bhh hb HX7w7
     have HJ7w8 := hdd (HJ7w7.out.below hb)
     clear hb)
  | (refine kaa rfl 45 _ _ rfl w8.heap.size rfl (evS Y a9 b9 c9 d9 e9 f9 g9 h9 i9 j9) rfl 45 evZ (kaj rfl rfl) (by kernel_rfl) rfl (kax _ _ _ _ _ _ rfl rfl rfl rfl rfl) ?_
     intro w9 hw hk
     have HX9w9 := hdd hw
     have hbn : Below w8.heap.size w8 w9 := ((Below.refl _ _).alloc (Nat.le_refl _) _).trans (hk.below (B := w8.heap.size) (by simp) (fun q hq e => by have : q = w8.heap.size := e; omega))
     have HBw9 := hdd (HBw8.out.next hbn)
     have HJ9w9 := hdd (HI9.out.below hbn)
     have HX3w9 := bhh hbn HX3w8
     have HJ3w9 := hdd (HJ3w8.out.below hbn)
     have HX5w9 := bhh hbn HX5w8
     have HJ5w9 := hdd (HJ5w8.out.below hbn)
     have HX7w9 := bhh hbn HX7w8
     have HJ7w9 := hdd (HJ7w8.out.below hbn)
     clear hw hk hbn)
  | fail)
 obtain ⟨x9, hx9⟩ : ∃ x, w8.heap.size = x := ⟨_, rfl⟩
 rw [hx9] at HX9w9
 try simp only [hx9]
 clear hx9
 have HEq1 := hdd (keo _ _ X w9 HJ3w9.out HJ5w9.out)
 go_upto_region 9 with (first
  | (refine kbs 47 rfl ?_; refine kbf (by kernel_rfl) 45 _ rfl x3 0 rfl _ _ (kbe HX3w9.out) rfl rfl (by kernel_rfl) ?_)
  | (refine kbs 48 rfl ?_; refine kbf (by kernel_rfl) 45 _ rfl x5 0 rfl _ _ (kbe HX5w9.out) rfl rfl (by kernel_rfl) ?_)
  | (go_at_call 20; refine (HEq1.out).mono ?_
     rintro en w10 ⟨rfl, hb⟩
     have HBw10 := hdd (HBw9.out.next hb)
     have HX3 := bhh hb HX3w9
     have HX7 := bhh hb HX7w9
     have HX9 := bhh hb HX9w9
     have HI3 := hdd (HJ3w9.out.below hb)
     have HI7 := hdd (HJ7w9.out.below hb)
     have HI9 := hdd (HJ9w9.out.below hb)
     clear hb HEq1)
  | (refine kbs 58 rfl ?_; refine kbf (by kernel_rfl) 45 _ rfl x7 0 rfl _ _ (kbe HX7.out) rfl rfl (by kernel_rfl) ?_)
  | (refine kbs 59 rfl ?_; refine kbf (by kernel_rfl) 45 _ rfl x9 0 rfl _ _ (kbe HX9.out) rfl rfl (by kernel_rfl) ?_)
  | (go_at_call 20; refine (keo _ _ Y w10 HI7.out HI9.out).mono ?_
     rintro en w11 ⟨rfl, hb⟩
     have HBw11 := hdd (HBw10.out.next hb)
     have HX3b := bhh hb HX3
     have HX7b := bhh hb HX7
     have HI3b := hdd (HI3.out.below hb)
     have HI7b := hdd (HI7.out.below hb)
     clear hb)
  | fail)
 have HTe := hdd (HTb.out _ HBw11.out)
 rcases hFc with rfl | rfl
 · obtain ⟨n1, n2, -⟩ := HN.out rfl
   have HEn := hdd (by
    have := khn _ X w11 HI3b.out HTe.out
    rw [show Rv.encE X = d by unfold Rv.encE; rw [n1]; exact n2, show Rv.validE X = 0 by unfold Rv.validE; rw [n1]; rfl] at this
    exact this)
   clear HN HU n1 n2
   go_wp2_with (first
    | (refine kbs 66 rfl ?_; refine wpList_load_row rfl 45 _ rfl x3 rfl 45 _ (0, 0) _ HX3b.out rfl rfl (by kernel_rfl) ?_)
    | (go_at_call 35; refine (HEn.out).mono ?_
       rintro en w12 ⟨rfl, hb⟩
       have HBw12 := hdd (HBw11.out.next hb)
       clear hb)
    | fail)
   go_ret
   exact ⟨rfl, HBw12.out⟩
 · rcases hGc with rfl | rfl
   rotate_left
   · clear HN HU
     go_wp2_with fail
     go_ret
     exact ⟨rfl, HBw11.out⟩
   · obtain ⟨n1, n2⟩ := HU.out rfl
     have HPk := hdd (by
      have := kth _ Y w11 HI7b.out HTe.out
      rw [n1, n2] at this
      exact this)
     clear HN HU n1 n2
     go_wp2_with (first
      | (refine kbs 80 rfl ?_; refine wpList_load_row rfl 45 _ rfl x7 rfl 45 _ (0, 0) _ HX7b.out rfl rfl (by kernel_rfl) ?_)
      | (go_at_call 45; refine (HPk.out).mono ?_
         rintro en w12 ⟨rfl, hb⟩
         have HBw12 := hdd (HBw11.out.next hb)
         clear hb)
      | fail)
     go_ret
     exact ⟨rfl, HBw12.out⟩
set_option maxRecDepth 100000 in
theorem contract (H : Type) (enc : TypeId × Value → H) (W : World) (base : Nat) (args : Array Value) (ds gs : List (DataW H)) (before : List MemPlace)
 (hval : ∀ (j : Nat) t v, Tryz.f11.params[j]? = some t → args[j]? = some v → Value.okWide Tryz.prog W .any base t v)
 (hW : DataW.Whole enc Tryz.prog Tryz.f11.params.toList Rows.reviewDecodesSpec.vars false W args.toList ds gs before) (hL : laidMetH Tryz.prog Rows.reviewDecodesRow.laid W) :
 Calls Tryz.prog 11 args W fun e W' => ∃ v, e = .returned v ∧ Rows.reviewDecodesSpec.post enc Tryz.prog Tryz.f11 false true false false W args v W' := by
 have hW' := hW
 obtain ⟨p, q, hA0, hV, rfl, hfz, hnd⟩ := hW
 have hA : DataW.TrodAll enc Tryz.prog W 0 (fun _ => true) true Tryz.f11.params.toList args.toList ds p := hA0
 rw [Tryz.params11] at hA hval
 obtain ⟨v0, vs0, d0, ds0, p0, q0, hargs, rfl, rfl, h0, r0⟩ := trodAll_cons hA
 obtain ⟨rfl, rfl, rfl⟩ := trodAll_nil r0
 obtain rfl : args = #[v0] := by cases args; simp_all
 obtain ⟨rfl, rfl⟩ := trodVars_none hV
 obtain ⟨d, rfl, _⟩ := kym (hval 0 9 v0 rfl rfl) h0
 refine (walk d W (kqc hL)).mono fun en W' ⟨h1, hb⟩ => ⟨_, h1, ?_⟩
 exact kjl hW' rfl (by kernel_rfl) (by kernel_rfl) rfl hb
theorem laid_met (os : Os) : laidMet Tryz.prog Rows.reviewDecodesRow.laid ((kcc os).forCall (fun _ _ => 0) ⟨#[], #[.string ⟨#[]⟩], []⟩).memory :=
 laidMet_of_run' 8 (by kernel_rfl) (by kernel_rfl)
theorem reads (os : Os) {H : Type} (enc : TypeId × Value → H) : ∃ places, DataW.whole enc Tryz.prog ((kcc os).forCall (fun _ _ => 0) ⟨#[], #[.string ⟨#[]⟩], []⟩).memory Tryz.f11.params.toList Rows.reviewDecodesSpec.vars false (#[.string ⟨#[]⟩] : Array Value).toList 8 = some ([.lit (.string [])], [], places) :=
 ⟨[], by kernel_rfl⟩
set_option maxRecDepth 100000 in
theorem lifted (os : Os) (started : os.Started) (H : Type) (enc : TypeId × Value → H) (F : Stop.Interp) :
 ReturnsInHanded {} Tryz.checked os 11 .any ((OpenSpec.ofChange Rows.reviewDecodesSpec).preRow enc Tryz.prog Tryz.f11 Rows.reviewDecodesRow.domain false Rows.reviewDecodesRow.laid) (((OpenSpec.ofChange Rows.reviewDecodesSpec).at F).post enc Tryz.prog Tryz.f11 false true false false) := by
 obtain ⟨places, hx⟩ := reads os enc
 refine returnsInHanded_of_row (C := Tryz.checked) (s := OpenSpec.ofChange Rows.reviewDecodesSpec) own started (by kernel_rfl) Tryz.func11
  (witness_row_at (enc := enc) (C := Tryz.checked) false (kcc os) #[.string ⟨#[]⟩] rfl (by kernel_rfl) (by kernel_rfl) (by kernel_rfl)
    (OpenSpec.preRow_of_cond 8 hx (by kernel_rfl) (fun k hk => by cases hk) (by kernel_rfl) (laid_met os))) ?_
 intro W base args ds gs before hval hW _ _ _ hL _ _
 exact contract H enc W base args ds gs before hval hW hL
set_option maxRecDepth 100000 in
theorem said : Rows.ReviewDecodesSaid :=
 OpenClaim.holds_of_cond 11 Tryz.f11 rfl rfl rfl rfl rfl rfl rfl ⟨rfl, rfl, rfl, rfl, rfl⟩ rfl rfl rfl rfl rfl (by kernel_rfl) Tryz.func11 (by kernel_rfl)
  (of_decide_eq_true (by kernel_rfl)) (by unfold Func.isWrapper; first | (rw [if_pos (by decide +kernel)]; kernel_rfl) | (rw [if_neg (by decide +kernel)]; exact ⟨rfl, rfl⟩))
  (fun os started H enc _ F => by rw [OpenClaim.pre_eq_preRow]; exact lifted os started H enc F)
theorem plain (f : FuncId) (fn : Func) (hf : Tryz.pinned.checked.prog.funcNamed "licit/licitlaw50.ReviewDecodes" = some f) (hfn : Tryz.pinned.checked.prog.funcs[f]? = some fn) :
 false = Tryz.pinned.checked.prog.looks [] ∧ ∀ (j : Nat) t, fn.params[j]? = some t → Tryz.pinned.checked.prog.wantsStandIn t = false := by
 obtain rfl : f = 11 := Option.some.inj ((show Tryz.prog.funcNamed "licit/licitlaw50.ReviewDecodes" = some 11 by kernel_rfl).symm.trans hf) |>.symm
 obtain rfl : fn = Tryz.f11 := (Option.some.inj (Tryz.func11.symm.trans hfn)).symm
 refine ⟨by kernel_rfl, fun j t ht => ?_⟩
 have hall : Tryz.f11.params.toList.all (fun t => !Tryz.prog.wantsStandIn t) = true := by kernel_rfl
 have := List.all_eq_true.1 hall t (Array.mem_toList_iff.2 (Array.mem_of_getElem? ht))
 exact (by simpa using this : Tryz.prog.wantsStandIn t = false)
theorem card : Rows.ReviewDecodesCardSaid :=
 Claim7.holds_tied_plain_at .later [] _ _ _ _ said (fun _ h => by cases h) (by kernel_rfl) (fun _ h => by cases h) reviewDecodes_row_tie rfl ⟨rfl, rfl⟩ (by kernel_rfl) rfl plain (by kernel_rfl)
end Go.Proofs.YtknpbekoenbphaaGreatDoor.lawDecodes
