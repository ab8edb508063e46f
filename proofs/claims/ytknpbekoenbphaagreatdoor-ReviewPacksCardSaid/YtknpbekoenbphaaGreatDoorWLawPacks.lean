/- The walk of the law. No condition beyond those at the theorem. -/
import Derived.Test.YtknpbekoenbphaaGreatDoorPk27
import Derived.Test.YtknpbekoenbphaaGreatDoorPk44
set_option linter.unusedVariables false
set_option linter.unusedSimpArgs false
namespace Go.Proofs.YtknpbekoenbphaaGreatDoor.lawPacks
open Go Go.RowKit Licit
open Go.ChangeShapes Go.WideShapes Go.ChangeAt
theorem k0p (e : Rv.Ev) : (pkS e).length ≤ 1000000000 := by
 unfold pkS
 split
 · have := kga [Rv.encV e, kdz e.sg]; rw [kbt] at this; omega
 · simp
set_option maxHeartbeats 8000000 in
set_option maxRecDepth 100000 in
theorem walk (v : Value) (e : Rv.Ev) (w : World) (hr : kk3 v e w) (ht : Tab w) : Calls Tryz.prog 12 #[v] w fun en w' => en = .returned (.bool true) ∧ Below w.heap.size w w' := by
 have HSl := hdd (fun (W : World) (hb : Below w.heap.size w W) => khs v e W (by
  obtain ⟨na, nc, ta, tc, sa, sc, ha, hc, ra, rc, rfl, hN, hT, hS, hH, hR⟩ := hr
  exact ⟨na, nc, ta, tc, sa, sc, ha, hc, ra, rc, rfl, hN.below hb, hT.below hb, hS.below hb, hH.below hb, hR.below hb⟩))
 have HTb := hdd (fun (W : World) (hb : Below w.heap.size w W) => ht.same hb)
 have HIs := hdd (fun (W : World) (hb : Below w.heap.size w W) (hs : kei e = true) => (hr.is (kjh hs)).below hb)
 obtain ⟨na, nc, ta, tc, sa, sc, ha, hc, ra, rc, rfl, hN, hT, hS, hH, hR⟩ := hr
 have hA : ∀ W, W = w.alloc (.cells (evS e na nc ta tc sa sc ha hc ra rc) 45) → W.heap[w.heap.size]? = some (.cells (evS e na nc ta tc sa sc ha hc ra rc) 45 (0, 0)) ∧ Below w.heap.size w W := by rintro _ rfl; exact ⟨kak _ _, (Below.refl _ _).alloc (Nat.le_refl _) _⟩
 clear hN hT hS hH hR ht
 go_enter Tryz.func12, Tryz.ntmps12
 go_upto_region 1 with fail
 generalize hwa : w.alloc (.cells (evS e na nc ta tc sa sc ha hc ra rc) 45) = w1
 obtain ⟨hE1, hB1⟩ := hA w1 hwa.symm
 clear hwa hA
 obtain ⟨k, hk⟩ : ∃ k, w.heap.size = k := ⟨_, rfl⟩
 have HE1 := hdd hE1
 have HB1 := hdd hB1
 clear hE1 hB1 hk
 clear k
 obtain ⟨s, hs⟩ : ∃ s, kei e = s := ⟨_, rfl⟩
 rw [hs] at HSl HIs
 clear hs
 cases s with
 | false =>
   go_wp2_with (first
    | (go_at_call 14; refine (kbk _ (HTb.out _ HB3.out)).mono ?_
       rintro en w4 ⟨rfl, hb⟩
       have HB4 := hdd (HB3.out.next hb)
       clear hb)
    | (go_at_call 14; refine (kbk _ (HTb.out _ HB1.out)).mono ?_
       rintro en w2 ⟨rfl, hb⟩
       have HB2 := hdd (HB1.out.next hb)
       have HE2 := bhh hb HE1
       clear hb)
    | (refine kbf (by kernel_rfl) 45 _ rfl w.heap.size 0 rfl (evS e na nc ta tc sa sc ha hc ra rc).toList _ (kbe HE2.out) rfl rfl (by kernel_rfl) ?_)
    | (go_at_call 31; refine (HSl.out _ HB2.out).mono ?_
       rintro en w3 ⟨rfl, hb⟩
       have HB3 := hdd (HB2.out.next hb)
       clear hb)
    | fail)
   go_ret
   exact ⟨rfl, HB4.out⟩
 | true =>
   obtain ⟨F, hF⟩ : ∃ F, pkF e = F := ⟨_, rfl⟩
   obtain ⟨X, hX⟩ : ∃ X, pkS e = X := ⟨_, rfl⟩
   have HP := hdd (fun (W : World) (hb : Below w.heap.size w W) => by have := kth _ e W (HIs.out W hb rfl) (HTb.out W hb); rw [hF, hX] at this; exact this)
   have HRP := hdd (fun (W : World) (hb : Below w.heap.size w W) => by have := kwz _ e W (HIs.out W hb rfl); rw [hF, hX] at this; exact this)
   have hcase : F = 1 ∨ F = 0 := by rw [← hF]; unfold pkF; split <;> simp
   have HU := hdd (fun (W : World) (h0 : F = 0) => by
    have h1 := kno (pkS e) W (k0p e)
    obtain ⟨u1, u2⟩ := k2p (hF.trans h0)
    rw [u1, u2, hX] at h1
    exact h1)
   have qX : ((B X).toList == (B X).toList) = true := kcl X
   clear hF hX
   go_upto_region 5 with (first
    | (go_at_call 14; refine (kbk _ (HTb.out _ HB1.out)).mono ?_
       rintro en w2 ⟨rfl, hb⟩
       have HB2 := hdd (HB1.out.next hb)
       have HE2 := bhh hb HE1
       clear hb)
    | (refine kbs 12 rfl ?_; refine kbf (by kernel_rfl) 45 _ rfl w.heap.size 0 rfl (evS e na nc ta tc sa sc ha hc ra rc).toList _ (kbe HE2.out) rfl rfl (by kernel_rfl) ?_)
    | (go_at_call 31; refine (HSl.out _ HB2.out).mono ?_
       rintro en w3 ⟨rfl, hb⟩
       have HB3 := hdd (HB2.out.next hb)
       have HE3 := bhh hb HE2
       clear hb)
    | (refine kbs 18 rfl ?_; refine wpList_load_row rfl 45 _ rfl w.heap.size rfl 45 (evS e na nc ta tc sa sc ha hc ra rc) (0, 0) _ HE3.out rfl rfl (by kernel_rfl) ?_)
    | (go_at_call 45; refine (HP.out _ HB3.out).mono ?_
       rintro en w4 ⟨rfl, hb⟩
       have HB4 := hdd (HB3.out.next hb)
       have HE4 := bhh hb HE3
       clear hb)
    | (refine kbs 23 rfl ?_; refine wpList_load_row rfl 45 _ rfl w.heap.size rfl 45 (evS e na nc ta tc sa sc ha hc ra rc) (0, 0) _ HE4.out rfl rfl (by kernel_rfl) ?_)
    | (go_at_call 46; refine (HRP.out _ HB4.out).mono ?_
       rintro en w5 ⟨rfl, hb⟩
       have HB5 := hdd (HB4.out.next hb)
       have HE5 := bhh hb HE4
       clear hb)
    | fail)
   rcases hcase with rfl | rfl
   · clear HU
     go_wp2_with fail
     go_ret
     exact ⟨rfl, HB5.out⟩
   · have HJ5 := hdd (HIs.out _ HB5.out (by trivial))
     have HUp := hdd (HU.out w5 (by trivial))
     clear HU
     go_upto_region 8 with (first
      | (go_at_call 43; refine (HUp.out).mono ?_
         rintro en w6 ⟨v7, rfl, hi, hb⟩
         have HI7 := hdd hi
         obtain ⟨-, a7, b7, c7, d7, e7, f7, g7, h7, i7, j7, rfl, -⟩ := hi
         have HB6 := hdd (HB5.out.next hb)
         have HE6 := bhh hb HE5
         have HJ6 := hdd (HJ5.out.below hb)
         clear hb)
      | (refine kaa rfl 45 _ _ rfl w6.heap.size rfl (evS e a7 b7 c7 d7 e7 f7 g7 h7 i7 j7) rfl 45 evZ (kaj rfl rfl) (by kernel_rfl) rfl (kax _ _ _ _ _ _ rfl rfl rfl rfl rfl) ?_
         intro w7 hw hk
         have HX77 := hdd hw
         have hbn : Below w6.heap.size w6 w7 := ((Below.refl _ _).alloc (Nat.le_refl _) _).trans (hk.below (B := w6.heap.size) (by simp) (fun q hq e => by have : q = w6.heap.size := e; omega))
         have HB7 := hdd (HB6.out.next hbn)
         have HJ77 := hdd (HI7.out.below hbn)
         have HE7 := bhh hbn HE6
         have HJ7 := hdd (HJ6.out.below hbn)
         clear hw hk hbn)
      | fail)
     obtain ⟨x7, hx7⟩ : ∃ x, w6.heap.size = x := ⟨_, rfl⟩
     rw [hx7] at HX77
     try simp only [hx7]
     clear hx7
     have HEq := hdd (keo _ _ e w7 HJ77.out HJ7.out)
     go_wp2_with (first
      | (refine kbs 55 rfl ?_; refine kbf (by kernel_rfl) 45 _ rfl x7 0 rfl _ _ (kbe HX77.out) rfl rfl (by kernel_rfl) ?_)
      | (refine kbs 56 rfl ?_; refine kbf (by kernel_rfl) 45 _ rfl w.heap.size 0 rfl _ _ (kbe HE7.out) rfl rfl (by kernel_rfl) ?_)
      | (go_at_call 20; refine (HEq.out).mono ?_
         rintro en w9 ⟨rfl, hb⟩
         have HB9 := hdd (HB7.out.next hb)
         clear hb)
      | fail)
     go_ret
     exact ⟨rfl, HB9.out⟩
end Go.Proofs.YtknpbekoenbphaaGreatDoor.lawPacks
