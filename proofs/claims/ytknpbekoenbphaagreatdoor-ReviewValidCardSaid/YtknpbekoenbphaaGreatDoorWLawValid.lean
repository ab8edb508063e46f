/- The walk of the law. No condition beyond those at the theorem. -/
import Derived.Test.YtknpbekoenbphaaGreatDoorPk27
import Derived.Test.YtknpbekoenbphaaGreatDoorPk39
import Derived.Test.YtknpbekoenbphaaGreatDoorPk40
set_option linter.unusedVariables false
set_option linter.unusedSimpArgs false
namespace Go.Proofs.YtknpbekoenbphaaGreatDoor.lawValid
open Go Go.RowKit Licit
open Go.ChangeShapes Go.WideShapes Go.ChangeAt
set_option maxHeartbeats 8000000 in
set_option maxRecDepth 100000 in
theorem walk (v : Value) (e : Rv.Ev) (w : World) (h : kk3 v e w) (ht : Tab w) : Calls Tryz.prog 10 #[v] w fun en w' => en = .returned (.bool true) ∧ Below w.heap.size w w' := by
 obtain ⟨na, nc, ta, tc, sa, sc, ha, hc, ra, rc, rfl, hN, hT, hS, hH, hR⟩ := h
 have hraw : kk3 (evW e na nc ta tc sa sc ha hc ra rc) e w := ⟨na, nc, ta, tc, sa, sc, ha, hc, ra, rc, rfl, hN, hT, hS, hH, hR⟩
 have hA : ∀ W, W = w.alloc (.cells (evS e na nc ta tc sa sc ha hc ra rc) 45) → W.heap[w.heap.size]? = some (.cells (evS e na nc ta tc sa sc ha hc ra rc) 45 (0, 0)) ∧ Below w.heap.size w W := by rintro _ rfl; exact ⟨kak _ _, (Below.refl _ _).alloc (Nat.le_refl _) _⟩
 have HSl := hdd (fun (W : World) (hb : Below w.heap.size w W) => show kk3 (evW e na nc ta tc sa sc ha hc ra rc) e W from ⟨na, nc, ta, tc, sa, sc, ha, hc, ra, rc, rfl, hN.below hb, hT.below hb, hS.below hb, hH.below hb, hR.below hb⟩)
 have HTb := hdd (fun (W : World) (hb : Below w.heap.size w W) => ht.same hb)
 have HNT := hdd (fun (W : World) (hb : Below w.heap.size w W) => And.intro (hN.below hb) (hT.below hb))
 clear hN hT hS hH hR hraw ht
 go_enter Tryz.func10, Tryz.ntmps10
 go_upto_region 1 with fail
 generalize hwa : w.alloc (.cells (evS e na nc ta tc sa sc ha hc ra rc) 45) = w1
 obtain ⟨hE1, hB1⟩ := hA w1 hwa.symm
 clear hwa hA
 have HE1 := hdd hE1
 have HB1 := hdd hB1
 clear hE1 hB1
 cases hs : kei e with
 | false =>
   have HS := hdd hs
   clear hs
   go_wp2_with (first
    | (go_at_call 14; refine (kbk _ (HTb.out _ HB3.out)).mono ?_
       rintro en w4 ⟨rfl, hb⟩
       have HB4 := hdd (HB3.out.next hb)
       clear hb)
    | (go_at_call 14; refine (kbk _ (HTb.out _ HB1.out)).mono ?_
       rintro en w2 ⟨rfl, hb⟩
       have HB2 := hdd (HB1.out.next hb)
       have HE2 := bhh hb HE1
       clear hb)
    | (refine kbf (by kernel_rfl) 45 _ rfl w.heap.size 0 rfl (evS e na nc ta tc sa sc ha hc ra rc).toList _ (kbe HE2.out) rfl rfl (by kernel_rfl) ?_)
    | (go_at_call 31; refine (khs _ e _ (HSl.out _ HB2.out)).mono ?_
       rintro en w3 ⟨rfl, hb⟩
       rw [HS.out]
       have HB3 := hdd (HB2.out.next hb)
       have HE3 := bhh hb HE2
       clear hb)
    | fail)
   go_ret
   exact ⟨rfl, HB4.out⟩
 | true =>
   have HS := hdd hs
   have HI := hdd (fun (W : World) (hb : Below w.heap.size w W) => (HSl.out W hb).is (kjh hs))
   clear hs
   go_upto_region 3 with (first
    | (go_at_call 14; refine (kbk _ (HTb.out _ HB1.out)).mono ?_
       rintro en w2 ⟨rfl, hb⟩
       have HB2 := hdd (HB1.out.next hb)
       have HE2 := bhh hb HE1
       clear hb)
    | (refine kbf (by kernel_rfl) 45 _ rfl w.heap.size 0 rfl (evS e na nc ta tc sa sc ha hc ra rc).toList _ (kbe HE2.out) rfl rfl (by kernel_rfl) ?_)
    | (go_at_call 31; refine (khs _ e _ (HSl.out _ HB2.out)).mono ?_
       rintro en w3 ⟨rfl, hb⟩
       rw [HS.out]
       have HB3 := hdd (HB2.out.next hb)
       have HE3 := bhh hb HE2
       clear hb)
    | fail)
   go_upto_region 7 with (first
    | (refine keh 22 rfl ?_; refine wpList_load_row rfl 45 _ rfl w.heap.size rfl 45 (evS e na nc ta tc sa sc ha hc ra rc) (0, 0) _ HE3.out rfl rfl (by kernel_rfl) ?_)
    | (go_at_call 35; refine (khn _ e _ (HI.out _ HB3.out) (HTb.out _ HB3.out)).mono ?_
       rintro en w4 ⟨rfl, hb⟩
       have HB4 := hdd (HB3.out.next hb)
       have HE4 := bhh hb HE3
       clear hb)
    | (refine keh 27 rfl ?_; refine wpList_load_row rfl 45 _ rfl w.heap.size rfl 45 (evS e na nc ta tc sa sc ha hc ra rc) (0, 0) _ HE4.out rfl rfl (by kernel_rfl) ?_)
    | (go_at_call 36; refine (kie _ e _ (HI.out _ HB4.out)).mono ?_
       rintro en w5 ⟨rfl, hb⟩
       have HB5 := hdd (HB4.out.next hb)
       have HE5 := bhh hb HE4
       clear hb)
    | (refine keh 32 rfl ?_; refine wpList_load_row rfl 45 _ rfl w.heap.size rfl 45 (evS e na nc ta tc sa sc ha hc ra rc) (0, 0) _ HE5.out rfl rfl (by kernel_rfl) ?_)
    | (go_at_call 37; refine (knh _ e _ (HI.out _ HB5.out) (HTb.out _ HB5.out)).mono ?_
       rintro en w6 ⟨rfl, hb⟩
       have HB6 := hdd (HB5.out.next hb)
       have HE6 := bhh hb HE5
       clear hb)
    | (refine keh 37 rfl ?_; refine wpList_load_row rfl 45 _ rfl w.heap.size rfl 45 (evS e na nc ta tc sa sc ha hc ra rc) (0, 0) _ HE6.out rfl rfl (by kernel_rfl) ?_)
    | (go_at_call 38; refine (ktx _ e _ (HI.out _ HB6.out)).mono ?_
       rintro en w7 ⟨rfl, hb⟩
       have HB7 := hdd (HB6.out.next hb)
       have HE7 := bhh hb HE6
       clear hb)
    | fail)
   have HSr := hdd (fun (W : World) (hb : Below w7.heap.size w7 W) => kbe (kad hb (kac HE7.out) HE7.out))
   have HIr := hdd (fun (W : World) (hb : Below w7.heap.size w7 W) => HI.out W (HB7.out.next hb))
   have HF := hdd (drn (Below.refl w7.heap.size w7) 1)
   refine kat (S := fun W : World => W.rangeAt w.heap.size 0 (evS e na nc ta tc sa sc ha hc ra rc).toList) (by kernel_rfl) (HSr.out _ HF.out) (fun hHeld => ?_)
   simp only [List.toList_toArray, len, kbc]
   refine tkx 0 (.agg (evS e na nc ta tc sa sc ha hc ra rc)) rfl rfl (by kernel_rfl) (fun _ _ _ h => h) (by assumption) ?_ ?_
   · intro W hW; exact kbn rfl rfl rfl hW
   simp only [Act.put, s1, s2, s3]
   refine tkx 2 (.agg (evS e na nc ta tc sa sc ha hc ra rc)) rfl rfl (by kernel_rfl) (fun _ _ _ h => h) (by assumption) ?_ ?_
   · intro W hW; exact kbn rfl rfl rfl hW
   simp only [Act.put, s1, s2, s3]
   refine wpAnyH_ready (rs := [1]) (by kernel_rfl) (by simp) ?_
   refine ar1 rfl (fun K hK => ?_)
   go_simp
   refine (kf8 _ e _ (HIr.out _ HF.out)).mono ?_
   rintro en u ⟨rfl, hb⟩
   have HFn := hdd (HF.out.trans (hb.mono HF.out.size))
   refine hK.out _ _ (HSr.out _ HFn.out) (fun hHeld => ?_)
   clear hK K hb HF
   have HF := HFn
   clear HFn
   try simp only [Act.put, s1, s2, s3]
   refine wpAnyH_ready (rs := [3]) (by kernel_rfl) (by simp) ?_
   refine ar1 rfl (fun K hK => ?_)
   go_simp
   refine (kh6 _ e _ (HIr.out _ HF.out)).mono ?_
   rintro en u ⟨rfl, hb⟩
   have HFn := hdd (HF.out.trans (hb.mono HF.out.size))
   refine hK.out _ _ (HSr.out _ HFn.out) (fun hHeld => ?_)
   clear hK K hb HF
   have HF := HFn
   clear HFn
   try simp only [Act.put, s1, s2, s3]
   iterate 21 (refine tk 4 rfl rfl rfl (by kernel_rfl) (fun _ _ _ h => h) (by intro W hW; (try dsimp only at hW); go_simp <;> with_reducible rfl) (by assumption) ?_; simp only [Act.put, s1, s2, s3])
   refine wpAnyH_done (by kernel_rfl) ?_ _
   simp only [Exit.then]
   have HB8 := hdd (HB7.out.next HF.out)
   have HE8 := bhh HF.out HE7
   clear HSr HIr hHeld HF
   cases hv : Rv.validB e with
   | false =>
     have hv1 : Rv.validE e = 1 := by unfold Rv.validE; rw [hv]; rfl
     go_wp2_with fail
     go_ret
     exact ⟨rfl, HB8.out⟩
   | true =>
     have hv1 : Rv.validE e = 0 := by unfold Rv.validE; rw [hv]; rfl
     have hx1 : Rv.encE e = Rv.encV e := by unfold Rv.encE; rw [hv]; rfl
     obtain ⟨hd1, hd2⟩ := kug hv
     have HD := hdd (show Calls Tryz.prog 41 #[.string (B (Rv.encV e))] u fun en w' => ∃ v, en = .returned (.tuple #[v, .int .i64 0]) ∧ (∀ W : World, (∀ k, u.heap.size ≤ k → k < w'.heap.size → W.heap[k]? = w'.heap[k]?) → kc1 v { e with sg := Rv.sg0 } W) ∧ Below u.heap.size u w' by
      have := kkb (Rv.encV e) u (kh1 e)
      rwa [hd1, hd2] at this)
     have HI8 := hdd (HI.out u HB8.out)
     clear hd1 hd2
     go_upto_region 13 with (first
      | (go_at_call 41; refine (HD.out).mono ?_
         rintro en w9 ⟨v9, rfl, hi, hb⟩
         have hform := hi w9 (fun _ _ _ => rfl)
         obtain ⟨-, nb, mb, tb, ub, sb, xb, hb', yb, rb, zb, rfl, -⟩ := hform
         have HI9 := hdd hi
         have HB9 := hdd hb
         have HE9 := bhh hb HE8
         clear hi hb)
      | (refine kaa rfl 45 _ _ rfl w9.heap.size rfl (evC { e with sg := Rv.sg0 } (.slice nb e.names.length mb) (.slice tb e.targets.length ub) (.slice sb 0 xb) (.slice hb' 0 yb) (.slice rb 0 zb)) rfl 45 evZ (kaj rfl rfl) (by kernel_rfl) rfl (kax _ _ _ _ _ _ rfl rfl rfl rfl rfl) ?_
         intro w10 hw hk
         have HE10 := hdd hw
         have HB10 := hdd (show Below w9.heap.size w9 w10 from ((Below.refl _ _).alloc (Nat.le_refl _) _).trans (hk.below (B := w9.heap.size) (by simp) (fun q hq e => by have : q = w9.heap.size := e; omega)))
         have HF10 := bhh HB10.out HE9
         clear hw hk)
      | (refine kby rfl 43 _ _ rfl w.heap.size 14 #[.int .i64 0, kal, kal, kal] rfl rfl _ 45 HF10.out (by simp) (by kernel_rfl) (by simp [Value.oneCell']) ?_
         intro w11 hw hk
         have HE11 := hdd (show w11.heap[w.heap.size]? = some (.cells (evC { e with sg := Rv.sg0 } (.slice na e.names.length nc) (.slice ta e.targets.length tc) kal kal kal) 45 (0, 0)) from hw)
         have HK11 := hdd hk
         clear hw hk)
      | fail)
     have hwl := kac HE8.out
     have hw9 := HB9.out.size
     have hb10 : Below w.heap.size w w10 := HB8.out.next (HB9.out.trans (HB10.out.mono HB9.out.size))
     have hb11 : Below w.heap.size w w11 := hb10.trans (HK11.out.below hb10.size (fun q hq e => by have : q = w.heap.size := e; omega))
     have hE10 := (HK11.out.block _ (kac HE10.out) (fun e => by have : w9.heap.size = w.heap.size := e; omega)).trans HE10.out
     have hi1 := HI9.out w11 (fun k h1 h2 => (HK11.out.block k (Nat.lt_of_lt_of_le h2 HB10.out.size) (fun e => by have : k = w.heap.size := e; omega)).trans (HB10.out.block k h2))
     have hi2 : kc1 (.agg (evC { e with sg := Rv.sg0 } (.slice na e.names.length nc) (.slice ta e.targets.length tc) kal kal kal)) { e with sg := Rv.sg0 } w11 :=
      ⟨⟨HI8.out.1.author, HI8.out.1.root, HI8.out.1.pkg, HI8.out.1.digest, HI8.out.1.question, HI8.out.1.scope, HI8.out.1.answer, HI8.out.1.names, HI8.out.1.targets⟩, na, nc, ta, tc, none, 0, none, 0, none, 0, rfl, (HNT.out w11 hb11).1, (HNT.out w11 hb11).2, kfc _, kfc _, kfc _⟩
     have HEq := hdd (keo _ _ _ w11 hi1 hi2)
     have HE10' := hdd hE10
     have HB11 := hdd hb11
     clear hwl hw9 hb10 hb11 hE10 hi1 hi2
     go_wp2_with (first
      | (refine keh 78 rfl ?_; refine kbf (by kernel_rfl) 45 _ rfl w9.heap.size 0 rfl _ _ (kbe HE10'.out) rfl rfl (by kernel_rfl) ?_)
      | (refine keh 79 rfl ?_; refine kbf (by kernel_rfl) 45 _ rfl w.heap.size 0 rfl _ _ (kbe HE11.out) rfl rfl (by kernel_rfl) ?_)
      | (go_at_call 20; refine (HEq.out).mono ?_
         rintro en w12 ⟨rfl, hb⟩
         have HB12 := hdd (HB11.out.next hb)
         clear hb)
      | fail)
     go_ret
     exact ⟨rfl, HB12.out⟩
end Go.Proofs.YtknpbekoenbphaaGreatDoor.lawValid
