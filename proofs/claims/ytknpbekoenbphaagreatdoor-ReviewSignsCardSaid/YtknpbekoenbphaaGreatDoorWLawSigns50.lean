/- The walk of the law. No condition beyond those at the theorem. -/
import Derived.Test.YtknpbekoenbphaaGreatDoorPk27
import Derived.Test.YtknpbekoenbphaaGreatDoorPk50
set_option linter.unusedVariables false
set_option linter.unusedSimpArgs false
namespace Go.Proofs.YtknpbekoenbphaaGreatDoor.lawSigns50
open Go Go.RowKit Licit
open Go.ChangeShapes Go.WideShapes Go.ChangeAt
theorem ktr {e : Rv.Ev} (h : kei e = true) : k0a e := by
 unfold kei at h
 rw [Bool.and_eq_true, Bool.and_eq_true, Bool.and_eq_true, Bool.and_eq_true, Bool.and_eq_true] at h
 have h1 := (kj5 h.1.1.1).1
 have h2 := (kj5 h.1.1.2).1
 have g : ∀ l : List Bs, kqi 260 l = true → l.length ≤ 260 := fun l hl => by
  unfold kqi at hl; simp only [Bool.and_eq_true, decide_eq_true_eq] at hl; omega
 exact ⟨by omega, by omega, by have := g _ h.2.1.1; omega, by have := g _ h.2.1.2; omega, by have := g _ h.2.2; omega⟩
set_option maxHeartbeats 8000000 in
set_option maxRecDepth 100000 in
theorem walk (seed : Bs) (b h : Int) (v : Value) (e : Rv.Ev) (w : World) (hr : kk3 v e w) (ht : Tab w) :
 Calls Tryz.prog 9 #[.string (B seed), .agg #[.int .i64 b, .int .i64 h], v] w fun en w' => en = .returned (.bool true) ∧ Below w.heap.size w w' := by
 have HSl := hdd (fun (W : World) (hb : Below w.heap.size w W) => khs v e W (by
  obtain ⟨na, nc, ta, tc, sa, sc, ha, hc, ra, rc, rfl, hN, hT, hS, hH, hR⟩ := hr
  exact ⟨na, nc, ta, tc, sa, sc, ha, hc, ra, rc, rfl, hN.below hb, hT.below hb, hS.below hb, hH.below hb, hR.below hb⟩))
 have HTb := hdd (fun (W : World) (hb : Below w.heap.size w W) => ht.same hb)
 have HLi := hdd (fun (W : World) => ktg seed b h W)
 have hsign := fun (W : World) (hb : Below w.heap.size w W) (hs : kei e = true) (hl : keu seed b h = true) => kzo seed b h v e W ((hr.is (kjh hs)).below hb) (ktr hs) (by unfold keu at hl; simp only [Bool.and_eq_true, decide_eq_true_eq] at hl; have := hl.1; unfold maxLen; omega) (ht.same hb)
 have hrsign := fun (W : World) (hb : Below w.heap.size w W) (hs : kei e = true) (hl : keu seed b h = true) => kwm seed b h v e W ((hr.is (kjh hs)).below hb) (by unfold keu at hl; simp only [Bool.and_eq_true, decide_eq_true_eq] at hl; have := hl.1; unfold maxLen; omega)
 obtain ⟨na, nc, ta, tc, sa, sc, ha, hc, ra, rc, rfl, hN, hT, hS, hH, hR⟩ := hr
 obtain ⟨k, hk⟩ : ∃ k, w.heap.size = k := ⟨_, rfl⟩
 obtain ⟨t, htt⟩ : ∃ t, k + 1 = t := ⟨_, rfl⟩
 have hA : ∀ W, W = (w.alloc (.cells #[.int .i64 b, .int .i64 h] 41)).alloc (.cells (evS e na nc ta tc sa sc ha hc ra rc) 45) → Below w.heap.size w W ∧ W.heap[k]? = some (.cells #[.int .i64 b, .int .i64 h] 41 (0, 0)) ∧ W.heap[t]? = some (.cells (evS e na nc ta tc sa sc ha hc ra rc) 45 (0, 0)) := by
  rintro _ rfl
  subst htt
  subst hk
  exact ⟨((Below.refl _ _).alloc (Nat.le_refl _) _).alloc (by simp) _, kaq (kak _ _), kaj (by simp) rfl⟩
 clear hN hT hS hH hR ht
 go_enter Tryz.func9, Tryz.ntmps9
 go_upto_region 1 with fail
 have ht' : w.heap.size + 1 = t := by omega
 try simp only [World.size_alloc, ht', hk]
 show Code.wp _ _ _ _ ((w.alloc (.cells #[.int .i64 b, .int .i64 h] 41)).alloc (.cells (evS e na nc ta tc sa sc ha hc ra rc) 45))
 generalize hw1 : (w.alloc (.cells #[.int .i64 b, .int .i64 h] 41)).alloc (.cells (evS e na nc ta tc sa sc ha hc ra rc) 45) = w1
 obtain ⟨hb1, hK1, hE1⟩ := hA w1 hw1.symm
 have HB1 := hdd hb1
 have HK1 := hdd hK1
 have HE1 := hdd hE1
 clear hA hw1 hb1 hK1 hE1 ht' hk htt
 obtain ⟨s, hs⟩ : ∃ s, kei e = s := ⟨_, rfl⟩
 obtain ⟨l, hl⟩ : ∃ l, keu seed b h = l := ⟨_, rfl⟩
 rw [hs] at HSl hsign hrsign
 rw [hl] at HLi hsign hrsign
 have HSg := hdd hsign
 have HRg := hdd hrsign
 clear hs hl hsign hrsign
 cases s with
 | false =>
   go_wp2_with (first
    | (go_at_call 14; refine (kbk _ (HTb.out _ HB3.out)).mono ?_
       rintro en w4 ⟨rfl, hb⟩
       have HB4 := hdd (HB3.out.next hb)
       clear hb)
    | (go_at_call 14; refine (kbk _ (HTb.out _ HB1.out)).mono ?_
       rintro en w2 ⟨rfl, hb⟩
       have HB2 := hdd (HB1.out.next hb)
       have HE2 := bhh hb HE1
       clear hb)
    | (refine kbf (by kernel_rfl) 45 _ rfl t 0 rfl (evS e na nc ta tc sa sc ha hc ra rc).toList _ (kbe HE2.out) rfl rfl (by kernel_rfl) ?_)
    | (go_at_call 31; refine (HSl.out _ HB2.out).mono ?_
       rintro en w3 ⟨rfl, hb⟩
       have HB3 := hdd (HB2.out.next hb)
       clear hb)
    | fail)
   go_ret
   exact ⟨rfl, HB4.out⟩
 | true =>
   cases l with
   | false =>
     go_wp2_with (first
      | (go_at_call 14; refine (kbk _ (HTb.out _ HB4.out)).mono ?_
         rintro en w5 ⟨rfl, hb⟩
         have HB5 := hdd (HB4.out.next hb)
         clear hb)
      | (go_at_call 14; refine (kbk _ (HTb.out _ HB1.out)).mono ?_
         rintro en w2 ⟨rfl, hb⟩
         have HB2 := hdd (HB1.out.next hb)
         have HE2 := bhh hb HE1
         have HK2 := bhh hb HK1
         clear hb)
      | (refine kbf (by kernel_rfl) 45 _ rfl t 0 rfl (evS e na nc ta tc sa sc ha hc ra rc).toList _ (kbe HE2.out) rfl rfl (by kernel_rfl) ?_)
      | (go_at_call 31; refine (HSl.out _ HB2.out).mono ?_
         rintro en w3 ⟨rfl, hb⟩
         have HB3 := hdd (HB2.out.next hb)
         have HK3 := bhh hb HK2
         obtain ⟨k0, k1⟩ := kui HK3.out
         clear hb)
      | (go_at_call 32; refine (HLi.out _).mono ?_
         rintro en w4 ⟨rfl, hb⟩
         have HB4 := hdd (HB3.out.next hb)
         clear hb k0 k1)
      | fail)
     go_ret
     exact ⟨rfl, HB5.out⟩
   | true =>
     go_upto_region 3 with (first
      | (go_at_call 14; refine (kbk _ (HTb.out _ HB1.out)).mono ?_
         rintro en w2 ⟨rfl, hb⟩
         have HB2 := hdd (HB1.out.next hb)
         have HE2 := bhh hb HE1
         have HK2 := bhh hb HK1
         clear hb)
      | (refine kbf (by kernel_rfl) 45 _ rfl t 0 rfl (evS e na nc ta tc sa sc ha hc ra rc).toList _ (kbe HE2.out) rfl rfl (by kernel_rfl) ?_)
      | (go_at_call 31; refine (HSl.out _ HB2.out).mono ?_
         rintro en w3 ⟨rfl, hb⟩
         have HB3 := hdd (HB2.out.next hb)
         have HE3 := bhh hb HE2
         have HK3 := bhh hb HK2
         obtain ⟨k0, k1⟩ := kui HK3.out
         clear hb)
      | (go_at_call 32; refine (HLi.out _).mono ?_
         rintro en w4 ⟨rfl, hb⟩
         have HB4 := hdd (HB3.out.next hb)
         have HE4 := bhh hb HE3
         have HK4 := bhh hb HK3
         clear hb k0 k1)
      | fail)
     obtain ⟨k0, k1⟩ := kui HK4.out
     obtain ⟨F, hF⟩ : ∃ F, sgF b h e = F := ⟨_, rfl⟩
     obtain ⟨X, hX⟩ : ∃ X, sgV seed b h e = X := ⟨_, rfl⟩
     have HSg' := hdd (fun (W : World) (hb : Below w.heap.size w W) => by have := HSg.out W hb (by trivial) (by trivial); rw [hF, hX] at this; exact this)
     have HRg' := hdd (fun (W : World) (hb : Below w.heap.size w W) => by have := HRg.out W hb (by trivial) (by trivial); rw [hF, hX] at this; exact this)
     have qF : (F == F) = true := by simp
     clear HSg HRg hF hX
     go_upto_region 4 with (first
      | (refine kbs 28 rfl ?_; refine wpList_load_row rfl 45 _ rfl t rfl 45 (evS e na nc ta tc sa sc ha hc ra rc) (0, 0) _ HE4.out rfl rfl (by kernel_rfl) ?_)
      | (go_at_call 33; refine (HSg'.out _ HB4.out).mono ?_
         rintro en w5 ⟨v5, rfl, hi, hb⟩
         have HI5 := hdd hi
         obtain ⟨-, nb, mb, tb, ub, sb, xb, hb', yb, rb, zb, rfl, -⟩ := hi
         have HBn5 := hdd hb
         have HB5 := hdd (HB4.out.next hb)
         have HE5 := bhh hb HE4
         have HK5 := bhh hb HK4
         clear hb k0 k1)
      | (refine kaa rfl 45 _ _ rfl w5.heap.size rfl (evS X nb mb tb ub sb xb hb' yb rb zb) rfl 45 evZ (kaj rfl rfl) (by kernel_rfl) rfl (kax _ _ _ _ _ _ rfl rfl rfl rfl rfl) ?_
         intro w6 hw hk
         have HX6 := hdd hw
         have HBn6 := hdd (show Below w5.heap.size w5 w6 from ((Below.refl _ _).alloc (Nat.le_refl _) _).trans (hk.below (B := w5.heap.size) (by simp) (fun q hq e => by have : q = w5.heap.size := e; omega)))
         have HB6 := hdd (HB5.out.next HBn6.out)
         have HE6 := bhh HBn6.out HE5
         have HK6 := bhh HBn6.out HK5
         have HI6 := hdd (HI5.out.below HBn6.out)
         clear hw hk)
      | fail)
     obtain ⟨x, hx⟩ : ∃ x, w5.heap.size = x := ⟨_, rfl⟩
     rw [hx] at HX6
     try simp only [hx]
     clear hx
     obtain ⟨k0, k1⟩ := kui HK6.out
     go_upto_region 5 with (first
      | (refine kbs 35 rfl ?_; refine wpList_load_row rfl 45 _ rfl t rfl 45 (evS e na nc ta tc sa sc ha hc ra rc) (0, 0) _ HE6.out rfl rfl (by kernel_rfl) ?_)
      | (go_at_call 34; refine (HRg'.out _ HB6.out).mono ?_
         rintro en w7 ⟨v7, rfl, hi, hb⟩
         have HI7 := hdd hi
         obtain ⟨-, nc', mc, tc', uc, sc', xc, hc', yc, rc', zc, rfl, -⟩ := hi
         have HB7 := hdd (HB6.out.next hb)
         have HX7 := bhh hb HX6
         have HJ7 := hdd (HI6.out.below hb)
         clear hb k0 k1)
      | (refine kaa rfl 45 _ _ rfl w7.heap.size rfl (evS X nc' mc tc' uc sc' xc hc' yc rc' zc) rfl 45 evZ (kaj rfl rfl) (by kernel_rfl) rfl (kax _ _ _ _ _ _ rfl rfl rfl rfl rfl) ?_
         intro w8 hw hk
         have HY8 := hdd hw
         have HBn8 := hdd (show Below w7.heap.size w7 w8 from ((Below.refl _ _).alloc (Nat.le_refl _) _).trans (hk.below (B := w7.heap.size) (by simp) (fun q hq e => by have : q = w7.heap.size := e; omega)))
         have HB8 := hdd (HB7.out.next HBn8.out)
         have HX8 := bhh HBn8.out HX7
         have HI8 := hdd (HI7.out.below HBn8.out)
         have HJ8 := hdd (HJ7.out.below HBn8.out)
         clear hw hk)
      | fail)
     obtain ⟨y, hy⟩ : ∃ y, w7.heap.size = y := ⟨_, rfl⟩
     rw [hy] at HY8
     try simp only [hy]
     clear hy
     have HEq := hdd (keo _ _ _ w8 HJ8.out HI8.out)
     go_wp2_with (first
      | (refine kbs 43 rfl ?_; refine kbf (by kernel_rfl) 45 _ rfl x 0 rfl _ _ (kbe HX8.out) rfl rfl (by kernel_rfl) ?_)
      | (refine kbs 44 rfl ?_; refine kbf (by kernel_rfl) 45 _ rfl y 0 rfl _ _ (kbe HY8.out) rfl rfl (by kernel_rfl) ?_)
      | (go_at_call 20; refine (HEq.out).mono ?_
         rintro en w9 ⟨rfl, hb⟩
         have HB9 := hdd (HB8.out.next hb)
         clear hb)
      | fail)
     go_ret
     exact ⟨rfl, HB9.out⟩
end Go.Proofs.YtknpbekoenbphaaGreatDoor.lawSigns50
