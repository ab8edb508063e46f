/- awake of the laws of mountain returns true. -/
import Derived.Test.YtfklmjcjjdliiaaDoorWkMt8
import Derived.Test.YtfklmjcjjdliiaaDoorWkMt9
namespace Go.Proofs.YtfklmjcjjdliiaaDoor
open Go Go.RowKit Licit

theorem list8 {α : Type} {l : List α} (h : l.length = 8) : ∃ x0 x1 x2 x3 x4 x5 x6 x7, l = [x0, x1, x2, x3, x4, x5, x6, x7] := by
  match l, h with
  | [x0, x1, x2, x3, x4, x5, x6, x7], _ => exact ⟨x0, x1, x2, x3, x4, x5, x6, x7, rfl⟩
theorem checkM_zero {l : List Bs} (h : ∀ x ∈ l, x.length = 32) (hl : l.length ≤ 1024) : checkM l = 0 := checkM_iff.2 ⟨hl, all32_of h⟩

section
variable (x0 x1 x2 x3 x4 x5 x6 x7 : Bs)
theorem aw_peaks : peaksOf [x0, x1, x2, x3, x4] = [pairM (pairM x0 x1) (pairM x2 x3), x4] := by
  have h : hts 5 = [2, 0] := by decide +kernel
  show cutsL (hts 5) _ = _
  rw [h]
  rfl
theorem aw_place : place 5 2 = (0, 2, 0) := by decide +kernel
theorem aw_prove : proveN [x0, x1, x2, x3, x4] 0 2 2 = [x3, pairM x0 x1] := by
  have e0 : besideN [x0, x1, x2, x3, x4] 0 2 0 = x3 := by
    unfold besideN subM
    rw [show 0 + ((2 - 0) / 2 ^ 0 ^^^ 1) * 2 ^ 0 = 3 by decide]
    rfl
  have e1 : besideN [x0, x1, x2, x3, x4] 0 2 1 = pairM x0 x1 := by
    unfold besideN subM
    rw [show 0 + ((2 - 0) / 2 ^ 1 ^^^ 1) * 2 ^ 1 = 0 by decide]
    rfl
  show [besideN _ 0 2 0, besideN _ 0 2 1] = _
  rw [e0, e1]
theorem aw_grow : growN [x0, x1, x2, x3, x4, x5, x6, x7] 3 8 = [x3, pairM (pairM x4 x5) (pairM x6 x7)] := by
  have h1 : hStep 3 8 = 0 := by decide +kernel
  have h2 : hStep 4 8 = 2 := by decide +kernel
  have h : stepsL 3 8 = [0, 2] := by
    rw [stepsL_go (by decide), h1, show 3 + 2 ^ 0 = 4 by decide, stepsL_go (by decide), h2, show 4 + 2 ^ 2 = 8 by decide, stepsL_end (by decide)]
  unfold growN
  rw [h]
  rfl
end

/-- A list of texts that was just built. -/
theorem built_sl {W : World} {cs : Array Value} {xs : List Bs} {n : Nat} (hc : cs.toList = xs.map vS) (hn : cs.size = n) (hm : n ≤ 1000) : IsSl (.slice (some ⟨W.heap.size, 0, none⟩) n n) (xs.map vS) (W.alloc (.cells cs 9)) := by
  have h := own_built (base := 0) (n := n) (new_of W (.cells cs 9)) (Nat.zero_le _) hn (by unfold maxLen; omega)
  have hl : xs.length = n := by
    have := congrArg List.length hc
    rw [List.length_map, Array.length_toList] at this
    omega
  rw [hc] at h
  have h2 : (xs.map vS).length = n := by rw [List.length_map, hl]
  rw [← h2] at h ⊢
  exact IsSl.of_owns h (by rw [h2]; unfold maxLen; omega)

set_option maxHeartbeats 8000000 in
set_option maxRecDepth 100000 in
theorem awake_any49 (w : World) (ht : Tab w) (hz : Tz w) : Calls Tryd.prog 13 #[] w fun e w' => e = .returned (.bool true) ∧ Below w.heap.size w w' := by
  have HLv := Lib.hid (show Calls Tryd.prog 21 #[.string ⟨#[120]⟩, .int .i64 8] w (fun e w' => ∃ v, e = .returned v ∧ w'.ownsRow w.heap.size 9 1 v 8 ((leavesM [120] 8).map vS) ∧ Below w.heap.size w w') from Leaves_any [120] 8 w (by decide) (by decide))
  have h32 := leavesM_32 [120] 8
  obtain ⟨x0, x1, x2, x3, x4, x5, x6, x7, hL⟩ := list8 (leavesM_len [120] 8)
  rw [hL] at HLv h32
  have HM := Lib.hid (fun x hx => max32 (h32 x hx))
  have hx0 := HM.out x0 (by simp)
  have hx1 := HM.out x1 (by simp)
  have hx2 := HM.out x2 (by simp)
  have hx3 := HM.out x3 (by simp)
  have hx4 := HM.out x4 (by simp)
  have h325 : ∀ x ∈ [x0, x1, x2, x3, x4], x.length = 32 := fun x hx => h32 x (List.mem_of_mem_take (show x ∈ List.take 5 [x0, x1, x2, x3, x4, x5, x6, x7] from hx))
  have c5 := checkM_zero h325 (by simp)
  have c8 := checkM_zero h32 (by simp)
  have eS : ofS [x0, x1, x2, x3, x4] = 5 := by unfold ofS; rw [if_pos c5]; rfl
  have eP : ofP [x0, x1, x2, x3, x4] = [pairM (pairM x0 x1) (pairM x2 x3), x4] := by unfold ofP; rw [if_pos c5, aw_peaks]
  have eE : proveE [x0, x1, x2, x3, x4] 2 = 0 := by unfold proveE; rw [if_pos c5]; rfl
  have eR : proveP [x0, x1, x2, x3, x4] 2 = [x3, pairM x0 x1] := by
    unfold proveP
    rw [eE, if_pos rfl]
    rw [show (2 : Int).toNat = 2 from rfl, show [x0, x1, x2, x3, x4].length = 5 from rfl, aw_place]
    exact aw_prove _ _ _ _ _
  have eG : growE [x0, x1, x2, x3, x4, x5, x6, x7] 3 = 0 := by unfold growE; rw [if_pos c8]; rfl
  have eQ : growP [x0, x1, x2, x3, x4, x5, x6, x7] 3 = [x3, pairM (pairM x4 x5) (pairM x6 x7)] := by
    unfold growP
    rw [eG, if_pos rfl]
    exact aw_grow _ _ _ _ _ _ _ _
  have eI : inclB 5 [pairM (pairM x0 x1) (pairM x2 x3), x4] 2 x2 [x3, pairM x0 x1] = true := by
    have h := incl_prove (l := [x0, x1, x2, x3, x4]) (by simp) h325 (i := 2) (by simp)
    rw [aw_peaks] at h
    have h2 : proveN [x0, x1, x2, x3, x4] (place [x0, x1, x2, x3, x4].length 2).2.2 2 (place [x0, x1, x2, x3, x4].length 2).2.1 = [x3, pairM x0 x1] := by
      rw [show [x0, x1, x2, x3, x4].length = 5 from rfl, aw_place]
      exact aw_prove _ _ _ _ _
    rw [h2] at h
    exact h
  obtain ⟨ab, hab⟩ : ∃ ab, pairM x0 x1 = ab := ⟨_, rfl⟩
  obtain ⟨cd, hcd⟩ : ∃ cd, pairM x2 x3 = cd := ⟨_, rfl⟩
  obtain ⟨top, htop⟩ : ∃ top, pairM ab cd = top := ⟨_, rfl⟩
  obtain ⟨gq, hgq⟩ : ∃ gq, pairM (pairM x4 x5) (pairM x6 x7) = gq := ⟨_, rfl⟩
  have habl : ab.length ≤ maxLen := by rw [← hab]; exact max32 (pairM_len _ _)
  have hcdl : cd.length ≤ maxLen := by rw [← hcd]; exact max32 (pairM_len _ _)
  rw [hab, hcd, htop] at eP eI
  rw [hab] at eR
  rw [hgq] at eQ
  have HH1 := Lib.hid (fun W => Gives.alloc (H_built (l := [kPair, x0, x1]) (cs := #[.string ⟨#[112, 97, 105, 114]⟩, .string (B x0), .string (B x1)]) 3 rfl (by decide) rfl (by decide) (by intro x hx; simp at hx; rcases hx with rfl | rfl | rfl; decide; exact hx0; exact hx1) W))
  have HH2 := Lib.hid (fun W => Gives.alloc (H_built (l := [kPair, x2, x3]) (cs := #[.string ⟨#[112, 97, 105, 114]⟩, .string (B x2), .string (B x3)]) 3 rfl (by decide) rfl (by decide) (by intro x hx; simp at hx; rcases hx with rfl | rfl | rfl; decide; exact hx2; exact hx3) W))
  have HH3 := Lib.hid (fun W => Gives.alloc (H_built (l := [kPair, ab, cd]) (cs := #[.string ⟨#[112, 97, 105, 114]⟩, .string (B ab), .string (B cd)]) 3 rfl (by decide) rfl (by decide) (by intro x hx; simp at hx; rcases hx with rfl | rfl | rfl; decide; exact habl; exact hcdl) W))
  rw [show hsh [kPair, x0, x1] = ab from hab] at HH1
  rw [show hsh [kPair, x2, x3] = cd from hcd] at HH2
  rw [show hsh [kPair, ab, cd] = top from htop] at HH3
  have C5 := Lib.hid c5
  have C8 := Lib.hid c8
  have ES := Lib.hid eS
  have EP := Lib.hid eP
  have EE := Lib.hid eE
  have ER := Lib.hid eR
  have EG := Lib.hid eG
  have EQ := Lib.hid eQ
  have EI := Lib.hid eI
  clear hL h32 h325 c5 c8 eS eP eE eR eG eQ eI hab hcd htop hgq
  go_enter Tryd.func13, Tryd.ntmps13
  go_wp2_with fail
  refine HLv.out.mono ?_
  rintro e w1 ⟨v1, rfl, ho1, hb1⟩
  obtain ⟨bl, cl, rfl, hbl, hblz, hblc⟩ := own_some ho1 (by decide)
  have HB1 := Lib.hid hb1
  have HS1 := Lib.hid (IsSl.of_owns (xs := [x0, x1, x2, x3, x4, x5, x6, x7].map vS) ho1 (by simp [maxLen]))
  have q2 := ownCell ho1 (i := 2) (by simp)
  have q3 := ownCell ho1 (i := 3) (by simp)
  have q4 := ownCell ho1 (i := 4) (by simp)
  have q0 := ownCell ho1 (i := 0) (by simp)
  have q1 := ownCell ho1 (i := 1) (by simp)
  clear ho1 hb1
  have HT5 := Lib.hid (show IsSl (.slice (some ⟨bl, 0, none⟩) 5 cl) ([x0, x1, x2, x3, x4].map vS) w1 from sl_take HS1.out (k := 5) (by simp))
  have hcl5 : 5 ≤ cl := by omega
  go_wp2_with fail
  refine (CloneS_any _ [x0, x1, x2, x3, x4] w1 HT5.out (by simp)).mono ?_
  rintro e w2 ⟨v2, rfl, ho2, hb2⟩
  have HB2 := Lib.hid hb2
  have hOf := MtOf_any v2 [x0, x1, x2, x3, x4] w2 (IsSl.of_owns (xs := [x0, x1, x2, x3, x4].map vS) ho2 (by simp [maxLen])) (ht.same (HB1.out.next hb2))
  rw [C5.out, ES.out, EP.out] at hOf
  have HOf := Lib.hid hOf
  obtain ⟨a2, k2, rfl⟩ := own_form ho2
  clear hOf ho2 hb2
  go_wp2_with fail
  refine HOf.out.mono ?_
  rintro e w3 ⟨v3, rfl, hm3, hb3⟩
  have HM3 := Lib.hid hm3
  obtain ⟨pm, rfl, hp3, hn3⟩ := hm3
  obtain ⟨ma, mc, rfl⟩ : ∃ ma mc, pm = .slice ma 2 mc := hp3.formMap
  have hbA : Below w1.heap.size w1 (w3.alloc (.cells #[.int .i64 5, .slice ma 2 mc] 31)) := (HB2.out.next hb3).alloc (HB2.out.next hb3).size _
  have HM3' := Lib.hid (HM3.out.below ((Below.refl _ _).alloc (Nat.le_refl _) (.cells #[.int .i64 5, .slice ma 2 mc] 31)))
  have HX3 := Lib.hid (new_of w3 (.cells #[.int .i64 5, .slice ma 2 mc] 31))
  obtain ⟨W3, hW3⟩ : ∃ W3, w3.alloc (.cells #[.int .i64 5, .slice ma 2 mc] 31) = W3 := ⟨_, rfl⟩
  obtain ⟨T2, hT2⟩ : ∃ T2, w3.heap.size = T2 := ⟨_, rfl⟩
  rw [hW3] at hbA HM3' HX3
  rw [hT2] at HX3
  have HB3 := Lib.hid hbA
  have HC3 := Lib.hid (CloneS_any _ [x0, x1, x2, x3, x4] W3 (HT5.out.below hbA) (by simp))
  clear hp3 hn3 hb3 hbA
  go_wp2_with fail
  clear hW3 hT2
  refine HC3.out.mono ?_
  rintro e w5 ⟨v5, rfl, ho5, hb5⟩
  have HB5 := Lib.hid (HB3.out.next hb5)
  have hPr := MtProve_any v5 [x0, x1, x2, x3, x4] 2 w5 (IsSl.of_owns (xs := [x0, x1, x2, x3, x4].map vS) ho5 (by simp [maxLen])) (SlCap.own ho5) (ht.same (HB1.out.next HB5.out))
  rw [EE.out, ER.out] at hPr
  have HPr := Lib.hid hPr
  have HX5 := Lib.hid ((hb5.block _ (lt_of HX3.out)).trans HX3.out)
  have HM5 := Lib.hid (HM3'.out.below hb5)
  obtain ⟨a5, k5, rfl⟩ := own_form ho5
  clear hPr ho5 hb5
  go_wp2_with fail
  refine HPr.out.mono ?_
  rintro e w6 ⟨v6, rfl, ho6, hb6⟩
  have HB6 := Lib.hid (HB5.out.next hb6)
  have HX6 := Lib.hid ((hb6.block _ (lt_of HX5.out)).trans HX5.out)
  have HM6 := Lib.hid (HM5.out.below hb6)
  have HP6 := Lib.hid (IsSl.of_owns (xs := [x3, ab].map vS) ho6 (by simp [maxLen]))
  obtain ⟨pa, pc, rfl⟩ : ∃ pa pc, v6 = .slice pa 2 pc := own_form ho6
  have HC6 := Lib.hid (CloneS_any _ [x0, x1, x2, x3, x4, x5, x6, x7] w6 (HS1.out.below HB6.out) (by simp))
  clear ho6 hb6
  go_wp2_with fail
  refine HC6.out.mono ?_
  rintro e w7 ⟨v7, rfl, ho7, hb7⟩
  have HB7 := Lib.hid (HB6.out.next hb7)
  have HX7 := Lib.hid ((hb7.block _ (lt_of HX6.out)).trans HX6.out)
  have HM7 := Lib.hid (HM6.out.below hb7)
  have HP7 := Lib.hid (HP6.out.below hb7)
  have hGr := MtGrow_any v7 [x0, x1, x2, x3, x4, x5, x6, x7] 3 w7 (IsSl.of_owns (xs := [x0, x1, x2, x3, x4, x5, x6, x7].map vS) ho7 (by simp [maxLen])) (SlCap.own ho7) (ht.same (HB1.out.next HB7.out)) (hz.same (HB1.out.next HB7.out))
  rw [EG.out, EQ.out] at hGr
  have HGr := Lib.hid hGr
  obtain ⟨a7, k7, rfl⟩ := own_form ho7
  clear hGr ho7 hb7
  go_wp2_with fail
  refine HGr.out.mono ?_
  rintro e w8 ⟨v8, rfl, ho8, hb8⟩
  have HB8 := Lib.hid (HB7.out.next hb8)
  have HX8 := Lib.hid ((hb8.block _ (lt_of HX7.out)).trans HX7.out)
  have HM8 := Lib.hid (HM7.out.below hb8)
  have HP8 := Lib.hid (HP7.out.below hb8)
  obtain ⟨bg, gc, hv8, hbg, hbgz, hgc⟩ := own_some ho8 (by simp)
  have hv8' : v8 = .slice (some ⟨bg, 0, none⟩) 2 gc := hv8
  subst hv8'
  have g8 : w8.cell? ⟨bg, 0, none⟩ = some (.string (B x3)) := ownCell ho8 (i := 0) (by simp)
  have q08 : w8.cell? ⟨bl, 0, none⟩ = some (.string (B x0)) := (HB8.out.cell hblz).trans q0
  have q18 : w8.cell? ⟨bl, 1, none⟩ = some (.string (B x1)) := (HB8.out.cell hblz).trans q1
  have q28 : w8.cell? ⟨bl, 2, none⟩ = some (.string (B x2)) := (HB8.out.cell hblz).trans q2
  have q38 : w8.cell? ⟨bl, 3, none⟩ = some (.string (B x3)) := (HB8.out.cell hblz).trans q3
  have q48 : w8.cell? ⟨bl, 4, none⟩ = some (.string (B x4)) := (HB8.out.cell hblz).trans q4
  have hbl8 : bl < w8.heap.size := Nat.lt_of_lt_of_le hblz HB8.out.size
  clear q0 q1 q2 q3 q4 ho8 hb8 hv8
  go_wp2_with fail
  refine wp_region_held_drew (S := (fun W : World => W.cell? ⟨bl, 0, none⟩ = some (.string (B x0)) ∧ W.cell? ⟨bl, 1, none⟩ = some (.string (B x1)))) (by kernel_rfl) ⟨q08, q18⟩ (fun hHeld => ?_)
  change wpAnyH _ _ _ _ _ _ _ _ w8.drew
  obtain ⟨We, hWe⟩ : ∃ We, w8.drew = We := ⟨_, rfl⟩
  have HBe := Lib.hid (show Below w8.heap.size w8 We from hWe ▸ dr (Below.refl _ _))
  rw [hWe]
  clear hWe hHeld
  have HS0 := Lib.hid (show ∀ Wc, Below w8.heap.size w8 Wc → (fun W : World => W.cell? ⟨bl, 0, none⟩ = some (.string (B x0)) ∧ W.cell? ⟨bl, 1, none⟩ = some (.string (B x1))) Wc from fun Wc hb => ⟨(hb.cell hbl8).trans q08, (hb.cell hbl8).trans q18⟩)
  have hHeld := HS0.out _ HBe.out
  refine take_at 0 30 (oi := ?o1) (v := ?v1) ?hi1 ?hd1 (by kernel_rfl) (by kernel_rfl) (by kernel_rfl) ?hQ1 ?hw1 ?hy1 (by assumption) ?rest1
  case hi1 => simp only [List.getElem?_toArray, List.getElem?_cons_zero]; rfl
  case hd1 => rfl
  case hw1 => kernel_rfl
  case hy1 => intro W hW; (try dsimp only at hW); go_simp <;> with_reducible rfl
  case hQ1 => exact fun _ _ _ h => h
  try simp only [Act.put, List.setIfInBounds_toArray, List.set_cons_zero, List.set_cons_succ]
  refine take_at 1 31 (oi := ?o2) (v := ?v2) ?hi2 ?hd2 (by kernel_rfl) (by kernel_rfl) (by kernel_rfl) ?hQ2 ?hw2 ?hy2 (by assumption) ?rest2
  case hi2 => simp only [List.getElem?_toArray, List.getElem?_cons_succ, List.getElem?_cons_zero]; rfl
  case hd2 => rfl
  case hw2 => kernel_rfl
  case hy2 => intro W hW; (try dsimp only at hW); go_simp <;> with_reducible rfl
  case hQ2 => exact fun _ _ _ h => h
  try simp only [Act.put, List.setIfInBounds_toArray, List.set_cons_zero, List.set_cons_succ]
  refine take_at 2 32 (oi := ?o3) (v := ?v3) ?hi3 ?hd3 (by kernel_rfl) (by kernel_rfl) (by kernel_rfl) ?hQ3 ?hw3 ?hy3 (by assumption) ?rest3
  case hi3 => simp only [List.getElem?_toArray, List.getElem?_cons_succ, List.getElem?_cons_zero]; rfl
  case hd3 => rfl
  case hw3 => kernel_rfl
  case hy3 => intro W hW; (try dsimp only at hW); go_simp <;> with_reducible rfl
  case hQ3 => exact fun _ _ _ h => h
  try simp only [Act.put, List.setIfInBounds_toArray, List.set_cons_zero, List.set_cons_succ]
  refine take_at 3 33 (oi := ?o4) (v := ?v4) ?hi4 ?hd4 (by kernel_rfl) (by kernel_rfl) (by kernel_rfl) ?hQ4 ?hw4 ?hy4 (by assumption) ?rest4
  case hi4 => simp only [List.getElem?_toArray, List.getElem?_cons_succ, List.getElem?_cons_zero]; rfl
  case hd4 => rfl
  case hw4 => kernel_rfl
  case hy4 => intro W hW; (try dsimp only at hW); go_simp <;> with_reducible rfl
  case hQ4 => exact fun _ _ _ h => h
  try simp only [Act.put, List.setIfInBounds_toArray, List.set_cons_zero, List.set_cons_succ]
  refine take_at 4 34 (oi := ?o5) (v := ?v5) ?hi5 ?hd5 (by kernel_rfl) (by kernel_rfl) (by kernel_rfl) ?hQ5 ?hw5 ?hy5 (by assumption) ?rest5
  case hi5 => simp only [List.getElem?_toArray, List.getElem?_cons_succ, List.getElem?_cons_zero]; rfl
  case hd5 => rfl
  case hw5 => kernel_rfl
  case hy5 => intro W hW; (try dsimp only at hW); go_simp <;> with_reducible rfl
  case hQ5 => exact fun _ _ _ h => h
  try simp only [Act.put, List.setIfInBounds_toArray, List.set_cons_zero, List.set_cons_succ]
  refine take_at 5 35 (oi := ?o6) (v := ?v6) ?hi6 ?hd6 (by kernel_rfl) (by kernel_rfl) (by kernel_rfl) ?hQ6 ?hw6 ?hy6 (by assumption) ?rest6
  case hi6 => simp only [List.getElem?_toArray, List.getElem?_cons_succ, List.getElem?_cons_zero]; rfl
  case hd6 => rfl
  case hw6 => kernel_rfl
  case hy6 => intro W hW; (try dsimp only at hW); go_simp <;> with_reducible rfl
  case hQ6 => exact fun _ _ _ h => h
  try simp only [Act.put, List.setIfInBounds_toArray, List.set_cons_zero, List.set_cons_succ]
  refine wpAnyH_ready (rs := [6]) (by kernel_rfl) (by simp) ?_
  refine AllReadyH.cons rfl (fun K hK => ?_) AllReadyH.nil
  go_simp
  obtain ⟨Wf, hf⟩ : ∃ Wf, We.alloc (.cells #[.string ⟨#[112, 97, 105, 114]⟩, .string (B x0), .string (B x1)] 9) = Wf := ⟨_, rfl⟩
  have HBf := Lib.hid (show Below w8.heap.size w8 Wf from hf ▸ HBe.out.alloc HBe.out.size _)
  have Hf := Lib.hid hf
  rw [hf]
  clear hf
  refine hK.out _ _ (HS0.out _ HBf.out) (fun hHeld => ?_)
  clear hK K
  try simp only [Act.put, List.setIfInBounds_toArray, List.set_cons_zero, List.set_cons_succ]
  refine wpAnyH_ready (rs := [7]) (by kernel_rfl) (by simp) ?_
  refine AllReadyH.cons rfl (fun K hK => ?_) AllReadyH.nil
  go_simp
  have h7 := HH1.out We
  rw [Hf.out] at h7
  refine h7.mono ?_
  rintro e w9 ⟨rfl, hb⟩
  have hb9 : Below w8.heap.size w8 w9 := HBe.out.trans (hb.mono HBe.out.size)
  clear hb h7
  refine hK.out _ _ (HS0.out _ hb9) (fun hHeld => ?_)
  clear hK K
  try simp only [Act.put, List.setIfInBounds_toArray, List.set_cons_zero, List.set_cons_succ]
  refine take_at 8 8 (oi := ?o7) (v := ?v7) ?hi7 ?hd7 (by kernel_rfl) (by kernel_rfl) (by kernel_rfl) ?hQ7 ?hw7 ?hy7 (by assumption) ?rest7
  case hi7 => simp only [List.getElem?_toArray, List.getElem?_cons_succ, List.getElem?_cons_zero]; rfl
  case hd7 => rfl
  case hw7 => kernel_rfl
  case hy7 => intro W hW; (try dsimp only at hW); go_simp <;> with_reducible rfl
  case hQ7 => exact fun _ _ _ h => h
  try simp only [Act.put, List.setIfInBounds_toArray, List.set_cons_zero, List.set_cons_succ]
  refine wpAnyH_done (by kernel_rfl) ?_ _
  simp only [Exit.then]
  have HB9 := Lib.hid (HB8.out.next hb9)
  have hX9 := (hb9.block _ (lt_of HX8.out)).trans HX8.out
  have HM9 := Lib.hid (HM8.out.below hb9)
  have HP9 := Lib.hid (HP8.out.below hb9)
  have hT9 : T2 < w9.heap.size := lt_of hX9
  have hbl9 : bl < w9.heap.size := Nat.lt_of_lt_of_le hbl8 hb9.size
  have hbg9 : bg < w9.heap.size := Nat.lt_of_lt_of_le hbgz hb9.size
  have g9 := (hb9.cell hbgz).trans g8
  have q29 := (hb9.cell hbl8).trans q28
  have q39 := (hb9.cell hbl8).trans q38
  have q49 := (hb9.cell hbl8).trans q48
  obtain ⟨m0, m1⟩ := mtC hX9
  have HS := Lib.hid (show ∀ Wc, Below w9.heap.size w9 Wc → (fun W : World => (W.cell? ⟨T2, 0, none⟩ = some (.int .i64 5) ∧ W.cell? ⟨T2, 1, none⟩ = some (.slice ma 2 mc)) ∧ (W.cell? ⟨bl, 2, none⟩ = some (.string (B x2)) ∧ W.cell? ⟨bl, 3, none⟩ = some (.string (B x3)) ∧ W.cell? ⟨bl, 4, none⟩ = some (.string (B x4))) ∧ W.cell? ⟨bg, 0, none⟩ = some (.string (B x3))) Wc from
    fun Wc hb => ⟨⟨(hb.cell hT9).trans m0, (hb.cell hT9).trans m1⟩, ⟨(hb.cell hbl9).trans q29, (hb.cell hbl9).trans q39, (hb.cell hbl9).trans q49⟩, (hb.cell hbg9).trans g9⟩)
  have HB0 := Lib.hid (Below.refl w9.heap.size w9)
  clear q08 q18 q28 q38 q48 g8 q29 q39 q49 g9 m0 m1 hX9 hb9
  go_wp2
  refine wp_region_held_drew (S := (fun W : World => (W.cell? ⟨T2, 0, none⟩ = some (.int .i64 5) ∧ W.cell? ⟨T2, 1, none⟩ = some (.slice ma 2 mc)) ∧ (W.cell? ⟨bl, 2, none⟩ = some (.string (B x2)) ∧ W.cell? ⟨bl, 3, none⟩ = some (.string (B x3)) ∧ W.cell? ⟨bl, 4, none⟩ = some (.string (B x4))) ∧ W.cell? ⟨bg, 0, none⟩ = some (.string (B x3)))) (by kernel_rfl) (HS.out _ (dr HB0.out)) (fun hHeld => ?_)
  change wpAnyH _ _ _ _ _ _ _ _ w9.drew
  obtain ⟨Wd, hWd⟩ : ∃ Wd, w9.drew = Wd := ⟨_, rfl⟩
  have HBd := Lib.hid (show Below w9.heap.size w9 Wd from hWd ▸ dr (Below.refl _ _))
  rw [hWd]
  clear hWd hHeld
  have hHeld := HS.out _ HBd.out
  refine take_at 0 38 (oi := ?o8) (v := ?v8) ?hi8 ?hd8 (by kernel_rfl) (by kernel_rfl) (by kernel_rfl) ?hQ8 ?hw8 ?hy8 (by assumption) ?rest8
  case hi8 => simp only [List.getElem?_toArray, List.getElem?_cons_zero]; rfl
  case hd8 => rfl
  case hw8 => kernel_rfl
  case hy8 => intro W hW; (try dsimp only at hW); go_simp <;> with_reducible rfl
  case hQ8 => exact fun _ _ _ h => h
  try simp only [Act.put, List.setIfInBounds_toArray, List.set_cons_zero, List.set_cons_succ]
  refine take_at 1 39 (oi := ?o9) (v := ?v9) ?hi9 ?hd9 (by kernel_rfl) (by kernel_rfl) (by kernel_rfl) ?hQ9 ?hw9 ?hy9 (by assumption) ?rest9
  case hi9 => simp only [List.getElem?_toArray, List.getElem?_cons_succ, List.getElem?_cons_zero]; rfl
  case hd9 => rfl
  case hw9 => kernel_rfl
  case hy9 => intro W hW; (try dsimp only at hW); go_simp <;> with_reducible rfl
  case hQ9 => exact fun _ _ _ h => h
  try simp only [Act.put, List.setIfInBounds_toArray, List.set_cons_zero, List.set_cons_succ]
  refine take_at 2 40 (oi := ?o10) (v := ?v10) ?hi10 ?hd10 (by kernel_rfl) (by kernel_rfl) (by kernel_rfl) ?hQ10 ?hw10 ?hy10 (by assumption) ?rest10
  case hi10 => simp only [List.getElem?_toArray, List.getElem?_cons_succ, List.getElem?_cons_zero]; rfl
  case hd10 => rfl
  case hw10 => kernel_rfl
  case hy10 => intro W hW; (try dsimp only at hW); go_simp <;> with_reducible rfl
  case hQ10 => exact fun _ _ _ h => h
  try simp only [Act.put, List.setIfInBounds_toArray, List.set_cons_zero, List.set_cons_succ]
  refine take_at 3 41 (oi := ?o11) (v := ?v11) ?hi11 ?hd11 (by kernel_rfl) (by kernel_rfl) (by kernel_rfl) ?hQ11 ?hw11 ?hy11 (by assumption) ?rest11
  case hi11 => simp only [List.getElem?_toArray, List.getElem?_cons_succ, List.getElem?_cons_zero]; rfl
  case hd11 => rfl
  case hw11 => kernel_rfl
  case hy11 => intro W hW; (try dsimp only at hW); go_simp <;> with_reducible rfl
  case hQ11 => exact fun _ _ _ h => h
  try simp only [Act.put, List.setIfInBounds_toArray, List.set_cons_zero, List.set_cons_succ]
  refine take_at 4 42 (oi := ?o12) (v := ?v12) ?hi12 ?hd12 (by kernel_rfl) (by kernel_rfl) (by kernel_rfl) ?hQ12 ?hw12 ?hy12 (by assumption) ?rest12
  case hi12 => simp only [List.getElem?_toArray, List.getElem?_cons_succ, List.getElem?_cons_zero]; rfl
  case hd12 => rfl
  case hw12 => kernel_rfl
  case hy12 => intro W hW; (try dsimp only at hW); go_simp <;> with_reducible rfl
  case hQ12 => exact fun _ _ _ h => h
  try simp only [Act.put, List.setIfInBounds_toArray, List.set_cons_zero, List.set_cons_succ]
  refine take_at 5 43 (oi := ?o13) (v := ?v13) ?hi13 ?hd13 (by kernel_rfl) (by kernel_rfl) (by kernel_rfl) ?hQ13 ?hw13 ?hy13 (by assumption) ?rest13
  case hi13 => simp only [List.getElem?_toArray, List.getElem?_cons_succ, List.getElem?_cons_zero]; rfl
  case hd13 => rfl
  case hw13 => kernel_rfl
  case hy13 => intro W hW; (try dsimp only at hW); go_simp <;> with_reducible rfl
  case hQ13 => exact fun _ _ _ h => h
  try simp only [Act.put, List.setIfInBounds_toArray, List.set_cons_zero, List.set_cons_succ]
  refine take_at 6 44 (oi := ?o14) (v := ?v14) ?hi14 ?hd14 (by kernel_rfl) (by kernel_rfl) (by kernel_rfl) ?hQ14 ?hw14 ?hy14 (by assumption) ?rest14
  case hi14 => simp only [List.getElem?_toArray, List.getElem?_cons_succ, List.getElem?_cons_zero]; rfl
  case hd14 => rfl
  case hw14 => kernel_rfl
  case hy14 => intro W hW; (try dsimp only at hW); go_simp <;> with_reducible rfl
  case hQ14 => exact fun _ _ _ h => h
  try simp only [Act.put, List.setIfInBounds_toArray, List.set_cons_zero, List.set_cons_succ]
  refine take_at 7 45 (oi := ?o15) (v := ?v15) ?hi15 ?hd15 (by kernel_rfl) (by kernel_rfl) (by kernel_rfl) ?hQ15 ?hw15 ?hy15 (by assumption) ?rest15
  case hi15 => simp only [List.getElem?_toArray, List.getElem?_cons_succ, List.getElem?_cons_zero]; rfl
  case hd15 => rfl
  case hw15 => kernel_rfl
  case hy15 => intro W hW; (try dsimp only at hW); go_simp <;> with_reducible rfl
  case hQ15 => exact fun _ _ _ h => h
  try simp only [Act.put, List.setIfInBounds_toArray, List.set_cons_zero, List.set_cons_succ]
  refine take_at 8 46 (oi := ?o16) (v := ?v16) ?hi16 ?hd16 (by kernel_rfl) (by kernel_rfl) (by kernel_rfl) ?hQ16 ?hw16 ?hy16 (by assumption) ?rest16
  case hi16 => simp only [List.getElem?_toArray, List.getElem?_cons_succ, List.getElem?_cons_zero]; rfl
  case hd16 => rfl
  case hw16 => kernel_rfl
  case hy16 => intro W hW; (try dsimp only at hW); go_simp <;> with_reducible rfl
  case hQ16 => exact fun _ _ _ h => h
  try simp only [Act.put, List.setIfInBounds_toArray, List.set_cons_zero, List.set_cons_succ]
  refine take_at 9 47 (oi := ?o17) (v := ?v17) ?hi17 ?hd17 (by kernel_rfl) (by kernel_rfl) (by kernel_rfl) ?hQ17 ?hw17 ?hy17 (by assumption) ?rest17
  case hi17 => simp only [List.getElem?_toArray, List.getElem?_cons_succ, List.getElem?_cons_zero]; rfl
  case hd17 => rfl
  case hw17 => kernel_rfl
  case hy17 => intro W hW; (try dsimp only at hW); go_simp <;> with_reducible rfl
  case hQ17 => exact fun _ _ _ h => h
  try simp only [Act.put, List.setIfInBounds_toArray, List.set_cons_zero, List.set_cons_succ]
  refine take_at 10 48 (oi := ?o18) (v := ?v18) ?hi18 ?hd18 (by kernel_rfl) (by kernel_rfl) (by kernel_rfl) ?hQ18 ?hw18 ?hy18 (by assumption) ?rest18
  case hi18 => simp only [List.getElem?_toArray, List.getElem?_cons_succ, List.getElem?_cons_zero]; rfl
  case hd18 => rfl
  case hw18 => kernel_rfl
  case hy18 => intro W hW; (try dsimp only at hW); go_simp <;> with_reducible rfl
  case hQ18 => exact fun _ _ _ h => h
  try simp only [Act.put, List.setIfInBounds_toArray, List.set_cons_zero, List.set_cons_succ]
  refine take_at 11 49 (oi := ?o19) (v := ?v19) ?hi19 ?hd19 (by kernel_rfl) (by kernel_rfl) (by kernel_rfl) ?hQ19 ?hw19 ?hy19 (by assumption) ?rest19
  case hi19 => simp only [List.getElem?_toArray, List.getElem?_cons_succ, List.getElem?_cons_zero]; rfl
  case hd19 => rfl
  case hw19 => kernel_rfl
  case hy19 => intro W hW; (try dsimp only at hW); go_simp <;> with_reducible rfl
  case hQ19 => exact fun _ _ _ h => h
  try simp only [Act.put, List.setIfInBounds_toArray, List.set_cons_zero, List.set_cons_succ]
  refine take_at 12 50 (oi := ?o20) (v := ?v20) ?hi20 ?hd20 (by kernel_rfl) (by kernel_rfl) (by kernel_rfl) ?hQ20 ?hw20 ?hy20 (by assumption) ?rest20
  case hi20 => simp only [List.getElem?_toArray, List.getElem?_cons_succ, List.getElem?_cons_zero]; rfl
  case hd20 => rfl
  case hw20 => kernel_rfl
  case hy20 => intro W hW; (try dsimp only at hW); go_simp <;> with_reducible rfl
  case hQ20 => exact fun _ _ _ h => h
  try simp only [Act.put, List.setIfInBounds_toArray, List.set_cons_zero, List.set_cons_succ]
  refine take_at 13 51 (oi := ?o21) (v := ?v21) ?hi21 ?hd21 (by kernel_rfl) (by kernel_rfl) (by kernel_rfl) ?hQ21 ?hw21 ?hy21 (by assumption) ?rest21
  case hi21 => simp only [List.getElem?_toArray, List.getElem?_cons_succ, List.getElem?_cons_zero]; rfl
  case hd21 => rfl
  case hw21 => kernel_rfl
  case hy21 => intro W hW; (try dsimp only at hW); go_simp <;> with_reducible rfl
  case hQ21 => exact fun _ _ _ h => h
  try simp only [Act.put, List.setIfInBounds_toArray, List.set_cons_zero, List.set_cons_succ]
  refine take_at 14 52 (oi := ?o22) (v := ?v22) ?hi22 ?hd22 (by kernel_rfl) (by kernel_rfl) (by kernel_rfl) ?hQ22 ?hw22 ?hy22 (by assumption) ?rest22
  case hi22 => simp only [List.getElem?_toArray, List.getElem?_cons_succ, List.getElem?_cons_zero]; rfl
  case hd22 => rfl
  case hw22 => kernel_rfl
  case hy22 => intro W hW; (try dsimp only at hW); go_simp <;> with_reducible rfl
  case hQ22 => exact fun _ _ _ h => h
  try simp only [Act.put, List.setIfInBounds_toArray, List.set_cons_zero, List.set_cons_succ]
  refine take_at 15 53 (oi := ?o23) (v := ?v23) ?hi23 ?hd23 (by kernel_rfl) (by kernel_rfl) (by kernel_rfl) ?hQ23 ?hw23 ?hy23 (by assumption) ?rest23
  case hi23 => simp only [List.getElem?_toArray, List.getElem?_cons_succ, List.getElem?_cons_zero]; rfl
  case hd23 => rfl
  case hw23 => kernel_rfl
  case hy23 => intro W hW; (try dsimp only at hW); go_simp <;> with_reducible rfl
  case hQ23 => exact fun _ _ _ h => h
  try simp only [Act.put, List.setIfInBounds_toArray, List.set_cons_zero, List.set_cons_succ]
  refine take_at 16 54 (oi := ?o24) (v := ?v24) ?hi24 ?hd24 (by kernel_rfl) (by kernel_rfl) (by kernel_rfl) ?hQ24 ?hw24 ?hy24 (by assumption) ?rest24
  case hi24 => simp only [List.getElem?_toArray, List.getElem?_cons_succ, List.getElem?_cons_zero]; rfl
  case hd24 => rfl
  case hw24 => kernel_rfl
  case hy24 => intro W hW; (try dsimp only at hW); go_simp <;> with_reducible rfl
  case hQ24 => exact fun _ _ _ h => h
  try simp only [Act.put, List.setIfInBounds_toArray, List.set_cons_zero, List.set_cons_succ]
  refine take_at 17 55 (oi := ?o25) (v := ?v25) ?hi25 ?hd25 (by kernel_rfl) (by kernel_rfl) (by kernel_rfl) ?hQ25 ?hw25 ?hy25 (by assumption) ?rest25
  case hi25 => simp only [List.getElem?_toArray, List.getElem?_cons_succ, List.getElem?_cons_zero]; rfl
  case hd25 => rfl
  case hw25 => kernel_rfl
  case hy25 => intro W hW; (try dsimp only at hW); go_simp <;> with_reducible rfl
  case hQ25 => exact fun _ _ _ h => h
  try simp only [Act.put, List.setIfInBounds_toArray, List.set_cons_zero, List.set_cons_succ]
  refine take_at 18 56 (oi := ?o26) (v := ?v26) ?hi26 ?hd26 (by kernel_rfl) (by kernel_rfl) (by kernel_rfl) ?hQ26 ?hw26 ?hy26 (by assumption) ?rest26
  case hi26 => simp only [List.getElem?_toArray, List.getElem?_cons_succ, List.getElem?_cons_zero]; rfl
  case hd26 => rfl
  case hw26 => kernel_rfl
  case hy26 => intro W hW; (try dsimp only at hW); go_simp <;> with_reducible rfl
  case hQ26 => exact fun _ _ _ h => h
  try simp only [Act.put, List.setIfInBounds_toArray, List.set_cons_zero, List.set_cons_succ]
  refine take_at 19 57 (oi := ?o27) (v := ?v27) ?hi27 ?hd27 (by kernel_rfl) (by kernel_rfl) (by kernel_rfl) ?hQ27 ?hw27 ?hy27 (by assumption) ?rest27
  case hi27 => simp only [List.getElem?_toArray, List.getElem?_cons_succ, List.getElem?_cons_zero]; rfl
  case hd27 => rfl
  case hw27 => kernel_rfl
  case hy27 => intro W hW; (try dsimp only at hW); go_simp <;> with_reducible rfl
  case hQ27 => exact fun _ _ _ h => h
  try simp only [Act.put, List.setIfInBounds_toArray, List.set_cons_zero, List.set_cons_succ]
  refine take_at 20 58 (oi := ?o28) (v := ?v28) ?hi28 ?hd28 (by kernel_rfl) (by kernel_rfl) (by kernel_rfl) ?hQ28 ?hw28 ?hy28 (by assumption) ?rest28
  case hi28 => simp only [List.getElem?_toArray, List.getElem?_cons_succ, List.getElem?_cons_zero]; rfl
  case hd28 => rfl
  case hw28 => kernel_rfl
  case hy28 => intro W hW; (try dsimp only at hW); go_simp <;> with_reducible rfl
  case hQ28 => exact fun _ _ _ h => h
  try simp only [Act.put, List.setIfInBounds_toArray, List.set_cons_zero, List.set_cons_succ]
  refine take_at 21 59 (oi := ?o29) (v := ?v29) ?hi29 ?hd29 (by kernel_rfl) (by kernel_rfl) (by kernel_rfl) ?hQ29 ?hw29 ?hy29 (by assumption) ?rest29
  case hi29 => simp only [List.getElem?_toArray, List.getElem?_cons_succ, List.getElem?_cons_zero]; rfl
  case hd29 => rfl
  case hw29 => kernel_rfl
  case hy29 => intro W hW; (try dsimp only at hW); go_simp <;> with_reducible rfl
  case hQ29 => exact fun _ _ _ h => h
  try simp only [Act.put, List.setIfInBounds_toArray, List.set_cons_zero, List.set_cons_succ]
  refine take_at 22 60 (oi := ?o30) (v := ?v30) ?hi30 ?hd30 (by kernel_rfl) (by kernel_rfl) (by kernel_rfl) ?hQ30 ?hw30 ?hy30 (by assumption) ?rest30
  case hi30 => simp only [List.getElem?_toArray, List.getElem?_cons_succ, List.getElem?_cons_zero]; rfl
  case hd30 => rfl
  case hw30 => kernel_rfl
  case hy30 => intro W hW; (try dsimp only at hW); go_simp <;> with_reducible rfl
  case hQ30 => exact fun _ _ _ h => h
  try simp only [Act.put, List.setIfInBounds_toArray, List.set_cons_zero, List.set_cons_succ]
  refine take_at 23 61 (oi := ?o31) (v := ?v31) ?hi31 ?hd31 (by kernel_rfl) (by kernel_rfl) (by kernel_rfl) ?hQ31 ?hw31 ?hy31 (by assumption) ?rest31
  case hi31 => simp only [List.getElem?_toArray, List.getElem?_cons_succ, List.getElem?_cons_zero]; rfl
  case hd31 => rfl
  case hw31 => kernel_rfl
  case hy31 => intro W hW; (try dsimp only at hW); go_simp <;> with_reducible rfl
  case hQ31 => exact fun _ _ _ h => h
  try simp only [Act.put, List.setIfInBounds_toArray, List.set_cons_zero, List.set_cons_succ]
  refine take_at 24 62 (oi := ?o32) (v := ?v32) ?hi32 ?hd32 (by kernel_rfl) (by kernel_rfl) (by kernel_rfl) ?hQ32 ?hw32 ?hy32 (by assumption) ?rest32
  case hi32 => simp only [List.getElem?_toArray, List.getElem?_cons_succ, List.getElem?_cons_zero]; rfl
  case hd32 => rfl
  case hw32 => kernel_rfl
  case hy32 => intro W hW; (try dsimp only at hW); go_simp <;> with_reducible rfl
  case hQ32 => exact fun _ _ _ h => h
  try simp only [Act.put, List.setIfInBounds_toArray, List.set_cons_zero, List.set_cons_succ]
  refine take_at 29 67 (oi := ?o33) (v := ?v33) ?hi33 ?hd33 (by kernel_rfl) (by kernel_rfl) (by kernel_rfl) ?hQ33 ?hw33 ?hy33 (by assumption) ?rest33
  case hi33 => simp only [List.getElem?_toArray, List.getElem?_cons_succ, List.getElem?_cons_zero]; rfl
  case hd33 => rfl
  case hw33 => kernel_rfl
  case hy33 => intro W hW; (try dsimp only at hW); go_simp <;> with_reducible rfl
  case hQ33 => exact fun _ _ _ h => h
  try simp only [Act.put, List.setIfInBounds_toArray, List.set_cons_zero, List.set_cons_succ]
  refine take_at 30 68 (oi := ?o34) (v := ?v34) ?hi34 ?hd34 (by kernel_rfl) (by kernel_rfl) (by kernel_rfl) ?hQ34 ?hw34 ?hy34 (by assumption) ?rest34
  case hi34 => simp only [List.getElem?_toArray, List.getElem?_cons_succ, List.getElem?_cons_zero]; rfl
  case hd34 => rfl
  case hw34 => kernel_rfl
  case hy34 => intro W hW; (try dsimp only at hW); go_simp <;> with_reducible rfl
  case hQ34 => exact fun _ _ _ h => h
  try simp only [Act.put, List.setIfInBounds_toArray, List.set_cons_zero, List.set_cons_succ]
  refine take_at 31 69 (oi := ?o35) (v := ?v35) ?hi35 ?hd35 (by kernel_rfl) (by kernel_rfl) (by kernel_rfl) ?hQ35 ?hw35 ?hy35 (by assumption) ?rest35
  case hi35 => simp only [List.getElem?_toArray, List.getElem?_cons_succ, List.getElem?_cons_zero]; rfl
  case hd35 => rfl
  case hw35 => kernel_rfl
  case hy35 => intro W hW; (try dsimp only at hW); go_simp <;> with_reducible rfl
  case hQ35 => exact fun _ _ _ h => h
  try simp only [Act.put, List.setIfInBounds_toArray, List.set_cons_zero, List.set_cons_succ]
  refine wpAnyH_ready (rs := [25]) (by kernel_rfl) (by simp) ?_
  refine AllReadyH.cons rfl (fun K hK => ?_) AllReadyH.nil
  go_simp
  obtain ⟨W25, h25⟩ : ∃ W25, Wd.alloc (.cells #[.string ⟨#[112, 97, 105, 114]⟩, .string (B x2), .string (B x3)] 9) = W25 := ⟨_, rfl⟩
  have HB25 := Lib.hid (show Below w9.heap.size w9 W25 from h25 ▸ HBd.out.alloc HBd.out.size _)
  have HL25 := Lib.hid (show IsSl (.slice (some ⟨Wd.heap.size, 0, none⟩) 3 3) (([kPair, x2, x3] : List Bs).map vS) W25 from h25 ▸ built_sl (W := Wd) (cs := #[.string ⟨#[112, 97, 105, 114]⟩, .string (B x2), .string (B x3)]) rfl rfl (by decide))
  have H25 := Lib.hid h25
  rw [h25]
  clear h25
  refine hK.out _ _ (HS.out _ HB25.out) (fun hHeld => ?_)
  clear hK K
  try simp only [Act.put, List.setIfInBounds_toArray, List.set_cons_zero, List.set_cons_succ]
  refine wpAnyH_ready (rs := [26]) (by kernel_rfl) (by simp) ?_
  refine AllReadyH.cons rfl (fun K hK => ?_) AllReadyH.nil
  go_simp
  have h26 := HH2.out Wd
  rw [H25.out] at h26
  refine h26.mono ?_
  rintro e W26 ⟨rfl, hb⟩
  have HB26 := Lib.hid (HBd.out.trans (hb.mono HBd.out.size))
  clear hb h26
  refine hK.out _ _ (HS.out _ HB26.out) (fun hHeld => ?_)
  clear hK K
  try simp only [Act.put, List.setIfInBounds_toArray, List.set_cons_zero, List.set_cons_succ]
  refine wpAnyH_ready (rs := [27]) (by kernel_rfl) (by simp) ?_
  refine AllReadyH.cons rfl (fun K hK => ?_) AllReadyH.nil
  go_simp
  obtain ⟨W27, h27⟩ : ∃ W27, W26.alloc (.cells #[.string ⟨#[112, 97, 105, 114]⟩, .string (B ab), .string (B cd)] 9) = W27 := ⟨_, rfl⟩
  have HB27 := Lib.hid (show Below w9.heap.size w9 W27 from h27 ▸ HB26.out.alloc HB26.out.size _)
  have HL27 := Lib.hid (show IsSl (.slice (some ⟨W26.heap.size, 0, none⟩) 3 3) (([kPair, ab, cd] : List Bs).map vS) W27 from h27 ▸ built_sl (W := W26) (cs := #[.string ⟨#[112, 97, 105, 114]⟩, .string (B ab), .string (B cd)]) rfl rfl (by decide))
  have H27 := Lib.hid h27
  rw [h27]
  clear h27
  refine hK.out _ _ (HS.out _ HB27.out) (fun hHeld => ?_)
  clear hK K
  try simp only [Act.put, List.setIfInBounds_toArray, List.set_cons_zero, List.set_cons_succ]
  refine wpAnyH_ready (rs := [28]) (by kernel_rfl) (by simp) ?_
  refine AllReadyH.cons rfl (fun K hK => ?_) AllReadyH.nil
  go_simp
  have h28 := HH3.out W26
  rw [H27.out] at h28
  refine h28.mono ?_
  rintro e W28 ⟨rfl, hb⟩
  have HB28 := Lib.hid (HB26.out.trans (hb.mono HB26.out.size))
  clear hb h28
  refine hK.out _ _ (HS.out _ HB28.out) (fun hHeld => ?_)
  clear hK K
  try simp only [Act.put, List.setIfInBounds_toArray, List.set_cons_zero, List.set_cons_succ]
  refine wpAnyH_ready (rs := [32]) (by kernel_rfl) (by simp) ?_
  refine AllReadyH.cons rfl (fun K hK => ?_) AllReadyH.nil
  go_simp
  obtain ⟨W32, h32⟩ : ∃ W32, W28.alloc (.cells #[.string (B top), .string (B x4)] 9) = W32 := ⟨_, rfl⟩
  have HB32 := Lib.hid (show Below w9.heap.size w9 W32 from h32 ▸ HB28.out.alloc HB28.out.size _)
  have HL32 := Lib.hid (show IsSl (.slice (some ⟨W28.heap.size, 0, none⟩) 2 2) (([top, x4] : List Bs).map vS) W32 from h32 ▸ built_sl (W := W28) (cs := #[.string (B top), .string (B x4)]) rfl rfl (by decide))
  have H32 := Lib.hid h32
  rw [h32]
  clear h32
  refine hK.out _ _ (HS.out _ HB32.out) (fun hHeld => ?_)
  clear hK K
  try simp only [Act.put, List.setIfInBounds_toArray, List.set_cons_zero, List.set_cons_succ]
  refine wpAnyH_ready (rs := [33]) (by kernel_rfl) (by simp) ?_
  refine AllReadyH.cons rfl (fun K hK => ?_) AllReadyH.nil
  go_simp
  have h33 := Equal_any _ _ [top, x4] [top, x4] W32 (show IsSl (.slice ma 2 mc) ([top, x4].map vS) W32 by obtain ⟨p', e', h', _⟩ := HM9.out; simp only [Value.agg.injEq, Array.mk.injEq, List.cons.injEq, and_true, true_and] at e'; subst e'; exact h'.below HB32.out) HL32.out
  rw [decide_eq_true rfl] at h33
  refine h33.mono ?_
  rintro e W33 ⟨rfl, q, rfl⟩
  have HB33 := Lib.hid (below_drewN HB32.out q)
  clear h33
  refine hK.out _ _ (HS.out _ HB33.out) (fun hHeld => ?_)
  clear hK K
  try simp only [Act.put, List.setIfInBounds_toArray, List.set_cons_zero, List.set_cons_succ]
  refine take_at 34 72 (oi := ?o36) (v := ?v36) ?hi36 ?hd36 (by kernel_rfl) (by kernel_rfl) (by kernel_rfl) ?hQ36 ?hw36 ?hy36 (by assumption) ?rest36
  case hi36 => simp only [List.getElem?_toArray, List.getElem?_cons_succ, List.getElem?_cons_zero]; rfl
  case hd36 => rfl
  case hw36 => kernel_rfl
  case hy36 => intro W hW; (try dsimp only at hW); go_simp <;> with_reducible rfl
  case hQ36 => exact fun _ _ _ h => h
  try simp only [Act.put, List.setIfInBounds_toArray, List.set_cons_zero, List.set_cons_succ]
  refine take_at 35 73 (oi := ?o37) (v := ?v37) ?hi37 ?hd37 (by kernel_rfl) (by kernel_rfl) (by kernel_rfl) ?hQ37 ?hw37 ?hy37 (by assumption) ?rest37
  case hi37 => simp only [List.getElem?_toArray, List.getElem?_cons_succ, List.getElem?_cons_zero]; rfl
  case hd37 => rfl
  case hw37 => kernel_rfl
  case hy37 => intro W hW; (try dsimp only at hW); go_simp <;> with_reducible rfl
  case hQ37 => exact fun _ _ _ h => h
  try simp only [Act.put, List.setIfInBounds_toArray, List.set_cons_zero, List.set_cons_succ]
  refine take_at 36 74 (oi := ?o38) (v := ?v38) ?hi38 ?hd38 (by kernel_rfl) (by kernel_rfl) (by kernel_rfl) ?hQ38 ?hw38 ?hy38 (by assumption) ?rest38
  case hi38 => simp only [List.getElem?_toArray, List.getElem?_cons_succ, List.getElem?_cons_zero]; rfl
  case hd38 => rfl
  case hw38 => kernel_rfl
  case hy38 => intro W hW; (try dsimp only at hW); go_simp <;> with_reducible rfl
  case hQ38 => exact fun _ _ _ h => h
  try simp only [Act.put, List.setIfInBounds_toArray, List.set_cons_zero, List.set_cons_succ]
  refine take_at 37 75 (oi := ?o39) (v := ?v39) ?hi39 ?hd39 (by kernel_rfl) (by kernel_rfl) (by kernel_rfl) ?hQ39 ?hw39 ?hy39 (by assumption) ?rest39
  case hi39 => simp only [List.getElem?_toArray, List.getElem?_cons_succ, List.getElem?_cons_zero]; rfl
  case hd39 => rfl
  case hw39 => kernel_rfl
  case hy39 => intro W hW; (try dsimp only at hW); go_simp <;> with_reducible rfl
  case hQ39 => exact fun _ _ _ h => h
  try simp only [Act.put, List.setIfInBounds_toArray, List.set_cons_zero, List.set_cons_succ]
  refine take_at 38 76 (oi := ?o40) (v := ?v40) ?hi40 ?hd40 (by kernel_rfl) (by kernel_rfl) (by kernel_rfl) ?hQ40 ?hw40 ?hy40 (by assumption) ?rest40
  case hi40 => simp only [List.getElem?_toArray, List.getElem?_cons_succ, List.getElem?_cons_zero]; rfl
  case hd40 => rfl
  case hw40 => kernel_rfl
  case hy40 => intro W hW; (try dsimp only at hW); go_simp <;> with_reducible rfl
  case hQ40 => exact fun _ _ _ h => h
  try simp only [Act.put, List.setIfInBounds_toArray, List.set_cons_zero, List.set_cons_succ]
  refine take_at 39 77 (oi := ?o41) (v := ?v41) ?hi41 ?hd41 (by kernel_rfl) (by kernel_rfl) (by kernel_rfl) ?hQ41 ?hw41 ?hy41 (by assumption) ?rest41
  case hi41 => simp only [List.getElem?_toArray, List.getElem?_cons_succ, List.getElem?_cons_zero]; rfl
  case hd41 => rfl
  case hw41 => kernel_rfl
  case hy41 => intro W hW; (try dsimp only at hW); go_simp <;> with_reducible rfl
  case hQ41 => exact fun _ _ _ h => h
  try simp only [Act.put, List.setIfInBounds_toArray, List.set_cons_zero, List.set_cons_succ]
  refine take_at 40 78 (oi := ?o42) (v := ?v42) ?hi42 ?hd42 (by kernel_rfl) (by kernel_rfl) (by kernel_rfl) ?hQ42 ?hw42 ?hy42 (by assumption) ?rest42
  case hi42 => simp only [List.getElem?_toArray, List.getElem?_cons_succ, List.getElem?_cons_zero]; rfl
  case hd42 => rfl
  case hw42 => kernel_rfl
  case hy42 => intro W hW; (try dsimp only at hW); go_simp <;> with_reducible rfl
  case hQ42 => exact fun _ _ _ h => h
  try simp only [Act.put, List.setIfInBounds_toArray, List.set_cons_zero, List.set_cons_succ]
  refine wpAnyH_ready (rs := [41]) (by kernel_rfl) (by simp) ?_
  refine AllReadyH.cons rfl (fun K hK => ?_) AllReadyH.nil
  go_simp
  obtain ⟨W41, h41⟩ : ∃ W41, (W32.drewN q).alloc (.cells #[.string (B x3), .string (B ab)] 9) = W41 := ⟨_, rfl⟩
  have HB41 := Lib.hid (show Below w9.heap.size w9 W41 from h41 ▸ HB33.out.alloc HB33.out.size _)
  have HL41 := Lib.hid (show IsSl (.slice (some ⟨(W32.drewN q).heap.size, 0, none⟩) 2 2) (([x3, ab] : List Bs).map vS) W41 from h41 ▸ built_sl (W := (W32.drewN q)) (cs := #[.string (B x3), .string (B ab)]) rfl rfl (by decide))
  have H41 := Lib.hid h41
  rw [h41]
  clear h41
  refine hK.out _ _ (HS.out _ HB41.out) (fun hHeld => ?_)
  clear hK K
  try simp only [Act.put, List.setIfInBounds_toArray, List.set_cons_zero, List.set_cons_succ]
  refine wpAnyH_ready (rs := [42]) (by kernel_rfl) (by simp) ?_
  refine AllReadyH.cons rfl (fun K hK => ?_) AllReadyH.nil
  go_simp
  have h42 := Equal_any _ _ [x3, ab] [x3, ab] W41 (HP9.out.below HB41.out) HL41.out
  rw [decide_eq_true rfl] at h42
  refine h42.mono ?_
  rintro e W42 ⟨rfl, q2, rfl⟩
  have HB42 := Lib.hid (below_drewN HB41.out q2)
  clear h42
  refine hK.out _ _ (HS.out _ HB42.out) (fun hHeld => ?_)
  clear hK K
  try simp only [Act.put, List.setIfInBounds_toArray, List.set_cons_zero, List.set_cons_succ]
  refine take_at 43 81 (oi := ?o43) (v := ?v43) ?hi43 ?hd43 (by kernel_rfl) (by kernel_rfl) (by kernel_rfl) ?hQ43 ?hw43 ?hy43 (by assumption) ?rest43
  case hi43 => simp only [List.getElem?_toArray, List.getElem?_cons_succ, List.getElem?_cons_zero]; rfl
  case hd43 => rfl
  case hw43 => kernel_rfl
  case hy43 => intro W hW; (try dsimp only at hW); go_simp <;> with_reducible rfl
  case hQ43 => exact fun _ _ _ h => h
  try simp only [Act.put, List.setIfInBounds_toArray, List.set_cons_zero, List.set_cons_succ]
  refine take_at 44 82 (oi := ?o44) (v := ?v44) ?hi44 ?hd44 (by kernel_rfl) (by kernel_rfl) (by kernel_rfl) ?hQ44 ?hw44 ?hy44 (by assumption) ?rest44
  case hi44 => simp only [List.getElem?_toArray, List.getElem?_cons_succ, List.getElem?_cons_zero]; rfl
  case hd44 => rfl
  case hw44 => kernel_rfl
  case hy44 => intro W hW; (try dsimp only at hW); go_simp <;> with_reducible rfl
  case hQ44 => exact fun _ _ _ h => h
  try simp only [Act.put, List.setIfInBounds_toArray, List.set_cons_zero, List.set_cons_succ]
  refine take_at 45 83 (oi := ?o45) (v := ?v45) ?hi45 ?hd45 (by kernel_rfl) (by kernel_rfl) (by kernel_rfl) ?hQ45 ?hw45 ?hy45 (by assumption) ?rest45
  case hi45 => simp only [List.getElem?_toArray, List.getElem?_cons_succ, List.getElem?_cons_zero]; rfl
  case hd45 => rfl
  case hw45 => kernel_rfl
  case hy45 => intro W hW; (try dsimp only at hW); go_simp <;> with_reducible rfl
  case hQ45 => exact fun _ _ _ h => h
  try simp only [Act.put, List.setIfInBounds_toArray, List.set_cons_zero, List.set_cons_succ]
  refine take_at 46 84 (oi := ?o46) (v := ?v46) ?hi46 ?hd46 (by kernel_rfl) (by kernel_rfl) (by kernel_rfl) ?hQ46 ?hw46 ?hy46 (by assumption) ?rest46
  case hi46 => simp only [List.getElem?_toArray, List.getElem?_cons_succ, List.getElem?_cons_zero]; rfl
  case hd46 => rfl
  case hw46 => kernel_rfl
  case hy46 => intro W hW; (try dsimp only at hW); go_simp <;> with_reducible rfl
  case hQ46 => exact fun _ _ _ h => h
  try simp only [Act.put, List.setIfInBounds_toArray, List.set_cons_zero, List.set_cons_succ]
  refine take_at 47 85 (oi := ?o47) (v := ?v47) ?hi47 ?hd47 (by kernel_rfl) (by kernel_rfl) (by kernel_rfl) ?hQ47 ?hw47 ?hy47 (by assumption) ?rest47
  case hi47 => simp only [List.getElem?_toArray, List.getElem?_cons_succ, List.getElem?_cons_zero]; rfl
  case hd47 => rfl
  case hw47 => kernel_rfl
  case hy47 => intro W hW; (try dsimp only at hW); go_simp <;> with_reducible rfl
  case hQ47 => exact fun _ _ _ h => h
  try simp only [Act.put, List.setIfInBounds_toArray, List.set_cons_zero, List.set_cons_succ]
  refine take_at 48 86 (oi := ?o48) (v := ?v48) ?hi48 ?hd48 (by kernel_rfl) (by kernel_rfl) (by kernel_rfl) ?hQ48 ?hw48 ?hy48 (by assumption) ?rest48
  case hi48 => simp only [List.getElem?_toArray, List.getElem?_cons_succ, List.getElem?_cons_zero]; rfl
  case hd48 => rfl
  case hw48 => kernel_rfl
  case hy48 => intro W hW; (try dsimp only at hW); go_simp <;> with_reducible rfl
  case hQ48 => exact fun _ _ _ h => h
  try simp only [Act.put, List.setIfInBounds_toArray, List.set_cons_zero, List.set_cons_succ]
  refine take_at 49 87 (oi := ?o49) (v := ?v49) ?hi49 ?hd49 (by kernel_rfl) (by kernel_rfl) (by kernel_rfl) ?hQ49 ?hw49 ?hy49 (by assumption) ?rest49
  case hi49 => simp only [List.getElem?_toArray, List.getElem?_cons_succ, List.getElem?_cons_zero]; rfl
  case hd49 => rfl
  case hw49 => kernel_rfl
  case hy49 => intro W hW; (try dsimp only at hW); go_simp <;> with_reducible rfl
  case hQ49 => exact fun _ _ _ h => h
  try simp only [Act.put, List.setIfInBounds_toArray, List.set_cons_zero, List.set_cons_succ]
  refine wpAnyH_ready (rs := [50]) (by kernel_rfl) (by simp) ?_
  refine AllReadyH.cons rfl (fun K hK => ?_) AllReadyH.nil
  go_simp
  have h50 := Incl_any _ _ 5 [top, x4] 2 x2 [x3, ab] (W41.drewN q2) (HM9.out.below HB42.out) (HP9.out.below HB42.out) hx2 (ht.same (HB1.out.next (HB9.out.next HB42.out)))
  rw [EI.out] at h50
  refine h50.mono ?_
  rintro e W50 ⟨rfl, hb⟩
  have HB50 := Lib.hid (HB42.out.next hb)
  clear hb h50
  refine hK.out _ _ (HS.out _ HB50.out) (fun hHeld => ?_)
  clear hK K
  try simp only [Act.put, List.setIfInBounds_toArray, List.set_cons_zero, List.set_cons_succ]
  refine take_at 51 89 (oi := ?o50) (v := ?v50) ?hi50 ?hd50 (by kernel_rfl) (by kernel_rfl) (by kernel_rfl) ?hQ50 ?hw50 ?hy50 (by assumption) ?rest50
  case hi50 => simp only [List.getElem?_toArray, List.getElem?_cons_succ, List.getElem?_cons_zero]; rfl
  case hd50 => rfl
  case hw50 => kernel_rfl
  case hy50 => intro W hW; (try dsimp only at hW); go_simp <;> with_reducible rfl
  case hQ50 => exact fun _ _ _ h => h
  try simp only [Act.put, List.setIfInBounds_toArray, List.set_cons_zero, List.set_cons_succ]
  refine take_at 52 90 (oi := ?o51) (v := ?v51) ?hi51 ?hd51 (by kernel_rfl) (by kernel_rfl) (by kernel_rfl) ?hQ51 ?hw51 ?hy51 (by assumption) ?rest51
  case hi51 => simp only [List.getElem?_toArray, List.getElem?_cons_succ, List.getElem?_cons_zero]; rfl
  case hd51 => rfl
  case hw51 => kernel_rfl
  case hy51 => intro W hW; (try dsimp only at hW); go_simp <;> with_reducible rfl
  case hQ51 => exact fun _ _ _ h => h
  try simp only [Act.put, List.setIfInBounds_toArray, List.set_cons_zero, List.set_cons_succ]
  refine take_at 53 91 (oi := ?o52) (v := ?v52) ?hi52 ?hd52 (by kernel_rfl) (by kernel_rfl) (by kernel_rfl) ?hQ52 ?hw52 ?hy52 (by assumption) ?rest52
  case hi52 => simp only [List.getElem?_toArray, List.getElem?_cons_succ, List.getElem?_cons_zero]; rfl
  case hd52 => rfl
  case hw52 => kernel_rfl
  case hy52 => intro W hW; (try dsimp only at hW); go_simp <;> with_reducible rfl
  case hQ52 => exact fun _ _ _ h => h
  try simp only [Act.put, List.setIfInBounds_toArray, List.set_cons_zero, List.set_cons_succ]
  refine take_at 54 92 (oi := ?o53) (v := ?v53) ?hi53 ?hd53 (by kernel_rfl) (by kernel_rfl) (by kernel_rfl) ?hQ53 ?hw53 ?hy53 (by assumption) ?rest53
  case hi53 => simp only [List.getElem?_toArray, List.getElem?_cons_succ, List.getElem?_cons_zero]; rfl
  case hd53 => rfl
  case hw53 => kernel_rfl
  case hy53 => intro W hW; (try dsimp only at hW); go_simp <;> with_reducible rfl
  case hQ53 => exact fun _ _ _ h => h
  try simp only [Act.put, List.setIfInBounds_toArray, List.set_cons_zero, List.set_cons_succ]
  refine take_at 55 93 (oi := ?o54) (v := ?v54) ?hi54 ?hd54 (by kernel_rfl) (by kernel_rfl) (by kernel_rfl) ?hQ54 ?hw54 ?hy54 (by assumption) ?rest54
  case hi54 => simp only [List.getElem?_toArray, List.getElem?_cons_succ, List.getElem?_cons_zero]; rfl
  case hd54 => rfl
  case hw54 => kernel_rfl
  case hy54 => intro W hW; (try dsimp only at hW); go_simp <;> with_reducible rfl
  case hQ54 => exact fun _ _ _ h => h
  try simp only [Act.put, List.setIfInBounds_toArray, List.set_cons_zero, List.set_cons_succ]
  refine take_at 56 94 (oi := ?o55) (v := ?v55) ?hi55 ?hd55 (by kernel_rfl) (by kernel_rfl) (by kernel_rfl) ?hQ55 ?hw55 ?hy55 (by assumption) ?rest55
  case hi55 => simp only [List.getElem?_toArray, List.getElem?_cons_succ, List.getElem?_cons_zero]; rfl
  case hd55 => rfl
  case hw55 => kernel_rfl
  case hy55 => intro W hW; (try dsimp only at hW); go_simp <;> with_reducible rfl
  case hQ55 => exact fun _ _ _ h => h
  try simp only [Act.put, List.setIfInBounds_toArray, List.set_cons_zero, List.set_cons_succ]
  refine take_at 57 95 (oi := ?o56) (v := ?v56) ?hi56 ?hd56 (by kernel_rfl) (by kernel_rfl) (by kernel_rfl) ?hQ56 ?hw56 ?hy56 (by assumption) ?rest56
  case hi56 => simp only [List.getElem?_toArray, List.getElem?_cons_succ, List.getElem?_cons_zero]; rfl
  case hd56 => rfl
  case hw56 => kernel_rfl
  case hy56 => intro W hW; (try dsimp only at hW); go_simp <;> with_reducible rfl
  case hQ56 => exact fun _ _ _ h => h
  try simp only [Act.put, List.setIfInBounds_toArray, List.set_cons_zero, List.set_cons_succ]
  refine take_at 58 96 (oi := ?o57) (v := ?v57) ?hi57 ?hd57 (by kernel_rfl) (by kernel_rfl) (by kernel_rfl) ?hQ57 ?hw57 ?hy57 (by assumption) ?rest57
  case hi57 => simp only [List.getElem?_toArray, List.getElem?_cons_succ, List.getElem?_cons_zero]; rfl
  case hd57 => rfl
  case hw57 => kernel_rfl
  case hy57 => intro W hW; (try dsimp only at hW); go_simp <;> with_reducible rfl
  case hQ57 => exact fun _ _ _ h => h
  try simp only [Act.put, List.setIfInBounds_toArray, List.set_cons_zero, List.set_cons_succ]
  refine take_at 59 97 (oi := ?o58) (v := ?v58) ?hi58 ?hd58 (by kernel_rfl) (by kernel_rfl) (by kernel_rfl) ?hQ58 ?hw58 ?hy58 (by assumption) ?rest58
  case hi58 => simp only [List.getElem?_toArray, List.getElem?_cons_succ, List.getElem?_cons_zero]; rfl
  case hd58 => rfl
  case hw58 => kernel_rfl
  case hy58 => intro W hW; (try dsimp only at hW); go_simp <;> with_reducible rfl
  case hQ58 => exact fun _ _ _ h => h
  try simp only [Act.put, List.setIfInBounds_toArray, List.set_cons_zero, List.set_cons_succ]
  refine take_at 60 98 (oi := ?o59) (v := ?v59) ?hi59 ?hd59 (by kernel_rfl) (by kernel_rfl) (by kernel_rfl) ?hQ59 ?hw59 ?hy59 (by assumption) ?rest59
  case hi59 => simp only [List.getElem?_toArray, List.getElem?_cons_succ, List.getElem?_cons_zero]; rfl
  case hd59 => rfl
  case hw59 => kernel_rfl
  case hy59 => intro W hW; (try dsimp only at hW); go_simp <;> with_reducible rfl
  case hQ59 => exact fun _ _ _ h => h
  try simp only [Act.put, List.setIfInBounds_toArray, List.set_cons_zero, List.set_cons_succ]
  refine take_at 61 99 (oi := ?o60) (v := ?v60) ?hi60 ?hd60 (by kernel_rfl) (by kernel_rfl) (by kernel_rfl) ?hQ60 ?hw60 ?hy60 (by assumption) ?rest60
  case hi60 => simp only [List.getElem?_toArray, List.getElem?_cons_succ, List.getElem?_cons_zero]; rfl
  case hd60 => rfl
  case hw60 => kernel_rfl
  case hy60 => intro W hW; (try dsimp only at hW); go_simp <;> with_reducible rfl
  case hQ60 => exact fun _ _ _ h => h
  try simp only [Act.put, List.setIfInBounds_toArray, List.set_cons_zero, List.set_cons_succ]
  refine take_at 62 100 (oi := ?o61) (v := ?v61) ?hi61 ?hd61 (by kernel_rfl) (by kernel_rfl) (by kernel_rfl) ?hQ61 ?hw61 ?hy61 (by assumption) ?rest61
  case hi61 => simp only [List.getElem?_toArray, List.getElem?_cons_succ, List.getElem?_cons_zero]; rfl
  case hd61 => rfl
  case hw61 => kernel_rfl
  case hy61 => intro W hW; (try dsimp only at hW); go_simp <;> with_reducible rfl
  case hQ61 => exact fun _ _ _ h => h
  try simp only [Act.put, List.setIfInBounds_toArray, List.set_cons_zero, List.set_cons_succ]
  refine take_at 63 101 (oi := ?o62) (v := ?v62) ?hi62 ?hd62 (by kernel_rfl) (by kernel_rfl) (by kernel_rfl) ?hQ62 ?hw62 ?hy62 (by assumption) ?rest62
  case hi62 => simp only [List.getElem?_toArray, List.getElem?_cons_succ, List.getElem?_cons_zero]; rfl
  case hd62 => rfl
  case hw62 => kernel_rfl
  case hy62 => intro W hW; (try dsimp only at hW); go_simp <;> with_reducible rfl
  case hQ62 => exact fun _ _ _ h => h
  try simp only [Act.put, List.setIfInBounds_toArray, List.set_cons_zero, List.set_cons_succ]
  refine take_at 64 102 (oi := ?o63) (v := ?v63) ?hi63 ?hd63 (by kernel_rfl) (by kernel_rfl) (by kernel_rfl) ?hQ63 ?hw63 ?hy63 (by assumption) ?rest63
  case hi63 => simp only [List.getElem?_toArray, List.getElem?_cons_succ, List.getElem?_cons_zero]; rfl
  case hd63 => rfl
  case hw63 => kernel_rfl
  case hy63 => intro W hW; (try dsimp only at hW); go_simp <;> with_reducible rfl
  case hQ63 => exact fun _ _ _ h => h
  try simp only [Act.put, List.setIfInBounds_toArray, List.set_cons_zero, List.set_cons_succ]
  refine take_at 65 103 (oi := ?o64) (v := ?v64) ?hi64 ?hd64 (by kernel_rfl) (by kernel_rfl) (by kernel_rfl) ?hQ64 ?hw64 ?hy64 (by assumption) ?rest64
  case hi64 => simp only [List.getElem?_toArray, List.getElem?_cons_succ, List.getElem?_cons_zero]; rfl
  case hd64 => rfl
  case hw64 => kernel_rfl
  case hy64 => intro W hW; (try dsimp only at hW); go_simp <;> with_reducible rfl
  case hQ64 => exact fun _ _ _ h => h
  try simp only [Act.put, List.setIfInBounds_toArray, List.set_cons_zero, List.set_cons_succ]
  refine take_at 66 0 (oi := ?o65) (v := ?v65) ?hi65 ?hd65 (by kernel_rfl) (by kernel_rfl) (by kernel_rfl) ?hQ65 ?hw65 ?hy65 (by assumption) ?rest65
  case hi65 => simp only [List.getElem?_toArray, List.getElem?_cons_succ, List.getElem?_cons_zero]; rfl
  case hd65 => rfl
  case hw65 => kernel_rfl
  case hy65 => intro W hW; (try dsimp only at hW); go_simp <;> with_reducible rfl
  case hQ65 => exact fun _ _ _ h => h
  try simp only [Act.put, List.setIfInBounds_toArray, List.set_cons_zero]
  refine wpAnyH_done (by kernel_rfl) ?_ _
  simp only [Exit.then]
  go_wp2
  go_ret
  exact ⟨rfl, HB1.out.next (HB9.out.next HB50.out)⟩
end Go.Proofs.YtfklmjcjjdliiaaDoor
