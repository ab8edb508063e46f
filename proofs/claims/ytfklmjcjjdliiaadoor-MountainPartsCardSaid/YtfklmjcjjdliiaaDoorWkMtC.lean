/- place and Prove of the reference of mountain do what the plain functions say. -/
import Derived.Test.YtfklmjcjjdliiaaDoorWkMtB
namespace Go.Proofs.YtfklmjcjjdliiaaDoor
open Go Go.RowKit Licit

set_option maxHeartbeats 8000000 in
set_option maxRecDepth 100000 in
theorem rplace_any (n i : Nat) (w : World) (hn : n ≤ 1048576) (hi : i < n) :
    Calls Tryd.prog 47 #[.int .i64 (n : Int), .int .i64 (i : Int)] w fun e w' => e = .returned (.tuple #[.int .i64 ((place n i).1 : Int), .int .i64 ((place n i).2.1 : Int), .int .i64 ((i - (place n i).2.2 : Nat) : Int)]) ∧ Below w.heap.size w w' := by
  have HHt := Lib.hid (heights_any n w hn)
  obtain ⟨L, hL⟩ : ∃ L, (hts n).length = L := ⟨_, rfl⟩
  have HL := Lib.hid hL
  have hL21 : L ≤ 21 := by rw [← hL]; exact hts_len 21 _
  obtain ⟨R, hR⟩ : ∃ R, place n i = R := ⟨_, rfl⟩
  have hsum := sum2_hts21 (show n < 2 ^ 21 by omega)
  have HSum := Lib.hid hsum
  rw [hR]
  have HR := Lib.hid (show placeL ((hts n).drop 0) i 0 0 = R by rw [List.drop_zero]; exact hR)
  clear hL hR hsum
  go_enter Tryd.func47, Tryd.ntmps47
  go_wp2_with fail
  refine HHt.out.mono ?_
  rintro e w2 ⟨hv, rfl, hho, hb⟩
  rw [HL.out] at hho
  have HB2 := Lib.hid hb
  have HH2 := Lib.hid hho
  obtain ⟨ha, hc, rfl⟩ := own_form hho
  clear hb hho HHt
  go_wp2
  go_loopw [1, 8] (fun ix k' wr => ∃ (k F : Nat), k ≤ L ∧ F ≤ i ∧ i < F + sum2 ((hts n).drop k) ∧ k' = .int .i64 (k : Int) ∧ ix = .int .i64 ((i - F : Nat) : Int) ∧ placeL ((hts n).drop k) i k F = R ∧ Below w2.heap.size w2 wr) (fun _ k' _ => L - (intOf k').toNat)
  case atStart => exact ⟨0, 0, by omega, by omega, by rw [List.drop_zero, HSum.out]; omega, rfl, rfl, HR.out, Below.refl _ _⟩
  case round =>
    obtain ⟨k, F, hk, hFi, hiF, rfl, rfl, hr, hb⟩ := hrel
    have HRr := Lib.hid hr
    have HIF := Lib.hid hiF
    have HB := Lib.hid hb
    have hHr : wr.ownsRow w.heap.size 3 1 (.slice ha L hc) L ((hts n).map vN) := ownsRow_block HH2.out (fun q _ hlt => hb.block q hlt)
    have HHr := Lib.hid hHr
    clear hr hiF hb hHr HR
    by_cases hlt : k < L
    · obtain ⟨h, hh⟩ : ∃ h, (hts n)[k]? = some h := ⟨_, List.getElem?_eq_getElem (by rw [HL.out]; exact hlt)⟩
      obtain ⟨g, gc, hg, _, _, _⟩ := own_some HHr.out (by omega)
      simp only [Value.slice.injEq, true_and] at hg
      obtain ⟨rfl, rfl⟩ := hg
      have hcell : wr.cell? ⟨g, k, none⟩ = some (.int .i64 (h : Int)) := by
        rw [ownCell HHr.out (by rw [List.length_map, HL.out]; exact hlt), List.getElem?_map, hh]
        rfl
      have hdr : (hts n).drop k = h :: (hts n).drop (k + 1) := by
        have h1 : k < (hts n).length := by rw [HL.out]; exact hlt
        have h2 : (hts n)[k] = h := by rw [List.getElem?_eq_getElem h1] at hh; exact Option.some.inj hh
        rw [← h2]
        exact List.drop_eq_getElem_cons h1
      have hh21 := hts_lt 21 n h (List.mem_of_getElem? hh)
      have hrr := HRr.out
      have hif := HIF.out
      rw [hdr, placeL] at hrr
      rw [hdr, sum2] at hif
      obtain ⟨p2, hp2⟩ : ∃ p2, 2 ^ h = p2 := ⟨_, rfl⟩
      rw [hp2] at hrr hif
      have hp20 : 0 < p2 := by rw [← hp2]; exact Nat.two_pow_pos h
      have hp21 : p2 ≤ 1048576 := by rw [← hp2]; exact Nat.le_trans (Nat.pow_le_pow_right (by decide) (show h ≤ 20 by omega)) (by decide)
      have hpi : (1 : Int) * 2 ^ h = (p2 : Int) := by rw [← hp2]; simp
      have hpi' : (2 : Int) ^ h = (p2 : Int) := by rw [← hp2]; simp
      have hw1 : IntKind.i64.wrap (p2 : Int) = (p2 : Int) := by rw [IntKind.wrap_i64]; omega
      have hcv : IntKind.u64.wrap (h : Int) = (h : Int) := by rw [IntKind.wrap_u64]; omega
      have hkm : min h 64 = h := by omega
      have hk64 : h ≤ 64 := by omega
      by_cases hin : i < F + p2
      · rw [if_pos hin] at hrr
        have d1 : decide (((i - F : Nat) : Int) < (p2 : Int)) = true := by simp; omega
        have hrF : i - R.2.2 = i - F := by rw [← hrr]
        have HRF := Lib.hid hrF
        have HRR := Lib.hid hrr
        obtain ⟨x, hx⟩ : ∃ x, i - F = x := ⟨_, rfl⟩
        have HX := Lib.hid hx
        rw [hx] at d1
        have hxp : x < p2 := by omega
        clear hh hdr hp2 hrr hif hrF HRr HIF
        rw [hx]
        clear hx
        go_wp2
        refine wp_region_held_drew (S := fun W : World => W.cell? ⟨g, k, none⟩ = some (.int .i64 (h : Int))) (by kernel_rfl) hcell (fun hHeld => ?_)
        refine take_at 0 27 (oi := ?o1) (v := ?v1) ?hi1 ?hd1 (by kernel_rfl) (by kernel_rfl) (by kernel_rfl) ?hQ1 ?hw1 ?hy1 (by assumption) ?rest1
        case hi1 => simp only [List.getElem?_toArray, List.getElem?_cons_zero]; rfl
        case hd1 => rfl
        case hw1 => kernel_rfl
        case hy1 => intro W hW; (try dsimp only at hW); go_simp <;> with_reducible rfl
        case hQ1 => exact fun _ _ _ h => h
        try simp only [Act.put, List.setIfInBounds_toArray, List.set_cons_zero, List.set_cons_succ]
        refine take_at 1 28 (oi := ?o2) (v := ?v2) ?hi2 ?hd2 (by kernel_rfl) (by kernel_rfl) (by kernel_rfl) ?hQ2 ?hw2 ?hy2 (by assumption) ?rest2
        case hi2 => simp only [List.getElem?_toArray, List.getElem?_cons_succ, List.getElem?_cons_zero]; rfl
        case hd2 => rfl
        case hw2 => kernel_rfl
        case hy2 => intro W hW; (try dsimp only at hW); go_simp <;> with_reducible rfl
        case hQ2 => exact fun _ _ _ h => h
        try simp only [Act.put, List.setIfInBounds_toArray, List.set_cons_zero, List.set_cons_succ]
        refine take_at 2 29 (oi := ?o3) (v := ?v3) ?hi3 ?hd3 (by kernel_rfl) (by kernel_rfl) (by kernel_rfl) ?hQ3 ?hw3 ?hy3 (by assumption) ?rest3
        case hi3 => simp only [List.getElem?_toArray, List.getElem?_cons_succ, List.getElem?_cons_zero]; rfl
        case hd3 => rfl
        case hw3 => kernel_rfl
        case hy3 => intro W hW; (try dsimp only at hW); go_simp <;> with_reducible rfl
        case hQ3 => exact fun _ _ _ h => h
        try simp only [Act.put, List.setIfInBounds_toArray, List.set_cons_zero, List.set_cons_succ]
        refine take_at 3 30 (oi := ?o4) (v := ?v4) ?hi4 ?hd4 (by kernel_rfl) (by kernel_rfl) (by kernel_rfl) ?hQ4 ?hw4 ?hy4 (by assumption) ?rest4
        case hi4 => simp only [List.getElem?_toArray, List.getElem?_cons_succ, List.getElem?_cons_zero]; rfl
        case hd4 => rfl
        case hw4 => kernel_rfl
        case hy4 => intro W hW; (try dsimp only at hW); go_simp <;> with_reducible rfl
        case hQ4 => exact fun _ _ _ h => h
        try simp only [Act.put, List.setIfInBounds_toArray, List.set_cons_zero, List.set_cons_succ]
        refine take_at 4 31 (oi := ?o5) (v := ?v5) ?hi5 ?hd5 (by kernel_rfl) (by kernel_rfl) (by kernel_rfl) ?hQ5 ?hw5 ?hy5 (by assumption) ?rest5
        case hi5 => simp only [List.getElem?_toArray, List.getElem?_cons_succ, List.getElem?_cons_zero]; rfl
        case hd5 => rfl
        case hw5 => kernel_rfl
        case hy5 => intro W hW; (try dsimp only at hW); go_simp <;> with_reducible rfl
        case hQ5 => exact fun _ _ _ h => h
        try simp only [Act.put, List.setIfInBounds_toArray, List.set_cons_zero, List.set_cons_succ]
        refine take_at 5 32 (oi := ?o6) (v := ?v6) ?hi6 ?hd6 (by kernel_rfl) (by kernel_rfl) (by kernel_rfl) ?hQ6 ?hw6 ?hy6 (by assumption) ?rest6
        case hi6 => simp only [List.getElem?_toArray, List.getElem?_cons_succ, List.getElem?_cons_zero]; rfl
        case hd6 => rfl
        case hw6 => kernel_rfl
        case hy6 => intro W hW; (try dsimp only at hW); go_simp <;> with_reducible rfl
        case hQ6 => exact fun _ _ _ h => h
        try simp only [Act.put, List.setIfInBounds_toArray, List.set_cons_zero, List.set_cons_succ]
        refine take_at 6 4 (oi := ?o7) (v := ?v7) ?hi7 ?hd7 (by kernel_rfl) (by kernel_rfl) (by kernel_rfl) ?hQ7 ?hw7 ?hy7 (by assumption) ?rest7
        case hi7 => simp only [List.getElem?_toArray, List.getElem?_cons_succ, List.getElem?_cons_zero]; rfl
        case hd7 => rfl
        case hw7 => kernel_rfl
        case hy7 => intro W hW; (try dsimp only at hW); go_simp <;> with_reducible rfl
        case hQ7 => exact fun _ _ _ h => h
        try simp only [Act.put, List.setIfInBounds_toArray, List.set_cons_zero, List.set_cons_succ]
        refine take_at 7 5 (oi := ?o8) (v := ?v8) ?hi8 ?hd8 (by kernel_rfl) (by kernel_rfl) (by kernel_rfl) ?hQ8 ?hw8 ?hy8 (by assumption) ?rest8
        case hi8 => simp only [List.getElem?_toArray, List.getElem?_cons_succ, List.getElem?_cons_zero]; rfl
        case hd8 => rfl
        case hw8 => kernel_rfl
        case hy8 => intro W hW; (try dsimp only at hW); go_simp <;> with_reducible rfl
        case hQ8 => exact fun _ _ _ h => h
        try simp only [Act.put, List.setIfInBounds_toArray, List.set_cons_zero, List.set_cons_succ]
        refine take_at 8 6 (oi := ?o9) (v := ?v9) ?hi9 ?hd9 (by kernel_rfl) (by kernel_rfl) (by kernel_rfl) ?hQ9 ?hw9 ?hy9 (by assumption) ?rest9
        case hi9 => simp only [List.getElem?_toArray, List.getElem?_cons_succ, List.getElem?_cons_zero]; rfl
        case hd9 => rfl
        case hw9 => kernel_rfl
        case hy9 => intro W hW; (try dsimp only at hW); go_simp <;> with_reducible rfl
        case hQ9 => exact fun _ _ _ h => h
        try simp only [Act.put, List.setIfInBounds_toArray, List.set_cons_zero, List.set_cons_succ]
        refine wpAnyH_done (by kernel_rfl) ?_ _
        simp only [Exit.then]
        go_wp2
        go_ret3
        rw [HRF.out, HX.out, ← HRR.out]
        exact ⟨rfl, HB2.out.trans (dr (HB.out.mono HB2.out.size))⟩
      · rw [if_neg hin] at hrr
        have d1 : decide (((i - F : Nat) : Int) < (p2 : Int)) = false := by simp; omega
        have HRR := Lib.hid hrr
        obtain ⟨x, hx⟩ : ∃ x, i - F = x := ⟨_, rfl⟩
        rw [hx] at d1
        have hxp : ¬ x < p2 := by omega
        have hxs : (x : Int) - (p2 : Int) = ((i - (F + p2) : Nat) : Int) := by omega
        have hxw : IntKind.i64.wrap ((i - (F + p2) : Nat) : Int) = ((i - (F + p2) : Nat) : Int) := by rw [IntKind.wrap_i64]; omega
        have hFi2 : F + p2 ≤ i := by omega
        have HIf := Lib.hid hif
        clear hh hdr hp2 hrr hif HRr HIF
        rw [hx]
        clear hx
        go_wp2
        go_roundw
        case rel => exact ⟨k + 1, F + p2, by omega, hFi2, by have := HIf.out; omega, by go_num, rfl, HRR.out, HB.out⟩
        case measure => simp [intOf]; omega
    · obtain rfl : k = L := by omega
      have hif := HIF.out
      rw [← HL.out, List.drop_length, sum2] at hif
      omega

set_option maxHeartbeats 8000000 in
set_option maxRecDepth 100000 in
theorem RMtProve_any (v : Value) (l : List Bs) (i : Int) (w : World) (h : IsSl v (l.map vS) w) (hcv : SlCap v) :
    Calls Tryd.prog 17 #[v, .int .i64 i] w fun e w' => ∃ v', e = .returned (.tuple #[v', .int .i64 (proveE l i)]) ∧ w'.ownsRow w.heap.size 9 1 v' (proveP l i).length ((proveP l i).map vS) ∧ Below w.heap.size w w' := by
  obtain ⟨i0, hi, hz0, hz1, hz2⟩ := info_parts Tryd.infoStr
  have Hi := Lib.hid hi
  have Hz0 := Lib.hid hz0
  have Hz1 := Lib.hid hz1
  have Hz2 := Lib.hid hz2
  clear hi hz0 hz1 hz2
  have HC := Lib.hid (fun W (hb : Below w.heap.size w W) => RCheck49_any v l W (h.below hb))
  have H := Lib.hid h
  obtain ⟨a0, cap0, rfl⟩ := h.formMap
  have hcap : l.length ≤ cap0 := hcv
  have hmx := h.1
  rw [List.length_map] at hmx
  unfold maxLen at hmx
  clear h hcv
  obtain ⟨C, hC⟩ : ∃ C, checkM l = C := ⟨_, rfl⟩
  rw [hC] at HC
  have HR0 := Lib.hid (Below.refl w.heap.size w)
  by_cases hc : C = 0
  rotate_left
  · have hs : proveE l i = C := by unfold proveE; rw [hC, if_neg hc]
    have hp : proveP l i = [] := by unfold proveP; rw [hs, if_neg hc]
    rw [hs, hp]
    have hcl : (C == 0) = false := by simpa using hc
    clear hC hs hp
    go_enter Tryd.func17, Tryd.ntmps17
    go_wp2_with fail
    refine (HC.out _ HR0.out).mono ?_
    rintro e w1 ⟨rfl, rfl⟩
    go_wp2
    go_ret2
    exact ⟨_, rfl, World.ownsRow_nil _ _ _ _, HR0.out⟩
  subst hc
  obtain ⟨hl, h32⟩ := checkM_iff.1 hC
  have HL32 := Lib.hid (all32_get h32)
  by_cases h0 : i < 0
  · have hs : proveE l i = 3 := by unfold proveE; rw [hC, if_pos rfl, if_neg (by omega)]
    have hp : proveP l i = [] := by unfold proveP; rw [hs]; rfl
    rw [hs, hp]
    have d1 : decide (i < 0) = true := by simpa using h0
    clear hC hs hp
    go_enter Tryd.func17, Tryd.ntmps17
    go_wp2_with fail
    refine (HC.out _ HR0.out).mono ?_
    rintro e w1 ⟨rfl, rfl⟩
    go_wp2
    go_ret2
    exact ⟨_, rfl, World.ownsRow_nil _ _ _ _, HR0.out⟩
  obtain ⟨j, rfl⟩ : ∃ j : Nat, i = (j : Int) := ⟨i.toNat, by omega⟩
  have d1 : decide ((j : Int) < 0) = false := by simp
  by_cases hjl : l.length ≤ j
  · have hs : proveE l (j : Int) = 3 := by unfold proveE; rw [hC, if_pos rfl, if_neg (by omega)]
    have hp : proveP l (j : Int) = [] := by unfold proveP; rw [hs]; rfl
    rw [hs, hp]
    have d2 : decide ((l.length : Int) ≤ (j : Int)) = true := by simp; omega
    clear hC hs hp
    go_enter Tryd.func17, Tryd.ntmps17
    go_wp2_with fail
    refine (HC.out _ HR0.out).mono ?_
    rintro e w1 ⟨rfl, rfl⟩
    go_wp2
    go_ret2
    exact ⟨_, rfl, World.ownsRow_nil _ _ _ _, HR0.out⟩
  have d2 : decide ((l.length : Int) ≤ (j : Int)) = false := by simp; omega
  have hs : proveE l (j : Int) = 0 := by unfold proveE; rw [hC, if_pos rfl, if_pos (by omega)]
  have hp : proveP l (j : Int) = proveN l (place l.length j).2.2 j (place l.length j).2.1 := by unfold proveP; rw [hs, if_pos rfl, Int.toNat_natCast]
  rw [hs, hp]
  have HPl := Lib.hid (fun W => rplace_any l.length j W (by omega) (by omega))
  obtain ⟨_, _, p3, p4, p5, p6⟩ := place_ok (show l.length < 2 ^ 21 by omega) (show j < l.length by omega)
  obtain ⟨Nm, hNm⟩ : ∃ x, (place l.length j).1 = x := ⟨_, rfl⟩
  obtain ⟨Hh, hHh⟩ : ∃ x, (place l.length j).2.1 = x := ⟨_, rfl⟩
  obtain ⟨F, hF⟩ : ∃ x, (place l.length j).2.2 = x := ⟨_, rfl⟩
  rw [hNm, hHh, hF] at HPl
  rw [hF] at p3
  rw [hF, hHh] at p4 p5
  rw [hHh, hF]
  rw [hHh] at p6
  have hH10 := pow_le_1024 (show 2 ^ Hh ≤ l.length by omega) hl
  obtain ⟨r, hr⟩ : ∃ r, j - F = r := ⟨_, rfl⟩
  rw [hr] at HPl
  have hrl : r < 2 ^ Hh := by omega
  have HRl := Lib.hid hrl
  have HP5 := Lib.hid p5
  have hbg : (j : Int) - (r : Int) = (F : Int) := by omega
  obtain ⟨b, off, cap', hv⟩ := sl_some H.out (by rw [List.length_map]; omega)
  rw [List.length_map] at hv
  simp only [Value.slice.injEq, true_and] at hv
  obtain ⟨rfl, rfl⟩ := hv
  have Hr := Lib.hid hr
  clear hC hs hp hNm hHh hF h32 hrl p4 p5 hr
  go_enter Tryd.func17, Tryd.ntmps17
  go_wp2_with fail
  refine (HC.out _ HR0.out).mono ?_
  rintro e w1 ⟨rfl, rfl⟩
  go_wp2_with fail
  refine (HPl.out _).mono ?_
  rintro e w2 ⟨rfl, hb2⟩
  have HB2 := Lib.hid hb2
  clear hb2
  go_wp2
  go_loopw [11, 12] (fun v n wr => ∃ (k : Nat), k ≤ Hh ∧ n = .int .i64 (k : Int) ∧ wr.ownsRow w1.heap.size 9 1 v k ((proveN l F j k).map vS) ∧ Below w1.heap.size w1 wr) (fun _ n _ => Hh - (intOf n).toNat)
  case atStart => exact ⟨0, by omega, rfl, World.ownsRow_nil _ _ _ _, HB2.out⟩
  case round =>
    obtain ⟨k, hk, rfl, ho, hb⟩ := hrel
    have HO := Lib.hid ho
    have HB := Lib.hid hb
    obtain ⟨va, vc, rfl⟩ := own_form ho
    clear ho hb HB2
    by_cases hlt : k < Hh
    · have hbl := beside_lt HRl.out hlt
      obtain ⟨d, hd⟩ : ∃ d, r / 2 ^ k = d := ⟨_, rfl⟩
      obtain ⟨x, hx⟩ : ∃ x, d ^^^ 1 = x := ⟨_, rfl⟩
      obtain ⟨p2, hp2⟩ : ∃ p2, 2 ^ k = p2 := ⟨_, rfl⟩
      have hp20 : 0 < p2 := by rw [← hp2]; exact Nat.two_pow_pos k
      have hpk : p2 ≤ 1024 := by rw [← hp2]; exact Nat.le_trans (Nat.pow_le_pow_right (by decide) (show k ≤ 10 by omega)) (by decide)
      have hdr : d ≤ r := by rw [← hd]; exact Nat.div_le_self _ _
      rw [hd, hx, hp2] at hbl
      obtain ⟨y, hy⟩ : ∃ y, x * p2 = y := ⟨_, rfl⟩
      rw [hy] at hbl
      have hyl : y + p2 ≤ 2 ^ Hh := hbl
      have hat : F + y + p2 ≤ l.length := by have := HP5.out; omega
      have hdv2 : (r : Int) / (p2 : Int) = (d : Int) := by rw [← hd, ← hp2]; simp
      have hdv3 : (r : Int).tdiv (p2 : Int) = (d : Int) := by rw [Int.tdiv_eq_ediv_of_nonneg (by omega)]; exact hdv2
      have hxor : bits .xor .i64 (d : Int) 1 = (x : Int) := by rw [← hx]; exact bits_xor_i64_nat d 1 (by omega) (by decide)
      have hmul2 : (x : Int) * (p2 : Int) = (y : Int) := by rw [← hy]; simp
      have hpi : (1 : Int) * 2 ^ k = (p2 : Int) := by rw [← hp2]; simp
      have hpi' : (2 : Int) ^ k = (p2 : Int) := by rw [← hp2]; simp
      have hw1 : IntKind.i64.wrap (p2 : Int) = (p2 : Int) := by rw [IntKind.wrap_i64]; omega
      have hw0 : IntKind.i64.wrap (d : Int) = (d : Int) := by rw [IntKind.wrap_i64]; omega
      have hw2 : IntKind.i64.wrap (y : Int) = (y : Int) := by rw [IntKind.wrap_i64]; omega
      have hw3 : IntKind.i64.wrap ((F : Int) + (y : Int)) = (F : Int) + (y : Int) := by rw [IntKind.wrap_i64]; omega
      have hw4 : IntKind.i64.wrap ((F : Int) + (y : Int) + (p2 : Int)) = (F : Int) + (y : Int) + (p2 : Int) := by rw [IntKind.wrap_i64]; omega
      have hcv : IntKind.u64.wrap (k : Int) = (k : Int) := by rw [IntKind.wrap_u64]; omega
      have hpne : ((p2 : Int) == 0) = false := by simp; omega
      have hpne2 : ¬ (p2 : Int) = 0 := by omega
      have hpne3 : ¬ p2 = 0 := by omega
      have hkm : min k 64 = k := by omega
      have hk64 : k ≤ 64 := by omega
      have HPk := Lib.hid (RPeak_any k (.slice (some ⟨b, off + (F + y), none⟩) p2 (cap0 - (F + y))) ((l.drop (F + y)).take p2) wr (sl_part (H.out.below HB.out) rfl hat hp20 _) (show p2 ≤ cap0 - (F + y) by omega) (by rw [List.length_take, List.length_drop, hp2]; omega) (by omega) (fun z hz => max32 (HL32.out z (List.mem_of_mem_drop (List.mem_of_mem_take hz)))))
      have hres : peakN k ((l.drop (F + y)).take p2) = besideN l F j k := by
        unfold besideN subM
        rw [Hr.out, hd, hx, hp2, hy]
      rw [hres] at HPk
      obtain ⟨z, hz⟩ : ∃ z, besideN l F j k = z := ⟨_, rfl⟩
      rw [hz] at HPk
      have HZ := Lib.hid (show (proveN l F j k).map vS ++ [vS z] = (proveN l F j (k + 1)).map vS by rw [proveN_succ, hz, List.map_append]; rfl)
      have hi1 : (0 : Int) ≤ (F : Int) + (y : Int) := by omega
      have hi2 : (F : Int) + (y : Int) ≤ (F : Int) + (y : Int) + (p2 : Int) := by omega
      have hi3 : (F : Int) + (y : Int) + (p2 : Int) ≤ (cap0 : Int) := by omega
      have hi4 : (0 : Int) ≤ (F : Int) + (y : Int) + (p2 : Int) := by omega
      have hn1 : ((F : Int) + (y : Int)).toNat = F + y := by omega
      have hn2 : ((F : Int) + (y : Int) + (p2 : Int)).toNat = F + y + p2 := by omega
      have hn3 : F + y + p2 - (F + y) = p2 := by omega
      clear hbl hyl hx hd hp2 hy hres hz
      go_wp2_with
        (first
          | (go_at_call 48; refine HPk.out.mono ?_; rintro e w3 ⟨rfl, hb3⟩
             have HO3 := Lib.hid (ownsRow_block HO.out (fun q _ hq => hb3.block q hq))
             have HB3 := Lib.hid (HB.out.next hb3)
             clear hb3)
          | (at_builtin
             go_loud (
             refine wpList_append_own _ rfl _ _ 22 rfl w1.heap.size 9 i0 (.string ⟨#[]⟩) 1 16 Tryd.underlying22 Hi.out Hz0.out Hz1.out Hz2.out rfl (by decide) _ k ((proveN l F j k).map vS) rfl (HO3.out.alloc _) ⟨w3.heap.size, 0, none⟩ 1 1 [vS z] rfl rfl (news_one (new_of _ _)) (by simp [vS, Value.oneCell']) (by unfold maxLen; omega) (by omega) (by have := HB3.out.size; simp; omega) ?_
             intro v5 w5 ho5 hg5 _
             have hb5 : Below w1.heap.size w1 w5 := (HB3.out.alloc HB3.out.size _).grown hg5 (by have := HB3.out.size; simp; omega) (fun q hq => by have := HO3.out.lt q hq; exact this.1)
             have HO5 := Lib.hid ho5
             have HB5 := Lib.hid hb5
             clear ho5 hg5 hb5)))
      go_roundw
      case rel => exact ⟨k + 1, by omega, by go_num, by rw [← HZ.out]; exact HO5.out, HB5.out⟩
      case measure => simp [intOf]; omega
    · obtain rfl : k = Hh := by omega
      go_wp2
      go_ret2
      rw [proveN_len]
      exact ⟨_, rfl, HO.out, HB.out⟩
end Go.Proofs.YtfklmjcjjdliiaaDoor
