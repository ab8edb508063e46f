/- Grown of the reference of mountain does what the plain function says. -/
import Derived.Test.YtfklmjcjjdliiaaDoorWkMtA
import Derived.Test.YtfklmjcjjdliiaaDoorWkMtE
namespace Go.Proofs.YtfklmjcjjdliiaaDoor
open Go Go.RowKit Licit

set_option maxHeartbeats 8000000 in
set_option maxRecDepth 100000 in
theorem RGrown_any (v u p : Value) (s s' : Int) (P P' R : List Bs) (w : World) (hv : MtIs v s P w) (hu : MtIs u s' P' w) (hp : IsSl p (R.map vS) w) :
    Calls Tryd.prog 35 #[v, u, p] w fun e w' => e = .returned (.bool (grownB s P s' P' R)) ∧ Below w.heap.size w w' := by
  have HV := Lib.hid hv
  have HU := Lib.hid hu
  have HR := Lib.hid hp
  obtain ⟨v1, rfl, hv1, hn1⟩ := hv
  obtain ⟨u1, rfl, hu1, _⟩ := hu
  have HP := Lib.hid hv1
  have HN := Lib.hid hn1
  obtain ⟨va, vc, rfl⟩ := hv1.formMap
  obtain ⟨ua, uc, rfl⟩ := hu1.formMap
  obtain ⟨pa, pc, rfl⟩ := hp.formMap
  have hRl := hp.1
  rw [List.length_map] at hRl
  unfold maxLen at hRl
  have HB1 := Lib.hid (((Below.refl w.heap.size w).alloc (Nat.le_refl _) (.cells #[.int .i64 s, .slice va P.length vc] 31)).alloc (by simp) (.cells #[.int .i64 s', .slice ua P'.length uc] 31))
  have HX1 := Lib.hid (show ((w.alloc (.cells #[.int .i64 s, .slice va P.length vc] 31)).alloc (.cells #[.int .i64 s', .slice ua P'.length uc] 31)).heap[w.heap.size]? = some (.cells #[.int .i64 s, .slice va P.length vc] 31) from old_of (new_of _ _))
  have HY1 := Lib.hid (show ((w.alloc (.cells #[.int .i64 s, .slice va P.length vc] 31)).alloc (.cells #[.int .i64 s', .slice ua P'.length uc] 31)).heap[w.heap.size + 1]? = some (.cells #[.int .i64 s', .slice ua P'.length uc] 31) from new_at (by simp) rfl)
  have HVo := Lib.hid (fun W (hb : Below w.heap.size w W) => RMtValid_any _ s P W (HV.out.below hb))
  have HVn := Lib.hid (fun W (hb : Below w.heap.size w W) => RMtValid_any _ s' P' W (HU.out.below hb))
  have HDg := Lib.hid (fun W (hb : Below w.heap.size w W) => Digests_any _ R W (HR.out.below hb))
  obtain ⟨RES, hRES⟩ : ∃ x, grownB s P s' P' R = x := ⟨_, rfl⟩
  rw [hRES]
  have HRES := Lib.hid hRES
  clear hv1 hu1 hp hn1 hRES
  cases hok : okM s P with
  | false =>
    have e0 : validM s P = 1 := by unfold validM; rw [hok]; rfl
    have e1 : RES = false := by rw [← HRES.out]; unfold grownB; rw [hok]; simp
    rw [e0] at HVo
    subst e1
    clear e0 hok HRES
    go_enter Tryd.func35, Tryd.ntmps35
    go_wp2_with fail
    refine (HVo.out _ HB1.out).mono ?_
    rintro e w2 ⟨rfl, hb⟩
    have HB2 := Lib.hid (HB1.out.next hb)
    clear hb
    go_wp2
    go_ret
    exact ⟨rfl, HB2.out⟩
  | true =>
  have e0 : validM s P = 0 := by unfold validM; rw [hok]; rfl
  rw [e0] at HVo
  have Hok := Lib.hid hok
  obtain ⟨⟨hs0, hs1⟩, hPl, hP32⟩ := okM_iff.1 hok
  obtain ⟨n, rfl⟩ : ∃ n : Nat, s = (n : Int) := ⟨s.toNat, by omega⟩
  rw [Int.toNat_natCast] at hPl
  have HPl := Lib.hid hPl
  have HP32 := Lib.hid (all32_get hP32)
  clear e0 hok hPl hP32
  cases hok : okM s' P' with
  | false =>
    have e0 : validM s' P' = 1 := by unfold validM; rw [hok]; rfl
    have e1 : RES = false := by rw [← HRES.out]; unfold grownB; rw [hok]; simp
    rw [e0] at HVn
    subst e1
    clear e0 hok HRES
    go_enter Tryd.func35, Tryd.ntmps35
    go_wp2_with fail
    refine (HVo.out _ HB1.out).mono ?_
    rintro e w2 ⟨rfl, hb⟩
    have HB2 := Lib.hid (HB1.out.next hb)
    have HY2 := Lib.hid ((hb.block _ (lt_of HY1.out)).trans HY1.out)
    clear hb
    obtain ⟨c0, c1⟩ := mtC HY2.out
    go_wp2_with fail
    refine (HVn.out _ HB2.out).mono ?_
    rintro e w3 ⟨rfl, hb⟩
    have HB3 := Lib.hid (HB2.out.next hb)
    clear hb c0 c1
    go_wp2
    go_ret
    exact ⟨rfl, HB3.out⟩
  | true =>
  have e0 : validM s' P' = 0 := by unfold validM; rw [hok]; rfl
  rw [e0] at HVn
  have Hok' := Lib.hid hok
  obtain ⟨⟨hs0', hs1'⟩, -, -⟩ := okM_iff.1 hok
  obtain ⟨n', rfl⟩ : ∃ n' : Nat, s' = (n' : Int) := ⟨s'.toNat, by omega⟩
  clear e0 hok
  go_enter Tryd.func35, Tryd.ntmps35
  go_wp2_with fail
  refine (HVo.out _ HB1.out).mono ?_
  rintro e w2 ⟨rfl, hb⟩
  have HB2 := Lib.hid (HB1.out.next hb)
  have HX2 := Lib.hid ((hb.block _ (lt_of HX1.out)).trans HX1.out)
  have HY2 := Lib.hid ((hb.block _ (lt_of HY1.out)).trans HY1.out)
  clear hb
  obtain ⟨c0, c1⟩ := mtC HY2.out
  go_wp2_with fail
  refine (HVn.out _ HB2.out).mono ?_
  rintro e w3 ⟨rfl, hb⟩
  have HB3 := Lib.hid (HB2.out.next hb)
  have HX3 := Lib.hid ((hb.block _ (lt_of HX2.out)).trans HX2.out)
  have HY3 := Lib.hid ((hb.block _ (lt_of HY2.out)).trans HY2.out)
  clear hb c0 c1
  obtain ⟨x0, x1⟩ := mtC HX3.out
  obtain ⟨y0, y1⟩ := mtC HY3.out
  by_cases hnn : n' < n
  · have d1 : decide ((n' : Int) < (n : Int)) = true := by simp; omega
    have hdf := decide_eq_false (show ¬ (n : Int) ≤ (n' : Int) by omega)
    have e1 : RES = false := by rw [← HRES.out]; unfold grownB; rw [hdf]; simp
    subst e1
    go_wp2
    go_ret
    exact ⟨rfl, HB3.out⟩
  have d1 : decide ((n' : Int) < (n : Int)) = false := by simp; omega
  go_wp2_with fail
  refine (HDg.out _ HB3.out).mono ?_
  rintro e w4 ⟨rfl, rfl⟩
  cases hR : all32 R with
  | false =>
    have e1 : RES = false := by rw [← HRES.out]; unfold grownB; rw [hR]; simp
    subst e1
    go_wp2
    go_ret
    exact ⟨rfl, HB3.out⟩
  | true =>
  have HR32 := Lib.hid (all32_get hR)
  have HRa := Lib.hid hR
  have HSt := Lib.hid (fun W => RSteps_any n n' W (by omega) (by omega))
  have hSl := stepsL_few n n' (by omega)
  obtain ⟨ST, hST⟩ : ∃ x, stepsL n n' = x := ⟨_, rfl⟩
  obtain ⟨N, hN⟩ : ∃ x, ST.length = x := ⟨_, rfl⟩
  rw [hST] at HSt hSl
  rw [hN] at HSt hSl
  have HST := Lib.hid hST
  have HNn := Lib.hid hN
  clear hST hN hR
  go_wp2_with fail
  refine (HSt.out _).mono ?_
  rintro e w5 ⟨sv, rfl, hso, hb⟩
  have HB5 := Lib.hid (HB3.out.next hb)
  have HX5 := Lib.hid ((hb.block _ (lt_of HX3.out)).trans HX3.out)
  have HY5 := Lib.hid ((hb.block _ (lt_of HY3.out)).trans HY3.out)
  have HS5 := Lib.hid hso
  obtain ⟨sa, sc, rfl⟩ := own_form hso
  have hz4 : w.heap.size + 1 < w4.heap.size := lt_of HY3.out
  clear hb hso x0 x1 y0 y1
  by_cases hlen : N = R.length
  rotate_left
  · have d2 : ((N : Int) != (R.length : Int)) = true := by simp; omega
    have d2' : ((N : Int) == (R.length : Int)) = false := by simp; omega
    have e1 : RES = false := by
      rw [← HRES.out]; unfold grownB; rw [Int.toNat_natCast, Int.toNat_natCast, HST.out, HNn.out, decide_eq_false hlen]; simp
    subst e1
    go_wp2
    go_ret
    exact ⟨rfl, HB5.out⟩
  have d2 : ((N : Int) != (R.length : Int)) = false := by simp; omega
  have d2' : ((N : Int) == (R.length : Int)) = true := by simp; omega
  have HE := Lib.hid (show RES = decide (raises (stepsL n n') R n P = P') by
    rw [← HRES.out]; unfold grownB
    rw [Hok.out, Hok'.out, HRa.out, decide_eq_true (show (n : Int) ≤ (n' : Int) by omega), Int.toNat_natCast, Int.toNat_natCast, HST.out, HNn.out, decide_eq_true hlen]; simp)
  obtain ⟨FIN, hFIN⟩ : ∃ x, raises (stepsL n n') R n P = x := ⟨_, rfl⟩
  rw [hFIN] at HE
  have HFIN := Lib.hid hFIN
  clear hFIN
  go_wp2
  go_loopw [8] (fun iv wr => ∃ (k M : Nat) (Q : List Bs) (a : Option Addr) (c : Nat), k ≤ N ∧ iv = .int .i64 (k : Int) ∧ M ≤ n' ∧ ST.drop k = stepsL M n' ∧ raises (stepsL M n') (R.drop k) M Q = FIN ∧ Q.length = (hts M).length ∧ (∀ x ∈ Q, x.length = 32) ∧
    wr.heap[w.heap.size]? = some (.cells #[.int .i64 (M : Int), .slice a Q.length c] 31) ∧ IsSl (.slice a Q.length c) (Q.map vS) wr ∧ NilOk (.slice a Q.length c) ∧ Kept (One w.heap.size) w5 wr) (fun iv _ => N - (intOf iv).toNat)
  case atStart => exact ⟨0, n, P, va, vc, by omega, rfl, by omega, by rw [List.drop_zero, HST.out], by rw [List.drop_zero]; exact HFIN.out, HPl.out, HP32.out, HX5.out, HP.out.below HB5.out, HN.out, Kept.refl _ _⟩
  case round =>
    obtain ⟨k, M, Q, a, c, hk, rfl, hM, hdr, hra, hQl, hQ32, hx, hq, hnl, hkp⟩ := hrel
    have HDr := Lib.hid hdr
    have HRa' := Lib.hid hra
    have HQl := Lib.hid hQl
    have HQ32 := Lib.hid hQ32
    have HX := Lib.hid hx
    have HQ := Lib.hid hq
    have HNl := Lib.hid hnl
    have HK := Lib.hid hkp
    have HB := Lib.hid (HB5.out.trans (hkp.below HB5.out.size (fun q hq e => by have : q = w.heap.size := e; omega)))
    have HY := Lib.hid ((hkp.block _ (lt_of HY5.out) (fun e => by have : w.heap.size + 1 = w.heap.size := e; omega)).trans HY5.out)
    have HSr := Lib.hid (ownsRow_kept HS5.out hkp (fun q hq e => by have : q = w.heap.size := e; omega))
    have hQ21 : Q.length ≤ 21 := by rw [hQl]; exact hts_len 21 _
    clear hdr hra hQl hQ32 hx hq hnl hkp HX5 HY5 HS5 HFIN
    by_cases hlt : k < N
    · have hMn : M < n' := by
        rcases Nat.lt_or_ge M n' with c' | c'
        · exact c'
        · have h1 := HDr.out
          rw [stepsL_end (by omega)] at h1
          have h2 := congrArg List.length h1
          rw [List.length_drop, HNn.out, List.length_nil] at h2
          omega
      have hgo := stepsL_go hMn
      obtain ⟨s1, s2⟩ := hStep_ok hMn
      obtain ⟨h, hh⟩ : ∃ h, hStep M n' = h := ⟨_, rfl⟩
      rw [hh] at hgo s1 s2
      have hdr := HDr.out
      rw [hgo] at hdr
      have hSk : ST[k]? = some h := by
        have := List.getElem?_drop (xs := ST) (i := k) (j := 0)
        rw [hdr] at this
        exact this.symm
      have HD2 := Lib.hid (show ST.drop (k + 1) = stepsL (M + 2 ^ h) n' by rw [← List.drop_drop, hdr]; rfl)
      obtain ⟨x, hx⟩ : ∃ x, R.getD k [] = x := ⟨_, rfl⟩
      have hRk : R.drop k = x :: R.drop (k + 1) := by
        rw [List.drop_eq_getElem_cons (by omega), ← hx, List.getD_eq_getElem?_getD, List.getElem?_eq_getElem (by omega)]
        rfl
      have hx32 : x.length = 32 := by
        rw [← hx, List.getD_eq_getElem?_getD, List.getElem?_eq_getElem (show k < R.length by omega)]
        exact HR32.out _ (List.getElem_mem _)
      have hra := HRa'.out
      rw [hgo, hRk, raises] at hra
      have HRa2 := Lib.hid hra
      have hdiv : M / 2 ^ h * 2 ^ h = M := by
        have := Nat.div_add_mod M (2 ^ h)
        rw [s1, Nat.mul_comm] at this
        omega
      have hb21 : M + 2 ^ h < 2 ^ 21 := by omega
      have hql2 := raiseQ_len (M / 2 ^ h) h Q x (by rw [hdiv]; exact HQl.out) (by rw [hdiv]; exact hb21)
      rw [hdiv] at hql2
      have HQl2 := Lib.hid hql2
      have HQ322 := Lib.hid (raiseQ_all (M / 2 ^ h) Q x HQ32.out hx32)
      have HAp := Lib.hid (fun W (hb : Below wr.heap.size wr W) => appended_any _ M h Q x W ((show MtIs _ (M : Int) Q wr from ⟨_, rfl, HQ.out, HNl.out⟩).below hb) hb21 hdiv HQl.out (fun y hy => max32 (HQ32.out y hy)) (max32 hx32))
      obtain ⟨g, gc, hg, _, _, _⟩ := own_some HSr.out (by omega)
      simp only [Value.slice.injEq, true_and] at hg
      obtain ⟨rfl, rfl⟩ := hg
      have hcell : wr.cell? ⟨g, k, none⟩ = some (.int .i64 (h : Int)) := by
        rw [ownCell HSr.out (by rw [List.length_map, HNn.out]; exact hlt), List.getElem?_map, hSk]
        rfl
      have hgne : g ≠ w.heap.size := by
        have := (HSr.out.lt g rfl).1
        omega
      obtain ⟨b, off, cap', hvv, hbb, hcc⟩ := (HR.out.below HB.out).text rfl (show k < R.length by omega)
      simp only [Value.slice.injEq, true_and] at hvv
      obtain ⟨rfl, rfl⟩ := hvv
      rw [hx] at hcc
      have hbne : b ≠ w.heap.size := by
        intro e
        subst e
        have h1 := HX.out
        rw [cell_of h1] at hcc
        match off + k, hcc with
        | 0, hcc => simp at hcc
        | 1, hcc => simp at hcc
        | q + 2, hcc => simp at hcc
      have HS := Lib.hid (show ∀ Wc, Kept (One w.heap.size) wr Wc → (fun W : World => W.cell? ⟨g, k, none⟩ = some (.int .i64 (h : Int)) ∧ W.cell? ⟨b, off + k, none⟩ = some (.string (B x))) Wc from
        fun Wc hk => ⟨(hk.cell (World.block_lt_of_cell? wr _ hcell) hgne).trans hcell, (hk.cell (World.block_lt_of_cell? wr _ hcc) hbne).trans hcc⟩)
      obtain ⟨P2, hP2⟩ : ∃ p2, 2 ^ h = p2 := ⟨_, rfl⟩
      obtain ⟨QN, hQN⟩ : ∃ q, raiseQ (M / 2 ^ h) Q x = q := ⟨_, rfl⟩
      rw [hQN] at HQl2 HQ322 HRa2
      simp only [hQN] at HAp
      rw [hP2] at HD2 HRa2 HQl2 s2
      simp only [hP2] at HAp
      clear hgo hh hdr hSk hx hRk hra hdiv hb21 hql2 hcell hgne hcc hbne s1 hP2 hQN hx32
      have hkI : (k : Int) < (N : Int) := by omega
      have hkR : (k : Int) < (R.length : Int) := by omega
      have hkRn : k < R.length := by omega
      go_wp2
      refine wp_region_held_drew (S := (fun W : World => W.cell? ⟨g, k, none⟩ = some (.int .i64 (h : Int)) ∧ W.cell? ⟨b, off + k, none⟩ = some (.string (B x)))) (by kernel_rfl) (HS.out _ (Kept.refl _ _).drew) (fun hHeld => ?_)
      change wpAnyH _ _ _ _ _ _ _ _ wr.drew
      obtain ⟨Wd, hWd⟩ : ∃ Wd, wr.drew = Wd := ⟨_, rfl⟩
      have HWd := Lib.hid (show Below wr.heap.size wr Wd from hWd ▸ dr (Below.refl _ _))
      rw [hWd] at hHeld ⊢
      clear hWd
      have hbd := below_heap HWd.out (lt_of HX.out) HX.out
      refine take_at 1 46 (oi := ?o1) (v := ?v1) ?hi1 ?hd1 (by kernel_rfl) (by kernel_rfl) (by kernel_rfl) ?hQ1 ?hw1 ?hy1 (by assumption) ?rest1
      case hi1 => simp only [List.getElem?_toArray, List.getElem?_cons_succ, List.getElem?_cons_zero]; rfl
      case hd1 => rfl
      case hw1 => kernel_rfl
      case hy1 => intro W hW; (try dsimp only at hW); go_simp <;> with_reducible rfl
      case hQ1 => exact fun _ _ _ h => h
      try simp only [Act.put, List.setIfInBounds_toArray, List.set_cons_zero, List.set_cons_succ]
      refine take_at 2 47 (oi := ?o2) (v := ?v2) ?hi2 ?hd2 (by kernel_rfl) (by kernel_rfl) (by kernel_rfl) ?hQ2 ?hw2 ?hy2 (by assumption) ?rest2
      case hi2 => simp only [List.getElem?_toArray, List.getElem?_cons_succ, List.getElem?_cons_zero]; rfl
      case hd2 => rfl
      case hw2 => kernel_rfl
      case hy2 => intro W hW; (try dsimp only at hW); go_simp <;> with_reducible rfl
      case hQ2 => exact fun _ _ _ h => h
      try simp only [Act.put, List.setIfInBounds_toArray, List.set_cons_zero, List.set_cons_succ]
      refine take_at 3 48 (oi := ?o3) (v := ?v3) ?hi3 ?hd3 (by kernel_rfl) (by kernel_rfl) (by kernel_rfl) ?hQ3 ?hw3 ?hy3 (by assumption) ?rest3
      case hi3 => simp only [List.getElem?_toArray, List.getElem?_cons_succ, List.getElem?_cons_zero]; rfl
      case hd3 => rfl
      case hw3 => kernel_rfl
      case hy3 => intro W hW; (try dsimp only at hW); go_simp <;> with_reducible rfl
      case hQ3 => exact fun _ _ _ h => h
      try simp only [Act.put, List.setIfInBounds_toArray, List.set_cons_zero, List.set_cons_succ]
      refine take_at 4 49 (oi := ?o4) (v := ?v4) ?hi4 ?hd4 (by kernel_rfl) (by kernel_rfl) (by kernel_rfl) ?hQ4 ?hw4 ?hy4 (by assumption) ?rest4
      case hi4 => simp only [List.getElem?_toArray, List.getElem?_cons_succ, List.getElem?_cons_zero]; rfl
      case hd4 => rfl
      case hw4 => kernel_rfl
      case hy4 => intro W hW; (try dsimp only at hW); go_simp <;> with_reducible rfl
      case hQ4 => exact fun _ _ _ h => h
      try simp only [Act.put, List.setIfInBounds_toArray, List.set_cons_zero, List.set_cons_succ]
      refine take_at 5 50 (oi := ?o5) (v := ?v5) ?hi5 ?hd5 (by kernel_rfl) (by kernel_rfl) (by kernel_rfl) ?hQ5 ?hw5 ?hy5 (by assumption) ?rest5
      case hi5 => simp only [List.getElem?_toArray, List.getElem?_cons_succ, List.getElem?_cons_zero]; rfl
      case hd5 => rfl
      case hw5 => kernel_rfl
      case hy5 => intro W hW; (try dsimp only at hW); go_simp <;> with_reducible rfl
      case hQ5 => exact fun _ _ _ h => h
      try simp only [Act.put, List.setIfInBounds_toArray, List.set_cons_zero, List.set_cons_succ]
      refine take_at 6 51 (oi := ?o6) (v := ?v6) ?hi6 ?hd6 (by kernel_rfl) (by kernel_rfl) (by kernel_rfl) ?hQ6 ?hw6 ?hy6 (by assumption) ?rest6
      case hi6 => simp only [List.getElem?_toArray, List.getElem?_cons_succ, List.getElem?_cons_zero]; rfl
      case hd6 => rfl
      case hw6 => kernel_rfl
      case hy6 => intro W hW; (try dsimp only at hW); go_simp <;> with_reducible rfl
      case hQ6 => exact fun _ _ _ h => h
      try simp only [Act.put, List.setIfInBounds_toArray, List.set_cons_zero, List.set_cons_succ]
      refine take_at 7 52 (oi := ?o7) (v := ?v7) ?hi7 ?hd7 (by kernel_rfl) (by kernel_rfl) (by kernel_rfl) ?hQ7 ?hw7 ?hy7 (by assumption) ?rest7
      case hi7 => simp only [List.getElem?_toArray, List.getElem?_cons_succ, List.getElem?_cons_zero]; rfl
      case hd7 => rfl
      case hw7 => kernel_rfl
      case hy7 => intro W hW; (try dsimp only at hW); go_simp <;> with_reducible rfl
      case hQ7 => exact fun _ _ _ h => h
      try simp only [Act.put, List.setIfInBounds_toArray, List.set_cons_zero, List.set_cons_succ]
      refine take_at 8 53 (oi := ?o8) (v := ?v8) ?hi8 ?hd8 (by kernel_rfl) (by kernel_rfl) (by kernel_rfl) ?hQ8 ?hw8 ?hy8 (by assumption) ?rest8
      case hi8 => simp only [List.getElem?_toArray, List.getElem?_cons_succ, List.getElem?_cons_zero]; rfl
      case hd8 => rfl
      case hw8 => kernel_rfl
      case hy8 => intro W hW; (try dsimp only at hW); go_simp <;> with_reducible rfl
      case hQ8 => exact fun _ _ _ h => h
      try simp only [Act.put, List.setIfInBounds_toArray, List.set_cons_zero, List.set_cons_succ]
      refine wpAnyH_ready (rs := [0]) (by kernel_rfl) (by simp) ?_
      refine AllReadyH.cons rfl (fun K hK => ?_) AllReadyH.nil
      obtain ⟨z0, z1⟩ := mtC hbd
      go_simp
      clear z0 z1 hbd
      refine hK.out _ _ (HS.out _ (Kept.of_below HWd.out)) (fun hHeld => ?_)
      clear hK K
      try simp only [Act.put, List.setIfInBounds_toArray, List.set_cons_zero, List.set_cons_succ]
      refine wpAnyH_ready (rs := [9]) (by kernel_rfl) (by simp) ?_
      refine AllReadyH.cons rfl (fun K hK => ?_) AllReadyH.nil
      go_simp
      refine (HAp.out _ HWd.out).mono ?_
      rintro e W8 ⟨v8, rfl, ⟨p8, rfl, hp8, hn8⟩, hb8⟩
      obtain ⟨a8, c8, rfl⟩ := hp8.formMap
      have HW8 := Lib.hid (HWd.out.next hb8)
      have HP8 := Lib.hid hp8
      have HN8 := Lib.hid hn8
      clear hb8 hp8 hn8
      have hb8 := below_heap HW8.out (lt_of HX.out) HX.out
      have Hb8 := Lib.hid hb8
      refine hK.out _ _ (HS.out _ (Kept.of_below HW8.out)) (fun hHeld => ?_)
      clear hK K
      try simp only [Act.put, List.setIfInBounds_toArray, List.set_cons_zero, List.set_cons_succ]
      refine wpAnyH_ready (rs := [10]) (by kernel_rfl) (by simp) ?_
      refine AllReadyH.cons rfl (fun K hK => ?_) AllReadyH.nil
      obtain ⟨z0, z1⟩ := mtC hb8
      have zf0 := free_of hb8 0
      have zf1 := free_of hb8 1
      clear hb8
      go_simp
      clear z0 z1 zf0 zf1
      have hk8 : Kept (One w.heap.size) W8 ((W8.setCell ⟨w.heap.size, 0, none⟩ (.int .i64 ((M + P2 : Nat) : Int))).setCell ⟨w.heap.size, 1, none⟩ (.slice a8 QN.length c8)) := kept2 _ _ _ _
      have HK8 := Lib.hid ((Kept.of_below HW8.out).trans hk8)
      refine hK.out _ _ (HS.out _ HK8.out) (fun hHeld => ?_)
      clear hK K hk8
      try simp only [Act.put, List.setIfInBounds_toArray, List.set_cons_zero, List.set_cons_succ]
      refine wpAnyH_done (by kernel_rfl) ?_ _
      try simp only [Exit.then]
      clear hHeld
      go_wp2
      go_roundw
      case rel => exact ⟨k + 1, M + P2, QN, a8, c8, by omega, by go_num, s2, HD2.out, HRa2.out, HQl2.out, HQ322.out, set_of (set_of Hb8.out 0 _) 1 _, isSl_mtSet (isSl_mtSet HP8.out Hb8.out 0 _) (set_of Hb8.out 0 _) 1 _, HN8.out, HK.out.trans HK8.out⟩
      case measure => simp [intOf]; omega
    · obtain rfl : k = N := by omega
      have h1 := HDr.out
      rw [← HNn.out, List.drop_length] at h1
      have hMn : M = n' := by
        rcases Nat.lt_or_ge M n' with c' | c'
        · rw [stepsL_go c'] at h1
          cases h1
        · omega
      subst hMn
      have h2 := HRa'.out
      rw [stepsL_end (by omega), raises] at h2
      have hre := HE.out
      rw [← h2] at hre
      have HRe := Lib.hid hre
      obtain ⟨x0, x1⟩ := mtC HX.out
      obtain ⟨y0, y1⟩ := mtC HY.out
      have hSm := MtSame_any _ _ (M : Int) (M : Int) Q P' wr ⟨_, rfl, HQ.out, HNl.out⟩ (HU.out.below HB.out)
      rw [show sameMt (M : Int) Q (M : Int) P' = RES by rw [HRe.out]; unfold sameMt; rw [decide_eq_true rfl, Bool.true_and]] at hSm
      have HSm := Lib.hid hSm
      clear h1 h2 hre hSm
      go_wp2_with fail
      refine HSm.out.mono ?_
      rintro e w8 ⟨rfl, hb⟩
      have HB8 := Lib.hid (HB.out.next hb)
      clear hb
      go_wp2
      go_ret
      exact ⟨rfl, HB8.out⟩
end Go.Proofs.YtfklmjcjjdliiaaDoor
