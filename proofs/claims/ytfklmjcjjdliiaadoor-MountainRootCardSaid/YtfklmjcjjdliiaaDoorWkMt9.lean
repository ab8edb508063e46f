/- Leaves of the reference of mountain, and Included of package mountain, do what the plain functions say. -/
import Derived.Test.YtfklmjcjjdliiaaDoorWkMt6
namespace Go.Proofs.YtfklmjcjjdliiaaDoor
open Go Go.RowKit Licit

def leavesM (seed : Bs) (n : Nat) : List Bs := (List.range n).map fun i : Nat => leafM (seed ++ num (i : Int))
theorem leavesM_succ (seed : Bs) (n : Nat) : leavesM seed (n + 1) = leavesM seed n ++ [leafM (seed ++ num (n : Int))] := by simp [leavesM, List.range_succ]
theorem leavesM_len (seed : Bs) (n : Nat) : (leavesM seed n).length = n := by simp [leavesM]
theorem leavesM_32 (seed : Bs) (n : Nat) : ∀ x ∈ leavesM seed n, x.length = 32 := by
  intro x hx
  obtain ⟨i, _, rfl⟩ := List.mem_map.1 hx
  exact leafM_len _
theorem num_short (n : Nat) (h : n ≤ 100000) : (num (n : Int)).length ≤ 65600 := eNum_len n (by omega)

set_option maxHeartbeats 2000000 in
set_option maxRecDepth 100000 in
theorem Leaves_any (seed : Bs) (n : Nat) (w : World) (hs : seed.length ≤ 1000000000) (hn : n ≤ 100000) :
    Calls Tryd.prog 21 #[.string (B seed), .int .i64 (n : Int)] w fun e w' => ∃ v, e = .returned v ∧ w'.ownsRow w.heap.size 9 1 v n ((leavesM seed n).map vS) ∧ Below w.heap.size w w' := by
  obtain ⟨i0, hi, hz0, hz1, hz2⟩ := info_parts Tryd.infoStr
  have Hi := Lib.hid hi
  have Hz0 := Lib.hid hz0
  have Hz1 := Lib.hid hz1
  have Hz2 := Lib.hid hz2
  clear hi hz0 hz1 hz2
  have y0 : (B seed).size = seed.length := rfl
  go_enter Tryd.func21, Tryd.ntmps21
  go_wp2
  go_loopw [5, 6] (fun v i wr => ∃ k : Nat, k ≤ n ∧ i = .int .i64 (k : Int) ∧ wr.ownsRow w.heap.size 9 1 v k ((leavesM seed k).map vS) ∧ Below w.heap.size w wr) (fun _ i _ => n - (intOf i).toNat)
  case atStart => exact ⟨0, by omega, rfl, World.ownsRow_nil _ _ _ _, Below.refl _ _⟩
  case round =>
    obtain ⟨k, hk, rfl, ho, hb⟩ := hrel
    have HO := Lib.hid ho
    have HB := Lib.hid hb
    obtain ⟨va, vc, rfl⟩ := own_form ho
    clear ho hb
    by_cases hlt : k < n
    · have hnl := num_short k (by omega)
      have y1 : (B (num (k : Int))).size = (num (k : Int)).length := rfl
      have HLf := Lib.hid (fun W => show Gives 25 #[.string (B seed ++ B (num (k : Int)))] W (.string (B (leafM (seed ++ num (k : Int))))) by rw [B_append]; exact RLeaf49_any _ W (by rw [List.length_append]; unfold maxLen; omega))
      obtain ⟨z, hz⟩ : ∃ z, leafM (seed ++ num (k : Int)) = z := ⟨_, rfl⟩
      rw [hz] at HLf
      have HZ := Lib.hid (show (leavesM seed k).map vS ++ [vS z] = (leavesM seed (k + 1)).map vS by rw [leavesM_succ, hz, List.map_append]; rfl)
      have HN := Lib.hid (fun W => N_any (k : Int) W)
      clear hz
      go_wp2_with
        (first
          | (go_at_call 53; refine (HN.out _).mono ?_; rintro e w2 ⟨rfl, hb2⟩
             have HO2 := Lib.hid (ownsRow_block HO.out (fun q _ hq => hb2.block q hq))
             have HB2 := Lib.hid (HB.out.next hb2)
             clear hb2)
          | (go_at_call 25; refine (HLf.out _).mono ?_; rintro e w3 ⟨rfl, hb3⟩
             have HO3 := Lib.hid (ownsRow_block HO2.out (fun q _ hq => hb3.block q hq))
             have HB3 := Lib.hid (HB2.out.next hb3)
             clear hb3)
          | (at_builtin
             go_loud (
             refine wpList_append_own _ rfl _ _ 22 rfl w.heap.size 9 i0 (.string ⟨#[]⟩) 1 16 Tryd.underlying22 Hi.out Hz0.out Hz1.out Hz2.out rfl (by decide) _ k ((leavesM seed k).map vS) rfl (HO3.out.alloc _) ⟨w3.heap.size, 0, none⟩ 1 1 [vS z] rfl rfl (news_one (new_of _ _)) (by simp [vS, Value.oneCell']) (by unfold maxLen; omega) (by omega) (by have := HB3.out.size; simp; omega) ?_
             intro v5 w5 ho5 hg5 _
             have hb5 : Below w.heap.size w w5 := (HB3.out.alloc HB3.out.size _).grown hg5 (by have := HB3.out.size; simp; omega) (fun q hq => by have := HO3.out.lt q hq; exact this.1)
             have HO5 := Lib.hid ho5
             have HB5 := Lib.hid hb5
             clear ho5 hg5 hb5)))
      go_roundw
      case rel => exact ⟨k + 1, by omega, by go_num, by rw [← HZ.out]; exact HO5.out, HB5.out⟩
      case measure => simp [intOf]; omega
    · obtain rfl : k = n := by omega
      go_wp2
      go_ret
      exact ⟨_, rfl, HO.out, HB.out⟩

set_option maxHeartbeats 8000000 in
set_option maxRecDepth 100000 in
theorem Incl_any (v u : Value) (s : Int) (P : List Bs) (i : Int) (leaf : Bs) (R : List Bs) (w : World) (hv : MtIs v s P w) (hu : IsSl u (R.map vS) w) (hlf : leaf.length ≤ maxLen) (ht : Tab w) :
    Calls Tryd.prog 20 #[v, .int .i64 i, .string (B leaf), u] w fun e w' => e = .returned (.bool (inclB s P i leaf R)) ∧ Below w.heap.size w w' := by
  have HV := Lib.hid hv
  have HU := Lib.hid hu
  obtain ⟨p, rfl, hp, hn0⟩ := hv
  have HP := Lib.hid hp
  obtain ⟨a, c, rfl⟩ := hp.formMap
  obtain ⟨ua, uc, rfl⟩ := hu.formMap
  have hul := hu.1
  rw [List.length_map] at hul
  unfold maxLen at hul
  have HB1 := Lib.hid ((Below.refl w.heap.size w).alloc (Nat.le_refl _) (.cells #[.int .i64 s, .slice a P.length c] 31))
  have HX1 := Lib.hid (new_of w (.cells #[.int .i64 s, .slice a P.length c] 31))
  have HVl := Lib.hid (fun W (hb : Below w.heap.size w W) => MtValid_any _ s P W (HV.out.below hb))
  have HWr := Lib.hid (fun W => wrong_any leaf W)
  have HWs := Lib.hid (fun W (hb : Below w.heap.size w W) => Wrongs_any _ R W (HU.out.below hb))
  clear hu hp hn0
  obtain ⟨RES, hRES⟩ : ∃ x, inclB s P i leaf R = x := ⟨_, rfl⟩
  rw [hRES]
  cases hok : okM s P with
  | false =>
    have e0 : validM s P = 1 := by unfold validM; rw [hok]; rfl
    have e1 : RES = false := by rw [← hRES]; unfold inclB; rw [hok]; simp
    rw [e0] at HVl
    subst e1
    clear e0 hok hRES
    go_enter Tryd.func20, Tryd.ntmps20
    go_wp2_with fail
    refine (HVl.out _ HB1.out).mono ?_
    rintro e w2 ⟨rfl, hb⟩
    have HB2 := Lib.hid (HB1.out.next hb)
    clear hb
    go_wp2
    go_ret
    exact ⟨rfl, HB2.out⟩
  | true =>
    have e0 : validM s P = 0 := by unfold validM; rw [hok]; rfl
    rw [e0] at HVl
    obtain ⟨⟨hs0, hs1⟩, hPl, hP32⟩ := okM_iff.1 hok
    obtain ⟨n, rfl⟩ : ∃ n : Nat, s = (n : Int) := ⟨s.toNat, by omega⟩
    rw [Int.toNat_natCast] at hPl
    have hn20 : n ≤ 1048576 := by omega
    have HPl := Lib.hid hPl
    have HP32 := Lib.hid hP32
    have Hok := Lib.hid hok
    have HRES := Lib.hid hRES
    clear e0 hPl hP32 hok hs0 hs1 hRES
    go_enter Tryd.func20, Tryd.ntmps20
    go_wp2_with fail
    refine (HVl.out _ HB1.out).mono ?_
    rintro e w2 ⟨rfl, hb⟩
    have HB2 := Lib.hid (HB1.out.next hb)
    have HX2 := Lib.hid ((hb.block _ (lt_of HX1.out)).trans HX1.out)
    clear hb
    obtain ⟨c0, c1⟩ := mtC HX2.out
    by_cases h0 : i < 0
    · have e1 : RES = false := by rw [← HRES.out]; unfold inclB; rw [decide_eq_false (show ¬ 0 ≤ i by omega)]; simp
      subst e1
      have d1 : decide (i < 0) = true := by simpa using h0
      go_wp2
      go_ret
      exact ⟨rfl, HB2.out⟩
    obtain ⟨j, rfl⟩ : ∃ j : Nat, i = (j : Int) := ⟨i.toNat, by omega⟩
    have d1 : decide ((j : Int) < 0) = false := by simp
    by_cases hj : n ≤ j
    · have e1 : RES = false := by rw [← HRES.out]; unfold inclB; rw [decide_eq_false (show ¬ (j : Int) < (n : Int) by omega)]; simp
      subst e1
      have d2 : decide ((n : Int) ≤ (j : Int)) = true := by simp; omega
      go_wp2
      go_ret
      exact ⟨rfl, HB2.out⟩
    have d2 : decide ((n : Int) ≤ (j : Int)) = false := by simp; omega
    go_wp2_with fail
    refine (HWr.out _).mono ?_
    rintro e w3 ⟨rfl, rfl⟩
    by_cases h32 : leaf.length = 32
    rotate_left
    · have e1 : RES = false := by rw [← HRES.out]; unfold inclB; rw [decide_eq_false h32]; simp
      subst e1
      have d3 : (!(decide (leaf.length = 32))) = true := by rw [decide_eq_false h32]; rfl
      rw [decide_eq_false h32]
      go_wp2
      go_ret
      exact ⟨rfl, HB2.out⟩
    rw [decide_eq_true h32]
    go_wp2_with fail
    refine (HWs.out _ HB2.out).mono ?_
    rintro e w4 ⟨rfl, rfl⟩
    cases hR : all32 R with
    | false =>
      have e1 : RES = false := by rw [← HRES.out]; unfold inclB; rw [hR]; simp
      subst e1
      clear hR
      go_wp2
      go_ret
      exact ⟨rfl, HB2.out⟩
    | true =>
    have HR32 := Lib.hid (all32_get hR)
    have HPc := Lib.hid (fun W => place_any n j W hn20 (by omega))
    obtain ⟨p1, _, p3, p4, p5, p6⟩ := place_ok (show n < 2 ^ 21 by omega) (show j < n by omega)
    obtain ⟨Nm, hNm⟩ : ∃ x, (place n j).1 = x := ⟨_, rfl⟩
    obtain ⟨Hh, hHh⟩ : ∃ x, (place n j).2.1 = x := ⟨_, rfl⟩
    obtain ⟨F, hF⟩ : ∃ x, (place n j).2.2 = x := ⟨_, rfl⟩
    have e1 : RES = (decide (R.length = Hh) && decide (climbM (j - F) R leaf R.length = P.getD Nm [])) := by
      rw [← HRES.out]
      unfold inclB
      rw [Hok.out, hR, decide_eq_true (show (0 : Int) ≤ (j : Int) by omega), decide_eq_true (show (j : Int) < (n : Int) by omega), decide_eq_true h32, Int.toNat_natCast, Int.toNat_natCast, hNm, hHh, hF]
      simp
    have HE := Lib.hid e1
    rw [hNm, hHh, hF] at HPc
    have hNmP : Nm < P.length := by
      rw [hNm] at p1
      rw [HPl.out]
      exact (List.getElem?_eq_some_iff.1 p1).1
    rw [hF] at p3
    rw [hHh] at p6
    clear e1 hNm hHh hF p1 p4 p5 hR h32
    go_wp2_with fail
    refine (HPc.out _).mono ?_
    rintro e w5 ⟨rfl, rfl⟩
    by_cases hRH : R.length = Hh
    rotate_left
    · have e1 : RES = false := by rw [HE.out, decide_eq_false hRH]; rfl
      subst e1
      have d4 : ((R.length : Int) == (Hh : Int)) = false := by simp; omega
      go_wp2
      go_ret
      exact ⟨rfl, HB2.out⟩
    subst hRH
    have HE2 := Lib.hid (show RES = decide (climbM (j - F) R leaf R.length = P.getD Nm []) by rw [HE.out, decide_eq_true rfl, Bool.true_and])
    clear HE
    obtain ⟨r, hr⟩ : ∃ r, j - F = r := ⟨_, rfl⟩
    rw [hr] at HE2
    have hsub : (j : Int) - (F : Int) = (r : Int) := by omega
    clear hr
    go_wp2
    go_loopw [12, 51] (fun t n' wr => ∃ k : Nat, k ≤ R.length ∧ n' = .int .i64 (k : Int) ∧ t = .string (B (climbM r R leaf k)) ∧ (climbM r R leaf k).length ≤ maxLen ∧ Below w.heap.size w wr ∧ wr.heap[w.heap.size]? = some (.cells #[.int .i64 (n : Int), .slice a P.length c] 31)) (fun _ n' _ => R.length - (intOf n').toNat)
    case atStart => exact ⟨0, by omega, rfl, rfl, hlf, HB2.out, HX2.out⟩
    case round =>
      obtain ⟨k, hk, rfl, rfl, hcl, hb, hx⟩ := hrel
      have HB := Lib.hid hb
      have HX := Lib.hid hx
      clear c0 c1
      obtain ⟨c0, c1⟩ := mtC hx
      obtain ⟨at_, hat⟩ : ∃ at_, climbM r R leaf k = at_ := ⟨_, rfl⟩
      rw [hat] at hcl ⊢
      have Hat := Lib.hid hat
      clear hb hx hat
      by_cases hlt : k < R.length
      · have h2 := HU.out.below HB.out
        obtain ⟨b, off, cap', hvv, hbb, hcc⟩ := h2.text rfl hlt
        simp only [Value.slice.injEq, true_and] at hvv
        obtain ⟨rfl, rfl⟩ := hvv
        obtain ⟨x, hx⟩ : ∃ x, R.getD k [] = x := ⟨_, rfl⟩
        rw [hx] at hcc
        have hxl : x.length ≤ maxLen := by rw [← hx]; exact getD_max (fun y hy => max32 (HR32.out y hy)) k
        obtain ⟨d, hd⟩ : ∃ d, r / 2 ^ k = d := ⟨_, rfl⟩
        have hdr : d ≤ r := by rw [← hd]; exact Nat.div_le_self _ _
        have hdv : (r : Int) / 2 ^ k = (d : Int) := by rw [← hd]; simp
        have hkm : min k 64 = k := by omega
        have hk64 : k ≤ 64 := by omega
        have hand := and_one_i64 d (by omega)
        obtain ⟨q, hq⟩ : ∃ q, d % 2 = q := ⟨_, rfl⟩
        rw [hq] at hand
        have htr := ht.same HB.out
        by_cases hq1 : q = 1
        · subst hq1
          have HSt := Lib.hid (show climbM r R leaf (k + 1) = pairM x at_ by rw [climbM, Hat.out, stepM, hx, hd, if_pos hq])
          have HPr := Lib.hid (pair_any x at_ wr hxl hcl htr)
          clear hx hd hq h2
          go_wp2_with fail
          refine HPr.out.mono ?_
          rintro e w6 ⟨rfl, hb6⟩
          have HB6 := Lib.hid (HB.out.next hb6)
          have HX6 := Lib.hid ((hb6.block _ (lt_of HX.out)).trans HX.out)
          clear hb6
          go_wp2
          go_roundw
          case rel => exact ⟨k + 1, by omega, by go_num, by rw [HSt.out], by rw [HSt.out]; exact max32 (pairM_len _ _), HB6.out, HX6.out⟩
          case measure => simp [intOf]; omega
        · have hq0 : ((q : Int) == 1) = false := by simp; omega
          have HSt := Lib.hid (show climbM r R leaf (k + 1) = pairM at_ x by rw [climbM, Hat.out, stepM, hx, hd, if_neg (by omega)])
          have HPr := Lib.hid (pair_any at_ x wr hcl hxl htr)
          clear hx hd hq h2
          go_wp2_with fail
          refine HPr.out.mono ?_
          rintro e w6 ⟨rfl, hb6⟩
          have HB6 := Lib.hid (HB.out.next hb6)
          have HX6 := Lib.hid ((hb6.block _ (lt_of HX.out)).trans HX.out)
          clear hb6
          go_wp2
          go_roundw
          case rel => exact ⟨k + 1, by omega, by go_num, by rw [HSt.out], by rw [HSt.out]; exact max32 (pairM_len _ _), HB6.out, HX6.out⟩
          case measure => simp [intOf]; omega
      · obtain rfl : k = R.length := by omega
        have h2 := HP.out.below HB.out
        obtain ⟨b, off, cap', hvv, hbb, hcc⟩ := h2.text rfl hNmP
        simp only [Value.slice.injEq, true_and] at hvv
        obtain ⟨rfl, rfl⟩ := hvv
        obtain ⟨x, hx⟩ : ∃ x, P.getD Nm [] = x := ⟨_, rfl⟩
        rw [hx] at hcc
        have he := HE2.out
        rw [hx, Hat.out] at he
        clear hx h2
        by_cases hxy : at_ = x
        · subst hxy
          rw [decide_eq_true rfl] at he
          subst he
          go_wp2
          go_ret
          exact ⟨rfl, HB.out⟩
        · rw [decide_eq_false hxy] at he
          subst he
          have hq : ((B at_).toList == (B x).toList) = false := beqB_ne hxy
          clear hxy
          go_wp2
          go_ret
          exact ⟨rfl, HB.out⟩
end Go.Proofs.YtfklmjcjjdliiaaDoor
