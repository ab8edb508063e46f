/- Bend of the reference of mountain hands back some list, whichever, and turns nothing that was there. -/
import Derived.Test.YtfklmjcjjdliiaaDoorFrmMore
import Derived.Test.YtfklmjcjjdliiaaDoorWkMt2
import Derived.Deep.Cut
namespace Go.Proofs.YtfklmjcjjdliiaaDoor
open Go Go.RowKit Licit

/-- One text of a slice is set. -/
theorem slSet49 {g n cap : Nat} {xs : List Bs} {w : World} (h : IsSl (.slice (some ⟨g, 0, none⟩) n cap) (xs.map vS) w) (hn : xs.length = n) {b : Nat} (hb : b < n) (x : Bs) : IsSl (.slice (some ⟨g, 0, none⟩) n cap) ((xs.set b x).map vS) (w.setCell ⟨g, b, none⟩ (.string (B x))) := by
  rcases h.2 with ⟨a, c, e, hx⟩ | ⟨b', off, c, e, h0, hc⟩
  · simp at hx
    subst hx
    simp at hn
    omega
  · simp only [Value.slice.injEq, Option.some.injEq, Addr.mk.injEq, and_true] at e
    obtain ⟨⟨rfl, rfl⟩, hl, rfl⟩ := e
    refine ⟨by rw [List.length_map, List.length_set]; rw [List.length_map] at hl; have := h.1; rw [List.length_map] at this; exact this, .inr ⟨g, 0, cap, ?_, ?_, fun i hi => ?_⟩⟩
    · rw [List.length_map, List.length_set, hn]
    · rw [List.length_map, List.length_set]; omega
    · rw [List.length_map, List.length_set] at hi
      have hci := hc i (by rw [List.length_map]; exact hi)
      rw [Nat.zero_add] at hci ⊢
      by_cases e : i = b
      · subst e
        rw [World.cell?_setCell_same w ⟨g, i, none⟩ _ (hci.trans (List.getElem?_eq_getElem (by rw [List.length_map]; exact hi)))]
        simp [hi, vS]
      · rw [World.cell?_setCell_other w ⟨g, b, none⟩ ⟨g, i, none⟩ _ (by intro h'; simp only [Addr.mk.injEq, true_and, and_true] at h'; exact e h'.symm), hci]
        simp [Ne.symm e]
theorem ownFree49 {w : World} {base : Nat} {t : TypeId} {g n cap : Nat} {xs : List Value} (h : w.ownsRow base t 1 (.slice (some ⟨g, 0, none⟩) n cap) n xs) (i : Nat) : w.frozen? ⟨g, i, none⟩ = false := by
  rcases h.2 with ⟨h0, _⟩ | ⟨g', cap', cur, h1, h2, h3, h4, h5, h6, h7⟩
  · cases h0
  · simp only [Value.slice.injEq, Option.some.injEq, Addr.mk.injEq] at h1
    obtain ⟨⟨rfl, _⟩, _, rfl⟩ := h1
    exact free_of h3 i
/-- What lies behind a text of an own row. -/
theorem ownBehind49 {g n cap base : Nat} {T : TypeId} {xs : List Value} {W : World} (h : W.ownsRow base T 1 (.slice (some ⟨g, 0, none⟩) n cap) n xs) (k : Nat) : ∀ j u, (xs.drop k)[j]? = some u → W.cell? ((⟨g, k, none⟩ : Addr).add j) = some u := by
  intro j u hu
  rw [Addr.add_lit, ownCell h]
  · rw [← hu, List.getElem?_drop]
  · rw [List.getElem?_drop] at hu
    exact (List.getElem?_eq_some_iff.1 hu).1

set_option maxHeartbeats 8000000 in
set_option maxRecDepth 100000 in
theorem Bend49_any (v : Value) (l : List Bs) (how at_ : Nat) (w : World) (h : IsSl v (l.map vS) w) (hnil : NilOk v) (hn : l.length ≤ 1000) (hl : ∀ x ∈ l, x.length ≤ 1000) :
    Calls Tryd.prog 24 #[v, .int .i64 (how : Int), .int .i64 (at_ : Int)] w fun e w' => ∃ v', e = .returned v' ∧ ∃ Q : List Bs, IsSl v' (Q.map vS) w' ∧ Q.length ≤ l.length + 1 ∧ Below w.heap.size w w' := by
  obtain ⟨i0, hi0, hz0, hz1, hz2⟩ := info_parts Tryd.infoStr
  have Hi := Lib.hid hi0
  have Hz0 := Lib.hid hz0
  have Hz1 := Lib.hid hz1
  have Hz2 := Lib.hid hz2
  have HV := Lib.hid h
  have HBn := Lib.hid ((Below.refl w.heap.size w).alloc (Nat.le_refl _) (.cells #[] 9))
  have HEn := Lib.hid (show (w.alloc (.cells #[] 9)).ownsRow w.heap.size 9 1 (.slice (some ⟨w.heap.size, 0, none⟩) 0 0) 0 [] from own_built (base := w.heap.size) (new_of w (.cells #[] 9)) (Nat.le_refl _) rfl (Nat.zero_le _))
  have HMo := Lib.hid (fun W => RLeaf49_any [109, 111, 114, 101] W (by unfold maxLen; simp))
  have HOt := Lib.hid (fun W => RLeaf49_any [111, 116, 104, 101, 114] W (by unfold maxLen; simp))
  obtain ⟨mo, hmo⟩ : ∃ x, leafM [109, 111, 114, 101] = x := ⟨_, rfl⟩
  obtain ⟨ot, hot⟩ : ∃ x, leafM [111, 116, 104, 101, 114] = x := ⟨_, rfl⟩
  rw [hmo] at HMo
  rw [hot] at HOt
  clear hi0 hz0 hz1 hz2 hmo hot
  rcases h.2 with ⟨ra, rc, rfl, hr⟩ | ⟨rb, ro, rc, rfl, hr0, _⟩
  · have hr' : l = [] := by simpa using hr
    subst hr'
    clear h hr
    rcases ra with _ | ra
    · obtain rfl := hnil 0 rc rfl
      go_enter Tryd.func24, Tryd.ntmps24
      go_upto_region 2 with (first
        | (at_builtin
           go_loud (
           refine wpList_append_own_none rfl _ _ 22 rfl w.heap.size 9 i0 1 Tryd.underlying22 Hi.out (.slice (some ⟨w.heap.size, 0, none⟩) 0 0) 0 [] rfl HEn.out rfl ?_
           obtain ⟨w4, hw4⟩ : ∃ w4, w.alloc (.cells #[] 9) = w4 := ⟨_, rfl⟩
           have HB4 := Lib.hid (show Below w.heap.size w w4 from hw4 ▸ HBn.out)
           have HO4 := Lib.hid (show w4.ownsRow w.heap.size 9 1 (.slice (some ⟨w.heap.size, 0, none⟩) 0 0) 0 [] from hw4 ▸ HEn.out)
           rw [hw4]
           clear hw4)))
      by_cases h1 : how = 1
      · subst h1
        go_wp2_with (first
          | (go_at_call 25; refine (HMo.out _).mono ?_; rintro e w5 ⟨rfl, hb5⟩
             have HB5 := Lib.hid (HB4.out.next hb5)
             have HO5 := Lib.hid (ownsRow_block HO4.out (fun q _ hq => hb5.block q hq))
             clear hb5)
          | (at_builtin
             go_loud (
             refine wpList_append_own _ rfl _ _ 22 rfl w.heap.size 9 i0 (.string ⟨#[]⟩) 1 16 Tryd.underlying22 Hi.out Hz0.out Hz1.out Hz2.out rfl (by decide) _ (List.length (α := Bs) []) (List.map vS []) rfl (HO5.out.alloc _) ⟨w5.heap.size, 0, none⟩ 1 1 [vS mo] rfl rfl (news_one (new_of _ _)) (by simp [vS, Value.oneCell']) (by unfold maxLen; first | omega | simp) (by first | omega | simp) (by have := HB5.out.size; simp; omega) ?_
             intro v6 w6 ho6 hg6 _
             have HB6 := Lib.hid ((HB5.out.alloc HB5.out.size _).grown hg6 (by have := HB5.out.size; simp; omega) (fun q hq => (HO5.out.lt q hq).1))
             have HO6 := Lib.hid ho6
             clear ho6 hg6)))
        go_ret
        exact ⟨_, rfl, [] ++ [mo], IsSl.of_owns (xs := ([] ++ [mo]).map vS) (by rw [List.length_map, List.length_append, List.map_append]; exact HO6.out) (by rw [List.length_map, List.length_append]; unfold maxLen; simp only [List.length_cons, List.length_nil]; omega), by simp, HB6.out⟩
      have hq1 : ((how : Int) == 1) = false := by simp; omega
      go_wp2
      go_ret
      exact ⟨_, rfl, [], IsSl.of_owns (xs := []) HO4.out (Nat.zero_le _), Nat.zero_le _, HB4.out⟩
    · go_enter Tryd.func24, Tryd.ntmps24
      go_upto_region 2 with (first
        | (at_builtin
           go_loud (
           refine wpList_append_own _ rfl _ _ 22 rfl w.heap.size 9 i0 (.string ⟨#[]⟩) 1 16 Tryd.underlying22 Hi.out Hz0.out Hz1.out Hz2.out rfl (by decide) _ 0 [] rfl HEn.out ra 0 rc [] rfl rfl (fun j u hu => by simp at hu) (by simp) (by unfold maxLen; omega) (by omega) (by simp) ?_
           intro v4 w4 ho4 hg4 _
           have HB4 := Lib.hid (HBn.out.grown hg4 (by simp) (fun q hq => by cases hq; exact Nat.le_refl _))
           have HO4 := Lib.hid (show w4.ownsRow w.heap.size 9 1 v4 0 [] from ho4)
           obtain ⟨a4, c4, rfl⟩ := own_form ho4
           clear ho4 hg4)))
      by_cases h1 : how = 1
      · subst h1
        go_wp2_with (first
          | (go_at_call 25; refine (HMo.out _).mono ?_; rintro e w5 ⟨rfl, hb5⟩
             have HB5 := Lib.hid (HB4.out.next hb5)
             have HO5 := Lib.hid (ownsRow_block HO4.out (fun q _ hq => hb5.block q hq))
             clear hb5)
          | (at_builtin
             go_loud (
             refine wpList_append_own _ rfl _ _ 22 rfl w.heap.size 9 i0 (.string ⟨#[]⟩) 1 16 Tryd.underlying22 Hi.out Hz0.out Hz1.out Hz2.out rfl (by decide) _ (List.length (α := Bs) []) (List.map vS []) rfl (HO5.out.alloc _) ⟨w5.heap.size, 0, none⟩ 1 1 [vS mo] rfl rfl (news_one (new_of _ _)) (by simp [vS, Value.oneCell']) (by unfold maxLen; first | omega | simp) (by first | omega | simp) (by have := HB5.out.size; simp; omega) ?_
             intro v6 w6 ho6 hg6 _
             have HB6 := Lib.hid ((HB5.out.alloc HB5.out.size _).grown hg6 (by have := HB5.out.size; simp; omega) (fun q hq => (HO5.out.lt q hq).1))
             have HO6 := Lib.hid ho6
             clear ho6 hg6)))
        go_ret
        exact ⟨_, rfl, [] ++ [mo], IsSl.of_owns (xs := ([] ++ [mo]).map vS) (by rw [List.length_map, List.length_append, List.map_append]; exact HO6.out) (by rw [List.length_map, List.length_append]; unfold maxLen; simp only [List.length_cons, List.length_nil]; omega), by simp, HB6.out⟩
      have hq1 : ((how : Int) == 1) = false := by simp; omega
      go_wp2
      go_ret
      exact ⟨_, rfl, [], IsSl.of_owns (xs := []) HO4.out (Nat.zero_le _), Nat.zero_le _, HB4.out⟩
  · rw [List.length_map] at hr0 ⊢
    have HN := Lib.hid (news_of HV.out (by rw [List.length_map]) (by rw [List.length_map]) : ∀ j u, (l.map vS)[j]? = some u → w.cell? ((⟨rb, ro, none⟩ : Addr).add j) = some u)
    clear h hr0
    go_enter Tryd.func24, Tryd.ntmps24
    go_upto_region 2 with (first
      | (at_builtin
         go_loud (
         refine wpList_append_own _ rfl _ _ 22 rfl w.heap.size 9 i0 (.string ⟨#[]⟩) 1 16 Tryd.underlying22 Hi.out Hz0.out Hz1.out Hz2.out rfl (by decide) _ 0 [] rfl HEn.out ⟨rb, ro, none⟩ l.length rc (l.map vS) rfl (by rw [List.length_map, Nat.mul_one]) (fun j u hu => ((HBn.out.cell (World.block_lt_of_cell? w _ (HN.out j u hu))).trans (HN.out j u hu) : (w.alloc (.cells #[] 9)).cell? ((⟨rb, ro, none⟩ : Addr).add j) = some u)) (by intro u hu; obtain ⟨x, _, rfl⟩ := List.mem_map.1 hu; rfl) (by unfold maxLen; omega) (by omega) (by simp) ?_
         intro v4 w4 ho4 hg4 _
         have HB4 := Lib.hid (HBn.out.grown hg4 (by simp) (fun q hq => by cases hq; exact Nat.le_refl _))
         rw [Nat.zero_add, List.nil_append] at ho4
         have HO4 := Lib.hid ho4
         clear ho4 hg4)))
    by_cases h1 : how = 1
    · subst h1
      obtain ⟨a4, c4, rfl⟩ := own_form HO4.out
      go_wp2_with (first
        | (go_at_call 25; refine (HMo.out _).mono ?_; rintro e w5 ⟨rfl, hb5⟩
           have HB5 := Lib.hid (HB4.out.next hb5)
           have HO5 := Lib.hid (ownsRow_block HO4.out (fun q _ hq => hb5.block q hq))
           clear hb5)
        | (at_builtin
           go_loud (
           refine wpList_append_own _ rfl _ _ 22 rfl w.heap.size 9 i0 (.string ⟨#[]⟩) 1 16 Tryd.underlying22 Hi.out Hz0.out Hz1.out Hz2.out rfl (by decide) _ (List.length (α := Bs) l) (List.map vS l) rfl (HO5.out.alloc _) ⟨w5.heap.size, 0, none⟩ 1 1 [vS mo] rfl rfl (news_one (new_of _ _)) (by simp [vS, Value.oneCell']) (by unfold maxLen; first | omega | simp) (by first | omega | simp) (by have := HB5.out.size; simp; omega) ?_
           intro v6 w6 ho6 hg6 _
           have HB6 := Lib.hid ((HB5.out.alloc HB5.out.size _).grown hg6 (by have := HB5.out.size; simp; omega) (fun q hq => (HO5.out.lt q hq).1))
           have HO6 := Lib.hid ho6
           clear ho6 hg6)))
      go_ret
      exact ⟨_, rfl, l ++ [mo], IsSl.of_owns (xs := (l ++ [mo]).map vS) (by rw [List.length_map, List.length_append, List.map_append]; exact HO6.out) (by rw [List.length_map, List.length_append]; unfold maxLen; simp only [List.length_cons, List.length_nil]; omega), by simp, HB6.out⟩
    have hq1 : ((how : Int) == 1) = false := by simp; omega
    by_cases h0 : l.length = 0
    · obtain rfl := List.eq_nil_of_length_eq_zero h0
      go_wp2
      go_ret
      exact ⟨_, rfl, [], IsSl.of_owns (xs := []) HO4.out (Nat.zero_le _), Nat.zero_le _, HB4.out⟩
    have hq0 : ((l.length : Int) == 0) = false := by rw [beq_eq_false_iff_ne]; omega
    have hl0 : 0 < l.length := by omega
    obtain ⟨g, c4, rfl, hg1, hg2, hc4⟩ := own_some HO4.out hl0
    obtain ⟨n, hln⟩ : ∃ n, l.length = n := ⟨_, rfl⟩
    have Hln := Lib.hid hln
    obtain ⟨i, hi⟩ : ∃ i, at_ % n = i := ⟨_, rfl⟩
    rw [hln] at hl0 hq0 hc4 h0 hn ⊢
    have hin : i < n := by rw [← hi]; exact Nat.mod_lt _ hl0
    have hrm : (at_ : Int) % (n : Int) = (i : Int) := by rw [← hi]; simp
    have hrt : (at_ : Int).tmod (n : Int) = (i : Int) := by rw [Int.tmod_eq_emod_of_nonneg (by omega), hrm]
    have hnz : ¬ (n : Int) = 0 := by omega
    have HSl4 := Lib.hid (IsSl.of_owns (xs := l.map vS) (by rw [List.length_map]; exact HO4.out) (by rw [List.length_map, hln]; unfold maxLen; omega))
    rw [hln] at HSl4 HO4
    have hfz := ownFree49 HO4.out i
    have hci := ownCell HO4.out (i := i) (by rw [List.length_map, hln]; exact hin)
    rw [map_vS_getD l (by rw [hln]; exact hin)] at hci
    obtain ⟨y, hy⟩ : ∃ y, l.getD i [] = y := ⟨_, rfl⟩
    rw [hy] at hci
    have hyl : y.length ≤ 1000 := by
      rw [← hy, List.getD_eq_getElem?_getD, List.getElem?_eq_getElem (by rw [hln]; exact hin)]
      exact hl _ (List.getElem_mem _)
    have hyz : (B y).size = y.length := rfl
    have hiI : (i : Int) < (n : Int) := by omega
    clear hy hi hln
    by_cases h2 : how = 2
    · subst h2
      go_wp2_with (first
        | (go_at_call 25
           go_loud (
           refine (HOt.out _).mono ?_
           rintro e w5 ⟨rfl, hb5⟩
           have HB5 := Lib.hid (HB4.out.next hb5)
           have HS5 := Lib.hid (HSl4.out.below hb5)
           have hfz5 := (hb5.frozen (p := ⟨g, i, none⟩) hg2).trans hfz
           have hci5 := (hb5.cell (p := ⟨g, i, none⟩) hg2).trans hci
           clear hb5 hfz hci)))
      go_ret
      exact ⟨_, rfl, l.set i ot, slSet49 HS5.out Hln.out hin ot, by simp, HB5.out.setCell hg1 _⟩
    have hq2 : ((how : Int) == 2) = false := by simp; omega
    by_cases h3 : how = 3
    · subst h3
      have hnI : (i : Int) + 1 ≤ (n : Int) := by omega
      have hwr : IntKind.i64.wrap ((i : Int) + 1) = (i : Int) + 1 := by rw [IntKind.wrap_i64]; omega
      have hcI : (n : Int) ≤ (c4 : Int) := by omega
      have hQ : ((l.map vS).take i ++ (l.map vS).drop (i + 1)) = (l.take i ++ l.drop (i + 1)).map vS := by rw [List.map_append, List.map_take, List.map_drop]
      have HT := Lib.hid (ownDrew (ownTake HO4.out (show i ≤ n by omega)))
      have HD := Lib.hid (show ∀ j u, ((l.map vS).drop (i + 1))[j]? = some u → w4.drew.cell? ((⟨g, i + 1, none⟩ : Addr).add j) = some u from ownBehind49 HO4.out (i + 1))
      have HQ := Lib.hid hQ
      have hic : i ≤ c4 := by omega
      have hin1 : i + 1 ≤ n := by omega
      have hnc : n ≤ c4 := hc4
      have hi1 : (i : Int) ≤ (i : Int) + 1 := by omega
      have hi0 : (0 : Int) ≤ (i : Int) + 1 := by omega
      clear hQ
      go_upto_region 11 with fail
      refine wp_region_held_drew (S := fun _ => True) (by kernel_rfl) trivial (fun hHeld => ?_)
      by_cases hcf : c4 = i + 1
      · have hn1 : n = i + 1 := by omega
        subst hn1
        subst hcf
        have HN0 := Lib.hid (show ∀ (j : Nat) (u : Value), ([] : List Value)[j]? = some u → w4.drew.cell? ((⟨g, 0, none⟩ : Addr).add j) = some u from fun j u hu => by cases hu)
        have HO0 := Lib.hid (show ∀ u ∈ ([] : List Value), u.oneCell' = true from fun u hu => by cases hu)
        refine take_at 0 35 (oi := ?o1) (v := ?v1) ?hi1 ?hd1 (by kernel_rfl) (by kernel_rfl) (by kernel_rfl) ?hQ1 ?hw1 ?hy1 (by assumption) ?rest1
        case hi1 => simp only [List.getElem?_toArray, List.getElem?_cons_zero]; rfl
        case hd1 => rfl
        case hw1 => kernel_rfl
        case hy1 => intro W hW; (try dsimp only at hW); go_simp <;> with_reducible rfl
        case hQ1 => exact fun _ _ _ h => h
        try simp only [Act.put, List.setIfInBounds_toArray, List.set_cons_zero, List.set_cons_succ]
        refine take_at 1 36 (oi := ?o2) (v := ?v2) ?hi2 ?hd2 (by kernel_rfl) (by kernel_rfl) (by kernel_rfl) ?hQ2 ?hw2 ?hy2 (by assumption) ?rest2
        case hi2 => simp only [List.getElem?_toArray, List.getElem?_cons_succ, List.getElem?_cons_zero]; rfl
        case hd2 => rfl
        case hw2 => kernel_rfl
        case hy2 => intro W hW; (try dsimp only at hW); go_simp <;> with_reducible rfl
        case hQ2 => exact fun _ _ _ h => h
        try simp only [Act.put, List.setIfInBounds_toArray, List.set_cons_zero, List.set_cons_succ]
        refine take_at 2 37 (oi := ?o3) (v := ?v3) ?hi3 ?hd3 (by kernel_rfl) (by kernel_rfl) (by kernel_rfl) ?hQ3 ?hw3 ?hy3 (by assumption) ?rest3
        case hi3 => simp only [List.getElem?_toArray, List.getElem?_cons_succ, List.getElem?_cons_zero]; rfl
        case hd3 => rfl
        case hw3 => kernel_rfl
        case hy3 => intro W hW; (try dsimp only at hW); go_simp <;> with_reducible rfl
        case hQ3 => exact fun _ _ _ h => h
        try simp only [Act.put, List.setIfInBounds_toArray, List.set_cons_zero, List.set_cons_succ]
        refine take_at 3 38 (oi := ?o4) (v := ?v4) ?hi4 ?hd4 (by kernel_rfl) (by kernel_rfl) (by kernel_rfl) ?hQ4 ?hw4 ?hy4 (by assumption) ?rest4
        case hi4 => simp only [List.getElem?_toArray, List.getElem?_cons_succ, List.getElem?_cons_zero]; rfl
        case hd4 => rfl
        case hw4 => kernel_rfl
        case hy4 => intro W hW; (try dsimp only at hW); go_simp <;> with_reducible rfl
        case hQ4 => exact fun _ _ _ h => h
        try simp only [Act.put, List.setIfInBounds_toArray, List.set_cons_zero, List.set_cons_succ]
        refine take_at 4 39 (oi := ?o5) (v := ?v5) ?hi5 ?hd5 (by kernel_rfl) (by kernel_rfl) (by kernel_rfl) ?hQ5 ?hw5 ?hy5 (by assumption) ?rest5
        case hi5 => simp only [List.getElem?_toArray, List.getElem?_cons_succ, List.getElem?_cons_zero]; rfl
        case hd5 => rfl
        case hw5 => kernel_rfl
        case hy5 => intro W hW; (try dsimp only at hW); go_simp <;> with_reducible rfl
        case hQ5 => exact fun _ _ _ h => h
        try simp only [Act.put, List.setIfInBounds_toArray, List.set_cons_zero, List.set_cons_succ]
        refine take_at 5 40 (oi := ?o6) (v := ?v6) ?hi6 ?hd6 (by kernel_rfl) (by kernel_rfl) (by kernel_rfl) ?hQ6 ?hw6 ?hy6 (by assumption) ?rest6
        case hi6 => simp only [List.getElem?_toArray, List.getElem?_cons_succ, List.getElem?_cons_zero]; rfl
        case hd6 => rfl
        case hw6 => kernel_rfl
        case hy6 => intro W hW; (try dsimp only at hW); go_simp <;> with_reducible rfl
        case hQ6 => exact fun _ _ _ h => h
        try simp only [Act.put, List.setIfInBounds_toArray, List.set_cons_zero, List.set_cons_succ]
        refine take_at 6 41 (oi := ?o7) (v := ?v7) ?hi7 ?hd7 (by kernel_rfl) (by kernel_rfl) (by kernel_rfl) ?hQ7 ?hw7 ?hy7 (by assumption) ?rest7
        case hi7 => simp only [List.getElem?_toArray, List.getElem?_cons_succ, List.getElem?_cons_zero]; rfl
        case hd7 => rfl
        case hw7 => kernel_rfl
        case hy7 => intro W hW; (try dsimp only at hW); go_simp <;> with_reducible rfl
        case hQ7 => exact fun _ _ _ h => h
        try simp only [Act.put, List.setIfInBounds_toArray, List.set_cons_zero, List.set_cons_succ]
        refine wpAnyH_ready (rs := [7]) (by kernel_rfl) (by simp) ?_
        refine AllReadyH.cons rfl (fun K hK => ?_) AllReadyH.nil
        refine step_append_own rfl _ _ 22 rfl w.heap.size 9 i0 (.string ⟨#[]⟩) 1 16 Tryd.underlying22 Hi.out Hz0.out Hz1.out Hz2.out rfl (by decide) (.slice (some ⟨g, 0, none⟩) i (i + 1)) i ((l.map vS).take i) rfl HT.out ⟨g, 0, none⟩ 0 0 [] rfl rfl HN0.out HO0.out (by unfold maxLen; omega) (by omega) (by have := HB4.out.size; exact this) ?_
        intro v5 w5 ho5 hg5 _
        have HB5 := Lib.hid ((dr HB4.out).grown hg5 (by have := HB4.out.size; exact this) (fun q hq => by cases hq; exact hg1))
        have HO5 := Lib.hid ho5
        clear ho5 hg5
        refine hK.out _ _ trivial (fun hHeld => ?_)
        clear hK K
        try simp only [Act.put, List.setIfInBounds_toArray]
        refine take_at 8 7 (oi := ?o8) (v := ?v8) ?hi8 ?hd8 (by kernel_rfl) (by kernel_rfl) (by kernel_rfl) ?hQ8 ?hw8 ?hy8 (by assumption) ?rest8
        case hi8 => simp only [List.getElem?_toArray, List.getElem?_cons_succ, List.getElem?_cons_zero]; rfl
        case hd8 => rfl
        case hw8 => kernel_rfl
        case hy8 => intro W hW; (try dsimp only at hW); go_simp <;> with_reducible rfl
        case hQ8 => exact fun _ _ _ h => h
        try simp only [Act.put]
        refine wpAnyH_done (by kernel_rfl) ?_ _
        try simp only [Exit.then]
        go_wp2
        go_ret
        have HO6 := Lib.hid (show w5.ownsRow w.heap.size 9 1 v5 i ((l.map vS).take i) by have := HO5.out; rw [List.append_nil] at this; exact this)
        refine ⟨_, rfl, l.take i, IsSl.of_owns (xs := (l.take i).map vS) (by rw [List.length_map, List.length_take, Hln.out, Nat.min_eq_left (by omega), List.map_take]; exact HO6.out) (by rw [List.length_map, List.length_take, Hln.out]; unfold maxLen; omega), by rw [List.length_take, Hln.out]; omega, HB5.out⟩
      · have HNL := Lib.hid (show ((l.map vS).drop (i + 1)).length = (n - (i + 1)) * 1 by rw [List.length_drop, List.length_map, Hln.out, Nat.mul_one])
        have HO0 := Lib.hid (show ∀ u ∈ (l.map vS).drop (i + 1), u.oneCell' = true by intro u hu; obtain ⟨x, _, rfl⟩ := List.mem_map.1 (List.mem_of_mem_drop hu); rfl)
        refine take_at 0 35 (oi := ?o9) (v := ?v9) ?hi9 ?hd9 (by kernel_rfl) (by kernel_rfl) (by kernel_rfl) ?hQ9 ?hw9 ?hy9 (by assumption) ?rest9
        case hi9 => simp only [List.getElem?_toArray, List.getElem?_cons_zero]; rfl
        case hd9 => rfl
        case hw9 => kernel_rfl
        case hy9 => intro W hW; (try dsimp only at hW); go_simp <;> with_reducible rfl
        case hQ9 => exact fun _ _ _ h => h
        try simp only [Act.put, List.setIfInBounds_toArray, List.set_cons_zero, List.set_cons_succ]
        refine take_at 1 36 (oi := ?o10) (v := ?v10) ?hi10 ?hd10 (by kernel_rfl) (by kernel_rfl) (by kernel_rfl) ?hQ10 ?hw10 ?hy10 (by assumption) ?rest10
        case hi10 => simp only [List.getElem?_toArray, List.getElem?_cons_succ, List.getElem?_cons_zero]; rfl
        case hd10 => rfl
        case hw10 => kernel_rfl
        case hy10 => intro W hW; (try dsimp only at hW); go_simp <;> with_reducible rfl
        case hQ10 => exact fun _ _ _ h => h
        try simp only [Act.put, List.setIfInBounds_toArray, List.set_cons_zero, List.set_cons_succ]
        refine take_at 2 37 (oi := ?o11) (v := ?v11) ?hi11 ?hd11 (by kernel_rfl) (by kernel_rfl) (by kernel_rfl) ?hQ11 ?hw11 ?hy11 (by assumption) ?rest11
        case hi11 => simp only [List.getElem?_toArray, List.getElem?_cons_succ, List.getElem?_cons_zero]; rfl
        case hd11 => rfl
        case hw11 => kernel_rfl
        case hy11 => intro W hW; (try dsimp only at hW); go_simp <;> with_reducible rfl
        case hQ11 => exact fun _ _ _ h => h
        try simp only [Act.put, List.setIfInBounds_toArray, List.set_cons_zero, List.set_cons_succ]
        refine take_at 3 38 (oi := ?o12) (v := ?v12) ?hi12 ?hd12 (by kernel_rfl) (by kernel_rfl) (by kernel_rfl) ?hQ12 ?hw12 ?hy12 (by assumption) ?rest12
        case hi12 => simp only [List.getElem?_toArray, List.getElem?_cons_succ, List.getElem?_cons_zero]; rfl
        case hd12 => rfl
        case hw12 => kernel_rfl
        case hy12 => intro W hW; (try dsimp only at hW); go_simp <;> with_reducible rfl
        case hQ12 => exact fun _ _ _ h => h
        try simp only [Act.put, List.setIfInBounds_toArray, List.set_cons_zero, List.set_cons_succ]
        refine take_at 4 39 (oi := ?o13) (v := ?v13) ?hi13 ?hd13 (by kernel_rfl) (by kernel_rfl) (by kernel_rfl) ?hQ13 ?hw13 ?hy13 (by assumption) ?rest13
        case hi13 => simp only [List.getElem?_toArray, List.getElem?_cons_succ, List.getElem?_cons_zero]; rfl
        case hd13 => rfl
        case hw13 => kernel_rfl
        case hy13 => intro W hW; (try dsimp only at hW); go_simp <;> with_reducible rfl
        case hQ13 => exact fun _ _ _ h => h
        try simp only [Act.put, List.setIfInBounds_toArray, List.set_cons_zero, List.set_cons_succ]
        refine take_at 5 40 (oi := ?o14) (v := ?v14) ?hi14 ?hd14 (by kernel_rfl) (by kernel_rfl) (by kernel_rfl) ?hQ14 ?hw14 ?hy14 (by assumption) ?rest14
        case hi14 => simp only [List.getElem?_toArray, List.getElem?_cons_succ, List.getElem?_cons_zero]; rfl
        case hd14 => rfl
        case hw14 => kernel_rfl
        case hy14 => intro W hW; (try dsimp only at hW); go_simp <;> with_reducible rfl
        case hQ14 => exact fun _ _ _ h => h
        try simp only [Act.put, List.setIfInBounds_toArray, List.set_cons_zero, List.set_cons_succ]
        refine take_at 6 41 (oi := ?o15) (v := ?v15) ?hi15 ?hd15 (by kernel_rfl) (by kernel_rfl) (by kernel_rfl) ?hQ15 ?hw15 ?hy15 (by assumption) ?rest15
        case hi15 => simp only [List.getElem?_toArray, List.getElem?_cons_succ, List.getElem?_cons_zero]; rfl
        case hd15 => rfl
        case hw15 => kernel_rfl
        case hy15 => intro W hW; (try dsimp only at hW); go_simp <;> with_reducible rfl
        case hQ15 => exact fun _ _ _ h => h
        try simp only [Act.put, List.setIfInBounds_toArray, List.set_cons_zero, List.set_cons_succ]
        refine wpAnyH_ready (rs := [7]) (by kernel_rfl) (by simp) ?_
        refine AllReadyH.cons rfl (fun K hK => ?_) AllReadyH.nil
        refine step_append_own rfl _ _ 22 rfl w.heap.size 9 i0 (.string ⟨#[]⟩) 1 16 Tryd.underlying22 Hi.out Hz0.out Hz1.out Hz2.out rfl (by decide) (.slice (some ⟨g, 0, none⟩) i c4) i ((l.map vS).take i) rfl HT.out ⟨g, i + 1, none⟩ (n - (i + 1)) (c4 - (i + 1)) ((l.map vS).drop (i + 1)) rfl HNL.out HD.out HO0.out (by unfold maxLen; omega) (by omega) (by have := HB4.out.size; exact this) ?_
        intro v5 w5 ho5 hg5 _
        have HB5 := Lib.hid ((dr HB4.out).grown hg5 (by have := HB4.out.size; exact this) (fun q hq => by cases hq; exact hg1))
        have HO5 := Lib.hid ho5
        clear ho5 hg5
        refine hK.out _ _ trivial (fun hHeld => ?_)
        clear hK K
        try simp only [Act.put, List.setIfInBounds_toArray]
        refine take_at 8 7 (oi := ?o16) (v := ?v16) ?hi16 ?hd16 (by kernel_rfl) (by kernel_rfl) (by kernel_rfl) ?hQ16 ?hw16 ?hy16 (by assumption) ?rest16
        case hi16 => simp only [List.getElem?_toArray, List.getElem?_cons_succ, List.getElem?_cons_zero]; rfl
        case hd16 => rfl
        case hw16 => kernel_rfl
        case hy16 => intro W hW; (try dsimp only at hW); go_simp <;> with_reducible rfl
        case hQ16 => exact fun _ _ _ h => h
        try simp only [Act.put]
        refine wpAnyH_done (by kernel_rfl) ?_ _
        try simp only [Exit.then]
        go_wp2
        go_ret
        refine ⟨_, rfl, l.take i ++ l.drop (i + 1), IsSl.of_owns (xs := (l.take i ++ l.drop (i + 1)).map vS) (by rw [List.length_map, List.length_append, List.length_take, List.length_drop, Hln.out, Nat.min_eq_left (by omega), ← HQ.out]; exact HO5.out) (by rw [List.length_map, List.length_append, List.length_take, List.length_drop, Hln.out]; unfold maxLen; omega), by rw [List.length_append, List.length_take, List.length_drop, Hln.out]; omega, HB5.out⟩
    have hq3 : ((how : Int) == 3) = false := by simp; omega
    by_cases h4 : how = 4
    · subst h4
      have hc0 := ownCell HO4.out (i := 0) (by rw [List.length_map, Hln.out]; exact hl0)
      have hfz0 := ownFree49 HO4.out 0
      rw [map_vS_getD l (by rw [Hln.out]; exact hl0)] at hc0
      obtain ⟨z, hz⟩ : ∃ z, l.getD 0 [] = z := ⟨_, rfl⟩
      rw [hz] at hc0
      have hnI : (0 : Int) < (n : Int) := by omega
      have hs1 : (w4.setCell ⟨g, i, none⟩ (.string (B z))).cell? ⟨g, 0, none⟩ = some (.string (B z)) := by
        by_cases e : i = 0
        · subst e
          exact World.cell?_setCell_same w4 ⟨g, 0, none⟩ _ hc0
        · rw [World.cell?_setCell_other w4 ⟨g, i, none⟩ ⟨g, 0, none⟩ _ (by intro h'; simp only [Addr.mk.injEq, true_and, and_true] at h'; exact e (by omega))]
          exact hc0
      have hs2 : (w4.setCell ⟨g, i, none⟩ (.string (B z))).frozen? ⟨g, 0, none⟩ = false := by
        rw [World.frozen?_setCell]
        exact hfz0
      clear hz
      go_upto_region 13 with fail
      go_region
      all_goals
        go_wp2
        go_ret
        exact ⟨_, rfl, (l.set i z).set 0 y, slSet49 (slSet49 (HSl4.out.below (dr (Below.refl _ _))) Hln.out hin z) (by rw [List.length_set]; exact Hln.out) hl0 y, by simp, ((dr HB4.out).setCell hg1 _).setCell hg1 _⟩
    have hq4 : ((how : Int) == 4) = false := by simp; omega
    by_cases h5 : how = 5
    · subst h5
      go_wp2
      go_ret
      exact ⟨_, rfl, l.set i (y ++ [120]), slSet49 HSl4.out Hln.out hin (y ++ [120]), by simp, HB4.out.setCell hg1 _⟩
    have hq5 : ((how : Int) == 5) = false := by simp; omega
    go_wp2
    go_ret
    exact ⟨_, rfl, l, HSl4.out, by simp, HB4.out⟩
end Go.Proofs.YtfklmjcjjdliiaaDoor
