/- pair, Leaf and peak of package mountain, and of its reference, do what the plain functions say. -/
import Derived.Test.YtfklmjcjjdliiaaDoorWkLam2
import Derived.Test.YtfklmjcjjdliiaaDoorWkTexts
import Derived.Test.YtfklmjcjjdliiaaDoorPlainMt
namespace Go.Proofs.YtfklmjcjjdliiaaDoor
open Go Go.RowKit Licit

theorem pair_any (a b : Bs) (w : World) (ha : a.length ≤ maxLen) (hb : b.length ≤ maxLen) (ht : Tab w) : Gives 52 #[.string (B a), .string (B b)] w (.string (B (pairM a b))) := by
  have HM := Lib.hid (Gives.alloc (mix_built (l := [kPair, a, b]) (cs := #[.string ⟨#[112, 97, 105, 114]⟩, .string (B a), .string (B b)]) 3 rfl (by decide) rfl (by decide) (by intro x hx; simp at hx; rcases hx with rfl | rfl | rfl; decide; exact ha; exact hb) w ht))
  go_enter Tryd.func52, Tryd.ntmps52
  go_wp2_with (go_at_call 58; refine HM.out.mono ?_; rintro e w1 ⟨rfl, hb1⟩; have Hb1 := Lib.hid hb1; clear hb1)
  go_ret
  exact ⟨rfl, Hb1.out⟩
theorem Leaf_any (d : Bs) (w : World) (hd : d.length ≤ maxLen) (ht : Tab w) : Gives 27 #[.string (B d)] w (.string (B (leafM d))) := by
  have HM := Lib.hid (Gives.alloc (mix_built (l := [kEntry, d]) (cs := #[.string ⟨#[101, 110, 116, 114, 121]⟩, .string (B d)]) 2 rfl (by decide) rfl (by decide) (by intro x hx; simp at hx; rcases hx with rfl | rfl; decide; exact hd) w ht))
  go_enter Tryd.func27, Tryd.ntmps27
  go_wp2_with (go_at_call 58; refine HM.out.mono ?_; rintro e w1 ⟨rfl, hb1⟩; have Hb1 := Lib.hid hb1; clear hb1)
  go_ret
  exact ⟨rfl, Hb1.out⟩
theorem RPair_any (a b : Bs) (w : World) (ha : a.length ≤ maxLen) (hb : b.length ≤ maxLen) : Gives 56 #[.string (B a), .string (B b)] w (.string (B (pairM a b))) := by
  have HM := Lib.hid (Gives.alloc (H_built (l := [kPair, a, b]) (cs := #[.string ⟨#[112, 97, 105, 114]⟩, .string (B a), .string (B b)]) 3 rfl (by decide) rfl (by decide) (by intro x hx; simp at hx; rcases hx with rfl | rfl | rfl; decide; exact ha; exact hb) w))
  go_enter Tryd.func56, Tryd.ntmps56
  go_wp2_with (go_at_call 42; refine HM.out.mono ?_; rintro e w1 ⟨rfl, hb1⟩; have Hb1 := Lib.hid hb1; clear hb1)
  go_ret
  exact ⟨rfl, Hb1.out⟩
theorem RLeaf49_any (d : Bs) (w : World) (hd : d.length ≤ maxLen) : Gives 25 #[.string (B d)] w (.string (B (leafM d))) := by
  have HM := Lib.hid (Gives.alloc (H_built (l := [kEntry, d]) (cs := #[.string ⟨#[101, 110, 116, 114, 121]⟩, .string (B d)]) 2 rfl (by decide) rfl (by decide) (by intro x hx; simp at hx; rcases hx with rfl | rfl; decide; exact hd) w))
  go_enter Tryd.func25, Tryd.ntmps25
  go_wp2_with (go_at_call 42; refine HM.out.mono ?_; rintro e w1 ⟨rfl, hb1⟩; have Hb1 := Lib.hid hb1; clear hb1)
  go_ret
  exact ⟨rfl, Hb1.out⟩

/-- The beginning and the rest of a slice. -/
theorem sl_take {b off cap : Nat} {xs : List Value} {w : World} (h : IsSl (.slice (some ⟨b, off, none⟩) xs.length cap) xs w) {k : Nat} (hk : k ≤ xs.length) : IsSl (.slice (some ⟨b, off, none⟩) k cap) (xs.take k) w := by
  refine ⟨by rw [List.length_take]; have := h.1; omega, ?_⟩
  by_cases h0 : k = 0
  · subst h0; exact .inl ⟨_, _, rfl, by simp⟩
  · rcases h.2 with ⟨a, c, e, hx⟩ | ⟨b', off', c, e, h1, hc⟩
    · subst hx; simp at hk; omega
    · simp only [Value.slice.injEq, Option.some.injEq, Addr.mk.injEq, true_and, and_true] at e
      obtain ⟨⟨rfl, rfl⟩, rfl⟩ := e
      refine .inr ⟨b, off, cap, by rw [List.length_take, Nat.min_eq_left hk], by rw [List.length_take]; omega, fun i hi => ?_⟩
      rw [List.length_take] at hi
      rw [hc i (by omega), List.getElem?_take_of_lt (by omega)]
theorem sl_drop {b off cap c' : Nat} {xs : List Value} {w : World} (h : IsSl (.slice (some ⟨b, off, none⟩) xs.length cap) xs w) {k : Nat} (hk : k < xs.length) : IsSl (.slice (some ⟨b, off + k, none⟩) (xs.length - k) c') (xs.drop k) w := by
  refine ⟨by rw [List.length_drop]; have := h.1; omega, ?_⟩
  rcases h.2 with ⟨a, c, e, hx⟩ | ⟨b', off', c, e, h1, hc⟩
  · subst hx; simp at hk
  · simp only [Value.slice.injEq, Option.some.injEq, Addr.mk.injEq, true_and, and_true] at e
    obtain ⟨⟨rfl, rfl⟩, rfl⟩ := e
    refine .inr ⟨b, off + k, c', by rw [List.length_drop], by rw [List.length_drop]; omega, fun i hi => ?_⟩
    rw [List.length_drop] at hi
    rw [Nat.add_assoc, hc (k + i) (by omega), List.getElem?_drop]
theorem sl_some {v : Value} {xs : List Value} {w : World} (h : IsSl v xs w) (h0 : 0 < xs.length) : ∃ b off cap, v = .slice (some ⟨b, off, none⟩) xs.length cap := by
  rcases h.2 with ⟨a, c, e, hx⟩ | ⟨b', off', c, e, h1, hc⟩
  · subst hx; simp at h0
  · exact ⟨b', off', c, e⟩
theorem peakN_all {l : List Bs} (hl : ∀ x ∈ l, x.length ≤ maxLen) : ∀ h, (peakN h l).length ≤ maxLen
  | 0 => by
    rw [peakN, List.getD_eq_getElem?_getD]
    rcases Nat.lt_or_ge 0 l.length with c | c
    · rw [List.getElem?_eq_getElem c]; exact hl _ (List.getElem_mem _)
    · rw [List.getElem?_eq_none c]; simp [maxLen]
  | h + 1 => max32 (pairM_len _ _)

/-- A slice is no longer than what it can hold. -/
def SlCap : Value → Prop
  | .slice _ n c => n ≤ c
  | _ => False
theorem SlCap.own {w : World} {base : Nat} {e : TypeId} {size : Nat} {v : Value} {n : Nat} {xs : List Value} (h : w.ownsRow base e size v n xs) : SlCap v := by
  rcases h.2 with ⟨rfl, rfl⟩ | ⟨g, cap, cur, rfl, hg, hh, h1, _⟩
  · exact Nat.le_refl 0
  · exact h1

set_option maxHeartbeats 2000000 in
set_option maxRecDepth 100000 in
theorem peak_any : ∀ (h : Nat) (v : Value) (l : List Bs) (w : World), IsSl v (l.map vS) w → SlCap v → l.length = 2 ^ h → h ≤ 20 → (∀ x ∈ l, x.length ≤ maxLen) → Tab w → Gives 45 #[v] w (.string (B (peakN h l)))
  | 0, v, l, w, hv, _, hl, _, _, _ => by
    obtain ⟨x, rfl⟩ : ∃ x, l = [x] := by
      match l, hl with
      | [x], _ => exact ⟨x, rfl⟩
    obtain ⟨b, off, cap, rfl, hb, hc⟩ := hv.text rfl (j := 0) (by simp)
    rw [Nat.add_zero] at hc
    have hx : ([x] : List Bs).getD 0 [] = x := rfl
    rw [hx] at hc
    clear hv hl
    go_enter Tryd.func45, Tryd.ntmps45
    go_wp2
    go_ret
    exact ⟨rfl, Below.refl _ _⟩
  | h + 1, v, l, w, hv, hcv, hl, hh, hx, ht => by
    obtain ⟨n, hn⟩ : ∃ n, 2 ^ h = n := ⟨_, rfl⟩
    have hn0 : 0 < n := by rw [← hn]; exact Nat.two_pow_pos h
    have hn1 : n ≤ 1048576 := by rw [← hn]; exact Nat.le_trans (Nat.pow_le_pow_right (by decide) (show h ≤ 20 by omega)) (by decide)
    have hl2 : l.length = 2 * n := by rw [hl, Nat.pow_succ, hn, Nat.mul_comm]
    obtain ⟨b, off, cap, rfl⟩ := sl_some hv (by rw [List.length_map]; omega)
    have ht1 := sl_take hv (k := n) (by rw [List.length_map]; omega)
    have hd1 := fun c' => sl_drop (c' := c') hv (k := n) (by rw [List.length_map]; omega)
    have hlm : (l.map vS).length = n + n := by rw [List.length_map]; omega
    have hcap : n + n ≤ cap := by have : (l.map vS).length ≤ cap := hcv; omega
    rw [hlm] at hd1
    rw [Nat.add_sub_cancel] at hd1
    rw [← List.map_take] at ht1
    rw [← List.map_drop] at hd1
    have IH1 := Lib.hid (fun W (hb : Below w.heap.size w W) => peak_any h _ (l.take n) W (ht1.below hb) (show n ≤ cap by omega) (by rw [List.length_take]; omega) (by omega) (fun y hy => hx y (List.mem_of_mem_take hy)) (ht.same hb))
    have IH2 := Lib.hid (fun W (hb : Below w.heap.size w W) => peak_any h _ (l.drop n) W ((hd1 (cap - n)).below hb) (show n ≤ cap - n by omega) (by rw [List.length_drop]; omega) (by omega) (fun y hy => hx y (List.mem_of_mem_drop hy)) (ht.same hb))
    have P1 := Lib.hid (peakN_all (l := l.take n) (fun y hy => hx y (List.mem_of_mem_take hy)) h)
    have P2 := Lib.hid (peakN_all (l := l.drop n) (fun y hy => hx y (List.mem_of_mem_drop hy)) h)
    have HP := Lib.hid (show peakN (h + 1) l = pairM (peakN h (l.take n)) (peakN h (l.drop n)) by rw [peakN, hn])
    obtain ⟨A1, hA1⟩ : ∃ A1, peakN h (l.take n) = A1 := ⟨_, rfl⟩
    obtain ⟨A2, hA2⟩ : ∃ A2, peakN h (l.drop n) = A2 := ⟨_, rfl⟩
    rw [hA1] at IH1 P1 HP
    rw [hA2] at IH2 P2 HP
    rw [hlm]
    obtain ⟨m, hm⟩ : ∃ m, n + n = m := ⟨_, rfl⟩
    rw [hm]
    have hne : ((m : Int) == 1) = false := by simp; omega
    have hdiv : (m : Int) / 2 = (n : Int) := by omega
    have hmn : m - n = n := by omega
    have hmc : m ≤ cap := by omega
    have hnm : (n : Int) ≤ (m : Int) := by omega
    have hnc : (n : Int) ≤ (cap : Int) := by omega
    have hmx : m ≤ 2097152 := by omega
    clear hA1 hA2 hn hl hl2 hv hx ht1 hd1 hlm hcv hcap hm
    go_enter Tryd.func45, Tryd.ntmps45
    go_wp2
    refine wp_region_held_drew (S := fun _ => True) (by kernel_rfl) trivial (fun hHeld => ?_)
    refine take_at 0 13 (oi := ?o1) (v := ?v1) ?hi1 ?hd1 (by kernel_rfl) (by kernel_rfl) (by kernel_rfl) ?hQ1 ?hw1 ?hy1 (by assumption) ?rest1
    case hi1 => simp only [List.getElem?_toArray, List.getElem?_cons_zero]; rfl
    case hd1 => rfl
    case hw1 => kernel_rfl
    case hy1 => intro W hW; (try dsimp only at hW); go_simp <;> with_reducible rfl
    case hQ1 => exact fun _ _ _ h => h
    try simp only [Act.put, List.setIfInBounds_toArray, List.set_cons_zero, List.set_cons_succ]
    refine take_at 1 14 (oi := ?o2) (v := ?v2) ?hi2 ?hd2 (by kernel_rfl) (by kernel_rfl) (by kernel_rfl) ?hQ2 ?hw2 ?hy2 (by assumption) ?rest2
    case hi2 => simp only [List.getElem?_toArray, List.getElem?_cons_succ, List.getElem?_cons_zero]; rfl
    case hd2 => rfl
    case hw2 => kernel_rfl
    case hy2 => intro W hW; (try dsimp only at hW); go_simp <;> with_reducible rfl
    case hQ2 => exact fun _ _ _ h => h
    try simp only [Act.put, List.setIfInBounds_toArray, List.set_cons_zero, List.set_cons_succ]
    refine take_at 2 15 (oi := ?o3) (v := ?v3) ?hi3 ?hd3 (by kernel_rfl) (by kernel_rfl) (by kernel_rfl) ?hQ3 ?hw3 ?hy3 (by assumption) ?rest3
    case hi3 => simp only [List.getElem?_toArray, List.getElem?_cons_succ, List.getElem?_cons_zero]; rfl
    case hd3 => rfl
    case hw3 => kernel_rfl
    case hy3 => intro W hW; (try dsimp only at hW); go_simp <;> with_reducible rfl
    case hQ3 => exact fun _ _ _ h => h
    try simp only [Act.put, List.setIfInBounds_toArray, List.set_cons_zero, List.set_cons_succ]
    refine take_at 4 17 (oi := ?o4) (v := ?v4) ?hi4 ?hd4 (by kernel_rfl) (by kernel_rfl) (by kernel_rfl) ?hQ4 ?hw4 ?hy4 (by assumption) ?rest4
    case hi4 => simp only [List.getElem?_toArray, List.getElem?_cons_succ, List.getElem?_cons_zero]; rfl
    case hd4 => rfl
    case hw4 => kernel_rfl
    case hy4 => intro W hW; (try dsimp only at hW); go_simp <;> with_reducible rfl
    case hQ4 => exact fun _ _ _ h => h
    try simp only [Act.put, List.setIfInBounds_toArray, List.set_cons_zero, List.set_cons_succ]
    refine take_at 5 18 (oi := ?o5) (v := ?v5) ?hi5 ?hd5 (by kernel_rfl) (by kernel_rfl) (by kernel_rfl) ?hQ5 ?hw5 ?hy5 (by assumption) ?rest5
    case hi5 => simp only [List.getElem?_toArray, List.getElem?_cons_succ, List.getElem?_cons_zero]; rfl
    case hd5 => rfl
    case hw5 => kernel_rfl
    case hy5 => intro W hW; (try dsimp only at hW); go_simp <;> with_reducible rfl
    case hQ5 => exact fun _ _ _ h => h
    try simp only [Act.put, List.setIfInBounds_toArray, List.set_cons_zero, List.set_cons_succ]
    refine take_at 6 19 (oi := ?o6) (v := ?v6) ?hi6 ?hd6 (by kernel_rfl) (by kernel_rfl) (by kernel_rfl) ?hQ6 ?hw6 ?hy6 (by assumption) ?rest6
    case hi6 => simp only [List.getElem?_toArray, List.getElem?_cons_succ, List.getElem?_cons_zero]; rfl
    case hd6 => rfl
    case hw6 => kernel_rfl
    case hy6 => intro W hW; (try dsimp only at hW); go_simp <;> with_reducible rfl
    case hQ6 => exact fun _ _ _ h => h
    try simp only [Act.put, List.setIfInBounds_toArray, List.set_cons_zero, List.set_cons_succ]
    refine wpAnyH_ready (rs := [3]) (by kernel_rfl) (by simp) ?_
    refine AllReadyH.cons rfl (fun K hK => ?_) AllReadyH.nil
    go_simp
    refine (IH1.out _ (below_drewN (Below.refl _ _) 1)).mono ?_
    rintro e w1 ⟨rfl, hb⟩
    have Hb1 := Lib.hid ((below_drewN (Below.refl w.heap.size w) 1).next hb)
    clear hb
    go_wp2_with fail
    refine hK.out _ _ trivial (fun hHeld => ?_)
    clear hK K
    try simp only [Act.put, List.setIfInBounds_toArray, List.set_cons_zero, List.set_cons_succ]
    refine wpAnyH_ready (rs := [7]) (by kernel_rfl) (by simp) ?_
    refine AllReadyH.cons rfl (fun K hK => ?_) AllReadyH.nil
    go_simp
    refine (IH2.out _ Hb1.out).mono ?_
    rintro e w2 ⟨rfl, hb⟩
    have Hb2 := Lib.hid (Hb1.out.next hb)
    clear hb
    go_wp2_with fail
    refine hK.out _ _ trivial (fun hHeld => ?_)
    clear hK K
    try simp only [Act.put, List.setIfInBounds_toArray, List.set_cons_zero, List.set_cons_succ]
    refine wpAnyH_ready (rs := [8]) (by kernel_rfl) (by simp) ?_
    refine AllReadyH.cons rfl (fun K hK => ?_) AllReadyH.nil
    go_simp
    refine (pair_any A1 A2 _ P1.out P2.out (ht.same Hb2.out)).mono ?_
    rintro e w3 ⟨rfl, hb⟩
    have Hb3 := Lib.hid (Hb2.out.next hb)
    clear hb
    go_wp2_with fail
    refine hK.out _ _ trivial (fun hHeld => ?_)
    clear hK K
    try simp only [Act.put, List.setIfInBounds_toArray, List.set_cons_zero, List.set_cons_succ]
    refine take_at 9 2 (oi := ?o7) (v := ?v7) ?hi7 ?hd7 (by kernel_rfl) (by kernel_rfl) (by kernel_rfl) ?hQ7 ?hw7 ?hy7 (by assumption) ?rest7
    case hi7 => simp only [List.getElem?_toArray, List.getElem?_cons_succ, List.getElem?_cons_zero]; rfl
    case hd7 => rfl
    case hw7 => kernel_rfl
    case hy7 => intro W hW; (try dsimp only at hW); go_simp <;> with_reducible rfl
    case hQ7 => exact fun _ _ _ h => h
    try simp only [Act.put, List.setIfInBounds_toArray, List.set_cons_zero, List.set_cons_succ]
    refine wpAnyH_done (by kernel_rfl) ?_ _
    simp only [Exit.then]
    go_wp2
    go_ret
    exact ⟨congrArg (fun x => Ending.returned (.string (B x))) HP.out.symm, Hb3.out⟩
set_option maxHeartbeats 2000000 in
set_option maxRecDepth 100000 in
theorem RPeak_any : ∀ (h : Nat) (v : Value) (l : List Bs) (w : World), IsSl v (l.map vS) w → SlCap v → l.length = 2 ^ h → h ≤ 20 → (∀ x ∈ l, x.length ≤ maxLen) → Gives 48 #[v] w (.string (B (peakN h l)))
  | 0, v, l, w, hv, _, hl, _, _ => by
    obtain ⟨x, rfl⟩ : ∃ x, l = [x] := by
      match l, hl with
      | [x], _ => exact ⟨x, rfl⟩
    obtain ⟨b, off, cap, rfl, hb, hc⟩ := hv.text rfl (j := 0) (by simp)
    rw [Nat.add_zero] at hc
    have hx : ([x] : List Bs).getD 0 [] = x := rfl
    rw [hx] at hc
    clear hv hl
    go_enter Tryd.func48, Tryd.ntmps48
    go_wp2
    go_ret
    exact ⟨rfl, Below.refl _ _⟩
  | h + 1, v, l, w, hv, hcv, hl, hh, hx => by
    obtain ⟨n, hn⟩ : ∃ n, 2 ^ h = n := ⟨_, rfl⟩
    have hn0 : 0 < n := by rw [← hn]; exact Nat.two_pow_pos h
    have hn1 : n ≤ 1048576 := by rw [← hn]; exact Nat.le_trans (Nat.pow_le_pow_right (by decide) (show h ≤ 20 by omega)) (by decide)
    have hl2 : l.length = 2 * n := by rw [hl, Nat.pow_succ, hn, Nat.mul_comm]
    obtain ⟨b, off, cap, rfl⟩ := sl_some hv (by rw [List.length_map]; omega)
    have ht1 := sl_take hv (k := n) (by rw [List.length_map]; omega)
    have hd1 := fun c' => sl_drop (c' := c') hv (k := n) (by rw [List.length_map]; omega)
    have hlm : (l.map vS).length = n + n := by rw [List.length_map]; omega
    have hcap : n + n ≤ cap := by have : (l.map vS).length ≤ cap := hcv; omega
    rw [hlm] at hd1
    rw [Nat.add_sub_cancel] at hd1
    rw [← List.map_take] at ht1
    rw [← List.map_drop] at hd1
    have IH1 := Lib.hid (fun W (hb : Below w.heap.size w W) => RPeak_any h _ (l.take n) W (ht1.below hb) (show n ≤ cap by omega) (by rw [List.length_take]; omega) (by omega) (fun y hy => hx y (List.mem_of_mem_take hy)))
    have IH2 := Lib.hid (fun W (hb : Below w.heap.size w W) => RPeak_any h _ (l.drop n) W ((hd1 (cap - n)).below hb) (show n ≤ cap - n by omega) (by rw [List.length_drop]; omega) (by omega) (fun y hy => hx y (List.mem_of_mem_drop hy)))
    have P1 := Lib.hid (peakN_all (l := l.take n) (fun y hy => hx y (List.mem_of_mem_take hy)) h)
    have P2 := Lib.hid (peakN_all (l := l.drop n) (fun y hy => hx y (List.mem_of_mem_drop hy)) h)
    have HP := Lib.hid (show peakN (h + 1) l = pairM (peakN h (l.take n)) (peakN h (l.drop n)) by rw [peakN, hn])
    obtain ⟨A1, hA1⟩ : ∃ A1, peakN h (l.take n) = A1 := ⟨_, rfl⟩
    obtain ⟨A2, hA2⟩ : ∃ A2, peakN h (l.drop n) = A2 := ⟨_, rfl⟩
    rw [hA1] at IH1 P1 HP
    rw [hA2] at IH2 P2 HP
    rw [hlm]
    obtain ⟨m, hm⟩ : ∃ m, n + n = m := ⟨_, rfl⟩
    rw [hm]
    have hne : ((m : Int) == 1) = false := by simp; omega
    have hdiv : (m : Int) / 2 = (n : Int) := by omega
    have hmn : m - n = n := by omega
    have hmc : m ≤ cap := by omega
    have hnm : (n : Int) ≤ (m : Int) := by omega
    have hnc : (n : Int) ≤ (cap : Int) := by omega
    have hmx : m ≤ 2097152 := by omega
    clear hA1 hA2 hn hl hl2 hv hx ht1 hd1 hlm hcv hcap hm
    go_enter Tryd.func48, Tryd.ntmps48
    go_wp2
    refine wp_region_held_drew (S := fun _ => True) (by kernel_rfl) trivial (fun hHeld => ?_)
    refine take_at 0 13 (oi := ?o8) (v := ?v8) ?hi8 ?hd8 (by kernel_rfl) (by kernel_rfl) (by kernel_rfl) ?hQ8 ?hw8 ?hy8 (by assumption) ?rest8
    case hi8 => simp only [List.getElem?_toArray, List.getElem?_cons_zero]; rfl
    case hd8 => rfl
    case hw8 => kernel_rfl
    case hy8 => intro W hW; (try dsimp only at hW); go_simp <;> with_reducible rfl
    case hQ8 => exact fun _ _ _ h => h
    try simp only [Act.put, List.setIfInBounds_toArray, List.set_cons_zero, List.set_cons_succ]
    refine take_at 1 14 (oi := ?o9) (v := ?v9) ?hi9 ?hd9 (by kernel_rfl) (by kernel_rfl) (by kernel_rfl) ?hQ9 ?hw9 ?hy9 (by assumption) ?rest9
    case hi9 => simp only [List.getElem?_toArray, List.getElem?_cons_succ, List.getElem?_cons_zero]; rfl
    case hd9 => rfl
    case hw9 => kernel_rfl
    case hy9 => intro W hW; (try dsimp only at hW); go_simp <;> with_reducible rfl
    case hQ9 => exact fun _ _ _ h => h
    try simp only [Act.put, List.setIfInBounds_toArray, List.set_cons_zero, List.set_cons_succ]
    refine take_at 2 15 (oi := ?o10) (v := ?v10) ?hi10 ?hd10 (by kernel_rfl) (by kernel_rfl) (by kernel_rfl) ?hQ10 ?hw10 ?hy10 (by assumption) ?rest10
    case hi10 => simp only [List.getElem?_toArray, List.getElem?_cons_succ, List.getElem?_cons_zero]; rfl
    case hd10 => rfl
    case hw10 => kernel_rfl
    case hy10 => intro W hW; (try dsimp only at hW); go_simp <;> with_reducible rfl
    case hQ10 => exact fun _ _ _ h => h
    try simp only [Act.put, List.setIfInBounds_toArray, List.set_cons_zero, List.set_cons_succ]
    refine take_at 4 17 (oi := ?o11) (v := ?v11) ?hi11 ?hd11 (by kernel_rfl) (by kernel_rfl) (by kernel_rfl) ?hQ11 ?hw11 ?hy11 (by assumption) ?rest11
    case hi11 => simp only [List.getElem?_toArray, List.getElem?_cons_succ, List.getElem?_cons_zero]; rfl
    case hd11 => rfl
    case hw11 => kernel_rfl
    case hy11 => intro W hW; (try dsimp only at hW); go_simp <;> with_reducible rfl
    case hQ11 => exact fun _ _ _ h => h
    try simp only [Act.put, List.setIfInBounds_toArray, List.set_cons_zero, List.set_cons_succ]
    refine take_at 5 18 (oi := ?o12) (v := ?v12) ?hi12 ?hd12 (by kernel_rfl) (by kernel_rfl) (by kernel_rfl) ?hQ12 ?hw12 ?hy12 (by assumption) ?rest12
    case hi12 => simp only [List.getElem?_toArray, List.getElem?_cons_succ, List.getElem?_cons_zero]; rfl
    case hd12 => rfl
    case hw12 => kernel_rfl
    case hy12 => intro W hW; (try dsimp only at hW); go_simp <;> with_reducible rfl
    case hQ12 => exact fun _ _ _ h => h
    try simp only [Act.put, List.setIfInBounds_toArray, List.set_cons_zero, List.set_cons_succ]
    refine take_at 6 19 (oi := ?o13) (v := ?v13) ?hi13 ?hd13 (by kernel_rfl) (by kernel_rfl) (by kernel_rfl) ?hQ13 ?hw13 ?hy13 (by assumption) ?rest13
    case hi13 => simp only [List.getElem?_toArray, List.getElem?_cons_succ, List.getElem?_cons_zero]; rfl
    case hd13 => rfl
    case hw13 => kernel_rfl
    case hy13 => intro W hW; (try dsimp only at hW); go_simp <;> with_reducible rfl
    case hQ13 => exact fun _ _ _ h => h
    try simp only [Act.put, List.setIfInBounds_toArray, List.set_cons_zero, List.set_cons_succ]
    refine wpAnyH_ready (rs := [3]) (by kernel_rfl) (by simp) ?_
    refine AllReadyH.cons rfl (fun K hK => ?_) AllReadyH.nil
    go_simp
    refine (IH1.out _ (below_drewN (Below.refl _ _) 1)).mono ?_
    rintro e w1 ⟨rfl, hb⟩
    have Hb1 := Lib.hid ((below_drewN (Below.refl w.heap.size w) 1).next hb)
    clear hb
    go_wp2_with fail
    refine hK.out _ _ trivial (fun hHeld => ?_)
    clear hK K
    try simp only [Act.put, List.setIfInBounds_toArray, List.set_cons_zero, List.set_cons_succ]
    refine wpAnyH_ready (rs := [7]) (by kernel_rfl) (by simp) ?_
    refine AllReadyH.cons rfl (fun K hK => ?_) AllReadyH.nil
    go_simp
    refine (IH2.out _ Hb1.out).mono ?_
    rintro e w2 ⟨rfl, hb⟩
    have Hb2 := Lib.hid (Hb1.out.next hb)
    clear hb
    go_wp2_with fail
    refine hK.out _ _ trivial (fun hHeld => ?_)
    clear hK K
    try simp only [Act.put, List.setIfInBounds_toArray, List.set_cons_zero, List.set_cons_succ]
    refine wpAnyH_ready (rs := [8]) (by kernel_rfl) (by simp) ?_
    refine AllReadyH.cons rfl (fun K hK => ?_) AllReadyH.nil
    go_simp
    refine (RPair_any A1 A2 _ P1.out P2.out).mono ?_
    rintro e w3 ⟨rfl, hb⟩
    have Hb3 := Lib.hid (Hb2.out.next hb)
    clear hb
    go_wp2_with fail
    refine hK.out _ _ trivial (fun hHeld => ?_)
    clear hK K
    try simp only [Act.put, List.setIfInBounds_toArray, List.set_cons_zero, List.set_cons_succ]
    refine take_at 9 2 (oi := ?o14) (v := ?v14) ?hi14 ?hd14 (by kernel_rfl) (by kernel_rfl) (by kernel_rfl) ?hQ14 ?hw14 ?hy14 (by assumption) ?rest14
    case hi14 => simp only [List.getElem?_toArray, List.getElem?_cons_succ, List.getElem?_cons_zero]; rfl
    case hd14 => rfl
    case hw14 => kernel_rfl
    case hy14 => intro W hW; (try dsimp only at hW); go_simp <;> with_reducible rfl
    case hQ14 => exact fun _ _ _ h => h
    try simp only [Act.put, List.setIfInBounds_toArray, List.set_cons_zero, List.set_cons_succ]
    refine wpAnyH_done (by kernel_rfl) ?_ _
    simp only [Exit.then]
    go_wp2
    go_ret
    exact ⟨congrArg (fun x => Ending.returned (.string (B x))) HP.out.symm, Hb3.out⟩
end Go.Proofs.YtfklmjcjjdliiaaDoor
