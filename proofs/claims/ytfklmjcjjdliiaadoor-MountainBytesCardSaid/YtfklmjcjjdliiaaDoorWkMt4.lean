/- slices.Clone and slices.Equal at lists of texts; raise of package mountain and appended of its reference do what the plain function says. -/
import Derived.Test.YtfklmjcjjdliiaaDoorWkMt2
import Derived.Test.YtfklmjcjjdliiaaDoorFrmMore
import Derived.Test.YtfklmjcjjdliiaaDoorShelf
import Derived.Deep.Cut
namespace Go.Proofs.YtfklmjcjjdliiaaDoor
open Go Go.RowKit Licit

theorem B_getD (xs : List Bs) {j : Nat} (hj : j < xs.length) : (xs.map B).getD j ByteArray.empty = B (xs.getD j []) := by
  rw [List.getD_eq_getElem?_getD, List.getElem?_map, List.getElem?_eq_getElem hj, List.getD_eq_getElem?_getD, List.getElem?_eq_getElem hj]
  rfl
theorem CloneS_any (v : Value) (xs : List Bs) (w : World) (h : IsSl v (xs.map vS) w) (hn : xs.length ≤ 100000) :
    Calls Tryd.prog 16 #[v] w fun e w' => ∃ v', e = .returned v' ∧ w'.ownsRow w.heap.size 9 1 v' xs.length (xs.map vS) ∧ Below w.heap.size w w' := by
  rcases h.2 with ⟨a, cap, rfl, hx⟩ | ⟨b, off, cap, rfl, h0, hc⟩
  · obtain rfl : xs = [] := by simpa using hx
    cases a with
    | none =>
      refine (Tryd.slices_Clone_string_nil 0 cap w).mono ?_
      rintro e w' ⟨rfl, rfl⟩
      exact ⟨_, rfl, World.ownsRow_nil _ _ _ _, Below.refl _ _⟩
    | some a =>
      refine (Tryd.slices_Clone_string_zero a cap w).mono ?_
      rintro e w' ⟨v', rfl, ho, _, hb⟩
      exact ⟨v', rfl, ho, hb⟩
  · rw [List.length_map] at h0 hc ⊢
    refine (Tryd.slices_Clone_string b off xs.length cap (xs.map B) w (by simp) (by omega) (fun j hj => ?_)).mono ?_
    · rw [List.length_map] at hj
      rw [hc j hj, map_vS_getD xs hj, B_getD xs hj]
    · rintro e w' ⟨v', rfl, ho, _, hb⟩
      refine ⟨v', rfl, ?_, hb⟩
      rw [List.take_of_length_le (by simp), List.map_map] at ho
      exact ho
theorem Equal_any (v u : Value) (xs ys : List Bs) (w : World) (h : IsSl v (xs.map vS) w) (h' : IsSl u (ys.map vS) w) :
    Calls Tryd.prog 18 #[v, u] w fun e w' => e = .returned (.bool (decide (xs = ys))) ∧ ∃ q, w' = w.drewN q := by
  have m1 := h.1
  have m2 := h'.1
  rw [List.length_map] at m1 m2
  unfold maxLen at m1 m2
  obtain ⟨a', cap', rfl⟩ := h'.formMap
  rcases h.2 with ⟨a, cap, rfl, hx⟩ | ⟨b, off, cap, rfl, h0, hc⟩
  · obtain rfl : xs = [] := by simpa using hx
    refine (Tryd.slices_Equal_string_empty a a' cap ys.length cap' w (by omega)).mono ?_
    rintro e w' ⟨rfl, rfl⟩
    refine ⟨?_, 0, rfl⟩
    congr 2
    cases ys <;> simp
  · rw [List.length_map] at h0 hc ⊢
    by_cases hl : xs.length = ys.length
    · obtain ⟨b2, off2, c2, e, hc2⟩ : ∃ b2 off2 c2, Value.slice a' ys.length cap' = .slice (some ⟨b2, off2, none⟩) ys.length c2 ∧ ∀ i, i < ys.length → w.cell? ⟨b2, off2 + i, none⟩ = (ys.map vS)[i]? := by
        rcases h'.2 with ⟨_, _, _, hx⟩ | ⟨b2, off2, c2, e, h1, hc2⟩
        · have : ys = [] := by simpa using hx
          subst this; simp at hl; rw [hl] at h0; simp at h0
        · rw [List.length_map] at e hc2
          exact ⟨b2, off2, c2, e, hc2⟩
      rw [e]
      refine (Tryd.slices_Equal_string b off xs.length cap b2 off2 ys.length c2 (xs.map B) (ys.map B) w (by simp) (by simp) (by omega) (by omega) (fun j hj => ?_) (fun j hj => ?_)).mono ?_
      · rw [List.length_map] at hj
        rw [hc j hj, map_vS_getD xs hj, B_getD xs hj]
      · rw [List.length_map] at hj
        rw [hc2 j hj, map_vS_getD ys hj, B_getD ys hj]
      · rintro e w' ⟨rfl, hq⟩
        refine ⟨?_, hq⟩
        rw [List.take_of_length_le (by simp), List.take_of_length_le (by simp)]
        congr 2
        have hinj : (xs.map B = ys.map B) ↔ xs = ys := by
          constructor
          · intro h
            have : (xs.map B).map (fun s : ByteArray => s.data.toList) = (ys.map B).map (fun s : ByteArray => s.data.toList) := by rw [h]
            simpa [List.map_map, Function.comp_def] using this
          · rintro rfl; rfl
        simp only [hinj]
    · refine (Tryd.slices_Equal_string_lens (some ⟨b, off, none⟩) a' xs.length cap ys.length cap' w hl).mono ?_
      rintro e w' ⟨rfl, rfl⟩
      refine ⟨?_, 0, rfl⟩
      rw [decide_eq_false]
      intro h; subst h; exact hl rfl

theorem raise_bit {n k d : Nat} (hd : n / 2 ^ k = d) (hr : d % 2 = 1) : n / 2 ^ k * 2 ^ k = n / 2 ^ (k + 1) * 2 ^ (k + 1) + 2 ^ k := by
  rw [Nat.pow_succ, ← Nat.div_div_eq_div_mul, hd]
  have h1 : d / 2 * 2 + 1 = d := by omega
  conv => lhs; rw [← h1]
  rw [Nat.add_mul, Nat.one_mul, Nat.mul_assoc, Nat.mul_comm 2]

set_option maxHeartbeats 4000000 in
set_option maxRecDepth 100000 in
theorem raise_any (v : Value) (n h : Nat) (P : List Bs) (top : Bs) (w : World) (hv : MtIs v (n : Int) P w) (hn : n + 2 ^ h < 2 ^ 21) (hd : n / 2 ^ h * 2 ^ h = n) (hP : P.length = (hts n).length) (hPl : ∀ x ∈ P, x.length ≤ maxLen) (htop : top.length ≤ maxLen) (ht : Tab w) :
    Calls Tryd.prog 49 #[v, .int .i64 (h : Int), .string (B top)] w fun e w' => ∃ v', e = .returned v' ∧ MtIs v' ((n + 2 ^ h : Nat) : Int) (raiseQ (n / 2 ^ h) P top) w' ∧ Below w.heap.size w w' := by
  obtain ⟨i0, hi, hz0, hz1, hz2⟩ := info_parts Tryd.infoStr
  have Hi := Lib.hid hi
  have Hz0 := Lib.hid hz0
  have Hz1 := Lib.hid hz1
  have Hz2 := Lib.hid hz2
  clear hi hz0 hz1 hz2
  obtain ⟨p, rfl, h1, _⟩ := hv
  have hPn : P.length ≤ 21 := by rw [hP]; exact hts_len 21 n
  have hB1 : Below w.heap.size w ((w.alloc (.cells #[.int .i64 (n : Int), p] 31)).alloc (.cells #[.int .i64 0, .slice none 0 0] 31)) := ((Below.refl _ _).alloc (Nat.le_refl _) _).alloc (by simp) _
  have HCl := Lib.hid (fun W (hb : Below w.heap.size w W) => CloneS_any p P W (h1.below hb) (by omega))
  obtain ⟨a, cap, rfl⟩ := h1.formMap
  have Hx1 := Lib.hid (show ((w.alloc (.cells #[.int .i64 (n : Int), .slice a P.length cap] 31)).alloc (.cells #[.int .i64 0, .slice none 0 0] 31)).heap[w.heap.size]? = some (.cells #[.int .i64 (n : Int), .slice a P.length cap] 31) from old_of (new_of _ _))
  have Hz1' := Lib.hid (show ((w.alloc (.cells #[.int .i64 (n : Int), .slice a P.length cap] 31)).alloc (.cells #[.int .i64 0, .slice none 0 0] 31)).heap[w.heap.size + 1]? = some (.cells #[.int .i64 0, .slice none 0 0] 31) from new_at (by simp) rfl)
  have HB1 := Lib.hid hB1
  obtain ⟨R, hR⟩ : ∃ R, raiseQ (n / 2 ^ h) P top = R := ⟨_, rfl⟩
  rw [hR]
  have HRl := Lib.hid hPl
  have HRR := Lib.hid hR
  have HPL := Lib.hid (show P.length = (hts (n / 2 ^ h * 2 ^ h)).length by rw [hd]; exact hP)
  have hp2 := Nat.two_pow_pos h
  have hh21 : h < 21 := by
    rcases Nat.lt_or_ge h 21 with x | x
    · exact x
    · have := Nat.pow_le_pow_right (n := 2) (by decide) x; omega
  obtain ⟨p2, hp2'⟩ : ∃ p2, 2 ^ h = p2 := ⟨_, rfl⟩
  rw [hp2'] at hn ⊢
  have hpi : (1 : Int) * 2 ^ h = (p2 : Int) := by rw [← hp2']; simp
  have hpi' : (2 : Int) ^ h = (p2 : Int) := by rw [← hp2']; simp
  have hhm : min h 64 = h := by omega
  have hh64 : h ≤ 64 := by omega
  have hw1 : IntKind.i64.wrap (p2 : Int) = (p2 : Int) := by rw [IntKind.wrap_i64]; omega
  have hw2 : IntKind.i64.wrap ((n : Int) + (p2 : Int)) = ((n + p2 : Nat) : Int) := by rw [IntKind.wrap_i64]; omega
  have HW2 := Lib.hid hw2
  clear hB1 h1 hR hP hPl hd hp2 hp2' hw2
  go_enter Tryd.func49, Tryd.ntmps49
  go_wp2_with fail
  obtain ⟨W1, hW1⟩ : ∃ W1, (w.alloc (.cells #[.int .i64 (n : Int), .slice a P.length cap] 31)).alloc (.cells #[.int .i64 0, .slice none 0 0] 31) = W1 := ⟨_, rfl⟩
  have hz : W1.heap.size = w.heap.size + 2 := by rw [← hW1]; simp
  rw [hW1] at HB1 Hx1 Hz1' ⊢
  refine (HCl.out _ HB1.out).mono ?_
  rintro e w2 ⟨v2, rfl, ho, hb⟩
  have HO2 := Lib.hid ho
  have HB2 := Lib.hid (HB1.out.trans (hb.mono (by omega)))
  have HX2 := Lib.hid ((hb.block _ (by omega)).trans Hx1.out)
  have HZ2 := Lib.hid ((hb.block _ (by omega)).trans Hz1'.out)
  have hbs := hb.size
  clear ho hb hW1 HCl
  go_wp2
  go_loopw [2, 7, 8] (fun t v hh wr => ∃ (k : Nat) (cur : List Bs) (tp : Bs), h ≤ k ∧ k ≤ 21 ∧ hh = .int .i64 (k : Int) ∧ t = .string (B tp) ∧ wr.ownsRow W1.heap.size 9 1 v cur.length (cur.map vS) ∧ raiseQ (n / 2 ^ k) cur tp = R ∧ cur.length = (hts (n / 2 ^ k * 2 ^ k)).length ∧ (∀ x ∈ cur, x.length ≤ maxLen) ∧ tp.length ≤ maxLen ∧
     wr.heap[w.heap.size]? = some (.cells #[.int .i64 (n : Int), .slice a P.length cap] 31) ∧ wr.heap[w.heap.size + 1]? = some (.cells #[.int .i64 0, .slice none 0 0] 31) ∧ Below w.heap.size w wr ∧ W1.heap.size ≤ wr.heap.size) (fun _ _ hh _ => (22 - intOf hh).toNat)
  case atStart => exact ⟨h, P, top, Nat.le_refl _, by omega, rfl, rfl, HO2.out, HRR.out, HPL.out, HRl.out, htop, HX2.out, HZ2.out, HB2.out, hbs⟩
  case round =>
    obtain ⟨k, cur, tp, hk, hk21, rfl, rfl, ho, hr, hcl, hal, htl, hx, hz3, hb, hsz⟩ := hrel
    have HO := Lib.hid ho
    have HR := Lib.hid hr
    have HC := Lib.hid hcl
    have HA := Lib.hid hal
    have HX := Lib.hid hx
    have HZ := Lib.hid hz3
    have HB := Lib.hid hb
    have hcur : cur.length ≤ 21 := by rw [hcl]; exact hts_len 21 _
    obtain ⟨c0, c1⟩ := mtC hx
    clear ho hr hcl hal hx hz3 hb HO2 HX2 HZ2 HB2 HRR HPL
    obtain ⟨d, hd⟩ : ∃ d, n / 2 ^ k = d := ⟨_, rfl⟩
    have hdl : d ≤ n := by rw [← hd]; exact Nat.div_le_self _ _
    have hkd : (n : Int) / 2 ^ k = (d : Int) := by rw [← hd]; simp
    have hkm : min k 64 = k := by omega
    have hk64 : k ≤ 64 := by omega
    have hand := and_one_i64 d (by omega)
    obtain ⟨r, hr⟩ : ∃ r, d % 2 = r := ⟨_, rfl⟩
    rw [hr] at hand
    have HD := Lib.hid hd
    by_cases hr1 : r = 1
    · subst hr1
      have hk20 : k ≤ 20 := by
        rcases Nat.lt_or_ge 20 k with x | x
        · have h21 : k = 21 := by omega
          subst h21
          rw [Nat.div_eq_of_lt (by omega)] at hd
          omega
        · exact x
      have hlen : cur.length = (hts (n / 2 ^ (k + 1) * 2 ^ (k + 1))).length + 1 := by
        rw [HC.out, raise_bit hd hr, hts, hts_add 21 _ k (by omega) ⟨_, Nat.mul_comm _ _⟩]
        simp
      have HLen := Lib.hid hlen
      have hpos : 0 < cur.length := by omega
      obtain ⟨g, cp, hg, hgb, hgz, hgc⟩ := own_some HO.out hpos
      subst hg
      obtain ⟨x, hx⟩ : ∃ x, cur.getD (cur.length - 1) [] = x := ⟨_, rfl⟩
      have hcx : wr.cell? ⟨g, cur.length - 1, none⟩ = some (.string (B x)) := by
        rw [ownCell HO.out (by rw [List.length_map]; omega), map_vS_getD cur (by omega), hx]
      have hxl : x.length ≤ maxLen := by
        rw [← hx, List.getD_eq_getElem?_getD, List.getElem?_eq_getElem (by omega)]
        exact HA.out _ (List.getElem_mem _)
      have HRn := Lib.hid (show raiseQ (n / 2 ^ (k + 1)) (cur.take (cur.length - 1)) (pairM x tp) = R by
        have e1 := raiseQ_odd (q := n / 2 ^ k) (by rw [hd]; exact hr) cur tp
        rw [getLastD_at cur hpos, hx, List.dropLast_eq_take, HR.out] at e1
        rw [Nat.pow_succ, ← Nat.div_div_eq_div_mul]
        exact e1.symm)
      have HO' := Lib.hid (ownTake HO.out (k := cur.length - 1) (by omega))
      obtain ⟨m, hm⟩ : ∃ m, cur.length = m + 1 := ⟨cur.length - 1, by omega⟩
      rw [hm] at hcx HRn HO' hlen hgc hcur ⊢
      rw [show m + 1 - 1 = m by omega] at hcx HRn HO'
      have htr := ht.same HB.out
      clear hx hd hr hlen hpos HR HC
      have hm1 : ((m : Int) + 1) - 1 = (m : Int) := by omega
      have hmc : (m : Int) ≤ (cp : Int) := by omega
      have hmi : (m : Int) < (m : Int) + 1 := by omega
      have HM := Lib.hid hm
      clear hm
      go_wp2_with (go_at_call 52; refine (pair_any x tp _ hxl htl htr).mono ?_; rintro e w3 ⟨rfl, hb3⟩; have Hb3 := Lib.hid hb3; have hbz := hb3.size; clear hb3)
      go_roundw
      case rel =>
        have hlt : (cur.take m).length = m := by rw [List.length_take]; have := HM.out; omega
        exact ⟨k + 1, cur.take m, pairM x tp, by omega, by omega, by go_num, rfl, by rw [hlt, List.map_take]; exact ownsRow_block HO'.out (fun q _ hq => Hb3.out.block q hq), HRn.out, by rw [hlt]; have := HLen.out; have := HM.out; omega, fun y hy => HA.out y (List.mem_of_mem_take hy), max32 (pairM_len _ _), (Hb3.out.block _ (lt_of HX.out)).trans HX.out, (Hb3.out.block _ (lt_of HZ.out)).trans HZ.out, HB.out.next Hb3.out, by omega⟩
      case measure => simp [intOf]; omega
    · have hr0 : ((r : Int) == 1) = false := by simp; omega
      have HRn := Lib.hid (show cur ++ [tp] = R by rw [← HR.out, raiseQ_even (by rw [hd, hr]; omega)])
      have hw2 := HW2.out
      have hwz : w.heap.size < wr.heap.size := by omega
      clear hd hr HR HC hr1 HD
      go_wp2
      go_region_law
        (first
          | (refine step_append_two rfl _ _ 22 rfl W1.heap.size 9 i0 (.string ⟨#[]⟩) 1 16 Tryd.underlying22 Hi.out Hz0.out Hz1.out Hz2.out rfl (by decide) _ cur.length (cur.map vS) rfl (ownDrew (HO.out.alloc (.cells #[.string (B tp)] 9))) ⟨wr.heap.size, 0, none⟩ 1 1 [vS tp] rfl rfl (newsDrew (news_one (new_of wr (.cells #[.string (B tp)] 9)))) (by simp [vS, Value.oneCell']) (by unfold maxLen; omega) (by omega) (by simp; omega) (by decide) ?_
             intro v5 w5 ho5 hg5 _
             have hk5 : ∀ q, q < w.heap.size + 2 → w5.heap[q]? = wr.heap[q]? := fun q hq => (hg5.block q (by simp; omega) (fun e => by have := (HO.out.lt q e.symm).1; omega)).trans (Below.heap_alloc _ _ _ (by omega))
             have hb5 : Below w.heap.size w w5 := (dr (HB.out.alloc HB.out.size (.cells #[.string (B tp)] 9))).grown hg5 (by have := HB.out.size; simp; omega) (fun q hq => by have := (HO.out.lt q hq).1; omega)
             have hZ5 := (hk5 (w.heap.size + 1) (by omega)).trans HZ.out
             have hz5 : w.heap.size + 1 < w5.heap.size := lt_of hZ5
             have hl5 : cur.length + 1 = R.length := by rw [← HRn.out]; simp
             obtain ⟨z0, z1⟩ := mtC hZ5
             have y0 : w5.cell? ⟨w.heap.size, 0, none⟩ = some (.int .i64 (n : Int)) := cell_of ((hk5 w.heap.size (by omega)).trans HX.out) 0
             have f0 := free_of hZ5 0
             have f1 := free_of hZ5 1
             obtain ⟨a5, c5, rfl⟩ := own_form ho5
             have ho6 : w5.ownsRow W1.heap.size 9 1 (.slice a5 (cur.length + 1) c5) (R.map vS).length (R.map vS) := by
               rw [← map_snoc, HRn.out] at ho5
               rw [List.length_map, ← hl5]
               exact ho5
             have HZ5 := Lib.hid hZ5
             have HO6 := Lib.hid ho6
             have HB5 := Lib.hid hb5
             have HL5 := Lib.hid hl5
             clear hk5 hb5 hZ5 ho5 ho6 hg5 hl5))
      all_goals
        go_wp2
        refine ret_whole (p := 6) (ty := 31) rfl (w.heap.size + 1) 31 _ (0, 0) _ rfl (set_of (set_of HZ5.out 0 _) 1 _) Tryd.underlying31 rfl (by kernel_rfl) rfl ?_
        have hK := (kept_set (w.heap.size + 1) 0 w5 (.int .i64 ((n : Int) + (p2 : Int)))).trans (kept_set (w.heap.size + 1) 1 _ (.slice a5 (cur.length + 1) c5))
        refine ⟨_, rfl, ⟨_, by rw [Int.natCast_add]; rfl, IsSl.of_owns (ownsRow_block HO6.out (fun q h1 h2 => hK.block q h2 (fun e => by have : q = w.heap.size + 1 := e; omega))) (by rw [List.length_map, ← HL5.out]; unfold maxLen; omega), NilOk.own HO6.out⟩, HB5.out.trans (hK.below HB5.out.size (fun q hq e => by have : q = w.heap.size + 1 := e; omega))⟩

end Go.Proofs.YtfklmjcjjdliiaaDoor
