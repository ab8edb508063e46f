/- appended of the reference of mountain does what the plain function says. -/
import Derived.Test.YtfklmjcjjdliiaaDoorWkMt4
namespace Go.Proofs.YtfklmjcjjdliiaaDoor
open Go Go.RowKit Licit

set_option maxHeartbeats 8000000 in
set_option maxRecDepth 100000 in
theorem appended_any (v : Value) (n h : Nat) (P : List Bs) (top : Bs) (w : World) (hv : MtIs v (n : Int) P w) (hn : n + 2 ^ h < 2 ^ 21) (hd : n / 2 ^ h * 2 ^ h = n) (hP : P.length = (hts n).length) (hPl : ∀ x ∈ P, x.length ≤ maxLen) (htop : top.length ≤ maxLen) :
    Calls Tryd.prog 59 #[v, .int .i64 (h : Int), .string (B top)] w fun e w' => ∃ v', e = .returned v' ∧ MtIs v' ((n + 2 ^ h : Nat) : Int) (raiseQ (n / 2 ^ h) P top) w' ∧ Below w.heap.size w w' := by
  obtain ⟨i0, hi, hz0, hz1, hz2⟩ := info_parts Tryd.infoStr
  have Hi := Lib.hid hi
  have Hz0 := Lib.hid hz0
  have Hz1 := Lib.hid hz1
  have Hz2 := Lib.hid hz2
  clear hi hz0 hz1 hz2
  obtain ⟨p, rfl, h1, hnil⟩ := hv
  have hPn : P.length ≤ 21 := by rw [hP]; exact hts_len 21 n
  obtain ⟨R, hR⟩ : ∃ R, raiseQ (n / 2 ^ h) P top = R := ⟨_, rfl⟩
  rw [hR]
  have HRl := Lib.hid hPl
  have HRR := Lib.hid hR
  have HPL := Lib.hid (show P.length = (hts (n / 2 ^ h * 2 ^ h)).length by rw [hd]; exact hP)
  have hp2 := Nat.two_pow_pos h
  have hh21 : h < 21 := by
    rcases Nat.lt_or_ge h 21 with x | x
    · exact x
    · have := Nat.pow_le_pow_right (n := 2) (by decide) x; omega
  obtain ⟨p2, hp2'⟩ : ∃ p2, 2 ^ h = p2 := ⟨_, rfl⟩
  rw [hp2'] at hn ⊢
  have hpi : (1 : Int) * 2 ^ h = (p2 : Int) := by rw [← hp2']; simp
  have hpi' : (2 : Int) ^ h = (p2 : Int) := by rw [← hp2']; simp
  have hhm : min h 64 = h := by omega
  have hh64 : h ≤ 64 := by omega
  have hw1 : IntKind.i64.wrap (p2 : Int) = (p2 : Int) := by rw [IntKind.wrap_i64]; omega
  have hcv : IntKind.u64.wrap (h : Int) = (h : Int) := by rw [IntKind.wrap_u64]; omega
  obtain ⟨a, cap, rfl⟩ := h1.formMap
  obtain ⟨W3, hW3⟩ : ∃ W3, ((w.alloc (.cells #[.int .i64 (n : Int), .slice a P.length cap] 31)).alloc (.cells #[.int .i64 0, .slice none 0 0] 31)).alloc (.cells #[.int .i64 ((n : Int) + (p2 : Int)), .slice none 0 0] 31) = W3 := ⟨_, rfl⟩
  have hB3 : Below w.heap.size w W3 := by rw [← hW3]; exact (((Below.refl _ _).alloc (Nat.le_refl _) _).alloc (by simp) _).alloc (by simp; omega) _
  have hX3 : W3.heap[w.heap.size]? = some (.cells #[.int .i64 (n : Int), .slice a P.length cap] 31) := by rw [← hW3]; exact old_of (old_of (new_of _ _))
  have hZ3 : W3.heap[w.heap.size + 1]? = some (.cells #[.int .i64 0, .slice none 0 0] 31) := by rw [← hW3]; exact old_of (new_at (by simp) rfl)
  have hO3 : W3.heap[w.heap.size + 1 + 1]? = some (.cells #[.int .i64 ((n : Int) + (p2 : Int)), .slice none 0 0] 31) := by rw [← hW3]; exact new_at (by simp) rfl
  have hs3 : W3.heap.size = w.heap.size + 3 := by rw [← hW3]; simp
  have hcase : (∃ ad, a = some ad ∧ ∀ W, Below w.heap.size w W → ∀ j u, (P.map vS)[j]? = some u → W.cell? (ad.add j) = some u) ∨ (a = none ∧ P = [] ∧ cap = 0) := by
    rcases h1.2 with ⟨a', cap', e, hx⟩ | ⟨b, off, cap', e, h0, hc⟩
    · obtain rfl : P = [] := by simpa using hx
      cases a with
      | none => exact .inr ⟨rfl, rfl, hnil _ _ rfl⟩
      | some ad => exact .inl ⟨ad, rfl, fun W _ j u hu => by simp at hu⟩
    · simp only [Value.slice.injEq] at e
      obtain ⟨rfl, _, rfl⟩ := e
      exact .inl ⟨_, rfl, fun W hb => news_of (h1.below hb) rfl (by rw [List.length_map])⟩
  have HB3 := Lib.hid hB3
  have HX3 := Lib.hid hX3
  have HZ3 := Lib.hid hZ3
  have HO3 := Lib.hid hO3
  have HW3 := Lib.hid hW3
  clear hB3 hX3 hZ3 hO3 hW3 hR hP hPl hd hp2 hp2' h1
  rcases hcase with ⟨ad, rfl, hnews⟩ | ⟨rfl, rfl, rfl⟩
  · have HN := Lib.hid hnews
    clear hnews
    have e3 := HW3.out
    subst e3
    clear HW3
    go_enter Tryd.func59, Tryd.ntmps59
    go_wp2_with (first
      | (at_builtin
         go_loud (
         refine wpList_append_own _ rfl _ _ 22 rfl (w.heap.size + 3) 9 i0 (.string ⟨#[]⟩) 1 16 Tryd.underlying22 Hi.out Hz0.out Hz1.out Hz2.out rfl (by decide) _ P.length (P.map vS) rfl (HO4.out.alloc _) ⟨_, 0, none⟩ 1 1 [vS top] rfl rfl (news_one (new_of _ _)) (by simp [vS, Value.oneCell']) (by unfold maxLen; omega) (by omega) (by simp; omega) ?_
         intro v5 w5 ho5 hg5 _
         rw [← map_snoc] at ho5
         have hk5 := fun (q : Nat) (hq : q < w.heap.size + 3) => (hg5.block q (by simp; omega) (fun e => by have := (HO4.out.lt q e.symm).1; omega)).trans ((Below.heap_alloc _ _ _ (by omega)).trans (HK4.out q hq))
         have hb5 := (HB4.out.alloc HB4.out.size (.cells #[.string (B top)] 9)).grown hg5 (by have := HB4.out.size; simp; omega) (fun q hq => by have := (HO4.out.lt q hq).1; omega)
         have hX5 := (hk5 w.heap.size (by omega)).trans HX3.out
         have hZ5 := (hk5 (w.heap.size + 1) (by omega)).trans HZ3.out
         have hO5 := (hk5 (w.heap.size + 1 + 1) (by omega)).trans HO3.out
         obtain ⟨o0, o1⟩ := mtC hO5
         have fo1 := free_of hO5 1
         obtain ⟨a5, c5, rfl⟩ := own_form ho5
         have hz5 : w.heap.size + 3 ≤ w5.heap.size := by have := hg5.size; simp at this; omega
         have HX5 := Lib.hid hX5
         have HZ5 := Lib.hid hZ5
         have HOt5 := Lib.hid hO5
         have HB5 := Lib.hid hb5
         have HO5 := Lib.hid ho5
         clear hk5 hb5 hX5 hZ5 hO5 ho5 hg5
         ))
      | (at_builtin
         go_loud (
         refine wpList_append_own _ rfl _ _ 22 rfl (w.heap.size + 3) 9 i0 (.string ⟨#[]⟩) 1 16 Tryd.underlying22 Hi.out Hz0.out Hz1.out Hz2.out rfl (by decide) (.slice none 0 0) 0 [] rfl (World.ownsRow_nil _ _ _ _) ad P.length cap (P.map vS) rfl (by rw [List.length_map, Nat.mul_one]) (HN.out _ HB3.out) (by intro u hu; obtain ⟨x, _, rfl⟩ := List.mem_map.1 hu; rfl) (by unfold maxLen; omega) (by omega) (by omega) ?_
         intro v4 w4 ho4 hg4 _
         rw [Nat.zero_add, List.nil_append] at ho4
         have HK4 := Lib.hid (fun (q : Nat) (hq : q < w.heap.size + 3) => hg4.block q (by omega) (fun e => by cases e))
         have HB4 := Lib.hid (HB3.out.grown hg4 (by omega) (fun q hq => by cases hq))
         have hz4 : w.heap.size + 3 ≤ w4.heap.size := by have := hg4.size; omega
         have HO4 := Lib.hid ho4
         clear ho4 hg4)))
    have hz6 : w.heap.size + 1 + 1 < w5.heap.size := by omega
    go_loopw [8] (fun hh wr => ∃ (k : Nat) (pre : List Bs) (tp : Bs) (a c' : _), h ≤ k ∧ k ≤ 21 ∧ hh = .int .i64 (k : Int) ∧ wr.heap[w.heap.size + 1 + 1]? = some (.cells #[.int .i64 ((n : Int) + (p2 : Int)), .slice a (pre.length + 1) c'] 31) ∧ wr.ownsRow (w.heap.size + 3) 9 1 (.slice a (pre.length + 1) c') (pre.length + 1) ((pre ++ [tp]).map vS) ∧ raiseQ (n / 2 ^ k) pre tp = R ∧ pre.length = (hts (n / 2 ^ k * 2 ^ k)).length ∧ (∀ x ∈ pre, x.length ≤ maxLen) ∧ tp.length ≤ maxLen ∧
       wr.heap[w.heap.size]? = some (.cells #[.int .i64 (n : Int), .slice (some ad) P.length cap] 31) ∧ wr.heap[w.heap.size + 1]? = some (.cells #[.int .i64 0, .slice none 0 0] 31) ∧ Below w.heap.size w wr ∧ w.heap.size + 3 ≤ wr.heap.size) (fun hh _ => (22 - intOf hh).toNat)
    case atStart =>
      have hne : ∀ q : Nat, q ≠ w.heap.size + 1 + 1 → q ≠ (⟨w.heap.size + 1 + 1, 1, none⟩ : Addr).block := fun q h => h
      exact ⟨h, P, top, a5, c5, Nat.le_refl _, by omega, rfl, set_of HOt5.out 1 _, ownsRow_set (p := ⟨w.heap.size + 1 + 1, 1, none⟩) HO5.out (by show w.heap.size + 1 + 1 < w.heap.size + 3; omega), HRR.out, HPL.out, HRl.out, htop, set_other (p := ⟨w.heap.size + 1 + 1, 1, none⟩) HX5.out (hne _ (by omega)), set_other (p := ⟨w.heap.size + 1 + 1, 1, none⟩) HZ5.out (hne _ (by omega)), HB5.out.setCell (p := ⟨w.heap.size + 1 + 1, 1, none⟩) (by show w.heap.size ≤ w.heap.size + 1 + 1; omega) _, by simpa using hz5⟩
    case round =>
      obtain ⟨k, pre, tp, a, c', hk, hk21, rfl, hot, ho, hr, hcl, hal, htl, hx, hz3, hb, hsz⟩ := hrel
      have HOt := Lib.hid hot
      have HO := Lib.hid ho
      have HR := Lib.hid hr
      have HC := Lib.hid hcl
      have HA := Lib.hid hal
      have HX := Lib.hid hx
      have HZ := Lib.hid hz3
      have HB := Lib.hid hb
      have hcur : pre.length ≤ 21 := by rw [hcl]; exact hts_len 21 _
      obtain ⟨c0, c1⟩ := mtC hx
      obtain ⟨q0, q1⟩ := mtC hot
      have fq1 := free_of hot 1
      obtain ⟨g, cp, hg, hgb, hgz, hgc⟩ := own_some ho (by omega)
      simp only [Value.slice.injEq, true_and] at hg
      obtain ⟨rfl, rfl⟩ := hg
      clear hot ho hr hcl hal hx hz3 hb HX5 HZ5 HOt5 HB5 HO5 HRR HPL o0 o1 fo1 hz6 hz5
      obtain ⟨d, hd⟩ : ∃ d, n / 2 ^ k = d := ⟨_, rfl⟩
      have hdl : d ≤ n := by rw [← hd]; exact Nat.div_le_self _ _
      have hkd : (n : Int) / 2 ^ k = (d : Int) := by rw [← hd]; simp
      have hkm : min k 64 = k := by omega
      have hk64 : k ≤ 64 := by omega
      have hcvk : IntKind.u64.wrap (k : Int) = (k : Int) := by rw [IntKind.wrap_u64]; omega
      have hand := and_one_i64 d (by omega)
      obtain ⟨r, hr⟩ : ∃ r, d % 2 = r := ⟨_, rfl⟩
      rw [hr] at hand
      have hoz : w.heap.size + 1 + 1 < wr.heap.size := by omega
      by_cases hr1 : r = 1
      · subst hr1
        have hk20 : k ≤ 20 := by
          rcases Nat.lt_or_ge 20 k with x | x
          · have h21 : k = 21 := by omega
            subst h21
            rw [Nat.div_eq_of_lt (by omega)] at hd
            omega
          · exact x
        have hlen : pre.length = (hts (n / 2 ^ (k + 1) * 2 ^ (k + 1))).length + 1 := by
          rw [HC.out, raise_bit hd hr, hts, hts_add 21 _ k (by omega) ⟨_, Nat.mul_comm _ _⟩]
          simp
        obtain ⟨m, hm⟩ : ∃ m, pre.length = m + 1 := ⟨_, hlen⟩
        have hpos : 0 < pre.length := by omega
        obtain ⟨x, hx⟩ : ∃ x, pre.getD (pre.length - 1) [] = x := ⟨_, rfl⟩
        have hxl : x.length ≤ maxLen := by
          rw [← hx, List.getD_eq_getElem?_getD, List.getElem?_eq_getElem (by omega)]
          exact HA.out _ (List.getElem_mem _)
        have HRn := Lib.hid (show raiseQ (n / 2 ^ (k + 1)) (pre.take m) (pairM x tp) = R by
          have e1 := raiseQ_odd (q := n / 2 ^ k) (by rw [hd]; exact hr) pre tp
          rw [getLastD_at pre hpos, hx, List.dropLast_eq_take, HR.out, hm] at e1
          rw [Nat.pow_succ, ← Nat.div_div_eq_div_mul]
          exact e1.symm)
        rw [hm] at hx
        have hcx0 : wr.cell? ⟨g, m, none⟩ = some (.string (B x)) := by
          rw [ownCell HO.out (by rw [List.length_map, List.length_append]; simp; omega), map_vS_getD _ (by rw [List.length_append]; simp; omega)]
          rw [List.getD_eq_getElem?_getD, List.getElem?_append_left (by omega), ← List.getD_eq_getElem?_getD, show m = m + 1 - 1 from rfl, hx]
        have hcx1 : wr.cell? ⟨g, m + 1, none⟩ = some (.string (B tp)) := by
          rw [ownCell HO.out (by rw [List.length_map, List.length_append]; simp; omega), map_vS_getD _ (by rw [List.length_append]; simp; omega)]
          rw [List.getD_eq_getElem?_getD, List.getElem?_append_right (by omega), hm]
          simp
        have HO' := Lib.hid (ownTake HO.out (k := m) (by omega))
        have htk : ((pre ++ [tp]).map vS).take m = (pre.take m).map vS := by rw [← List.map_take, List.take_append_of_le_length (by omega)]
        rw [htk] at HO'
        rw [hm] at q1 hgc HOt HO
        have hm1 : ((m : Int) + 1 + 1) - 2 = (m : Int) := by omega
        have hm2 : ((m : Int) + 1 + 1) - 1 = (m : Int) + 1 := by omega
        have hmw1 : IntKind.i64.wrap (m : Int) = (m : Int) := by rw [IntKind.wrap_i64]; omega
        have hmw2 : IntKind.i64.wrap ((m : Int) + 1) = (m : Int) + 1 := by rw [IntKind.wrap_i64]; omega
        have hmw3 : IntKind.i64.wrap (((m : Int) + 1 + 1) - 2) = (m : Int) := by rw [IntKind.wrap_i64]; omega
        have hmw4 : IntKind.i64.wrap (((m : Int) + 1 + 1) - 1) = (m : Int) + 1 := by rw [IntKind.wrap_i64]; omega
        have hmc : (m : Int) ≤ (c' : Int) := by omega
        have hmi1 : (m : Int) < (m : Int) + 1 + 1 := by omega
        have hmi2 : (m : Int) + 1 < (m : Int) + 1 + 1 := by omega
        have hmi0 : (0 : Int) ≤ (m : Int) + 1 := by omega
        have hmc2 : m ≤ c' := by omega
        have hmb : m ≤ 20 := by omega
        have hgw : g < wr.heap.size := hgz
        have HM := Lib.hid hm
        have HLn := Lib.hid hlen
        clear hx hd hr hlen hpos HR HC hm htk
        go_wp2
        go_region_law
          (first
            | (go_simp; go_at_call 56; refine (RPair_any x tp _ hxl htl).mono ?_; rintro e w7 ⟨rfl, hb7'⟩
               have hb7 : Below wr.heap.size wr w7 := ⟨hb7'.os, hb7'.tape, hb7'.output, hb7'.size, hb7'.block⟩
               have q17 : w7.cell? ⟨w.heap.size + 1 + 1, 1, none⟩ = some (.slice (some ⟨g, 0, none⟩) (m + 1 + 1) c') := (hb7.cell (p := ⟨w.heap.size + 1 + 1, 1, none⟩) hoz).trans q1
               have hoz7 : w.heap.size + 1 + 1 < w7.heap.size := by have := hb7.size; omega
               have HB7 := Lib.hid hb7
               clear hb7 hb7'
               go_wp2_with fail)
            | (refine step_append_two rfl _ _ 22 rfl (w.heap.size + 3) 9 i0 (.string ⟨#[]⟩) 1 16 Tryd.underlying22 Hi.out Hz0.out Hz1.out Hz2.out rfl (by decide) (.slice (some ⟨g, 0, none⟩) m c') m ((pre.take m).map vS) rfl ((ownsRow_block HO'.out (fun q _ hq => HB7.out.block q hq)).alloc (.cells #[.string (B (pairM x tp))] 9)) ⟨w7.heap.size, 0, none⟩ 1 1 [vS (pairM x tp)] rfl rfl (news_one (new_of w7 (.cells #[.string (B (pairM x tp))] 9))) (by simp [vS, Value.oneCell']) (by unfold maxLen; omega) (by omega) (by simp; omega) (by decide) ?_
               intro v8 w8 ho8 hg8 _
               have hO7 := ownsRow_block HO'.out (fun q _ hq => HB7.out.block q hq)
               have hk8 := fun (q : Nat) (hq : q < w.heap.size + 3) => (hg8.block q (by simp; omega) (fun e => by have := (hO7.lt q e.symm).1; omega)).trans ((Below.heap_alloc _ _ _ (by omega)).trans (HB7.out.block q (by omega)))
               have hX8 := (hk8 w.heap.size (by omega)).trans HX.out
               have hZ8 := (hk8 (w.heap.size + 1) (by omega)).trans HZ.out
               have hO8 := (hk8 (w.heap.size + 1 + 1) (by omega)).trans HOt.out
               have q18 : w8.cell? ⟨w.heap.size + 1 + 1, 1, none⟩ = _ := cell_of hO8 1
               have f18 := free_of hO8 1
               rw [← map_snoc] at ho8
               obtain ⟨a8, c8, rfl⟩ := own_form ho8
               have hz8 : w.heap.size + 3 ≤ w8.heap.size := by have h1 := hg8.size; have h2 := HB7.out.size; simp at h1; omega
               have HB8 := Lib.hid (((HB.out.next HB7.out).alloc (HB.out.next HB7.out).size (.cells #[.string (B (pairM x tp))] 9)).grown hg8 (by have := (HB.out.next HB7.out).size; simp; omega) (fun q hq => by have := (hO7.lt q hq).1; omega))
               have HX8 := Lib.hid hX8
               have HZ8 := Lib.hid hZ8
               have HO8 := Lib.hid hO8
               have HW8 := Lib.hid ho8
               clear hk8 hX8 hZ8 hO8 ho8 hg8 hO7))
        all_goals
          go_wp2
          go_roundw
          case rel =>
            have hne : ∀ q : Nat, q ≠ w.heap.size + 1 + 1 → q ≠ (⟨w.heap.size + 1 + 1, 1, none⟩ : Addr).block := fun q h => h
            have hlt : (pre.take m).length = m := by rw [List.length_take]; have := HM.out; omega
            exact ⟨k + 1, pre.take m, pairM x tp, a8, c8, by omega, by omega, by go_num, by rw [hlt]; exact set_of HO8.out 1 _, by rw [hlt]; exact ownsRow_set (p := ⟨w.heap.size + 1 + 1, 1, none⟩) HW8.out (by show w.heap.size + 1 + 1 < w.heap.size + 3; omega), HRn.out, by rw [hlt]; have := HLn.out; have := HM.out; omega, fun y hy => HA.out y (List.mem_of_mem_take hy), max32 (pairM_len _ _), set_other (p := ⟨w.heap.size + 1 + 1, 1, none⟩) HX8.out (hne _ (by omega)), set_other (p := ⟨w.heap.size + 1 + 1, 1, none⟩) HZ8.out (hne _ (by omega)), HB8.out.setCell (p := ⟨w.heap.size + 1 + 1, 1, none⟩) (by show w.heap.size ≤ w.heap.size + 1 + 1; omega) _, by simpa using hz8⟩
          case measure => simp [intOf]; omega
      · have hr0 : ((r : Int) == 1) = false := by simp; omega
        have HRn := Lib.hid (show pre ++ [tp] = R by rw [← HR.out, raiseQ_even (by rw [hd, hr]; omega)])
        have HLn := Lib.hid (show pre.length + 1 = R.length by rw [← HRn.out]; simp)
        obtain ⟨z0, z1⟩ := mtC HZ.out
        have g0 := free_of HZ.out 0
        have g1 := free_of HZ.out 1
        have hzz : w.heap.size + 1 < wr.heap.size := by omega
        clear hd hr HR HC hr1
        go_wp2
        refine ret_whole (p := 6) (ty := 31) rfl (w.heap.size + 1) 31 _ (0, 0) _ rfl (set_of (set_of HZ.out 0 _) 1 _) Tryd.underlying31 rfl (by kernel_rfl) rfl ?_
        have hK := (kept_set (w.heap.size + 1) 0 wr (.int .i64 ((n : Int) + (p2 : Int)))).trans (kept_set (w.heap.size + 1) 1 _ (.slice (some ⟨g, 0, none⟩) (pre.length + 1) c'))
        have ho9 : wr.ownsRow (w.heap.size + 3) 9 1 (.slice (some ⟨g, 0, none⟩) (pre.length + 1) c') (R.map vS).length (R.map vS) := by
          have := HO.out
          rw [HRn.out] at this
          rw [List.length_map, ← HLn.out]
          exact this
        refine ⟨_, rfl, ⟨_, by rw [Int.natCast_add]; rfl, IsSl.of_owns (ownsRow_block ho9 (fun q h1 h2 => hK.block q h2 (fun e => by have : q = w.heap.size + 1 := e; omega))) (by rw [List.length_map, ← HLn.out]; unfold maxLen; omega), NilOk.own ho9⟩, HB.out.trans (hK.below HB.out.size (fun q hq e => by have : q = w.heap.size + 1 := e; omega))⟩
  · have e3 := HW3.out
    subst e3
    clear HW3
    simp only [List.length_nil] at *
    go_enter Tryd.func59, Tryd.ntmps59
    go_wp2_with (first
      | (at_builtin
         go_loud (
         refine wpList_append_own _ rfl _ _ 22 rfl (w.heap.size + 3) 9 i0 (.string ⟨#[]⟩) 1 16 Tryd.underlying22 Hi.out Hz0.out Hz1.out Hz2.out rfl (by decide) _ 0 [] rfl (HO4.out.alloc _) ⟨_, 0, none⟩ 1 1 [vS top] rfl rfl (news_one (new_of _ _)) (by simp [vS, Value.oneCell']) (by unfold maxLen; omega) (by omega) (by simp; omega) ?_
         intro v5 w5 ho5 hg5 _
         have ho5 : w5.ownsRow (w.heap.size + 3) 9 1 v5 (0 + 1) ((([] : List Bs) ++ [top]).map vS) := ho5
         have hk5 := fun (q : Nat) (hq : q < w.heap.size + 3) => (hg5.block q (by simp; omega) (fun e => by have := (HO4.out.lt q e.symm).1; omega)).trans ((Below.heap_alloc _ _ _ (by omega)).trans (HK4.out q hq))
         have hb5 := (HB4.out.alloc HB4.out.size (.cells #[.string (B top)] 9)).grown hg5 (by have := HB4.out.size; simp; omega) (fun q hq => by have := (HO4.out.lt q hq).1; omega)
         have hX5 := (hk5 w.heap.size (by omega)).trans HX3.out
         have hZ5 := (hk5 (w.heap.size + 1) (by omega)).trans HZ3.out
         have hO5 := (hk5 (w.heap.size + 1 + 1) (by omega)).trans HO3.out
         obtain ⟨o0, o1⟩ := mtC hO5
         have fo1 := free_of hO5 1
         obtain ⟨a5, c5, rfl⟩ := own_form ho5
         have hz5 : w.heap.size + 3 ≤ w5.heap.size := by have := hg5.size; simp at this; omega
         have HX5 := Lib.hid hX5
         have HZ5 := Lib.hid hZ5
         have HOt5 := Lib.hid hO5
         have HB5 := Lib.hid hb5
         have HO5 := Lib.hid ho5
         clear hk5 hb5 hX5 hZ5 hO5 ho5 hg5
         ))
      | (at_builtin
         refine wpList_append_own_none rfl _ _ 22 rfl (w.heap.size + 3) 9 i0 1 Tryd.underlying22 Hi.out (.slice none 0 0) 0 [] rfl (World.ownsRow_nil _ _ _ _) rfl ?_
         obtain ⟨w4, hw4⟩ : ∃ w4, ((w.alloc (.cells #[.int .i64 (n : Int), .slice none 0 0] 31)).alloc (.cells #[.int .i64 0, .slice none 0 0] 31)).alloc (.cells #[.int .i64 ((n : Int) + (p2 : Int)), .slice none 0 0] 31) = w4 := ⟨_, rfl⟩
         have HK4 := Lib.hid (show ∀ q, q < w.heap.size + 3 → w4.heap[q]? = (((w.alloc (.cells #[.int .i64 (n : Int), .slice none 0 0] 31)).alloc (.cells #[.int .i64 0, .slice none 0 0] 31)).alloc (.cells #[.int .i64 ((n : Int) + (p2 : Int)), .slice none 0 0] 31)).heap[q]? from fun q _ => by rw [hw4])
         have HB4 := Lib.hid (show Below w.heap.size w w4 from hw4 ▸ HB3.out)
         have hz4 : w.heap.size + 3 ≤ w4.heap.size := by rw [← hw4]; simp
         have HO4 := Lib.hid (show w4.ownsRow (w.heap.size + 3) 9 1 (.slice none 0 0) 0 [] from World.ownsRow_nil _ _ _ _)
         have hw1' : w4.cell? ⟨w.heap.size + 1 + 1, 1, none⟩ = some (.slice none 0 0) := by rw [← hw4]; exact cell_of (new_at (by simp) rfl) 1
         rw [hw4]
         clear hw4))
    have hz6 : w.heap.size + 1 + 1 < w5.heap.size := by omega
    go_loopw [8] (fun hh wr => ∃ (k : Nat) (pre : List Bs) (tp : Bs) (a c' : _), h ≤ k ∧ k ≤ 21 ∧ hh = .int .i64 (k : Int) ∧ wr.heap[w.heap.size + 1 + 1]? = some (.cells #[.int .i64 ((n : Int) + (p2 : Int)), .slice a (pre.length + 1) c'] 31) ∧ wr.ownsRow (w.heap.size + 3) 9 1 (.slice a (pre.length + 1) c') (pre.length + 1) ((pre ++ [tp]).map vS) ∧ raiseQ (n / 2 ^ k) pre tp = R ∧ pre.length = (hts (n / 2 ^ k * 2 ^ k)).length ∧ (∀ x ∈ pre, x.length ≤ maxLen) ∧ tp.length ≤ maxLen ∧
       wr.heap[w.heap.size]? = some (.cells #[.int .i64 (n : Int), .slice none 0 0] 31) ∧ wr.heap[w.heap.size + 1]? = some (.cells #[.int .i64 0, .slice none 0 0] 31) ∧ Below w.heap.size w wr ∧ w.heap.size + 3 ≤ wr.heap.size) (fun hh _ => (22 - intOf hh).toNat)
    case atStart =>
      have hne : ∀ q : Nat, q ≠ w.heap.size + 1 + 1 → q ≠ (⟨w.heap.size + 1 + 1, 1, none⟩ : Addr).block := fun q h => h
      exact ⟨h, [], top, a5, c5, Nat.le_refl _, by omega, rfl, set_of HOt5.out 1 _, ownsRow_set (p := ⟨w.heap.size + 1 + 1, 1, none⟩) HO5.out (by show w.heap.size + 1 + 1 < w.heap.size + 3; omega), HRR.out, HPL.out, HRl.out, htop, set_other (p := ⟨w.heap.size + 1 + 1, 1, none⟩) HX5.out (hne _ (by omega)), set_other (p := ⟨w.heap.size + 1 + 1, 1, none⟩) HZ5.out (hne _ (by omega)), HB5.out.setCell (p := ⟨w.heap.size + 1 + 1, 1, none⟩) (by show w.heap.size ≤ w.heap.size + 1 + 1; omega) _, by simpa using hz5⟩
    case round =>
      obtain ⟨k, pre, tp, a, c', hk, hk21, rfl, hot, ho, hr, hcl, hal, htl, hx, hz3, hb, hsz⟩ := hrel
      have HOt := Lib.hid hot
      have HO := Lib.hid ho
      have HR := Lib.hid hr
      have HC := Lib.hid hcl
      have HA := Lib.hid hal
      have HX := Lib.hid hx
      have HZ := Lib.hid hz3
      have HB := Lib.hid hb
      have hcur : pre.length ≤ 21 := by rw [hcl]; exact hts_len 21 _
      obtain ⟨c0, c1⟩ := mtC hx
      obtain ⟨q0, q1⟩ := mtC hot
      have fq1 := free_of hot 1
      obtain ⟨g, cp, hg, hgb, hgz, hgc⟩ := own_some ho (by omega)
      simp only [Value.slice.injEq, true_and] at hg
      obtain ⟨rfl, rfl⟩ := hg
      clear hot ho hr hcl hal hx hz3 hb HX5 HZ5 HOt5 HB5 HO5 HRR HPL o0 o1 fo1 hz6 hz5
      obtain ⟨d, hd⟩ : ∃ d, n / 2 ^ k = d := ⟨_, rfl⟩
      have hdl : d ≤ n := by rw [← hd]; exact Nat.div_le_self _ _
      have hkd : (n : Int) / 2 ^ k = (d : Int) := by rw [← hd]; simp
      have hkm : min k 64 = k := by omega
      have hk64 : k ≤ 64 := by omega
      have hcvk : IntKind.u64.wrap (k : Int) = (k : Int) := by rw [IntKind.wrap_u64]; omega
      have hand := and_one_i64 d (by omega)
      obtain ⟨r, hr⟩ : ∃ r, d % 2 = r := ⟨_, rfl⟩
      rw [hr] at hand
      have hoz : w.heap.size + 1 + 1 < wr.heap.size := by omega
      by_cases hr1 : r = 1
      · subst hr1
        have hk20 : k ≤ 20 := by
          rcases Nat.lt_or_ge 20 k with x | x
          · have h21 : k = 21 := by omega
            subst h21
            rw [Nat.div_eq_of_lt (by omega)] at hd
            omega
          · exact x
        have hlen : pre.length = (hts (n / 2 ^ (k + 1) * 2 ^ (k + 1))).length + 1 := by
          rw [HC.out, raise_bit hd hr, hts, hts_add 21 _ k (by omega) ⟨_, Nat.mul_comm _ _⟩]
          simp
        obtain ⟨m, hm⟩ : ∃ m, pre.length = m + 1 := ⟨_, hlen⟩
        have hpos : 0 < pre.length := by omega
        obtain ⟨x, hx⟩ : ∃ x, pre.getD (pre.length - 1) [] = x := ⟨_, rfl⟩
        have hxl : x.length ≤ maxLen := by
          rw [← hx, List.getD_eq_getElem?_getD, List.getElem?_eq_getElem (by omega)]
          exact HA.out _ (List.getElem_mem _)
        have HRn := Lib.hid (show raiseQ (n / 2 ^ (k + 1)) (pre.take m) (pairM x tp) = R by
          have e1 := raiseQ_odd (q := n / 2 ^ k) (by rw [hd]; exact hr) pre tp
          rw [getLastD_at pre hpos, hx, List.dropLast_eq_take, HR.out, hm] at e1
          rw [Nat.pow_succ, ← Nat.div_div_eq_div_mul]
          exact e1.symm)
        rw [hm] at hx
        have hcx0 : wr.cell? ⟨g, m, none⟩ = some (.string (B x)) := by
          rw [ownCell HO.out (by rw [List.length_map, List.length_append]; simp; omega), map_vS_getD _ (by rw [List.length_append]; simp; omega)]
          rw [List.getD_eq_getElem?_getD, List.getElem?_append_left (by omega), ← List.getD_eq_getElem?_getD, show m = m + 1 - 1 from rfl, hx]
        have hcx1 : wr.cell? ⟨g, m + 1, none⟩ = some (.string (B tp)) := by
          rw [ownCell HO.out (by rw [List.length_map, List.length_append]; simp; omega), map_vS_getD _ (by rw [List.length_append]; simp; omega)]
          rw [List.getD_eq_getElem?_getD, List.getElem?_append_right (by omega), hm]
          simp
        have HO' := Lib.hid (ownTake HO.out (k := m) (by omega))
        have htk : ((pre ++ [tp]).map vS).take m = (pre.take m).map vS := by rw [← List.map_take, List.take_append_of_le_length (by omega)]
        rw [htk] at HO'
        rw [hm] at q1 hgc HOt HO
        have hm1 : ((m : Int) + 1 + 1) - 2 = (m : Int) := by omega
        have hm2 : ((m : Int) + 1 + 1) - 1 = (m : Int) + 1 := by omega
        have hmw1 : IntKind.i64.wrap (m : Int) = (m : Int) := by rw [IntKind.wrap_i64]; omega
        have hmw2 : IntKind.i64.wrap ((m : Int) + 1) = (m : Int) + 1 := by rw [IntKind.wrap_i64]; omega
        have hmw3 : IntKind.i64.wrap (((m : Int) + 1 + 1) - 2) = (m : Int) := by rw [IntKind.wrap_i64]; omega
        have hmw4 : IntKind.i64.wrap (((m : Int) + 1 + 1) - 1) = (m : Int) + 1 := by rw [IntKind.wrap_i64]; omega
        have hmc : (m : Int) ≤ (c' : Int) := by omega
        have hmi1 : (m : Int) < (m : Int) + 1 + 1 := by omega
        have hmi2 : (m : Int) + 1 < (m : Int) + 1 + 1 := by omega
        have hmi0 : (0 : Int) ≤ (m : Int) + 1 := by omega
        have hmc2 : m ≤ c' := by omega
        have hmb : m ≤ 20 := by omega
        have hgw : g < wr.heap.size := hgz
        have HM := Lib.hid hm
        have HLn := Lib.hid hlen
        clear hx hd hr hlen hpos HR HC hm htk
        go_wp2
        go_region_law
          (first
            | (go_simp; go_at_call 56; refine (RPair_any x tp _ hxl htl).mono ?_; rintro e w7 ⟨rfl, hb7'⟩
               have hb7 : Below wr.heap.size wr w7 := ⟨hb7'.os, hb7'.tape, hb7'.output, hb7'.size, hb7'.block⟩
               have q17 : w7.cell? ⟨w.heap.size + 1 + 1, 1, none⟩ = some (.slice (some ⟨g, 0, none⟩) (m + 1 + 1) c') := (hb7.cell (p := ⟨w.heap.size + 1 + 1, 1, none⟩) hoz).trans q1
               have hoz7 : w.heap.size + 1 + 1 < w7.heap.size := by have := hb7.size; omega
               have HB7 := Lib.hid hb7
               clear hb7 hb7'
               go_wp2_with fail)
            | (refine step_append_two rfl _ _ 22 rfl (w.heap.size + 3) 9 i0 (.string ⟨#[]⟩) 1 16 Tryd.underlying22 Hi.out Hz0.out Hz1.out Hz2.out rfl (by decide) (.slice (some ⟨g, 0, none⟩) m c') m ((pre.take m).map vS) rfl ((ownsRow_block HO'.out (fun q _ hq => HB7.out.block q hq)).alloc (.cells #[.string (B (pairM x tp))] 9)) ⟨w7.heap.size, 0, none⟩ 1 1 [vS (pairM x tp)] rfl rfl (news_one (new_of w7 (.cells #[.string (B (pairM x tp))] 9))) (by simp [vS, Value.oneCell']) (by unfold maxLen; omega) (by omega) (by simp; omega) (by decide) ?_
               intro v8 w8 ho8 hg8 _
               have hO7 := ownsRow_block HO'.out (fun q _ hq => HB7.out.block q hq)
               have hk8 := fun (q : Nat) (hq : q < w.heap.size + 3) => (hg8.block q (by simp; omega) (fun e => by have := (hO7.lt q e.symm).1; omega)).trans ((Below.heap_alloc _ _ _ (by omega)).trans (HB7.out.block q (by omega)))
               have hX8 := (hk8 w.heap.size (by omega)).trans HX.out
               have hZ8 := (hk8 (w.heap.size + 1) (by omega)).trans HZ.out
               have hO8 := (hk8 (w.heap.size + 1 + 1) (by omega)).trans HOt.out
               have q18 : w8.cell? ⟨w.heap.size + 1 + 1, 1, none⟩ = _ := cell_of hO8 1
               have f18 := free_of hO8 1
               rw [← map_snoc] at ho8
               obtain ⟨a8, c8, rfl⟩ := own_form ho8
               have hz8 : w.heap.size + 3 ≤ w8.heap.size := by have h1 := hg8.size; have h2 := HB7.out.size; simp at h1; omega
               have HB8 := Lib.hid (((HB.out.next HB7.out).alloc (HB.out.next HB7.out).size (.cells #[.string (B (pairM x tp))] 9)).grown hg8 (by have := (HB.out.next HB7.out).size; simp; omega) (fun q hq => by have := (hO7.lt q hq).1; omega))
               have HX8 := Lib.hid hX8
               have HZ8 := Lib.hid hZ8
               have HO8 := Lib.hid hO8
               have HW8 := Lib.hid ho8
               clear hk8 hX8 hZ8 hO8 ho8 hg8 hO7))
        all_goals
          go_wp2
          go_roundw
          case rel =>
            have hne : ∀ q : Nat, q ≠ w.heap.size + 1 + 1 → q ≠ (⟨w.heap.size + 1 + 1, 1, none⟩ : Addr).block := fun q h => h
            have hlt : (pre.take m).length = m := by rw [List.length_take]; have := HM.out; omega
            exact ⟨k + 1, pre.take m, pairM x tp, a8, c8, by omega, by omega, by go_num, by rw [hlt]; exact set_of HO8.out 1 _, by rw [hlt]; exact ownsRow_set (p := ⟨w.heap.size + 1 + 1, 1, none⟩) HW8.out (by show w.heap.size + 1 + 1 < w.heap.size + 3; omega), HRn.out, by rw [hlt]; have := HLn.out; have := HM.out; omega, fun y hy => HA.out y (List.mem_of_mem_take hy), max32 (pairM_len _ _), set_other (p := ⟨w.heap.size + 1 + 1, 1, none⟩) HX8.out (hne _ (by omega)), set_other (p := ⟨w.heap.size + 1 + 1, 1, none⟩) HZ8.out (hne _ (by omega)), HB8.out.setCell (p := ⟨w.heap.size + 1 + 1, 1, none⟩) (by show w.heap.size ≤ w.heap.size + 1 + 1; omega) _, by simpa using hz8⟩
          case measure => simp [intOf]; omega
      · have hr0 : ((r : Int) == 1) = false := by simp; omega
        have HRn := Lib.hid (show pre ++ [tp] = R by rw [← HR.out, raiseQ_even (by rw [hd, hr]; omega)])
        have HLn := Lib.hid (show pre.length + 1 = R.length by rw [← HRn.out]; simp)
        obtain ⟨z0, z1⟩ := mtC HZ.out
        have g0 := free_of HZ.out 0
        have g1 := free_of HZ.out 1
        have hzz : w.heap.size + 1 < wr.heap.size := by omega
        clear hd hr HR HC hr1
        go_wp2
        refine ret_whole (p := 6) (ty := 31) rfl (w.heap.size + 1) 31 _ (0, 0) _ rfl (set_of (set_of HZ.out 0 _) 1 _) Tryd.underlying31 rfl (by kernel_rfl) rfl ?_
        have hK := (kept_set (w.heap.size + 1) 0 wr (.int .i64 ((n : Int) + (p2 : Int)))).trans (kept_set (w.heap.size + 1) 1 _ (.slice (some ⟨g, 0, none⟩) (pre.length + 1) c'))
        have ho9 : wr.ownsRow (w.heap.size + 3) 9 1 (.slice (some ⟨g, 0, none⟩) (pre.length + 1) c') (R.map vS).length (R.map vS) := by
          have := HO.out
          rw [HRn.out] at this
          rw [List.length_map, ← HLn.out]
          exact this
        refine ⟨_, rfl, ⟨_, by rw [Int.natCast_add]; rfl, IsSl.of_owns (ownsRow_block ho9 (fun q h1 h2 => hK.block q h2 (fun e => by have : q = w.heap.size + 1 := e; omega))) (by rw [List.length_map, ← HLn.out]; unfold maxLen; omega), NilOk.own ho9⟩, HB.out.trans (hK.below HB.out.size (fun q hq e => by have : q = w.heap.size + 1 := e; omega))⟩
end Go.Proofs.YtfklmjcjjdliiaaDoor
