/- Grown of package mountain does what the plain function says (at ranges of up to 1024 leaves). -/
import Derived.Test.YtfklmjcjjdliiaaDoorWkMtF
namespace Go.Proofs.YtfklmjcjjdliiaaDoor
open Go Go.RowKit Licit

set_option maxHeartbeats 4000000 in
set_option maxRecDepth 100000 in
theorem raise_gen (v : Value) (n h : Nat) (P : List Bs) (top : Bs) (w : World) (hv : MtIs v (n : Int) P w) (hn : n + 2 ^ h < 2 ^ 21) (hP : (hts (n / 2 ^ h * 2 ^ h)).length ≤ P.length) (hPn : P.length ≤ 5000) (hPl : ∀ x ∈ P, x.length ≤ maxLen) (htop : top.length ≤ maxLen) (ht : Tab w) :
    Calls Tryd.prog 49 #[v, .int .i64 (h : Int), .string (B top)] w fun e w' => ∃ v', e = .returned v' ∧ MtIs v' ((n + 2 ^ h : Nat) : Int) (raiseQ (n / 2 ^ h) P top) w' ∧ Below w.heap.size w w' := by
  obtain ⟨i0, hi, hz0, hz1, hz2⟩ := info_parts Tryd.infoStr
  have Hi := Lib.hid hi
  have Hz0 := Lib.hid hz0
  have Hz1 := Lib.hid hz1
  have Hz2 := Lib.hid hz2
  clear hi hz0 hz1 hz2
  obtain ⟨p, rfl, h1, _⟩ := hv
  have hB1 : Below w.heap.size w ((w.alloc (.cells #[.int .i64 (n : Int), p] 31)).alloc (.cells #[.int .i64 0, .slice none 0 0] 31)) := ((Below.refl _ _).alloc (Nat.le_refl _) _).alloc (by simp) _
  have HCl := Lib.hid (fun W (hb : Below w.heap.size w W) => CloneS_any p P W (h1.below hb) (by omega))
  obtain ⟨a, cap, rfl⟩ := h1.formMap
  have Hx1 := Lib.hid (show ((w.alloc (.cells #[.int .i64 (n : Int), .slice a P.length cap] 31)).alloc (.cells #[.int .i64 0, .slice none 0 0] 31)).heap[w.heap.size]? = some (.cells #[.int .i64 (n : Int), .slice a P.length cap] 31) from old_of (new_of _ _))
  have Hz1' := Lib.hid (show ((w.alloc (.cells #[.int .i64 (n : Int), .slice a P.length cap] 31)).alloc (.cells #[.int .i64 0, .slice none 0 0] 31)).heap[w.heap.size + 1]? = some (.cells #[.int .i64 0, .slice none 0 0] 31) from new_at (by simp) rfl)
  have HB1 := Lib.hid hB1
  obtain ⟨R, hR⟩ : ∃ R, raiseQ (n / 2 ^ h) P top = R := ⟨_, rfl⟩
  rw [hR]
  have HRl := Lib.hid hPl
  have HRR := Lib.hid hR
  have HPL := Lib.hid hP
  have hp2 := Nat.two_pow_pos h
  have hh21 : h < 21 := by
    rcases Nat.lt_or_ge h 21 with x | x
    · exact x
    · have := Nat.pow_le_pow_right (n := 2) (by decide) x; omega
  obtain ⟨p2, hp2'⟩ : ∃ p2, 2 ^ h = p2 := ⟨_, rfl⟩
  rw [hp2'] at hn ⊢
  have hpi : (1 : Int) * 2 ^ h = (p2 : Int) := by rw [← hp2']; simp
  have hpi' : (2 : Int) ^ h = (p2 : Int) := by rw [← hp2']; simp
  have hhm : min h 64 = h := by omega
  have hh64 : h ≤ 64 := by omega
  have hw1 : IntKind.i64.wrap (p2 : Int) = (p2 : Int) := by rw [IntKind.wrap_i64]; omega
  have hw2 : IntKind.i64.wrap ((n : Int) + (p2 : Int)) = ((n + p2 : Nat) : Int) := by rw [IntKind.wrap_i64]; omega
  have HW2 := Lib.hid hw2
  clear hB1 h1 hR hP hPl hp2 hp2' hw2
  go_enter Tryd.func49, Tryd.ntmps49
  go_wp2_with fail
  obtain ⟨W1, hW1⟩ : ∃ W1, (w.alloc (.cells #[.int .i64 (n : Int), .slice a P.length cap] 31)).alloc (.cells #[.int .i64 0, .slice none 0 0] 31) = W1 := ⟨_, rfl⟩
  have hz : W1.heap.size = w.heap.size + 2 := by rw [← hW1]; simp
  rw [hW1] at HB1 Hx1 Hz1' ⊢
  refine (HCl.out _ HB1.out).mono ?_
  rintro e w2 ⟨v2, rfl, ho, hb⟩
  have HO2 := Lib.hid ho
  have HB2 := Lib.hid (HB1.out.trans (hb.mono (by omega)))
  have HX2 := Lib.hid ((hb.block _ (by omega)).trans Hx1.out)
  have HZ2 := Lib.hid ((hb.block _ (by omega)).trans Hz1'.out)
  have hbs := hb.size
  clear ho hb hW1 HCl
  go_wp2
  go_loopw [2, 7, 8] (fun t v hh wr => ∃ (k : Nat) (cur : List Bs) (tp : Bs), h ≤ k ∧ k ≤ 21 ∧ hh = .int .i64 (k : Int) ∧ t = .string (B tp) ∧ wr.ownsRow W1.heap.size 9 1 v cur.length (cur.map vS) ∧ raiseQ (n / 2 ^ k) cur tp = R ∧ ((hts (n / 2 ^ k * 2 ^ k)).length ≤ cur.length ∧ cur.length ≤ 5000) ∧ (∀ x ∈ cur, x.length ≤ maxLen) ∧ tp.length ≤ maxLen ∧
     wr.heap[w.heap.size]? = some (.cells #[.int .i64 (n : Int), .slice a P.length cap] 31) ∧ wr.heap[w.heap.size + 1]? = some (.cells #[.int .i64 0, .slice none 0 0] 31) ∧ Below w.heap.size w wr ∧ W1.heap.size ≤ wr.heap.size) (fun _ _ hh _ => (22 - intOf hh).toNat)
  case atStart => exact ⟨h, P, top, Nat.le_refl _, by omega, rfl, rfl, HO2.out, HRR.out, ⟨HPL.out, hPn⟩, HRl.out, htop, HX2.out, HZ2.out, HB2.out, hbs⟩
  case round =>
    obtain ⟨k, cur, tp, hk, hk21, rfl, rfl, ho, hr, hcl, hal, htl, hx, hz3, hb, hsz⟩ := hrel
    have HO := Lib.hid ho
    have HR := Lib.hid hr
    have HC := Lib.hid hcl
    have HA := Lib.hid hal
    have HX := Lib.hid hx
    have HZ := Lib.hid hz3
    have HB := Lib.hid hb
    have hcur : cur.length ≤ 5000 := hcl.2
    obtain ⟨c0, c1⟩ := mtC hx
    clear ho hr hcl hal hx hz3 hb HO2 HX2 HZ2 HB2 HRR HPL
    obtain ⟨d, hd⟩ : ∃ d, n / 2 ^ k = d := ⟨_, rfl⟩
    have hdl : d ≤ n := by rw [← hd]; exact Nat.div_le_self _ _
    have hkd : (n : Int) / 2 ^ k = (d : Int) := by rw [← hd]; simp
    have hkm : min k 64 = k := by omega
    have hk64 : k ≤ 64 := by omega
    have hand := and_one_i64 d (by omega)
    obtain ⟨r, hr⟩ : ∃ r, d % 2 = r := ⟨_, rfl⟩
    rw [hr] at hand
    have HD := Lib.hid hd
    by_cases hr1 : r = 1
    · subst hr1
      have hk20 : k ≤ 20 := by
        rcases Nat.lt_or_ge 20 k with x | x
        · have h21 : k = 21 := by omega
          subst h21
          rw [Nat.div_eq_of_lt (by omega)] at hd
          omega
        · exact x
      have hlen : (hts (n / 2 ^ (k + 1) * 2 ^ (k + 1))).length + 1 ≤ cur.length := by
        have h1 := HC.out.1
        rw [raise_bit hd hr, hts, hts_add 21 _ k (by omega) ⟨_, Nat.mul_comm _ _⟩] at h1
        simpa using h1
      have HLen := Lib.hid hlen
      have hpos : 0 < cur.length := by omega
      obtain ⟨g, cp, hg, hgb, hgz, hgc⟩ := own_some HO.out hpos
      subst hg
      obtain ⟨x, hx⟩ : ∃ x, cur.getD (cur.length - 1) [] = x := ⟨_, rfl⟩
      have hcx : wr.cell? ⟨g, cur.length - 1, none⟩ = some (.string (B x)) := by
        rw [ownCell HO.out (by rw [List.length_map]; omega), map_vS_getD cur (by omega), hx]
      have hxl : x.length ≤ maxLen := by
        rw [← hx, List.getD_eq_getElem?_getD, List.getElem?_eq_getElem (by omega)]
        exact HA.out _ (List.getElem_mem _)
      have HRn := Lib.hid (show raiseQ (n / 2 ^ (k + 1)) (cur.take (cur.length - 1)) (pairM x tp) = R by
        have e1 := raiseQ_odd (q := n / 2 ^ k) (by rw [hd]; exact hr) cur tp
        rw [getLastD_at cur hpos, hx, List.dropLast_eq_take, HR.out] at e1
        rw [Nat.pow_succ, ← Nat.div_div_eq_div_mul]
        exact e1.symm)
      have HO' := Lib.hid (ownTake HO.out (k := cur.length - 1) (by omega))
      obtain ⟨m, hm⟩ : ∃ m, cur.length = m + 1 := ⟨cur.length - 1, by omega⟩
      rw [hm] at hcx HRn HO' hlen hgc hcur ⊢
      rw [show m + 1 - 1 = m by omega] at hcx HRn HO'
      have htr := ht.same HB.out
      clear hx hd hr hlen hpos HR HC
      have hm1 : ((m : Int) + 1) - 1 = (m : Int) := by omega
      have hmc : (m : Int) ≤ (cp : Int) := by omega
      have hmi : (m : Int) < (m : Int) + 1 := by omega
      have HM := Lib.hid hm
      clear hm
      go_wp2_with (go_at_call 52; refine (pair_any x tp _ hxl htl htr).mono ?_; rintro e w3 ⟨rfl, hb3⟩; have Hb3 := Lib.hid hb3; have hbz := hb3.size; clear hb3)
      go_roundw
      case rel =>
        have hlt : (cur.take m).length = m := by rw [List.length_take]; have := HM.out; omega
        exact ⟨k + 1, cur.take m, pairM x tp, by omega, by omega, by go_num, rfl, by rw [hlt, List.map_take]; exact ownsRow_block HO'.out (fun q _ hq => Hb3.out.block q hq), HRn.out, by rw [hlt]; have := HLen.out; have := HM.out; exact ⟨by omega, by omega⟩, fun y hy => HA.out y (List.mem_of_mem_take hy), max32 (pairM_len _ _), (Hb3.out.block _ (lt_of HX.out)).trans HX.out, (Hb3.out.block _ (lt_of HZ.out)).trans HZ.out, HB.out.next Hb3.out, by omega⟩
      case measure => simp [intOf]; omega
    · have hr0 : ((r : Int) == 1) = false := by simp; omega
      have HRn := Lib.hid (show cur ++ [tp] = R by rw [← HR.out, raiseQ_even (by rw [hd, hr]; omega)])
      have hw2 := HW2.out
      have hwz : w.heap.size < wr.heap.size := by omega
      clear hd hr HR HC hr1 HD
      go_wp2
      go_region_law
        (first
          | (refine step_append_two rfl _ _ 22 rfl W1.heap.size 9 i0 (.string ⟨#[]⟩) 1 16 Tryd.underlying22 Hi.out Hz0.out Hz1.out Hz2.out rfl (by decide) _ cur.length (cur.map vS) rfl (ownDrew (HO.out.alloc (.cells #[.string (B tp)] 9))) ⟨wr.heap.size, 0, none⟩ 1 1 [vS tp] rfl rfl (newsDrew (news_one (new_of wr (.cells #[.string (B tp)] 9)))) (by simp [vS, Value.oneCell']) (by unfold maxLen; omega) (by omega) (by simp; omega) (by decide) ?_
             intro v5 w5 ho5 hg5 _
             have hk5 : ∀ q, q < w.heap.size + 2 → w5.heap[q]? = wr.heap[q]? := fun q hq => (hg5.block q (by simp; omega) (fun e => by have := (HO.out.lt q e.symm).1; omega)).trans (Below.heap_alloc _ _ _ (by omega))
             have hb5 : Below w.heap.size w w5 := (dr (HB.out.alloc HB.out.size (.cells #[.string (B tp)] 9))).grown hg5 (by have := HB.out.size; simp; omega) (fun q hq => by have := (HO.out.lt q hq).1; omega)
             have hZ5 := (hk5 (w.heap.size + 1) (by omega)).trans HZ.out
             have hz5 : w.heap.size + 1 < w5.heap.size := lt_of hZ5
             have hl5 : cur.length + 1 = R.length := by rw [← HRn.out]; simp
             obtain ⟨z0, z1⟩ := mtC hZ5
             have y0 : w5.cell? ⟨w.heap.size, 0, none⟩ = some (.int .i64 (n : Int)) := cell_of ((hk5 w.heap.size (by omega)).trans HX.out) 0
             have f0 := free_of hZ5 0
             have f1 := free_of hZ5 1
             obtain ⟨a5, c5, rfl⟩ := own_form ho5
             have ho6 : w5.ownsRow W1.heap.size 9 1 (.slice a5 (cur.length + 1) c5) (R.map vS).length (R.map vS) := by
               rw [← map_snoc, HRn.out] at ho5
               rw [List.length_map, ← hl5]
               exact ho5
             have HZ5 := Lib.hid hZ5
             have HO6 := Lib.hid ho6
             have HB5 := Lib.hid hb5
             have HL5 := Lib.hid hl5
             clear hk5 hb5 hZ5 ho5 ho6 hg5 hl5))
      all_goals
        go_wp2
        refine ret_whole (p := 6) (ty := 31) rfl (w.heap.size + 1) 31 _ (0, 0) _ rfl (set_of (set_of HZ5.out 0 _) 1 _) Tryd.underlying31 rfl (by kernel_rfl) rfl ?_
        have hK := (kept_set (w.heap.size + 1) 0 w5 (.int .i64 ((n : Int) + (p2 : Int)))).trans (kept_set (w.heap.size + 1) 1 _ (.slice a5 (cur.length + 1) c5))
        refine ⟨_, rfl, ⟨_, by rw [Int.natCast_add]; rfl, IsSl.of_owns (ownsRow_block HO6.out (fun q h1 h2 => hK.block q h2 (fun e => by have : q = w.heap.size + 1 := e; omega))) (by rw [List.length_map, ← HL5.out]; unfold maxLen; omega), NilOk.own HO6.out⟩, HB5.out.trans (hK.below HB5.out.size (fun q hq e => by have : q = w.heap.size + 1 := e; omega))⟩

/-- Ones of a number and of the next one, against a list that is raised. -/
theorem ones_half (J x : Nat) : (htsB (J + 1) x).length = x % 2 + (htsB J (x / 2)).length := by
  have h := hts_split x 1 J
  rw [Nat.add_comm 1 J] at h
  rw [h, Nat.pow_one]
  congr 1
  rcases Nat.mod_two_eq_zero_or_one x with e | e
  · rw [e]; rfl
  · rw [e]; rfl
theorem ones_raise : ∀ (q J : Nat) (P : List Bs) (top : Bs) (c : Nat), q + 1 < 2 ^ J → (htsB J q).length + c ≤ P.length → (htsB J (q + 1)).length + c ≤ (raiseQ q P top).length := by
  intro q
  induction q using Nat.strongRecOn with
  | _ q ih =>
    intro J P top c hq hl
    match J, hq with
    | 0, hq => omega
    | J + 1, hq =>
      rw [ones_half] at hl ⊢
      rw [Nat.pow_succ] at hq
      rcases Nat.mod_two_eq_zero_or_one q with e | e
      · rw [raiseQ_even e, List.length_append, List.length_singleton, show (q + 1) % 2 = 1 by omega, show (q + 1) / 2 = q / 2 by omega]
        omega
      · rw [raiseQ_odd e, show (q + 1) % 2 = 0 by omega, show (q + 1) / 2 = q / 2 + 1 by omega]
        have := ih (q / 2) (by omega) J P.dropLast (pairM (P.getLastD []) top) c (by omega) (by rw [List.length_dropLast]; omega)
        omega
theorem raiseQ_few : ∀ (q : Nat) (P : List Bs) (top : Bs), (raiseQ q P top).length ≤ P.length + 1 := by
  intro q
  induction q using Nat.strongRecOn with
  | _ q ih =>
    intro P top
    rcases Nat.mod_two_eq_zero_or_one q with e | e
    · rw [raiseQ_even e, List.length_append, List.length_singleton]
      omega
    · rw [raiseQ_odd e]
      have := ih (q / 2) (by omega) P.dropLast (pairM (P.getLastD []) top)
      rw [List.length_dropLast] at this
      omega
theorem hts_parts (n h : Nat) (hh : h ≤ 21) : (hts n).length = (htsB h (n % 2 ^ h)).length + (htsB (21 - h) (n / 2 ^ h)).length := by
  have := hts_split n h (21 - h)
  rw [show h + (21 - h) = 21 by omega] at this
  exact this
theorem hts_top_le (n h : Nat) (hh : h ≤ 21) : (hts (n / 2 ^ h * 2 ^ h)).length ≤ (hts n).length := by
  rw [hts_parts n h hh, hts_parts (n / 2 ^ h * 2 ^ h) h hh, Nat.mul_mod_left, Nat.mul_div_cancel _ (Nat.two_pow_pos h), hts_low h 0 h (Nat.le_refl _) ⟨0, rfl⟩]
  simp
theorem raise_ones {n h : Nat} {P : List Bs} {top : Bs} (hb : n + 2 ^ h < 2 ^ 21) (hl : (hts n).length ≤ P.length) : (hts (n + 2 ^ h)).length ≤ (raiseQ (n / 2 ^ h) P top).length := by
  have hp := Nat.two_pow_pos h
  have hh : h ≤ 21 := by
    rcases Nat.lt_or_ge 21 h with x | x
    · have := Nat.pow_le_pow_right (n := 2) (by decide) (show 21 ≤ h by omega); omega
    · exact x
  rw [hts_parts n h hh] at hl
  rw [hts_parts (n + 2 ^ h) h hh, Nat.add_mod_right, Nat.add_div_right _ hp, Nat.add_comm]
  refine ones_raise (n / 2 ^ h) (21 - h) P top _ ?_ (by omega)
  have h1 := Nat.div_mul_le_self n (2 ^ h)
  have h2 : 2 ^ 21 = 2 ^ (21 - h) * 2 ^ h := by rw [← Nat.pow_add]; congr 1; omega
  rw [h2] at hb
  have h3 : (n / 2 ^ h + 1) * 2 ^ h < 2 ^ (21 - h) * 2 ^ h := by rw [Nat.add_mul, Nat.one_mul]; omega
  exact Nat.lt_of_mul_lt_mul_right h3
theorem raises_snoc : ∀ (hs : List Nat) (h : Nat) (R : List Bs) (s : Nat) (P : List Bs), hs.length < R.length → raises (hs ++ [h]) R s P = raiseQ ((s + sum2 hs) / 2 ^ h) (raises hs R s P) (R.getD hs.length [])
  | [], h, [], s, P, hl => by simp at hl
  | [], h, x :: R, s, P, _ => by simp [raises, sum2]
  | g :: hs, h, [], s, P, hl => by simp at hl
  | g :: hs, h, x :: R, s, P, hl => by
    rw [List.cons_append, raises, raises_snoc hs h R _ _ (by simpa using hl), raises, sum2, Nat.add_assoc]
    simp
theorem pairs_snd : ∀ (s : Nat) (hs : List Nat), (pairsL s hs).map (·.2) = hs
  | _, [] => rfl
  | s, h :: hs => by rw [pairsL, List.map_cons, pairs_snd]
theorem results_one {fn : Func} {p : Tmp} {ty : TypeId} (h : fn.results = #[.cell p ty]) (tmps : Array Value) (w : World) (g : Nat) (v : Value) (P : Program)
    (ha : ∀ w : World, (isAgg ty).run P w = .ok false w) (hp : tmps.getD p undef = .pointer (some ⟨g, 0, none⟩)) (hc : w.cell? ⟨g, 0, none⟩ = some v) : (results fn tmps).run P w = .ok v w := by
  have hp' : tmps[p]?.getD undef = .pointer (some ⟨g, 0, none⟩) := by simpa using hp
  simp [results, h, hp', asAddr, loadVar, ha, hc, go_sem]

theorem but_under {Ds : List Nat} {B : Nat} {w W w9 : World} (h : ButAt Ds W w9) (hb : Below B w W) (hB : B ≤ W.heap.size) (hD : ∀ D ∈ Ds, B ≤ D) : Below B w w9 :=
  ⟨h.1.trans hb.os, h.2.1.trans hb.tape, h.2.2.1.trans hb.output, Nat.le_trans hb.size h.2.2.2.1, fun k hk => (h.2.2.2.2 k (Nat.lt_of_lt_of_le hk hB) (fun hm => by have := hD k hm; omega)).trans (hb.block k hk)⟩
theorem but_cell {Ds : List Nat} {W w9 : World} (h : ButAt Ds W w9) {g i : Nat} (hg : g < W.heap.size) (hn : g ∉ Ds) : w9.cell? ⟨g, i, none⟩ = W.cell? ⟨g, i, none⟩ :=
  World.cell?_of_block (w := W) (h.2.2.2.2 g hg hn)
theorem isSl_grown {v : Value} {xs : List Value} {W W' : World} {row : Option Nat} (h : IsSl v xs W) (hg : W.grownBy W' row) (hr : ∀ r, row = some r → ∃ o : Obj, W.heap[r]? = some o ∧ o.isCells = false) : IsSl v xs W' := by
  refine ⟨h.1, ?_⟩
  rcases h.2 with h' | ⟨b, off, cap, rfl, h0, hc⟩
  · exact .inl h'
  · have hcb : ∃ cs T fr, W.heap[b]? = some (.cells cs T fr) := by
      have h1 := hc 0 h0
      rw [List.getElem?_eq_getElem h0] at h1
      unfold World.cell? at h1
      simp only at h1
      cases hb : W.heap[b]? with
      | none => rw [hb] at h1; cases h1
      | some o =>
        rw [hb] at h1
        cases o <;> first | exact ⟨_, _, _, rfl⟩ | cases h1
    obtain ⟨cs, T, fr, hb⟩ := hcb
    have e := hg.block b (lt_of hb) (fun e => cells_ne' hb (hr b e.symm) rfl)
    exact .inr ⟨b, off, cap, rfl, h0, fun i hi => (World.cell?_of_block (w := W) e).trans (hc i hi)⟩
theorem isSl_intSet {v : Value} {xs : List Bs} {w : World} {b0 : Nat} {s : Int} {T : TypeId} (h : IsSl v (xs.map vS) w) (hb : w.heap[b0]? = some (.cells #[.int .i64 s] T)) (i : Nat) (y : Value) : IsSl v (xs.map vS) (w.setCell ⟨b0, i, none⟩ y) := by
  refine ⟨h.1, ?_⟩
  rcases h.2 with h' | ⟨b, off, cap, rfl, h0, hc⟩
  · exact .inl h'
  · have hne : b ≠ b0 := by
      rintro rfl
      have h1 := hc 0 h0
      rw [List.length_map] at h0
      rw [cell_of hb, map_vS_getD xs h0, Nat.add_zero] at h1
      match off, h1 with
      | 0, h1 => simp at h1
      | n + 1, h1 => simp at h1
    exact .inr ⟨b, off, cap, rfl, h0, fun j hj => by rw [cell_away (show b ≠ b0 from hne)]; exact hc j hj⟩
/-- What a range over steps holds in Grown: block B7 is the range so far, block B8 counts. -/
def GrInv {b : Nat} (B7 B8 n : Nat) (P R : List Bs) (W0 : World) (pre : List (Stp b)) (W : World) : Prop :=
  Kept (fun k => k = B7 ∨ k = B8) W0 W ∧ W.heap[B8]? = some (.cells #[.int .i64 (pre.length : Int)] 3) ∧ pre.length ≤ R.length ∧
    ∃ (M : Nat) (Q : List Bs) (a : Option Addr) (c : Nat), M = n + sum2 (pre.map fun x => x.1.2) ∧ Q = raises (pre.map fun x => x.1.2) R n P ∧ W.heap[B7]? = some (.cells #[.int .i64 (M : Int), .slice a Q.length c] 31) ∧
      IsSl (.slice a Q.length c) (Q.map vS) W ∧ NilOk (.slice a Q.length c) ∧ (hts M).length ≤ Q.length ∧ Q.length ≤ 21 + pre.length ∧ (∀ x ∈ Q, x.length = 32) ∧ M ≤ n + pre.length * 1024
def GrOut {b : Nat} (B6 B7 B8 : Nat) (RES : Bool) (W0 : World) (c : Code) (_ : List (Stp b)) (W : World) : Prop :=
  c = .ret ∧ Kept (fun k => k = B6 ∨ k = B7 ∨ k = B8) W0 W ∧ W.heap[B6]? = some (.cells #[.bool false] 4) ∧ RES = false
theorem GrInv.own {b : Nat} (B7 B8 n : Nat) (P R : List Bs) (W0 : World) : OwnFrom W0.heap.size (fun (pre : List (Stp b)) W => GrInv B7 B8 n P R W0 pre W) := by
  rintro pre W W' row ⟨hK, h8, hl, M, Q, a, c, h1, h2, h7, hq, hn, h3, h4, h5, h6⟩ hg hr
  refine ⟨hK.grown hg (fun k hk => .inl (hr k hk).1), ?_, hl, M, Q, a, c, h1, h2, ?_, isSl_grown hq hg (fun r e => (hr r e).2), hn, h3, h4, h5, h6⟩
  · rw [hg.block B8 (lt_of h8) (fun e => cells_ne' h8 (hr B8 e.symm).2 rfl)]
    exact h8
  · rw [hg.block B7 (lt_of h7) (fun e => cells_ne' h7 (hr B7 e.symm).2 rfl)]
    exact h7
theorem GrOut.own {b : Nat} (B6 B7 B8 : Nat) (RES : Bool) (W0 : World) (c : Code) : OwnFrom W0.heap.size (fun (pre : List (Stp b)) W => GrOut B6 B7 B8 RES W0 c pre W) := by
  rintro pre W W' row ⟨hc, hK, h6, hR⟩ hg hr
  refine ⟨hc, hK.grown hg (fun k hk => .inl (hr k hk).1), ?_, hR⟩
  rw [hg.block B6 (lt_of h6) (fun e => cells_ne' h6 (hr B6 e.symm).2 rfl)]
  exact h6

attribute [local go_sem] Oper.semAt_some
set_option maxHeartbeats 8000000 in
set_option maxRecDepth 100000 in
theorem Grown_any (v u p : Value) (s s' : Int) (P P' R : List Bs) (w : World) (hv : MtIs v s P w) (hu : MtIs u s' P' w) (hp : IsSl p (R.map vS) w) (h1024 : s' ≤ 1024) (ht : Tab w) (hz : Tz w) :
    Calls Tryd.prog 34 #[v, u, p] w fun e w' => e = .returned (.bool (grownB s P s' P' R)) ∧ Below w.heap.size w w' := by
  have HV := Lib.hid hv
  have HU := Lib.hid hu
  have HR := Lib.hid hp
  obtain ⟨v1, rfl, hv1, hn1⟩ := hv
  obtain ⟨u1, rfl, hu1, _⟩ := hu
  have HP := Lib.hid hv1
  have HUu := Lib.hid hu1
  have HN := Lib.hid hn1
  obtain ⟨va, vc, rfl⟩ := hv1.formMap
  obtain ⟨ua, uc, rfl⟩ := hu1.formMap
  obtain ⟨pa, pc, rfl⟩ := hp.formMap
  have hRl := hp.1
  rw [List.length_map] at hRl
  unfold maxLen at hRl
  obtain ⟨W1, hW1⟩ : ∃ W1, (((w.alloc (.cells #[.int .i64 s, .slice va P.length vc] 31)).alloc (.cells #[.int .i64 s', .slice ua P'.length uc] 31)).alloc (.cells #[.slice pa R.length pc] 22)).alloc (.cells #[.bool false] 4) = W1 := ⟨_, rfl⟩
  have HB1 := Lib.hid (show Below w.heap.size w W1 by rw [← hW1]; exact ((((Below.refl w.heap.size w).alloc (Nat.le_refl _) _).alloc (by simp) _).alloc (by simp; omega) _).alloc (by simp; omega) _)
  have HX1 := Lib.hid (show W1.heap[w.heap.size]? = some (.cells #[.int .i64 s, .slice va P.length vc] 31) by rw [← hW1]; exact old_of (old_of (old_of (new_of _ _))))
  have HY1 := Lib.hid (show W1.heap[w.heap.size + 1]? = some (.cells #[.int .i64 s', .slice ua P'.length uc] 31) by rw [← hW1]; exact old_of (old_of (new_at (by simp) rfl)))
  have HQ1 := Lib.hid (show W1.heap[w.heap.size + 1 + 1]? = some (.cells #[.slice pa R.length pc] 22) by rw [← hW1]; exact old_of (new_at (by simp) rfl))
  have HZ1 := Lib.hid (show W1.heap[w.heap.size + 1 + 1 + 1]? = some (.cells #[.bool false] 4) by rw [← hW1]; exact new_at (by simp) rfl)
  have HVo := Lib.hid (fun W (hb : Below w.heap.size w W) => MtValid_any _ s P W (HV.out.below hb))
  have HVn := Lib.hid (fun W (hb : Below w.heap.size w W) => MtValid_any _ s' P' W (HU.out.below hb))
  have HDg := Lib.hid (fun W (hb : Below w.heap.size w W) => Wrongs_any _ R W (HR.out.below hb))
  obtain ⟨RES, hRES⟩ : ∃ x, grownB s P s' P' R = x := ⟨_, rfl⟩
  rw [hRES]
  have HRES := Lib.hid hRES
  clear hv1 hu1 hp hn1 hRES
  refine callsIn_wide.1 (callsIn_of_wp_marks (F := Fence.wide) (n := 9) Tryd.func34 rfl trivial (wpIn_wide.2 ?_) rfl)
  simp only [Tryd.ntmps34, List.size_toArray, List.length_cons, List.length_nil, Nat.reduceAdd, Nat.reduceSub, Array.replicate_succ, Array.replicate_zero, List.push_toArray, List.append_toArray, List.nil_append, List.cons_append]
  go_upto_region 1 with fail
  clear hW1
  obtain ⟨x0, x1⟩ := mtC HX1.out
  obtain ⟨y0, y1⟩ := mtC HY1.out
  have q0 := cell_of HQ1.out 0
  have h3z : w.heap.size + 1 + 1 + 1 < W1.heap.size := lt_of HZ1.out
  cases hok : okM s P with
  | false =>
    have e0 : validM s P = 1 := by unfold validM; rw [hok]; rfl
    have e1 : RES = false := by rw [← HRES.out]; unfold grownB; rw [hok]; simp
    rw [e0] at HVo
    subst e1
    clear e0 hok HRES
    go_wp2_with fail
    refine (HVo.out _ HB1.out).mono ?_
    rintro e w2 ⟨rfl, hb⟩
    have HB2 := Lib.hid (HB1.out.next hb)
    have HZ2 := Lib.hid ((hb.block _ (lt_of HZ1.out)).trans HZ1.out)
    clear hb
    have f3 := free_of HZ2.out 0
    have z3 := cell_of HZ2.out 0
    have hzz := lt_of HZ2.out
    go_wp2
    refine leaves_marks [] _ ⟨List.nodup_nil, fun D hD => by cases hD⟩ fun w9 hw9 => ?_
    refine ⟨_, results_one rfl _ w9 (w.heap.size + 1 + 1 + 1) (.bool false) _ Tryd.isAgg4 rfl ((but_cell hw9 (by simpa using hzz) (by simp)).trans (World.cell?_setCell_same _ _ _ z3)), rfl, but_under hw9 (HB2.out.setCell (by show w.heap.size ≤ w.heap.size + 1 + 1 + 1; omega) _) (by simp; omega) (fun D hD => by cases hD)⟩
  | true =>
  have e0 : validM s P = 0 := by unfold validM; rw [hok]; rfl
  rw [e0] at HVo
  have Hok := Lib.hid hok
  obtain ⟨⟨hs0, hs1⟩, hPl, hP32⟩ := okM_iff.1 hok
  obtain ⟨n, rfl⟩ : ∃ n : Nat, s = (n : Int) := ⟨s.toNat, by omega⟩
  rw [Int.toNat_natCast] at hPl
  have HPl := Lib.hid hPl
  have HP32 := Lib.hid (all32_get hP32)
  clear e0 hok hPl hP32
  go_wp2_with fail
  refine (HVo.out _ HB1.out).mono ?_
  rintro e w2 ⟨rfl, hb⟩
  have HB2 := Lib.hid (HB1.out.next hb)
  have HX2 := Lib.hid ((hb.block _ (lt_of HX1.out)).trans HX1.out)
  have HY2 := Lib.hid ((hb.block _ (lt_of HY1.out)).trans HY1.out)
  have HQ2 := Lib.hid ((hb.block _ (lt_of HQ1.out)).trans HQ1.out)
  have HZ2 := Lib.hid ((hb.block _ (lt_of HZ1.out)).trans HZ1.out)
  clear hb x0 x1 y0 y1 q0 HX1 HY1 HQ1 HZ1
  obtain ⟨y0, y1⟩ := mtC HY2.out
  cases hok : okM s' P' with
  | false =>
    have e0 : validM s' P' = 1 := by unfold validM; rw [hok]; rfl
    have e1 : RES = false := by rw [← HRES.out]; unfold grownB; rw [hok]; simp
    rw [e0] at HVn
    subst e1
    clear e0 hok HRES
    go_wp2_with fail
    refine (HVn.out _ HB2.out).mono ?_
    rintro e w3 ⟨rfl, hb⟩
    have HB3 := Lib.hid (HB2.out.next hb)
    have HZ3 := Lib.hid ((hb.block _ (lt_of HZ2.out)).trans HZ2.out)
    clear hb y0 y1
    have f3 := free_of HZ3.out 0
    have z3 := cell_of HZ3.out 0
    have hzz := lt_of HZ3.out
    go_wp2
    refine leaves_marks [] _ ⟨List.nodup_nil, fun D hD => by cases hD⟩ fun w9 hw9 => ?_
    refine ⟨_, results_one rfl _ w9 (w.heap.size + 1 + 1 + 1) (.bool false) _ Tryd.isAgg4 rfl ((but_cell hw9 (by simpa using hzz) (by simp)).trans (World.cell?_setCell_same _ _ _ z3)), rfl, but_under hw9 (HB3.out.setCell (by show w.heap.size ≤ w.heap.size + 1 + 1 + 1; omega) _) (by simp; omega) (fun D hD => by cases hD)⟩
  | true =>
  have e0 : validM s' P' = 0 := by unfold validM; rw [hok]; rfl
  rw [e0] at HVn
  have Hok' := Lib.hid hok
  obtain ⟨⟨hs0', hs1'⟩, -, -⟩ := okM_iff.1 hok
  obtain ⟨n', rfl⟩ : ∃ n' : Nat, s' = (n' : Int) := ⟨s'.toNat, by omega⟩
  clear e0 hok
  go_wp2_with fail
  refine (HVn.out _ HB2.out).mono ?_
  rintro e w3 ⟨rfl, hb⟩
  have HB3 := Lib.hid (HB2.out.next hb)
  have HX3 := Lib.hid ((hb.block _ (lt_of HX2.out)).trans HX2.out)
  have HY3 := Lib.hid ((hb.block _ (lt_of HY2.out)).trans HY2.out)
  have HQ3 := Lib.hid ((hb.block _ (lt_of HQ2.out)).trans HQ2.out)
  have HZ3 := Lib.hid ((hb.block _ (lt_of HZ2.out)).trans HZ2.out)
  clear hb y0 y1 HX2 HY2 HQ2 HZ2
  obtain ⟨x0, x1⟩ := mtC HX3.out
  obtain ⟨y0, y1⟩ := mtC HY3.out
  have q0 := cell_of HQ3.out 0
  by_cases hnn : n' < n
  · have d1 : decide ((n' : Int) < (n : Int)) = true := by simp; omega
    have hdf := decide_eq_false (show ¬ (n : Int) ≤ (n' : Int) by omega)
    have e1 : RES = false := by rw [← HRES.out]; unfold grownB; rw [hdf]; simp
    subst e1
    have f3 := free_of HZ3.out 0
    have z3 := cell_of HZ3.out 0
    have hzz := lt_of HZ3.out
    go_wp2
    refine leaves_marks [] _ ⟨List.nodup_nil, fun D hD => by cases hD⟩ fun w9 hw9 => ?_
    refine ⟨_, results_one rfl _ w9 (w.heap.size + 1 + 1 + 1) (.bool false) _ Tryd.isAgg4 rfl ((but_cell hw9 (by simpa using hzz) (by simp)).trans (World.cell?_setCell_same _ _ _ z3)), rfl, but_under hw9 (HB3.out.setCell (by show w.heap.size ≤ w.heap.size + 1 + 1 + 1; omega) _) (by simp; omega) (fun D hD => by cases hD)⟩
  have d1 : decide ((n' : Int) < (n : Int)) = false := by simp; omega
  go_wp2_with fail
  refine (HDg.out _ HB3.out).mono ?_
  rintro e w4 ⟨rfl, rfl⟩
  cases hR : all32 R with
  | false =>
    have e1 : RES = false := by rw [← HRES.out]; unfold grownB; rw [hR]; simp
    subst e1
    have f3 := free_of HZ3.out 0
    have z3 := cell_of HZ3.out 0
    have hzz := lt_of HZ3.out
    go_wp2
    refine leaves_marks [] _ ⟨List.nodup_nil, fun D hD => by cases hD⟩ fun w9 hw9 => ?_
    refine ⟨_, results_one rfl _ w9 (w.heap.size + 1 + 1 + 1) (.bool false) _ Tryd.isAgg4 rfl ((but_cell hw9 (by simpa using hzz) (by simp)).trans (World.cell?_setCell_same _ _ _ z3)), rfl, but_under hw9 (HB3.out.setCell (by show w.heap.size ≤ w.heap.size + 1 + 1 + 1; omega) _) (by simp; omega) (fun D hD => by cases hD)⟩
  | true =>
  have HR32 := Lib.hid (all32_get hR)
  have HRa := Lib.hid hR
  clear hR
  go_upto_region 4 with fail
  obtain ⟨W5, hW5⟩ : ∃ W5, (w4.alloc (.cells #[.int .i64 (n : Int), .slice va P.length vc] 31)).alloc (.cells #[.int .i64 0] 3) = W5 := ⟨_, rfl⟩
  have hb5 : Below w4.heap.size w4 W5 := by rw [← hW5]; exact ((Below.refl _ _).alloc (Nat.le_refl _) _).alloc (by simp) _
  have HM5 := Lib.hid (show W5.heap[w4.heap.size]? = some (.cells #[.int .i64 (n : Int), .slice va P.length vc] 31) by rw [← hW5]; exact old_of (new_of _ _))
  have HC5 := Lib.hid (show W5.heap[w4.heap.size + 1]? = some (.cells #[.int .i64 0] 3) by rw [← hW5]; exact new_at (by simp) rfl)
  have HB5 := Lib.hid (HB3.out.next hb5)
  have HX5 := Lib.hid ((hb5.block _ (lt_of HX3.out)).trans HX3.out)
  have HY5 := Lib.hid ((hb5.block _ (lt_of HY3.out)).trans HY3.out)
  have HQ5 := Lib.hid ((hb5.block _ (lt_of HQ3.out)).trans HQ3.out)
  have HZ5 := Lib.hid ((hb5.block _ (lt_of HZ3.out)).trans HZ3.out)
  have HZ4 := Lib.hid (lt_of HZ3.out)
  have HS5 := Lib.hid (show W5.heap.size = w4.heap.size + 1 + 1 by rw [← hW5]; simp)
  rw [hW5]
  clear hW5 hb5 x0 x1 y0 y1 q0 HX3 HY3 HQ3 HZ3 HVo HVn HDg
  obtain ⟨x0, x1⟩ := mtC HX5.out
  obtain ⟨y0, y1⟩ := mtC HY5.out
  go_wp2_with fail
  refine (Steps_any _ _ _).mono ?_
  rintro e W6 ⟨rfl, hW6⟩
  have hb6 : Below W5.heap.size W5 W6 := by rw [hW6]; exact ((Below.refl _ _).alloc (Nat.le_refl _) _).alloc (by simp) _
  have HF6 := Lib.hid (show W6.heap[W5.heap.size]? = some (.cells #[.int .i64 (n : Int)] 3) by rw [hW6]; exact old_of (new_of _ _))
  have HT6 := Lib.hid (show W6.heap[W5.heap.size + 1]? = some (.cells #[.int .i64 (n' : Int)] 3) by rw [hW6]; exact new_at (by simp) rfl)
  have HS6 := Lib.hid (show W6.heap.size = W5.heap.size + 1 + 1 by rw [hW6]; simp)
  have HB6 := Lib.hid (HB5.out.next hb6)
  have HM6 := Lib.hid ((hb6.block _ (lt_of HM5.out)).trans HM5.out)
  have HC6 := Lib.hid ((hb6.block _ (lt_of HC5.out)).trans HC5.out)
  have HY6 := Lib.hid ((hb6.block _ (lt_of HY5.out)).trans HY5.out)
  have HQ6 := Lib.hid ((hb6.block _ (lt_of HQ5.out)).trans HQ5.out)
  have HZ6 := Lib.hid ((hb6.block _ (lt_of HZ5.out)).trans HZ5.out)
  clear hW6 hb6 x0 x1 y0 y1 HX5 HY5 HQ5 HZ5 HM5 HC5
  go_wp2_with fail
  have HTz := Lib.hid (hz.same HB6.out)
  have Hgz := Lib.hid hz.lt
  have hN : (stepsL n n').length ≤ n' - n := stepsL_few n n' (by omega)
  have HNf := Lib.hid (show ∀ k, k = R.length → k < (stepsL n n').length → RES = false by
    intro k e1 e2
    rw [← HRES.out]
    unfold grownB
    rw [Int.toNat_natCast, Int.toNat_natCast, decide_eq_false (show ¬ (stepsL n n').length = R.length by omega)]
    simp)
  have h6w : w.heap.size + 1 + 1 + 1 < w4.heap.size := HZ4.out
  have h65 : W6.heap.size = w4.heap.size + 1 + 1 + 1 + 1 := by have h1 := HS6.out; have h2 := HS5.out; omega
  have h55 : W5.heap.size = w4.heap.size + 1 + 1 := HS5.out
  refine wpIn_wide.1 (wpIn_rangeFunc_ownG (F := Fence.wide) (n := 9) rfl (by decide) (gf := 81) (lb := #[.pointer (some ⟨W5.heap.size, 0, none⟩), .pointer (some ⟨W5.heap.size + 1, 0, none⟩)]) rfl trivial (enters_of Tryd.func81 (by kernel_rfl) rfl)
    (Steps_stops (9 - 1) (by decide) W5.heap.size (W5.heap.size + 1) n n' (by omega) (by omega) W6 HF6.out HT6.out HTz.out)
    (fun h1 h2 => ⟨h2.1.trans h1.1, h2.2.1.trans h1.2.1, h2.2.2.trans h1.2.2⟩) (fun W l o o' hl _ _ _ => ⟨World.putObj_heap_other (by omega), World.putObj_heap_other (by omega), World.putObj_heap_other (by have := Hgz.out; have := HB6.out.size; omega)⟩) (Below.refl _ _) (fun _ => rfl)
    (fun pre W => GrInv w4.heap.size (w4.heap.size + 1) n P R W6 pre W) (fun c pre W => GrOut (w.heap.size + 1 + 1 + 1) w4.heap.size (w4.heap.size + 1) RES W6 c pre W) (GrInv.own _ _ _ _ _ _) (fun c => GrOut.own _ _ _ _ _ c)
    ⟨Kept.refl _ _, HC6.out, Nat.zero_le _, n, P, va, vc, by simp [sum2], by simp [raises], HM6.out, HP.out.below HB6.out, HN.out, Nat.le_of_eq HPl.out.symm, by rw [HPl.out]; have := hts_len 21 n; simpa using this, HP32.out, by simp⟩
    ?a1 ?assign ?body ?done ?stop)
  case assign =>
    intro l x W K hK
    gi_wp2
    exact hK
  case stop =>
    rintro D c pre W hD _ ⟨rfl, hK, h6, hrf⟩ hKD
    subst hrf
    have h6z := lt_of h6
    have hbW : Below w.heap.size w W := HB6.out.trans (hK.below (by omega) (fun k hk e => by omega))
    have hcb := cell_of h6 0
    have HBW := Lib.hid hbW
    have HKD := Lib.hid hKD
    have Hcb := Lib.hid hcb
    have H65 := Lib.hid h65
    have H55 := Lib.hid h55
    have HhD := Lib.hid hD
    clear hbW hKD hcb hK h6 h65 h55 hD
    gi_wp2
    refine leaves_marks [D] W ⟨by simp, by simpa using HKD.out⟩ fun w9 hw9 => ?_
    have hD := HhD.out
    have h65 := H65.out
    refine ⟨_, results_one rfl _ w9 (w.heap.size + 1 + 1 + 1) (.bool false) _ Tryd.isAgg4 rfl ((but_cell hw9 h6z (by simp; omega)).trans Hcb.out), rfl, but_under hw9 HBW.out (Nat.le_trans (Nat.le_refl _) HBW.out.size) (fun E hE => by rw [List.mem_singleton] at hE; omega)⟩
  case done =>
    rintro D ys W hD hys ⟨hK, h8, hl, M, Q, a, c, h1, h2, h7, hq, hnl, h3, h4, h5, h6⟩ hKD
    have hm : (ys.map fun x => x.1.2) = stepsL n n' := by
      have := congrArg (List.map (·.2)) hys
      rw [pairs_snd, List.map_map] at this
      exact this
    have hyl : ys.length = (stepsL n n').length := by rw [← hm, List.length_map]
    have hMn : M = n' := by rw [h1, hm, sum2_steps _ _ _ (Nat.le_refl _) (by omega)]; omega
    subst hMn
    rw [hm] at h2
    have hb : Below w.heap.size w W := HB6.out.trans (hK.below (by omega) (fun k hk e => by omega))
    have HQW := Lib.hid ((hK.block _ (lt_of HQ6.out) (by omega)).trans HQ6.out)
    have HYW := Lib.hid ((hK.block _ (lt_of HY6.out) (by omega)).trans HY6.out)
    have HZW := Lib.hid ((hK.block _ (lt_of HZ6.out) (by omega)).trans HZ6.out)
    have c8 := cell_of h8 0
    have q5 := cell_of HQW.out 0
    obtain ⟨y0, y1⟩ := mtC HYW.out
    obtain ⟨z0, z1⟩ := mtC h7
    have hz3 := lt_of HZW.out
    have z6 := cell_of HZW.out 0
    have f6 := free_of HZW.out 0
    have hDne : D ≠ w.heap.size + 1 + 1 + 1 := by omega
    have HDne := Lib.hid hDne
    have HKD := Lib.hid hKD
    have HhB := Lib.hid hb
    have HhD := Lib.hid hD
    have Heq := Lib.hid (Equal_any _ _ Q P' W hq (HUu.out.below hb))
    obtain ⟨Y, hY⟩ : ∃ Y, ys.length = Y := ⟨_, rfl⟩
    rw [hY] at c8 hyl hl
    have H65 := Lib.hid h65
    by_cases hlen : Y = R.length
    · have e8 : ((Y : Int) == (R.length : Int)) = true := by simp; omega
      have HRe := Lib.hid (show decide (Q = P') = RES by
        rw [← HRES.out]; unfold grownB
        rw [Hok.out, Hok'.out, HRa.out, decide_eq_true (show (n : Int) ≤ (M : Int) by omega), Int.toNat_natCast, Int.toNat_natCast, decide_eq_true (show (stepsL n M).length = R.length by omega), ← h2]
        simp)
      clear hK h8 h1 h2 h7 hq hnl h3 h4 h5 h6 hys hm hyl hY hl hlen hD hDne hKD hb h65 h55
      go_wp2_with fail
      refine Heq.out.mono ?_
      rintro e w7 ⟨rfl, q, rfl⟩
      rw [HRe.out]
      go_wp2
      have hbq := Lib.hid (below_drewN HhB.out q)
      have hz0' : ((W.drewN q).setCell ⟨w.heap.size + 1 + 1 + 1, 0, none⟩ (.bool RES)).heap.size = W.heap.size := by simp
      have hkd : ((W.drewN q).setCell ⟨w.heap.size + 1 + 1 + 1, 0, none⟩ (.bool RES)).heap[D]? = some (.deferred (some [])) := set_other (p := ⟨w.heap.size + 1 + 1 + 1, 0, none⟩) HKD.out HDne.out
      refine leaves_marks [D] _ ⟨by simp, fun E hE => by rw [List.mem_singleton] at hE; subst hE; exact hkd⟩ fun w9 hw9 => ?_
      have hD := HhD.out
      have h65 := H65.out
      have hne := HDne.out
      refine ⟨_, results_one rfl _ w9 (w.heap.size + 1 + 1 + 1) (.bool RES) _ Tryd.isAgg4 rfl ((but_cell hw9 (by rw [hz0']; exact hz3) (by simp; omega)).trans (World.cell?_setCell_same _ _ _ z6)), rfl, but_under hw9 (Below.setCell (show Below w.heap.size w (W.drewN q) from hbq.out) (by show w.heap.size ≤ w.heap.size + 1 + 1 + 1; omega) _) (by rw [hz0']; omega) (fun E hE => by rw [List.mem_singleton] at hE; omega)⟩
    · have e8 : ((Y : Int) == (R.length : Int)) = false := by rw [beq_eq_false_iff_ne]; omega
      have hrf : RES = false := by
        rw [← HRES.out]; unfold grownB
        rw [Int.toNat_natCast, Int.toNat_natCast, decide_eq_false (show ¬ (stepsL n M).length = R.length by omega)]
        simp
      subst hrf
      clear hK h8 h1 h2 h7 hq hnl h3 h4 h5 h6 hys hm hyl hY hl hlen hD hDne hKD hb h65 h55
      go_wp2
      have hz0' : (W.setCell ⟨w.heap.size + 1 + 1 + 1, 0, none⟩ (.bool false)).heap.size = W.heap.size := by simp
      have hkd : (W.setCell ⟨w.heap.size + 1 + 1 + 1, 0, none⟩ (.bool false)).heap[D]? = some (.deferred (some [])) := set_other (p := ⟨w.heap.size + 1 + 1 + 1, 0, none⟩) HKD.out HDne.out
      refine leaves_marks [D] _ ⟨by simp, fun E hE => by rw [List.mem_singleton] at hE; subst hE; exact hkd⟩ fun w9 hw9 => ?_
      have hD := HhD.out
      have h65 := H65.out
      have hne := HDne.out
      refine ⟨_, results_one rfl _ w9 (w.heap.size + 1 + 1 + 1) (.bool false) _ Tryd.isAgg4 rfl ((but_cell hw9 (by rw [hz0']; exact hz3) (by simp; omega)).trans (World.cell?_setCell_same _ _ _ z6)), rfl, but_under hw9 (Below.setCell (show Below w.heap.size w W from HhB.out) (by show w.heap.size ≤ w.heap.size + 1 + 1 + 1; omega) _) (by rw [hz0']; omega) (fun E hE => by rw [List.mem_singleton] at hE; omega)⟩
  case body =>
    rintro lp pre ⟨⟨f, h⟩, hx, hh20⟩ W ⟨hK, h8, hl, M, Q, a, c, h1, h2, h7, hq, hnl, h3, h4, h5, h6⟩ hpre
    dsimp only at hx hh20 ⊢
    have hb : Below w.heap.size w W := HB6.out.trans (hK.below (by omega) (fun k hk e => by omega))
    have HQW := Lib.hid ((hK.block _ (lt_of HQ6.out) (by omega)).trans HQ6.out)
    have HZW := Lib.hid ((hK.block _ (lt_of HZ6.out) (by omega)).trans HZ6.out)
    have c8 := cell_of h8 0
    have q5 := cell_of HQW.out 0
    by_cases hfull : pre.length = R.length
    · have e8 : ((pre.length : Int) == (R.length : Int)) = true := by simp; omega
      have z3 := cell_of HZW.out 0
      have f3 := free_of HZW.out 0
      have hRf := HNf.out _ hfull hpre
      subst hRf
      have HhK := Lib.hid hK
      have Hh6 := Lib.hid h65
      clear hfull hK h65 h55
      gi_wp2
      refine ⟨(others_kept (kept_set (w.heap.size + 1 + 1 + 1) 0 W _) HZW.out).from _, rfl, ?_, set_of HZW.out 0 _, rfl⟩
      exact (HhK.out.mono (fun k _ e => .inr e)).trans ((kept_set (w.heap.size + 1 + 1 + 1) 0 W _).mono (fun k _ e => .inl e))
    have e8 : ((pre.length : Int) == (R.length : Int)) = false := by rw [beq_eq_false_iff_ne]; omega
    have hlt : pre.length < R.length := by omega
    have hp2' : 2 ^ h ≤ 1024 := by omega
    have hb21 : M + 2 ^ h < 2 ^ 21 := by omega
    have hh21 : h ≤ 21 := by omega
    obtain ⟨x, hxe⟩ : ∃ x, R.getD pre.length [] = x := ⟨_, rfl⟩
    have hx32 : x.length = 32 := by
      rw [← hxe, List.getD_eq_getElem?_getD, List.getElem?_eq_getElem hlt]
      exact HR32.out _ (List.getElem_mem _)
    obtain ⟨b, off, cap', hvv, hbb, hcc⟩ := (HR.out.below hb).text rfl hlt
    simp only [Value.slice.injEq, true_and] at hvv
    obtain ⟨rfl, rfl⟩ := hvv
    rw [hxe] at hcc
    have hfar : ∀ {g : Nat} {s0 : Int} {aa : Option Addr} {n0 cc : Nat}, W.heap[g]? = some (.cells #[.int .i64 s0, .slice aa n0 cc] 31) → b ≠ g := by
      intro g s0 aa n0 cc h1 e
      subst e
      rw [cell_of h1] at hcc
      match off + pre.length, hcc with
      | 0, hcc => simp at hcc
      | 1, hcc => simp at hcc
      | q + 2, hcc => simp at hcc
    have hb7 : b ≠ w4.heap.size := hfar h7
    have hRz := (HR.out.below hb)
    have HRg := Lib.hid (fun W' (hb' : Below W.heap.size W W') => raise_gen _ M h Q x W' ((show MtIs _ (M : Int) Q W from ⟨_, rfl, hq, hnl⟩).below hb') hb21 (Nat.le_trans (hts_top_le M h hh21) h3) (by omega) (fun y hy => max32 (h5 y hy)) (max32 hx32) (ht.same (hb.next hb')))
    obtain ⟨pre', hpre'⟩ : ∃ l, pre ++ [(⟨(f, h), hx, hh20⟩ : Stp n')] = l := ⟨_, rfl⟩
    have hmap : (pre'.map fun x => x.1.2) = (pre.map fun x => x.1.2) ++ [h] := by rw [← hpre', List.map_append, List.map_singleton]
    have hpl' : pre'.length = pre.length + 1 := by rw [← hpre', List.length_append, List.length_singleton]
    rw [hpre']
    have hsn : raises (pre'.map fun x => x.1.2) R n P = raiseQ (M / 2 ^ h) Q x := by
      rw [hmap, raises_snoc _ _ _ _ _ (by rw [List.length_map]; exact hlt), List.length_map, hxe, ← h1, ← h2]
    have hsm : M + 2 ^ h = n + sum2 (pre'.map fun x => x.1.2) := by
      rw [hmap, sum2_append, h1]
      simp [sum2, Nat.add_assoc]
    have hq1 := raise_ones (top := x) hb21 h3
    have hq2 := raiseQ_few (M / 2 ^ h) Q x
    have hq3 := raiseQ_all (M / 2 ^ h) Q x h5 hx32
    have HS := Lib.hid (show ∀ Wc, Kept (One w4.heap.size) W Wc → (fun W : World => (W.cell? ⟨w.heap.size + 1 + 1, 0, none⟩ = some (.slice (some ⟨b, off, none⟩) R.length pc) ∧ W.cell? ⟨w4.heap.size + 1, 0, none⟩ = some (.int .i64 (pre.length : Int))) ∧ W.cell? ⟨b, off + pre.length, none⟩ = some (.string (B x))) Wc from
      fun Wc hk => ⟨⟨(hk.cell (lt_of HQW.out) (fun e => by have : w.heap.size + 1 + 1 = w4.heap.size := e; omega)).trans q5, (hk.cell (lt_of h8) (fun e => by have : w4.heap.size + 1 = w4.heap.size := e; omega)).trans c8⟩, (hk.cell (World.block_lt_of_cell? W _ hcc) hb7).trans hcc⟩)
    obtain ⟨P2, hP2⟩ : ∃ p2, 2 ^ h = p2 := ⟨_, rfl⟩
    obtain ⟨QN, hQN⟩ : ∃ q, raiseQ (M / 2 ^ h) Q x = q := ⟨_, rfl⟩
    rw [hQN] at hq1 hq2 hq3 hsn
    simp only [hQN] at HRg
    rw [hP2] at hsm hq1 hp2' hx
    have hx' := hx
    clear hpre' hmap
    simp only [hP2] at HRg
    have hltI : (pre.length : Int) < (R.length : Int) := by omega
    have HhK := Lib.hid hK
    have H65 := Lib.hid h65
    have H55 := Lib.hid h55
    have H8 := Lib.hid h8
    have H7 := Lib.hid h7
    have Hsn := Lib.hid hsn
    have Hsm := Lib.hid hsm
    have Hq1 := Lib.hid hq1
    have Hq2 := Lib.hid hq2
    have Hq3 := Lib.hid hq3
    have Hh6 := Lib.hid h6
    have Hh4 := Lib.hid h4
    have hww : w.heap.size < W.heap.size := by have := lt_of HQW.out; omega
    clear hK h65 h55 h8 h7 hsn hsm hq1 hq2 hq3 h6 h4 h1 h2 hq hnl h3 h5 hb21 hP2 hQN hxe hfar hb7 hRz hcc hbb
    gi_wp2
    refine wpIn_region_any (by kernel_rfl) ?_
    refine wpAnyIn_round lp (no_defer (by rfl)) ?_ _ _ _ _ (wpAny_of_held (S := (fun W : World => (W.cell? ⟨w.heap.size + 1 + 1, 0, none⟩ = some (.slice (some ⟨b, off, none⟩) R.length pc) ∧ W.cell? ⟨w4.heap.size + 1, 0, none⟩ = some (.int .i64 (pre.length : Int))) ∧ W.cell? ⟨b, off + pre.length, none⟩ = some (.string (B x)))) _ _ _ _ ?_)
    · rintro ⟨a, w, h⟩
      exact h
    change wpAnyH _ _ _ _ _ _ _ _ W.drew
    obtain ⟨Wd, hWd⟩ : ∃ Wd, W.drew = Wd := ⟨_, rfl⟩
    have HWd := Lib.hid (show Below W.heap.size W Wd from hWd ▸ ⟨rfl, rfl, rfl, Nat.le_refl _, fun _ _ => rfl⟩)
    rw [hWd]
    clear hWd
    have hHeld := HS.out _ (Kept.of_below HWd.out)
    have hbd := below_heap HWd.out (lt_of H7.out) H7.out
    refine take_at 1 43 (oi := ?o1) (v := ?v1) ?hi1 ?hd1 (by kernel_rfl) (by kernel_rfl) (by kernel_rfl) ?hQ1 ?hw1 ?hy1 (by assumption) ?rest1
    case hi1 => simp only [List.getElem?_toArray, List.getElem?_cons_succ, List.getElem?_cons_zero]; rfl
    case hd1 => rfl
    case hw1 => kernel_rfl
    case hy1 => intro W hW; (try dsimp only at hW); go_simp <;> with_reducible rfl
    case hQ1 => exact fun _ _ _ h => h
    try simp only [Act.put, List.setIfInBounds_toArray, List.set_cons_zero, List.set_cons_succ]
    refine take_at 2 44 (oi := ?o2) (v := ?v2) ?hi2 ?hd2 (by kernel_rfl) (by kernel_rfl) (by kernel_rfl) ?hQ2 ?hw2 ?hy2 (by assumption) ?rest2
    case hi2 => simp only [List.getElem?_toArray, List.getElem?_cons_succ, List.getElem?_cons_zero]; rfl
    case hd2 => rfl
    case hw2 => kernel_rfl
    case hy2 => intro W hW; (try dsimp only at hW); go_simp <;> with_reducible rfl
    case hQ2 => exact fun _ _ _ h => h
    try simp only [Act.put, List.setIfInBounds_toArray, List.set_cons_zero, List.set_cons_succ]
    refine take_at 3 45 (oi := ?o3) (v := ?v3) ?hi3 ?hd3 (by kernel_rfl) (by kernel_rfl) (by kernel_rfl) ?hQ3 ?hw3 ?hy3 (by assumption) ?rest3
    case hi3 => simp only [List.getElem?_toArray, List.getElem?_cons_succ, List.getElem?_cons_zero]; rfl
    case hd3 => rfl
    case hw3 => kernel_rfl
    case hy3 => intro W hW; (try dsimp only at hW); go_simp <;> with_reducible rfl
    case hQ3 => exact fun _ _ _ h => h
    try simp only [Act.put, List.setIfInBounds_toArray, List.set_cons_zero, List.set_cons_succ]
    refine take_at 4 46 (oi := ?o4) (v := ?v4) ?hi4 ?hd4 (by kernel_rfl) (by kernel_rfl) (by kernel_rfl) ?hQ4 ?hw4 ?hy4 (by assumption) ?rest4
    case hi4 => simp only [List.getElem?_toArray, List.getElem?_cons_succ, List.getElem?_cons_zero]; rfl
    case hd4 => rfl
    case hw4 => kernel_rfl
    case hy4 => intro W hW; (try dsimp only at hW); go_simp <;> with_reducible rfl
    case hQ4 => exact fun _ _ _ h => h
    try simp only [Act.put, List.setIfInBounds_toArray, List.set_cons_zero, List.set_cons_succ]
    refine take_at 5 47 (oi := ?o5) (v := ?v5) ?hi5 ?hd5 (by kernel_rfl) (by kernel_rfl) (by kernel_rfl) ?hQ5 ?hw5 ?hy5 (by assumption) ?rest5
    case hi5 => simp only [List.getElem?_toArray, List.getElem?_cons_succ, List.getElem?_cons_zero]; rfl
    case hd5 => rfl
    case hw5 => kernel_rfl
    case hy5 => intro W hW; (try dsimp only at hW); go_simp <;> with_reducible rfl
    case hQ5 => exact fun _ _ _ h => h
    try simp only [Act.put, List.setIfInBounds_toArray, List.set_cons_zero, List.set_cons_succ]
    refine wpAnyH_ready (rs := [0]) (by kernel_rfl) (by simp) ?_
    refine AllReadyH.cons rfl (fun K hK => ?_) AllReadyH.nil
    obtain ⟨z0, z1⟩ := mtC hbd
    go_simp
    clear z0 z1 hbd
    refine hK.out _ _ (HS.out _ (Kept.of_below HWd.out)) (fun hHeld => ?_)
    clear hK K
    try simp only [Act.put, List.setIfInBounds_toArray, List.set_cons_zero, List.set_cons_succ]
    refine wpAnyH_ready (rs := [6]) (by kernel_rfl) (by simp) ?_
    refine AllReadyH.cons rfl (fun K hK => ?_) AllReadyH.nil
    go_simp
    refine (HRg.out _ HWd.out).mono ?_
    rintro e W8 ⟨v8, rfl, ⟨p8, rfl, hp8, hn8⟩, hb8⟩
    obtain ⟨a8, c8', rfl⟩ := hp8.formMap
    have HW8 := Lib.hid (HWd.out.next hb8)
    have HP8 := Lib.hid hp8
    have HN8 := Lib.hid hn8
    clear hb8 hp8 hn8
    have hb8 := below_heap HW8.out (lt_of H7.out) H7.out
    have Hb8 := Lib.hid hb8
    refine hK.out _ _ (HS.out _ (Kept.of_below HW8.out)) (fun hHeld => ?_)
    clear hK K
    try simp only [Act.put, List.setIfInBounds_toArray, List.set_cons_zero, List.set_cons_succ]
    refine wpAnyH_ready (rs := [7]) (by kernel_rfl) (by simp) ?_
    refine AllReadyH.cons rfl (fun K hK => ?_) AllReadyH.nil
    obtain ⟨z0, z1⟩ := mtC hb8
    have zf0 := free_of hb8 0
    have zf1 := free_of hb8 1
    clear hb8
    go_simp
    clear z0 z1 zf0 zf1
    obtain ⟨W9, hW9⟩ : ∃ W9, (W8.setCell ⟨w4.heap.size, 0, none⟩ (.int .i64 ((M + P2 : Nat) : Int))).setCell ⟨w4.heap.size, 1, none⟩ (.slice a8 QN.length c8') = W9 := ⟨_, rfl⟩
    have hk9 : Kept (One w4.heap.size) W8 W9 := by rw [← hW9]; exact kept2 _ _ _ _
    have HK9 := Lib.hid ((Kept.of_below HW8.out).trans hk9)
    have H79 := Lib.hid (show W9.heap[w4.heap.size]? = some (.cells #[.int .i64 ((M + P2 : Nat) : Int), .slice a8 QN.length c8'] 31) by rw [← hW9]; exact set_of (set_of Hb8.out 0 _) 1 _)
    have HP9 := Lib.hid (show IsSl (.slice a8 QN.length c8') (QN.map vS) W9 by rw [← hW9]; exact isSl_mtSet (isSl_mtSet HP8.out Hb8.out 0 _) (set_of Hb8.out 0 _) 1 _)
    have HO9 := Lib.hid ((others_below HW8.out).trans (others_kept hk9 Hb8.out))
    have HC9 := Lib.hid ((HK9.out.block _ (lt_of H8.out) (fun e => by have : w4.heap.size + 1 = w4.heap.size := e; omega)).trans H8.out)
    rw [show (W8.setCell ⟨w4.heap.size, 0, none⟩ (.int .i64 ((M : Int) + (P2 : Int)))).setCell ⟨w4.heap.size, 1, none⟩ (.slice a8 QN.length c8') = W9 from hW9 ▸ rfl]
    clear hW9 hk9
    refine hK.out _ _ (HS.out _ HK9.out) (fun hHeld => ?_)
    clear hK K
    try simp only [Act.put, List.setIfInBounds_toArray, List.set_cons_zero, List.set_cons_succ]
    refine wpAnyH_done (by kernel_rfl) ?_ _
    simp only [Exit.then]
    have c9 := cell_of HC9.out 0
    have f9 := free_of HC9.out 0
    clear hHeld
    gi_wp2
    have hz6 := HhK.out.size
    have h65 := H65.out
    have h55 := H55.out
    have hk10 : Kept (fun k => k = w4.heap.size ∨ k = w4.heap.size + 1) W (W9.setCell ⟨w4.heap.size + 1, 0, none⟩ (.int .i64 ((pre.length : Int) + 1))) := (HK9.out.mono (fun k _ e => .inl e)).trans ((kept_set (w4.heap.size + 1) 0 W9 _).mono (fun k _ e => .inr e))
    refine ⟨(HO9.out.trans (others_kept (kept_set (w4.heap.size + 1) 0 W9 _) HC9.out)).from _, ⟨?_, ?_, ?_⟩, HhK.out.trans hk10, ?_, by omega, M + P2, QN, a8, c8', Hsm.out, Hsn.out.symm, set_other H79.out (by show w4.heap.size ≠ w4.heap.size + 1; omega), isSl_intSet HP9.out HC9.out 0 _, HN8.out, Hq1.out, by have := Hq2.out; have := Hh4.out; omega, Hq3.out, by have := Hh6.out; omega⟩
    · exact hk10.block _ (by omega) (by omega)
    · exact hk10.block _ (by omega) (by omega)
    · exact hk10.block _ (by have := Hgz.out; omega) (by have := Hgz.out; omega)
    · rw [hpl', Int.natCast_add]
      exact set_of HC9.out 0 _
theorem isSl_takes {a : Option Addr} {c : Nat} {l : List Bs} {w : World} (h : IsSl (.slice a l.length c) (l.map vS) w) {j : Nat} (hj : j ≤ l.length) : IsSl (.slice a j c) ((l.take j).map vS) w := by
  have hl : (l.take j).length = j := by rw [List.length_take]; omega
  refine ⟨by have := h.1; rw [List.length_map] at this ⊢; omega, ?_⟩
  rcases Nat.eq_zero_or_pos j with e | hp
  · subst e
    exact .inl ⟨a, c, rfl, by simp⟩
  · rcases h.2 with ⟨a', c', e, hx⟩ | ⟨b, off, c', e, h0, hc⟩
    · have : l = [] := by simpa using hx
      subst this
      simp at hj
      omega
    · simp only [Value.slice.injEq] at e
      obtain ⟨rfl, _, rfl⟩ := e
      refine .inr ⟨b, off, c, by rw [List.length_map, hl], by rw [List.length_map, hl]; exact hp, fun i hi => ?_⟩
      rw [List.length_map, hl] at hi
      rw [hc i (by rw [List.length_map]; omega), List.map_take, List.getElem?_take_of_lt hi]
end Go.Proofs.YtfklmjcjjdliiaaDoor
