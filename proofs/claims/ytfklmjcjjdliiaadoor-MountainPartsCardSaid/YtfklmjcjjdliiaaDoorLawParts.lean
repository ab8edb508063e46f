/- The card of MountainParts is proved: for every seed, count and cut the law returns true; the conditions are those of the given row. -/
import Derived.Test.YtfklmjcjjdliiaaDoorLawClaim49
import Derived.Test.YtfklmjcjjdliiaaDoorWkMtD
import Derived.Test.YtfklmjcjjdliiaaDoorWkMtH
import Derived.Deep.Cut
namespace Go.Proofs.YtfklmjcjjdliiaaDoor.lawParts
open Go Go.RowKit Licit
open Go.ChangeShapes Go.WideShapes Go.ChangeAt

/-- A list of texts is what it was where only a range's box has changed. -/
theorem isSl_keptMt {v : Value} {xs : List Bs} {w w' : World} {b0 : Nat} {s : Int} {a : Option Addr} {n c : Nat} {T : TypeId} (h : IsSl v (xs.map vS) w) (hb : w.heap[b0]? = some (.cells #[.int .i64 s, .slice a n c] T)) (hk : Kept (One b0) w w') : IsSl v (xs.map vS) w' := by
  refine ⟨h.1, ?_⟩
  rcases h.2 with h' | ⟨b, off, cap, rfl, h0, hc⟩
  · exact .inl h'
  · have hne : b ≠ b0 := by
      rintro rfl
      have h1 := hc 0 h0
      rw [List.length_map] at h0
      rw [cell_of hb, map_vS_getD xs h0, Nat.add_zero] at h1
      match off, h1 with
      | 0, h1 => simp at h1
      | 1, h1 => simp at h1
      | n + 2, h1 => simp at h1
    refine .inr ⟨b, off, cap, rfl, h0, fun j hj => ?_⟩
    have h2 := hc j hj
    rw [List.getElem?_eq_getElem hj] at h2
    rw [hk.cell (World.block_lt_of_cell? w _ h2) hne, hc j hj]
theorem isSl_takes' {a : Option Addr} {c : Nat} {l : List Bs} {w : World} (h : IsSl (.slice a l.length c) (l.map vS) w) {j : Nat} (hj : j ≤ l.length) : IsSl (.slice a j c) ((l.take j).map vS) w := by
  have hl : (l.take j).length = j := by rw [List.length_take]; omega
  refine ⟨by have := h.1; rw [List.length_map] at this ⊢; omega, ?_⟩
  rcases Nat.eq_zero_or_pos j with e | hp
  · subst e
    exact .inl ⟨a, c, rfl, by simp⟩
  · rcases h.2 with ⟨a', c', e, hx⟩ | ⟨b, off, c', e, h0, hc⟩
    · have : l = [] := by simpa using hx
      subst this
      simp at hj
      omega
    · simp only [Value.slice.injEq] at e
      obtain ⟨rfl, _, rfl⟩ := e
      refine .inr ⟨b, off, c, by rw [List.length_map, hl], by rw [List.length_map, hl]; exact hp, fun i hi => ?_⟩
      rw [List.length_map, hl] at hi
      rw [hc i (by rw [List.length_map]; omega), List.map_take, List.getElem?_take_of_lt hi]

set_option maxHeartbeats 8000000 in
set_option maxRecDepth 100000 in
theorem walk (seed : Bs) (count cut : Nat) (w : World) (hc : count < 256) (hcu : cut < 256) (ht : Tab w) (hz : Tz w) :
    Calls Tryd.prog 10 #[.string (B seed), .int .u8 (count : Int), .int .u8 (cut : Int)] w fun e w' => e = .returned (.bool true) ∧ Below w.heap.size w w' := by
  have HA := Lib.hid (fun W (hb : Below w.heap.size w W) => awake_any49 W (ht.same hb) (hz.same hb))
  have dz : ((B seed).size : Int) = (seed.length : Int) := rfl
  have HB0 := Lib.hid (Below.refl w.heap.size w)
  go_enter Tryd.func10, Tryd.ntmps10
  go_wp2_with fail
  refine (HA.out _ HB0.out).mono ?_
  rintro e w1 ⟨rfl, hb⟩
  have HB1 := Lib.hid (HB0.out.next hb)
  clear hb
  by_cases h1 : 100 < seed.length
  · have d1 : decide (100 < (seed.length : Int)) = true := by simp; omega
    go_wp2_with fail
    refine (HA.out _ HB1.out).mono ?_
    rintro e w3 ⟨rfl, hb⟩
    have HB3 := Lib.hid (HB1.out.next hb)
    clear hb
    go_wp2
    go_ret
    exact ⟨rfl, HB3.out⟩
  have d1 : decide (100 < (seed.length : Int)) = false := by simp; omega
  by_cases h2 : 40 < count
  · have d2 : decide (40 < (count : Int)) = true := by simp; omega
    go_wp2_with fail
    refine (HA.out _ HB1.out).mono ?_
    rintro e w3 ⟨rfl, hb⟩
    have HB3 := Lib.hid (HB1.out.next hb)
    clear hb
    go_wp2
    go_ret
    exact ⟨rfl, HB3.out⟩
  have d2 : decide (40 < (count : Int)) = false := by simp; omega
  have hcv : IntKind.i64.wrap (count : Int) = (count : Int) := by rw [IntKind.wrap_i64]; omega
  have HLv := Lib.hid (Leaves_any seed count w1 (by omega) (by omega))
  go_wp2_with fail
  refine HLv.out.mono ?_
  rintro e w2 ⟨vl, rfl, hol, hb⟩
  have HB2 := Lib.hid (HB1.out.next hb)
  obtain ⟨L, hL⟩ : ∃ L, leavesM seed count = L := ⟨_, rfl⟩
  have hLl : L.length = count := by rw [← hL]; exact leavesM_len _ _
  have hL32 : ∀ x ∈ L, x.length = 32 := by rw [← hL]; exact leavesM_32 _ _
  rw [hL] at hol
  clear HLv hb hL
  subst hLl
  have hcapl : SlCap vl := SlCap.own hol
  have HOl := Lib.hid (IsSl.of_owns (xs := L.map vS) (by rw [List.length_map]; exact hol) (by rw [List.length_map]; unfold maxLen; omega))
  have HOwn := Lib.hid hol
  obtain ⟨la, lk, rfl⟩ := own_form hol
  have hLk : L.length ≤ lk := hcapl
  have HL32 := Lib.hid hL32
  have hck := checkM_zero hL32 (by omega)
  have HCk := Lib.hid hck
  obtain ⟨k, hk⟩ : ∃ k, cut % (L.length + 1) = k := ⟨_, rfl⟩
  have hkL : k ≤ L.length := by rw [← hk]; have := Nat.mod_lt cut (show 0 < L.length + 1 by omega); omega
  have hkc : k ≤ lk := by omega
  have hkI : (k : Int) ≤ (lk : Int) := by omega
  have hkLI : (k : Int) ≤ (L.length : Int) := by omega
  have hk0 : (0 : Int) ≤ (k : Int) := by omega
  have hcu' : IntKind.i64.wrap (cut : Int) = (cut : Int) := by rw [IntKind.wrap_i64]; omega
  have hw1 : IntKind.i64.wrap ((L.length : Int) + 1) = (L.length : Int) + 1 := by rw [IntKind.wrap_i64]; omega
  have hkm : (cut : Int) % ((L.length : Int) + 1) = (k : Int) := by rw [← hk]; simp
  have hkt : (cut : Int).tmod ((L.length : Int) + 1) = (k : Int) := by rw [Int.tmod_eq_emod_of_nonneg (by omega), hkm]
  have hwk : IntKind.i64.wrap (k : Int) = (k : Int) := by rw [IntKind.wrap_i64]; omega
  have hne1 : ¬ (L.length : Int) + 1 = 0 := by omega
  have htl : (L.take k).length = k := by rw [List.length_take]; omega
  have Htl := Lib.hid htl
  have HC2 := Lib.hid (CloneS_any (.slice la k lk) (L.take k) w2 (isSl_takes' HOl.out hkL) (by omega))
  have hckt := checkM_zero (l := L.take k) (fun x hx => hL32 x (List.mem_of_mem_take hx)) (by omega)
  have HOf1 := Lib.hid (fun v W (h : IsSl v ((L.take k).map vS) W) (hb : Below w.heap.size w W) => MtOf_any v (L.take k) W h (ht.same hb))
  have HOf2 := Lib.hid (fun v W (h : IsSl v (L.map vS) W) (hb : Below w.heap.size w W) => MtOf_any v L W h (ht.same hb))
  simp only [hckt, hck, show ofS (L.take k) = (k : Int) by unfold ofS; rw [hckt, if_pos rfl, htl], show ofP (L.take k) = peaksOf (L.take k) by unfold ofP; rw [hckt, if_pos rfl],
    show ofS L = (L.length : Int) by unfold ofS; rw [hck, if_pos rfl], show ofP L = peaksOf L by unfold ofP; rw [hck, if_pos rfl]] at HOf1 HOf2
  clear hol hck hL32 hk htl hckt
  go_wp2_with fail
  refine HC2.out.mono ?_
  rintro e w3 ⟨v3, rfl, ho3, hb⟩
  have HB3 := Lib.hid (HB2.out.next hb)
  have HO3 := Lib.hid (HOl.out.below hb)
  have HW3 := Lib.hid (ownsRow_block HOwn.out (fun q _ hq => hb.block q hq))
  rw [Htl.out] at ho3
  have HOf := Lib.hid (HOf1.out v3 w3 (IsSl.of_owns (xs := (L.take k).map vS) (by rw [List.length_map, Htl.out]; exact ho3) (by rw [List.length_map, Htl.out]; unfold maxLen; omega)) HB3.out)
  obtain ⟨a3, k3, rfl⟩ := own_form ho3
  clear hb ho3 HC2 hcu' hw1 hkm hkt hwk hne1
  go_wp2_with fail
  refine HOf.out.mono ?_
  rintro e w4 ⟨v4, rfl, hm4, hb⟩
  have HB4 := Lib.hid (HB3.out.next hb)
  have HO4 := Lib.hid (HO3.out.below hb)
  have HW4 := Lib.hid (ownsRow_block HW3.out (fun q _ hq => hb.block q hq))
  obtain ⟨p4, rfl, hp4, hn4⟩ := hm4
  obtain ⟨ma, mc, rfl⟩ := hp4.formMap
  obtain ⟨V, hV⟩ : ∃ V, w4.alloc (.cells #[.int .i64 (k : Int), .slice ma (peaksOf (L.take k)).length mc] 31) = V := ⟨_, rfl⟩
  obtain ⟨D, hD⟩ : ∃ D, w4.heap.size = D := ⟨_, rfl⟩
  have hbV : Below w4.heap.size w4 V := by rw [← hV]; exact (Below.refl _ _).alloc (Nat.le_refl _) _
  have HDV := Lib.hid (show V.heap[D]? = some (.cells #[.int .i64 (k : Int), .slice ma (peaksOf (L.take k)).length mc] 31) by rw [← hD, ← hV]; exact new_of _ _)
  have HBV := Lib.hid (HB4.out.next hbV)
  have HOV := Lib.hid (HO4.out.below hbV)
  have HWV := Lib.hid (ownsRow_block HW4.out (fun q _ hq => hbV.block q hq))
  have HPV := Lib.hid (hp4.below hbV)
  have HNV := Lib.hid hn4
  have HDw := Lib.hid (show w.heap.size ≤ D by rw [← hD]; exact HB4.out.size)
  clear hb hp4 hn4 hbV HOf HB3 HB4
  go_upto_region 6 with fail
  clear hV hD
  by_cases hcf : lk = k
  · have hkn : ¬ 0 < L.length - k := by omega
    have hcf' : k = lk := hcf.symm
    subst hcf'
    clear hcf
    go_wp2
    go_loopw [10, 12, 54] (fun e _ i wr => ∃ (j M : Nat) (a : Option Addr) (c : Nat), j ≤ L.length - k ∧ M = k + j ∧ i = .int .i64 (j : Int) ∧ e = .int .i64 0 ∧ wr.heap[D]? = some (.cells #[.int .i64 (M : Int), .slice a (peaksOf (L.take M)).length c] 31) ∧ IsSl (.slice a (peaksOf (L.take M)).length c) ((peaksOf (L.take M)).map vS) wr ∧ NilOk (.slice a (peaksOf (L.take M)).length c) ∧ Kept (One D) V wr) (fun _ _ i _ => L.length - k - (intOf i).toNat)
    case atStart => exact ⟨0, k, ma, mc, by omega, rfl, rfl, rfl, HDV.out, HPV.out, HNV.out, Kept.refl _ _⟩
    case round =>
      obtain ⟨j, M, a, c, hj, hM, rfl, rfl, hd, hp, hn, hkp⟩ := hrel
      have HD := Lib.hid hd
      have HP := Lib.hid hp
      have HN := Lib.hid hn
      have HK := Lib.hid hkp
      have HBr := Lib.hid (HBV.out.trans (hkp.below HBV.out.size (fun q hq e => by have : q = D := e; have := HDw.out; omega)))
      have HLr := Lib.hid (isSl_keptMt HOV.out HDV.out hkp)
      have HMm := Lib.hid hM
      clear hd hp hn hkp hM
      by_cases hlt : j < L.length - k
      · skip
        exact absurd hlt (by omega)
      · obtain rfl : j = L.length - k := by omega
        have hML : M = L.length := by have := HMm.out; omega
        subst hML
        have HMr := Lib.hid (show MtIs (.agg #[.int .i64 (L.length : Int), .slice a (peaksOf (L.take L.length)).length c]) (L.length : Int) (peaksOf (L.take L.length)) wr from ⟨_, rfl, HP.out, HN.out⟩)
        rw [List.take_length] at HMr HD
        have dlt : decide (((L.length - k : Nat) : Int) < ((L.length - k : Nat) : Int)) = false := by simp
        go_wp2_with fail
        refine (CloneS_any _ L wr HLr.out (by omega)).mono ?_
        rintro e w8 ⟨v8, rfl, ho8, hb⟩
        have HB8 := Lib.hid (HBr.out.next hb)
        have HD8 := Lib.hid ((hb.block _ (lt_of HD.out)).trans HD.out)
        have HM8 := Lib.hid (HMr.out.below hb)
        have HOf := Lib.hid (HOf2.out v8 w8 (IsSl.of_owns (xs := L.map vS) (by rw [List.length_map]; exact ho8) (by rw [List.length_map]; unfold maxLen; omega)) HB8.out)
        obtain ⟨a8, k8, rfl⟩ := own_form ho8
        clear hb ho8
        go_wp2_with fail
        refine HOf.out.mono ?_
        rintro e w9 ⟨v9, rfl, hm9, hb⟩
        have HB9 := Lib.hid (HB8.out.next hb)
        have HD9 := Lib.hid ((hb.block _ (lt_of HD8.out)).trans HD8.out)
        have HM9 := Lib.hid (HM8.out.below hb)
        have HN9 := Lib.hid hm9
        obtain ⟨p9, rfl, hp9, _⟩ := hm9
        obtain ⟨na, nc, rfl⟩ := hp9.formMap
        obtain ⟨W, hW⟩ : ∃ W, w9.alloc (.cells #[.int .i64 (L.length : Int), .slice na (peaksOf L).length nc] 31) = W := ⟨_, rfl⟩
        obtain ⟨E, hE⟩ : ∃ E, w9.heap.size = E := ⟨_, rfl⟩
        have hbW : Below w9.heap.size w9 W := by rw [← hW]; exact (Below.refl _ _).alloc (Nat.le_refl _) _
        have HEW := Lib.hid (show W.heap[E]? = some (.cells #[.int .i64 (L.length : Int), .slice na (peaksOf L).length nc] 31) by rw [← hE, ← hW]; exact new_of _ _)
        have HDW := Lib.hid ((hbW.block _ (lt_of HD9.out)).trans HD9.out)
        have HBW := Lib.hid (HB9.out.next hbW)
        have HMW := Lib.hid (HM9.out.below hbW)
        have HNW := Lib.hid (HN9.out.below hbW)
        clear hb hp9 hbW HOf
        go_upto_region 16 with fail
        clear hW hE
        obtain ⟨c0, c1⟩ := mtC HDW.out
        have HRa := Lib.hid (fun W' hb => MtRoot_any _ (L.length : Int) (peaksOf L) W' (HMW.out.below hb) (ht.same (HBW.out.next hb)))
        have HRb := Lib.hid (fun W' hb => MtRoot_any _ (L.length : Int) (peaksOf L) W' (HNW.out.below hb) (ht.same (HBW.out.next hb)))
        obtain ⟨RT, hRT⟩ : ∃ x, rootT (L.length : Int) (peaksOf L) = x := ⟨_, rfl⟩
        have hv0 : validM (L.length : Int) (peaksOf L) = 0 := by unfold validM; rw [okM_of (by omega) HL32.out]; rfl
        simp only [hRT, hv0] at HRa HRb
        clear hRT hv0
        go_wp2_with fail
        refine (HRa.out _ (Below.refl _ _)).mono ?_
        rintro e w11 ⟨rfl, hb⟩
        have HF11 := Lib.hid hb
        have HE11 := Lib.hid ((hb.block _ (lt_of HEW.out)).trans HEW.out)
        have HD11 := Lib.hid ((hb.block _ (lt_of HDW.out)).trans HDW.out)
        clear hb c0 c1
        obtain ⟨e0, e1⟩ := mtC HE11.out
        go_wp2_with fail
        refine (HRb.out _ HF11.out).mono ?_
        rintro e w12 ⟨rfl, hb⟩
        have HF12 := Lib.hid (HF11.out.next hb)
        have HE12 := Lib.hid ((hb.block _ (lt_of HE11.out)).trans HE11.out)
        have HD12 := Lib.hid ((hb.block _ (lt_of HD11.out)).trans HD11.out)
        clear hb e0 e1
        obtain ⟨e0, e1⟩ := mtC HE12.out
        obtain ⟨c0, c1⟩ := mtC HD12.out
        have hSm := MtSame_any _ _ (L.length : Int) (L.length : Int) (peaksOf L) (peaksOf L) w12 (HMW.out.below HF12.out) (HNW.out.below HF12.out)
        rw [show sameMt (L.length : Int) (peaksOf L) (L.length : Int) (peaksOf L) = true by simp [sameMt]] at hSm
        have HSm := Lib.hid hSm
        have hq := beqB_eq RT
        clear hSm
        go_wp2_with fail
        refine HSm.out.mono ?_
        rintro e w13 ⟨rfl, hb⟩
        have HB13 := Lib.hid (HBW.out.next (HF12.out.next hb))
        clear hb c0 c1 e0 e1
        go_wp2
        go_ret
        exact ⟨rfl, HB13.out⟩
  · have hla : ∃ g, la = some ⟨g, 0, none⟩ := by
      rcases HOwn.out.2 with ⟨e, _⟩ | ⟨g, cap, cur, e, _⟩
      · simp only [Value.slice.injEq] at e
        omega
      · simp only [Value.slice.injEq] at e
        exact ⟨g, e.1⟩
    obtain ⟨g, rfl⟩ := hla
    go_wp2
    go_loopw [10, 12, 54] (fun e _ i wr => ∃ (j M : Nat) (a : Option Addr) (c : Nat), j ≤ L.length - k ∧ M = k + j ∧ i = .int .i64 (j : Int) ∧ e = .int .i64 0 ∧ wr.heap[D]? = some (.cells #[.int .i64 (M : Int), .slice a (peaksOf (L.take M)).length c] 31) ∧ IsSl (.slice a (peaksOf (L.take M)).length c) ((peaksOf (L.take M)).map vS) wr ∧ NilOk (.slice a (peaksOf (L.take M)).length c) ∧ Kept (One D) V wr) (fun _ _ i _ => L.length - k - (intOf i).toNat)
    case atStart => exact ⟨0, k, ma, mc, by omega, rfl, rfl, rfl, HDV.out, HPV.out, HNV.out, Kept.refl _ _⟩
    case round =>
      obtain ⟨j, M, a, c, hj, hM, rfl, rfl, hd, hp, hn, hkp⟩ := hrel
      have HD := Lib.hid hd
      have HP := Lib.hid hp
      have HN := Lib.hid hn
      have HK := Lib.hid hkp
      have HBr := Lib.hid (HBV.out.trans (hkp.below HBV.out.size (fun q hq e => by have : q = D := e; have := HDw.out; omega)))
      have HLr := Lib.hid (isSl_keptMt HOV.out HDV.out hkp)
      have HMm := Lib.hid hM
      clear hd hp hn hkp hM
      by_cases hlt : j < L.length - k
      · skip
        have hML : M < L.length := by have := HMm.out; omega
        obtain ⟨x, hx⟩ : ∃ x, L.getD M [] = x := ⟨_, rfl⟩
        have hx32 : x.length = 32 := by
          rw [← hx, List.getD_eq_getElem?_getD, List.getElem?_eq_getElem hML]
          exact HL32.out _ (List.getElem_mem _)
        obtain ⟨b, off, cap', hvv, hbb, hcc⟩ := HLr.out.text rfl hML
        simp only [Value.slice.injEq, Option.some.injEq, Addr.mk.injEq, true_and, and_true] at hvv
        obtain ⟨⟨rfl, rfl⟩, rfl⟩ := hvv
        rw [hx, Nat.zero_add, HMm.out] at hcc
        have dlt : decide ((j : Int) < ((L.length - k : Nat) : Int)) = true := by simp; omega
        have htM : (L.take M).length = M := by rw [List.length_take]; omega
        have hok := okM_of (l := L.take M) (by omega) (fun y hy => HL32.out y (List.mem_of_mem_take hy))
        rw [htM] at hok
        have hE : addE (M : Int) (peaksOf (L.take M)) x = 0 := by unfold addE; rw [if_pos ⟨hok, hx32⟩, if_neg (by omega)]
        have hS : addS (M : Int) (peaksOf (L.take M)) x = ((M + 1 : Nat) : Int) := by unfold addS; rw [if_pos hE]; rfl
        have hP : addP (M : Int) (peaksOf (L.take M)) x = peaksOf (L.take (M + 1)) := by
          unfold addP
          rw [if_pos hE, Int.toNat_natCast]
          have := raise_one hML (by omega)
          rw [Nat.pow_zero, Nat.div_one, hx] at this
          exact this
        have hAd := MtAdd_any (.agg #[.int .i64 (M : Int), .slice a (peaksOf (L.take M)).length c]) (M : Int) (peaksOf (L.take M)) x wr ⟨_, rfl, HP.out, HN.out⟩ (ht.same HBr.out)
        rw [hE, hS, hP] at hAd
        have HAd := Lib.hid hAd
        have hok1 := okM_of (l := L.take (M + 1)) (by rw [List.length_take]; omega) (fun y hy => HL32.out y (List.mem_of_mem_take hy))
        rw [List.length_take, Nat.min_eq_left (by omega)] at hok1
        have HVd := Lib.hid (show validM ((M + 1 : Nat) : Int) (peaksOf (L.take (M + 1))) = 0 by unfold validM; rw [hok1]; rfl)
        obtain ⟨P0, hP0⟩ : ∃ y, peaksOf (L.take M) = y := ⟨_, rfl⟩
        obtain ⟨P1, hP1⟩ : ∃ y, peaksOf (L.take (M + 1)) = y := ⟨_, rfl⟩
        have HP1 := Lib.hid hP1
        rw [hP0, hP1] at HAd
        rw [hP1] at HVd
        rw [hP0] at HD HP HN
        obtain ⟨z0, z1⟩ := mtC HD.out
        clear hx hok hE hS hP hAd hok1 hP0 hP1 htM hx32
        go_wp2_with fail
        refine HAd.out.mono ?_
        rintro e w6 ⟨v6, rfl, ⟨p6, rfl, hp6, hn6⟩, hb6⟩
        obtain ⟨a6, c6, rfl⟩ := hp6.formMap
        have HP6 := Lib.hid hp6
        have HN6 := Lib.hid hn6
        have HB6 := Lib.hid hb6
        have HD6 := Lib.hid ((hb6.block _ (lt_of HD.out)).trans HD.out)
        clear z0 z1 hp6 hn6 hb6 hcc hbb
        obtain ⟨z0, z1⟩ := mtC HD6.out
        have zf0 := free_of HD6.out 0
        have zf1 := free_of HD6.out 1
        go_wp2_with fail
        have hk7 : Kept (One D) w6 ((w6.setCell ⟨D, 0, none⟩ (.int .i64 ((M + 1 : Nat) : Int))).setCell ⟨D, 1, none⟩ (.slice a6 P1.length c6)) := kept2 _ _ _ _
        obtain ⟨W7, hW7⟩ : ∃ W7, (w6.setCell ⟨D, 0, none⟩ (.int .i64 ((M + 1 : Nat) : Int))).setCell ⟨D, 1, none⟩ (.slice a6 P1.length c6) = W7 := ⟨_, rfl⟩
        have HD7 := Lib.hid (show W7.heap[D]? = some (.cells #[.int .i64 ((M + 1 : Nat) : Int), .slice a6 P1.length c6] 31) by rw [← hW7]; exact set_of (set_of HD6.out 0 _) 1 _)
        have HP7 := Lib.hid (show IsSl (.slice a6 P1.length c6) (P1.map vS) W7 by rw [← hW7]; exact isSl_mtSet (isSl_mtSet HP6.out HD6.out 0 _) (set_of HD6.out 0 _) 1 _)
        rw [hW7] at hk7
        have hVd := MtValid_any (.agg #[.int .i64 ((M + 1 : Nat) : Int), .slice a6 P1.length c6]) ((M + 1 : Nat) : Int) P1 W7 ⟨_, rfl, HP7.out, HN6.out⟩
        rw [HVd.out] at hVd
        have HV2 := Lib.hid hVd
        have HK7 := Lib.hid ((HK.out.trans (Kept.of_below HB6.out)).trans hk7)
        rw [show (w6.setCell ⟨D, 0, none⟩ (.int .i64 ((M : Int) + 1))).setCell ⟨D, 1, none⟩ (.slice a6 P1.length c6) = W7 from hW7]
        clear hW7 hVd hk7 z0 z1 zf0 zf1
        refine HV2.out.mono ?_
        rintro e w8 ⟨rfl, hb8⟩
        have HD8 := Lib.hid ((hb8.block _ (lt_of HD7.out)).trans HD7.out)
        have HP8 := Lib.hid (HP7.out.below hb8)
        have HK8 := Lib.hid (HK7.out.trans (Kept.of_below hb8))
        clear hb8
        go_wp2
        go_roundw
        case rel => rw [← HP1.out] at HD8 HP8 HN6; exact ⟨j + 1, M + 1, a6, c6, by omega, by have := HMm.out; omega, by go_num, rfl, HD8.out, HP8.out, HN6.out, HK8.out⟩
        case measure => simp [intOf]; omega
      · obtain rfl : j = L.length - k := by omega
        have hML : M = L.length := by have := HMm.out; omega
        subst hML
        have HMr := Lib.hid (show MtIs (.agg #[.int .i64 (L.length : Int), .slice a (peaksOf (L.take L.length)).length c]) (L.length : Int) (peaksOf (L.take L.length)) wr from ⟨_, rfl, HP.out, HN.out⟩)
        rw [List.take_length] at HMr HD
        have dlt : decide (((L.length - k : Nat) : Int) < ((L.length - k : Nat) : Int)) = false := by simp
        go_wp2_with fail
        refine (CloneS_any _ L wr HLr.out (by omega)).mono ?_
        rintro e w8 ⟨v8, rfl, ho8, hb⟩
        have HB8 := Lib.hid (HBr.out.next hb)
        have HD8 := Lib.hid ((hb.block _ (lt_of HD.out)).trans HD.out)
        have HM8 := Lib.hid (HMr.out.below hb)
        have HOf := Lib.hid (HOf2.out v8 w8 (IsSl.of_owns (xs := L.map vS) (by rw [List.length_map]; exact ho8) (by rw [List.length_map]; unfold maxLen; omega)) HB8.out)
        obtain ⟨a8, k8, rfl⟩ := own_form ho8
        clear hb ho8
        go_wp2_with fail
        refine HOf.out.mono ?_
        rintro e w9 ⟨v9, rfl, hm9, hb⟩
        have HB9 := Lib.hid (HB8.out.next hb)
        have HD9 := Lib.hid ((hb.block _ (lt_of HD8.out)).trans HD8.out)
        have HM9 := Lib.hid (HM8.out.below hb)
        have HN9 := Lib.hid hm9
        obtain ⟨p9, rfl, hp9, _⟩ := hm9
        obtain ⟨na, nc, rfl⟩ := hp9.formMap
        obtain ⟨W, hW⟩ : ∃ W, w9.alloc (.cells #[.int .i64 (L.length : Int), .slice na (peaksOf L).length nc] 31) = W := ⟨_, rfl⟩
        obtain ⟨E, hE⟩ : ∃ E, w9.heap.size = E := ⟨_, rfl⟩
        have hbW : Below w9.heap.size w9 W := by rw [← hW]; exact (Below.refl _ _).alloc (Nat.le_refl _) _
        have HEW := Lib.hid (show W.heap[E]? = some (.cells #[.int .i64 (L.length : Int), .slice na (peaksOf L).length nc] 31) by rw [← hE, ← hW]; exact new_of _ _)
        have HDW := Lib.hid ((hbW.block _ (lt_of HD9.out)).trans HD9.out)
        have HBW := Lib.hid (HB9.out.next hbW)
        have HMW := Lib.hid (HM9.out.below hbW)
        have HNW := Lib.hid (HN9.out.below hbW)
        clear hb hp9 hbW HOf
        go_upto_region 16 with fail
        clear hW hE
        obtain ⟨c0, c1⟩ := mtC HDW.out
        have HRa := Lib.hid (fun W' hb => MtRoot_any _ (L.length : Int) (peaksOf L) W' (HMW.out.below hb) (ht.same (HBW.out.next hb)))
        have HRb := Lib.hid (fun W' hb => MtRoot_any _ (L.length : Int) (peaksOf L) W' (HNW.out.below hb) (ht.same (HBW.out.next hb)))
        obtain ⟨RT, hRT⟩ : ∃ x, rootT (L.length : Int) (peaksOf L) = x := ⟨_, rfl⟩
        have hv0 : validM (L.length : Int) (peaksOf L) = 0 := by unfold validM; rw [okM_of (by omega) HL32.out]; rfl
        simp only [hRT, hv0] at HRa HRb
        clear hRT hv0
        go_wp2_with fail
        refine (HRa.out _ (Below.refl _ _)).mono ?_
        rintro e w11 ⟨rfl, hb⟩
        have HF11 := Lib.hid hb
        have HE11 := Lib.hid ((hb.block _ (lt_of HEW.out)).trans HEW.out)
        have HD11 := Lib.hid ((hb.block _ (lt_of HDW.out)).trans HDW.out)
        clear hb c0 c1
        obtain ⟨e0, e1⟩ := mtC HE11.out
        go_wp2_with fail
        refine (HRb.out _ HF11.out).mono ?_
        rintro e w12 ⟨rfl, hb⟩
        have HF12 := Lib.hid (HF11.out.next hb)
        have HE12 := Lib.hid ((hb.block _ (lt_of HE11.out)).trans HE11.out)
        have HD12 := Lib.hid ((hb.block _ (lt_of HD11.out)).trans HD11.out)
        clear hb e0 e1
        obtain ⟨e0, e1⟩ := mtC HE12.out
        obtain ⟨c0, c1⟩ := mtC HD12.out
        have hSm := MtSame_any _ _ (L.length : Int) (L.length : Int) (peaksOf L) (peaksOf L) w12 (HMW.out.below HF12.out) (HNW.out.below HF12.out)
        rw [show sameMt (L.length : Int) (peaksOf L) (L.length : Int) (peaksOf L) = true by simp [sameMt]] at hSm
        have HSm := Lib.hid hSm
        have hq := beqB_eq RT
        clear hSm
        go_wp2_with fail
        refine HSm.out.mono ?_
        rintro e w13 ⟨rfl, hb⟩
        have HB13 := Lib.hid (HBW.out.next (HF12.out.next hb))
        clear hb c0 c1 e0 e1
        go_wp2
        go_ret
        exact ⟨rfl, HB13.out⟩

section
variable {H : Type} {enc : TypeId × Value → H} {W : World} {base : Nat} {held : Bool} {v : Value} {d : DataW H} {ps : List MemPlace}
set_option maxRecDepth 100000 in
theorem u8_in {b0 : Nat} {r : Reach} (hval : Value.okWide Tryd.prog W r b0 5 v) {sp : Nat → Bool} (hd : DataW.Trod enc Tryd.prog W base sp held 5 v d ps) : ∃ n : Nat, v = .int .u8 (n : Int) ∧ n < 256 := by
  obtain ⟨ct, rfl, _, _, hwf⟩ := open_int Tryd.underlying5 hval hd
  have b1 := u8_of hwf
  exact ⟨ct.toNat, by rw [Int.toNat_of_nonneg b1.1], by omega⟩
end
set_option maxRecDepth 100000 in
theorem contract (H : Type) (enc : TypeId × Value → H) (W : World) (base : Nat) (args : Array Value) (ds gs : List (DataW H)) (before : List MemPlace)
    (hval : ∀ (j : Nat) t v, Tryd.f10.params[j]? = some t → args[j]? = some v → Value.okWide Tryd.prog W .any base t v)
    (hW : DataW.Whole enc Tryd.prog Tryd.f10.params.toList Rows.mountainPartsSpec.vars false W args.toList ds gs before) (hL : laidMetH Tryd.prog Rows.mountainPartsRow.laid W) :
    Calls Tryd.prog 10 args W fun e W' => ∃ v, e = .returned v ∧ Rows.mountainPartsSpec.post enc Tryd.prog Tryd.f10 false true false false W args v W' := by
  have hW' := hW
  obtain ⟨p, q, hA0, hV, rfl, hfz, hnd⟩ := hW
  have hA : DataW.TrodAll enc Tryd.prog W 0 (fun _ => true) true Tryd.f10.params.toList args.toList ds p := hA0
  rw [Tryd.params10] at hA hval
  obtain ⟨v0, vs0, d0, ds0, p0, q0, hargs, rfl, rfl, h0, r0⟩ := trodAll_cons hA
  obtain ⟨v1, vs1, d1, ds1, p1, q1, rfl, rfl, rfl, h1, r1⟩ := trodAll_cons r0
  obtain ⟨v2, vs2, d2, ds2, p2, q2, rfl, rfl, rfl, h2, r2⟩ := trodAll_cons r1
  obtain ⟨rfl, rfl, rfl⟩ := trodAll_nil r2
  obtain rfl : args = #[v0, v1, v2] := by cases args; simp_all
  obtain ⟨rfl, rfl⟩ := trodVars_none hV
  obtain ⟨seed, rfl, _⟩ := str_in (hval 0 9 v0 rfl rfl) h0
  obtain ⟨count, rfl, hc⟩ := u8_in (hval 1 5 v1 rfl rfl) h1
  obtain ⟨cut, rfl, hcu⟩ := u8_in (hval 2 5 v2 rfl rfl) h2
  refine (walk seed count cut W hc hcu (tab_of hL) (tz_of hL)).mono fun e W' ⟨he, hb⟩ => ⟨_, he, ?_⟩
  exact law_post hW' rfl (by kernel_rfl) (by kernel_rfl) rfl hb

theorem laid_met (os : Os) : laidMet Tryd.prog Rows.mountainPartsRow.laid ((laidWorld os).forCall (fun _ _ => 0) ⟨#[], #[.string ⟨#[]⟩, .int .u8 0, .int .u8 0], []⟩).memory :=
  laidMet_of_run' 8 (by kernel_rfl) (by kernel_rfl)
theorem reads (os : Os) {H : Type} (enc : TypeId × Value → H) : ∃ places, DataW.whole enc Tryd.prog ((laidWorld os).forCall (fun _ _ => 0) ⟨#[], #[.string ⟨#[]⟩, .int .u8 0, .int .u8 0], []⟩).memory Tryd.f10.params.toList Rows.mountainPartsSpec.vars false (#[.string ⟨#[]⟩, .int .u8 0, .int .u8 0] : Array Value).toList 8 = some ([.lit (.string []), .lit (.int .u8 0), .lit (.int .u8 0)], [], places) :=
  ⟨[], by kernel_rfl⟩

set_option maxRecDepth 100000 in
theorem lifted (os : Os) (started : os.Started) (H : Type) (enc : TypeId × Value → H) (F : Stop.Interp) :
    ReturnsInHanded {} Tryd.checked os 10 .any ((OpenSpec.ofChange Rows.mountainPartsSpec).preRow enc Tryd.prog Tryd.f10 Rows.mountainPartsRow.domain false Rows.mountainPartsRow.laid) (((OpenSpec.ofChange Rows.mountainPartsSpec).at F).post enc Tryd.prog Tryd.f10 false true false false) := by
  obtain ⟨places, hx⟩ := reads os enc
  refine returnsInHanded_of_row (C := Tryd.checked) (s := OpenSpec.ofChange Rows.mountainPartsSpec) own started (by kernel_rfl) Tryd.func10
    (witness_row_at (enc := enc) (C := Tryd.checked) false (laidWorld os) #[.string ⟨#[]⟩, .int .u8 0, .int .u8 0] rfl (by kernel_rfl) (by kernel_rfl) (by kernel_rfl)
      (OpenSpec.preRow_of_cond 8 hx (by kernel_rfl) (fun k hk => by cases hk) (by kernel_rfl) (laid_met os))) ?_
  intro W base args ds gs before hval hW _ _ _ hL _ _
  exact contract H enc W base args ds gs before hval hW hL

set_option maxRecDepth 100000 in
theorem said : Rows.MountainPartsSaid :=
  OpenClaim.holds_of_cond 10 Tryd.f10 rfl rfl rfl rfl rfl rfl rfl ⟨rfl, rfl, rfl, rfl, rfl⟩ rfl rfl rfl rfl rfl (by kernel_rfl) Tryd.func10 (by kernel_rfl)
    (of_decide_eq_true (by kernel_rfl)) (by unfold Func.isWrapper; first | (rw [if_pos (by decide +kernel)]; kernel_rfl) | (rw [if_neg (by decide +kernel)]; exact ⟨rfl, rfl⟩))
    (fun os started H enc _ F => by rw [OpenClaim.pre_eq_preRow]; exact lifted os started H enc F)

/-- No parameter wants a stand-in; the program's own looks are off. -/
theorem plain (f : FuncId) (fn : Func) (hf : Tryd.pinned.checked.prog.funcNamed "licit/licitlaw49.MountainParts" = some f) (hfn : Tryd.pinned.checked.prog.funcs[f]? = some fn) :
    false = Tryd.pinned.checked.prog.looks [] ∧ ∀ (j : Nat) t, fn.params[j]? = some t → Tryd.pinned.checked.prog.wantsStandIn t = false := by
  obtain rfl : f = 10 := Option.some.inj ((show Tryd.prog.funcNamed "licit/licitlaw49.MountainParts" = some 10 by kernel_rfl).symm.trans hf) |>.symm
  obtain rfl : fn = Tryd.f10 := (Option.some.inj (Tryd.func10.symm.trans hfn)).symm
  refine ⟨by kernel_rfl, fun j t ht => ?_⟩
  have hall : Tryd.f10.params.toList.all (fun t => !Tryd.prog.wantsStandIn t) = true := by kernel_rfl
  have := List.all_eq_true.1 hall t (Array.mem_toList_iff.2 (Array.mem_of_getElem? ht))
  exact (by simpa using this : Tryd.prog.wantsStandIn t = false)

theorem card : Rows.MountainPartsCardSaid :=
  Claim7.holds_tied_plain_at .later [] _ _ _ _ said (fun _ h => by cases h) (by kernel_rfl) (fun _ h => by cases h) mountainParts_row_tie rfl ⟨rfl, rfl⟩ (by kernel_rfl) rfl plain (by kernel_rfl)

end Go.Proofs.YtfklmjcjjdliiaaDoor.lawParts
