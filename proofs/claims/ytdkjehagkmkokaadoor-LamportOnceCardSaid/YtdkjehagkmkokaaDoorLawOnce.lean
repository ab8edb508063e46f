/- The card of LamportOnce is proved: for every seed, key and list of calls the law returns true; the conditions are those of the given row. -/
import Derived.Test.YtdkjehagkmkokaaDoorLawKit48
import Derived.Test.YtdkjehagkmkokaaDoorWkAwake48
import Derived.Test.YtdkjehagkmkokaaDoorWkRefSign
namespace Go.Proofs.YtdkjehagkmkokaaDoor.lawOnce
open Go Go.RowKit Licit
open Go.ChangeShapes Go.WideShapes Go.ChangeAt

theorem at_i8 {v : Value} {ts : List Int} {w : World} (h : IsSl v (ts.map vI8) w) {j : Nat} (hj : j < ts.length) :
    ∃ blk off cap, v = .slice (some ⟨blk, off, none⟩) ts.length cap ∧ blk < w.heap.size ∧ w.cell? ⟨blk, off + j, none⟩ = some (.int .i8 (ts.getD j 0)) := by
  obtain ⟨a, cap, rfl⟩ := h.form
  obtain ⟨blk, off, rfl, hb, hc⟩ := h.at (k := j) (by rw [List.length_map]; exact hj)
  refine ⟨blk, off, cap, by rw [List.length_map], hb, ?_⟩
  rw [hc, List.getElem_map, List.getD_eq_getElem?_getD, List.getElem?_eq_getElem hj]
  rfl
theorem tdiv_bounds {o : Int} (h : -128 ≤ o ∧ o < 128) : -43 ≤ o.tdiv 3 ∧ o.tdiv 3 ≤ 42 := by
  by_cases h0 : 0 ≤ o
  · rw [Int.tdiv_eq_ediv_of_nonneg h0]
    omega
  · have e := Int.neg_tdiv (-o) 3
    rw [Int.neg_neg] at e
    rw [e, Int.tdiv_eq_ediv_of_nonneg (by omega)]
    omega
theorem wrap_i8 {x : Int} (h1 : -128 ≤ x) (h2 : x < 128) : IntKind.i8.wrap x = x := by
  unfold IntKind.wrap
  simp [IntKind.signed, IntKind.bits]
  omega
def kMsg2 : Bs := [109, 101, 115, 115, 97, 103, 101]
theorem rows_slice {v : Value} {rows : List (List Bs)} {w : World} (h : IsRows v rows w) : ∃ a n cap, v = .slice a n cap := by
  obtain ⟨vs, _, hsl, _⟩ := h
  obtain ⟨a, cap, e⟩ := hsl.form
  exact ⟨a, _, cap, e⟩

set_option maxHeartbeats 8000000 in
set_option maxRecDepth 100000 in
theorem walk (seed : Bs) (b h : Int) (tv : Value) (ts : List Int) (w : World) (hs : seed.length ≤ maxLen) (hts : IsSl tv (ts.map vI8) w) (h8 : ∀ x ∈ ts, -128 ≤ x ∧ x < 128) (ht : Tab w) :
    Calls Tryd.prog 5 #[.string (B seed), .agg #[.int .i64 b, .int .i64 h], tv] w fun e w' => e = .returned (.bool true) ∧ Below w.heap.size w w' := by
  have HL := Lib.hid (fun W => Light_any seed b h W)
  have HA := Lib.hid (fun W (hT : Tab W) => awake_any48 W hT)
  obtain ⟨l, hl⟩ : ∃ l, lightB seed b h = l := ⟨_, rfl⟩
  rw [hl] at HL
  have htl := hts.1
  rw [List.length_map] at htl
  unfold maxLen at htl
  obtain ⟨ta, tc, rfl⟩ := hts.formMap
  have HTS := Lib.hid hts
  have H8 := Lib.hid h8
  clear hl hts h8
  go_enter Tryd.func5, Tryd.ntmps5
  go_wp2_with fail
  refine (HA.out _ (ht.same ((Below.refl _ _).alloc (Nat.le_refl _) _))).mono ?_
  rintro e w1 ⟨rfl, hb⟩
  have hk1 : w1.heap[w.heap.size]? = some (.cells #[.int .i64 b, .int .i64 h] 23) := (hb.block _ (by simp)).trans (new_of _ _)
  have hb1 := ((Below.refl w.heap.size w).alloc (Nat.le_refl _) _).next hb
  have Hk1 := Lib.hid hk1
  have Hb1 := Lib.hid hb1
  obtain ⟨k0, k1⟩ := keyC hk1
  clear hb hb1 hk1
  go_wp2_with fail
  refine (HL.out _).mono ?_
  rintro e w2 ⟨rfl, hb⟩
  have hk2 := (hb.block _ (lt_of Hk1.out)).trans Hk1.out
  have Hk2 := Lib.hid hk2
  have hb2 := Hb1.out.next hb
  have ht2 := ht.same hb2
  have Hb2 := Lib.hid hb2
  clear k0 k1
  obtain ⟨k0, k1⟩ := keyC hk2
  clear hb hb2 hk2
  cases l with
  | false =>
    go_wp2_with fail
    refine (HA.out _ ht2).mono ?_
    rintro e w9 ⟨rfl, hb⟩
    have Hb9 := Lib.hid (Hb2.out.next hb)
    clear hb
    go_wp2
    go_ret
    exact ⟨rfl, Hb9.out⟩
  | true =>
    by_cases hl8 : 12 < ts.length
    · have d2 : decide (12 < (ts.length : Int)) = true := by simp; omega
      go_wp2_with fail
      refine (HA.out _ ht2).mono ?_
      rintro e w9 ⟨rfl, hb⟩
      have Hb9 := Lib.hid (Hb2.out.next hb)
      clear hb
      go_wp2
      go_ret
      exact ⟨rfl, Hb9.out⟩
    · have d2 : decide (12 < (ts.length : Int)) = false := by simp; omega
      cases hk : keyOk b h with
      | false =>
        have HV := Lib.hid (fun W => RValid_no b h W hk)
        have HNw := Lib.hid (fun W => NewS_no seed b h W hk)
        go_wp2_with fail
        refine (HNw.out _).mono ?_
        rintro e w3 ⟨rfl, hb⟩
        have Hk3 := Lib.hid ((hb.block _ (lt_of Hk2.out)).trans Hk2.out)
        have Hb3 := Lib.hid (Hb2.out.next hb)
        clear hb k0 k1
        obtain ⟨k0, k1⟩ := keyC Hk3.out
        go_wp2_with fail
        refine (HV.out _).mono ?_
        rintro e w4 ⟨rfl, hb⟩
        have Hb4 := Lib.hid (Hb3.out.next hb)
        clear hb
        go_wp2
        go_ret
        exact ⟨rfl, Hb4.out⟩
      | true =>
        have hk' : 8 ≤ b ∧ b ≤ 256 ∧ 0 ≤ h ∧ h ≤ 6 := by simpa [keyOk] using hk
        obtain ⟨b, rfl⟩ : ∃ n : Nat, b = (n : Int) := ⟨b.toNat, by omega⟩
        obtain ⟨h, rfl⟩ : ∃ n : Nat, h = (n : Int) := ⟨h.toNat, by omega⟩
        have hb : b ≤ 256 := by omega
        have hh : h ≤ 6 := by omega
        have HV := Lib.hid (fun W => RValid_yes (b : Int) (h : Int) W hk)
        have HCnt := Lib.hid (fun W => RCount_any (b : Int) h W hh)
        obtain ⟨N, hN, _, _, h64, _⟩ := pow_facts hh
        rw [hN] at HCnt
        have HN := Lib.hid hN
        clear hk' hN
        go_wp2_with fail
        refine (NewS_any seed b h w2 hs hk ht2).mono ?_
        rintro e w3 ⟨p, tva, rfl, hpa, hsa, hra, hb3⟩
        have Hk3 := Lib.hid ((hb3.block _ (lt_of Hk2.out)).trans Hk2.out)
        have Hb3 := Lib.hid (Hb2.out.next hb3)
        have HSA := Lib.hid hsa
        have HRA := Lib.hid hra
        clear hb3 k0 k1 hsa hra
        obtain ⟨k0, k1⟩ := keyC Hk3.out
        go_wp2_with fail
        refine (HV.out _).mono ?_
        rintro e w4 ⟨rfl, hb4⟩
        have Hk4 := Lib.hid ((hb4.block _ (lt_of Hk3.out)).trans Hk3.out)
        have HB4 := Lib.hid hb4
        clear hb4 k0 k1
        obtain ⟨k0, k1⟩ := keyC Hk4.out
        go_wp2_with fail
        refine (HCnt.out _).mono ?_
        rintro e w5 ⟨rfl, hb5⟩
        have hB3 : Below w3.heap.size w3 w5 := HB4.out.next hb5
        have hzp : p < w3.heap.size := lt_of (show w3.heap[p]? = _ from HSA.out)
        have hzk : w.heap.size < w2.heap.size := lt_of Hk2.out
        have hB5 := Hb3.out.next hB3
        have hz5 := hB5.size
        have HK5 := Lib.hid ((hb5.block _ (lt_of Hk4.out)).trans Hk4.out)
        have HS5 := Lib.hid (show SignerIs p seed b h tva 0 w5 from (hB3.block p hzp).trans HSA.out)
        have HBF := Lib.hid (show ∀ w', Kept (Licit.One p) w5 w' → Below w.heap.size w w' from fun w' hk' => hB5.trans (hk'.below hz5 (fun q hq e => by have : q = p := e; omega)))
        have HRF := Lib.hid (show ∀ w', Kept (Licit.One p) w5 w' → IsRows tva ((List.range (h + 1)).map (rowB seed b h)) w' from fun w' hk' => HRA.out _ _ ((Kept.of_below hB3).trans hk') (fun _ _ _ h3 e => h3 e))
        clear hb5 hB3 k0 k1 hB5 hz5
        go_wp2
        go_loopw [9, 58] (fun nx i' wr => ∃ k n : Nat, k ≤ ts.length ∧ i' = .int .i64 k ∧ nx = .int .i64 n ∧ n ≤ N ∧ SignerIs p seed b h tva n wr ∧ Kept (Licit.One p) w5 wr) (fun _ i' _ => ts.length - (intOf i').toNat)
        case atStart => exact ⟨0, 0, by omega, rfl, rfl, by omega, HS5.out, Kept.refl _ _⟩
        case round =>
          obtain ⟨k, n, hkk, rfl, rfl, hn, hsr, hkr⟩ := hrel
          have HS := Lib.hid hsr
          have HK := Lib.hid hkr
          clear hsr hkr
          by_cases hlt : k < ts.length
          · obtain ⟨blk, off, cap, hv, hbl, hct⟩ := at_i8 (HTS.out.below (HBF.out _ HK.out)) hlt
            simp only [Value.slice.injEq, true_and] at hv
            obtain ⟨rfl, rfl⟩ := hv
            have hki : (k : Int) < (ts.length : Int) := by omega
            have ho := H8.out (ts.getD k 0) (by rw [List.getD_eq_getElem?_getD, List.getElem?_eq_getElem hlt]; exact List.getElem_mem _)
            obtain ⟨o, ho'⟩ : ∃ o, ts.getD k 0 = o := ⟨_, rfl⟩
            rw [ho'] at hct ho
            clear ho'
            have htb : -43 ≤ o.tdiv 3 ∧ o.tdiv 3 ≤ 42 := tdiv_bounds ho
            obtain ⟨tq, hto⟩ : ∃ tq, o.tdiv 3 = tq := ⟨_, rfl⟩
            rw [hto] at htb
            have hq1 : IntKind.i8.wrap (o.tdiv 3) = tq := by rw [hto]; exact wrap_i8 (by omega) (by omega)
            have hq2 : wrap64 tq = tq := by unfold wrap64; omega
            have hq3 : IntKind.i64.wrap tq = tq := by rw [IntKind.wrap_i64]; omega
            clear hto
            by_cases h3 : (o.tmod 3 == 0) = true
            · by_cases c1 : tq < 0
              · have d3 : decide (tq < 0) = true := by simpa using c1
                have HSk := Lib.hid (Skip_bad p seed b h n tq tva wr HS.out hh (.inl c1))
                clear c1
                go_wp2_with fail
                refine HSk.out.mono ?_
                rintro e w6 ⟨rfl, rfl⟩
                go_wp2_with fail
                refine (SNext_any p seed b h (n) tva _ HS.out).mono ?_
                rintro e wn ⟨rfl, rfl⟩
                go_wp2_with fail
                refine (SLeft_any p seed b h (n) tva _ HS.out hh (by rw [HN.out]; omega)).mono ?_
                rintro e wl ⟨rfl, qd, hwl⟩
                have hkl : Kept (Licit.One p) w5 wl := by rw [hwl]; exact ⟨HK.out.os, HK.out.tape, HK.out.output, HK.out.size, HK.out.block⟩
                have hsl : SignerIs p seed b h tva (n) wl := by rw [hwl]; exact HS.out
                have HKl := Lib.hid hkl
                have HSl := Lib.hid hsl
                have hsub : IntKind.i64.wrap ((N : Int) - ((n : Nat) : Int)) = ((N - (n) : Nat) : Int) := by rw [IntKind.wrap_i64]; omega
                have hsub2 : (N : Int) - ((n : Nat) : Int) = ((N - (n) : Nat) : Int) := by omega
                rw [HN.out]
                clear hwl hkl hsl
                go_wp2
                go_roundw
                case rel => exact ⟨k + 1, n, by omega, by go_num, rfl, by omega, HSl.out, HKl.out⟩
                case measure => simp [intOf]; omega
              · have d3 : decide (tq < 0) = false := by simpa using c1
                obtain ⟨tn, rfl⟩ : ∃ x : Nat, tq = (x : Int) := ⟨tq.toNat, by omega⟩
                by_cases c2 : N < tn
                · have d4 : decide (N < tn) = true := by simpa using c2
                  have HSk := Lib.hid (Skip_bad p seed b h n (tn : Int) tva wr HS.out hh (.inr (by rw [HN.out]; exact Int.ofNat_lt.2 c2)))
                  clear c1 c2
                  go_wp2_with fail
                  refine HSk.out.mono ?_
                  rintro e w6 ⟨rfl, rfl⟩
                  go_wp2_with fail
                  refine (SNext_any p seed b h (n) tva _ HS.out).mono ?_
                  rintro e wn ⟨rfl, rfl⟩
                  go_wp2_with fail
                  refine (SLeft_any p seed b h (n) tva _ HS.out hh (by rw [HN.out]; omega)).mono ?_
                  rintro e wl ⟨rfl, qd, hwl⟩
                  have hkl : Kept (Licit.One p) w5 wl := by rw [hwl]; exact ⟨HK.out.os, HK.out.tape, HK.out.output, HK.out.size, HK.out.block⟩
                  have hsl : SignerIs p seed b h tva (n) wl := by rw [hwl]; exact HS.out
                  have HKl := Lib.hid hkl
                  have HSl := Lib.hid hsl
                  have hsub : IntKind.i64.wrap ((N : Int) - ((n : Nat) : Int)) = ((N - (n) : Nat) : Int) := by rw [IntKind.wrap_i64]; omega
                  have hsub2 : (N : Int) - ((n : Nat) : Int) = ((N - (n) : Nat) : Int) := by omega
                  rw [HN.out]
                  clear hwl hkl hsl
                  go_wp2
                  go_roundw
                  case rel => exact ⟨k + 1, n, by omega, by go_num, rfl, by omega, HSl.out, HKl.out⟩
                  case measure => simp [intOf]; omega
                · have d4 : decide (N < tn) = false := by simpa using c2
                  have htN : tn ≤ N := Nat.not_lt.1 c2
                  by_cases c3 : tn < n
                  · have d5 : decide (tn < n) = true := by simpa using c3
                    have HSk := Lib.hid (Skip_back p seed b h n tn tva wr HS.out hh (by rw [HN.out]; exact htN) c3)
                    clear c1 c2 c3
                    go_wp2_with fail
                    refine HSk.out.mono ?_
                    rintro e w6 ⟨rfl, rfl⟩
                    go_wp2_with fail
                    refine (SNext_any p seed b h (n) tva _ HS.out).mono ?_
                    rintro e wn ⟨rfl, rfl⟩
                    go_wp2_with fail
                    refine (SLeft_any p seed b h (n) tva _ HS.out hh (by rw [HN.out]; omega)).mono ?_
                    rintro e wl ⟨rfl, qd, hwl⟩
                    have hkl : Kept (Licit.One p) w5 wl := by rw [hwl]; exact ⟨HK.out.os, HK.out.tape, HK.out.output, HK.out.size, HK.out.block⟩
                    have hsl : SignerIs p seed b h tva (n) wl := by rw [hwl]; exact HS.out
                    have HKl := Lib.hid hkl
                    have HSl := Lib.hid hsl
                    have hsub : IntKind.i64.wrap ((N : Int) - ((n : Nat) : Int)) = ((N - (n) : Nat) : Int) := by rw [IntKind.wrap_i64]; omega
                    have hsub2 : (N : Int) - ((n : Nat) : Int) = ((N - (n) : Nat) : Int) := by omega
                    rw [HN.out]
                    clear hwl hkl hsl
                    go_wp2
                    go_roundw
                    case rel => exact ⟨k + 1, n, by omega, by go_num, rfl, by omega, HSl.out, HKl.out⟩
                    case measure => simp [intOf]; omega
                  · have d5 : decide (tn < n) = false := by simpa using c3
                    have HSk := Lib.hid (Skip_ok p seed b h n tn tva wr HS.out hh (by rw [HN.out]; exact htN) (Nat.not_lt.1 c3))
                    clear c1 c2 c3
                    go_wp2_with fail
                    refine HSk.out.mono ?_
                    rintro e w6 ⟨rfl, hs6, hk6⟩
                    clear hq1 hq2 hq3 d3 d4 d5 htb
                    have HS6 := Lib.hid hs6
                    have HK6 := Lib.hid (HK.out.trans hk6)
                    clear hs6 hk6
                    go_wp2_with fail
                    refine (SNext_any p seed b h (tn) tva _ HS6.out).mono ?_
                    rintro e wn ⟨rfl, rfl⟩
                    go_wp2_with fail
                    refine (SLeft_any p seed b h (tn) tva _ HS6.out hh (by rw [HN.out]; omega)).mono ?_
                    rintro e wl ⟨rfl, qd, hwl⟩
                    have hkl : Kept (Licit.One p) w5 wl := by rw [hwl]; exact ⟨HK6.out.os, HK6.out.tape, HK6.out.output, HK6.out.size, HK6.out.block⟩
                    have hsl : SignerIs p seed b h tva (tn) wl := by rw [hwl]; exact HS6.out
                    have HKl := Lib.hid hkl
                    have HSl := Lib.hid hsl
                    have hsub : IntKind.i64.wrap ((N : Int) - ((tn : Nat) : Int)) = ((N - (tn) : Nat) : Int) := by rw [IntKind.wrap_i64]; omega
                    have hsub2 : (N : Int) - ((tn : Nat) : Int) = ((N - (tn) : Nat) : Int) := by omega
                    rw [HN.out]
                    clear hwl hkl hsl
                    go_wp2
                    go_roundw
                    case rel => exact ⟨k + 1, tn, by omega, by go_num, rfl, by omega, HSl.out, HKl.out⟩
                    case measure => simp [intOf]; omega
            · have h3' : (o.tmod 3 == 0) = false := by simpa using h3
              clear h3
              by_cases hfull : n = N
              · subst hfull
                have hSf : SignerIs p seed b h tva (2 ^ h) wr := by rw [HN.out]; exact HS.out
                have HSf := Lib.hid hSf
                clear hSf
                go_wp2_with fail
                refine (SSign_full p seed kMsg2 b h tva _ HSf.out hh).mono ?_
                rintro e w6 ⟨rfl, hb6⟩
                obtain ⟨W6, hW6⟩ : ∃ W6, w6.alloc (.cells #[.int .i64 0, .slice none 0 0, .slice none 0 0, .slice none 0 0] 34) = W6 := ⟨_, rfl⟩
                have hb6' : Below wr.heap.size wr W6 := by rw [← hW6]; exact hb6.next ((Below.refl _ _).alloc (Nat.le_refl _) _)
                have HS6 := Lib.hid (show SignerIs p seed b h tva n W6 from (hb6'.block p (lt_of (show wr.heap[p]? = _ from HS.out))).trans HS.out)
                have HK6 := Lib.hid (HK.out.trans (Kept.of_below hb6'))
                have HW6 := Lib.hid hW6
                clear hb6 hb6' hW6
                go_wp2_with fail
                rw [HW6.out]
                refine (SNext_any p seed b h (n) tva _ HS6.out).mono ?_
                rintro e wn ⟨rfl, rfl⟩
                go_wp2_with fail
                refine (SLeft_any p seed b h (n) tva _ HS6.out hh (by rw [HN.out]; omega)).mono ?_
                rintro e wl ⟨rfl, qd, hwl⟩
                have hkl : Kept (Licit.One p) w5 wl := by rw [hwl]; exact ⟨HK6.out.os, HK6.out.tape, HK6.out.output, HK6.out.size, HK6.out.block⟩
                have hsl : SignerIs p seed b h tva (n) wl := by rw [hwl]; exact HS6.out
                have HKl := Lib.hid hkl
                have HSl := Lib.hid hsl
                have hsub : IntKind.i64.wrap ((n : Int) - ((n : Nat) : Int)) = ((n - (n) : Nat) : Int) := by rw [IntKind.wrap_i64]; omega
                have hsub2 : (n : Int) - ((n : Nat) : Int) = ((n - (n) : Nat) : Int) := by omega
                rw [HN.out]
                clear hwl hkl hsl
                go_wp2
                go_roundw
                case rel => exact ⟨k + 1, n, by omega, by go_num, rfl, by omega, HSl.out, HKl.out⟩
                case measure => simp [intOf]; omega
              · have hlt' : n < 2 ^ h := by rw [HN.out]; omega
                have hqe : ((n : Int) == (N : Int)) = false := by simp; omega
                obtain ⟨n1, hn1⟩ : ∃ n1, n + 1 = n1 := ⟨_, rfl⟩
                have hw1 : IntKind.i64.wrap ((n : Int) + 1) = (n1 : Int) := by rw [IntKind.wrap_i64]; omega
                have hw2 : (n : Int) + 1 = (n1 : Int) := by omega
                have hn1N : n1 ≤ N := by omega
                have HSg := Lib.hid (SSign_next p seed kMsg2 b h n tva wr HS.out hs (by decide) hb hh hlt' (fun w' h' => ht.same (HBF.out w' (HK.out.trans h'))) (fun w' h' => HRF.out w' (HK.out.trans h')) (rows_slice (HRF.out wr HK.out)))
                rw [hn1] at HSg
                have HRs := Lib.hid (fun W => RSign_any seed kMsg2 b h n W hs (by decide) hk hlt')
                clear hlt' hfull hn1
                go_wp2_with fail
                refine HSg.out.mono ?_
                rintro e w6 ⟨v, rfl, hsg, hs6, hk6⟩
                have hsi := SigIs.of_sig hsg (by rw [shownN_len]; unfold maxLen; omega) (by rw [hiddenN_len]; unfold maxLen; omega) (by rw [routeN_len]; unfold maxLen; omega)
                obtain ⟨vs, vh, vr, rfl, o1, o2, o3⟩ := hsg
                obtain ⟨sa, sc, rfl⟩ := own_form o1
                obtain ⟨ha, hc, rfl⟩ := own_form o2
                obtain ⟨ra, rc, rfl⟩ := own_form o3
                rw [shownN_len, hiddenN_len, routeN_len] at hsi ⊢
                obtain ⟨W6, hW6⟩ : ∃ W6, w6.alloc (.cells #[.int .i64 (n : Int), .slice sa b sc, .slice ha b hc, .slice ra h rc] 34) = W6 := ⟨_, rfl⟩
                have hb6 : Below w6.heap.size w6 W6 := by rw [← hW6]; exact (Below.refl _ _).alloc (Nat.le_refl _) _
                have HX6 := Lib.hid (show W6.heap[w6.heap.size]? = some (.cells #[.int .i64 (n : Int), .slice sa b sc, .slice ha b hc, .slice ra h rc] 34) by rw [← hW6]; exact new_of _ _)
                have HV6 := Lib.hid (hsi.below hb6)
                have HS6 := Lib.hid (show SignerIs p seed b h tva n1 W6 from (hb6.block p (lt_of (show w6.heap[p]? = _ from hs6))).trans hs6)
                have HK6 := Lib.hid ((HK.out.trans hk6).trans (Kept.of_below hb6))
                obtain ⟨X, hX⟩ : ∃ X, w6.heap.size = X := ⟨_, rfl⟩
                rw [hX] at HX6
                have hkk6 : w6.heap[w.heap.size]? = some (.cells #[.int .i64 (b : Int), .int .i64 (h : Int)] 23) := ((HK.out.trans hk6).block _ (lt_of HK5.out) (fun e => by have : w.heap.size = p := e; omega)).trans HK5.out
                obtain ⟨k0, k1⟩ := keyC hkk6
                have hzk6 : w.heap.size < w6.heap.size := lt_of hkk6
                have HW6 := Lib.hid hW6
                have HXe := Lib.hid hX
                clear o1 o2 o3 hb6 hsi hs6 hk6 hkk6 hW6 hX
                go_wp2_with fail
                rw [HW6.out, HXe.out]
                refine (HRs.out _).mono ?_
                rintro e w7 ⟨u, rfl, hug, hb7⟩
                have hui := SigIs.of_sig hug (by rw [shownN_len]; unfold maxLen; omega) (by rw [hiddenN_len]; unfold maxLen; omega) (by rw [routeN_len]; unfold maxLen; omega)
                obtain ⟨us, uh, ur, rfl, o1, o2, o3⟩ := hug
                obtain ⟨sa', sc', rfl⟩ := own_form o1
                obtain ⟨ha', hc', rfl⟩ := own_form o2
                obtain ⟨ra', rc', rfl⟩ := own_form o3
                rw [shownN_len, hiddenN_len, routeN_len] at hui ⊢
                have hbA := (Below.refl w7.heap.size w7).alloc (Nat.le_refl _) (.cells #[.int .i64 (n : Int), .slice sa' b sc', .slice ha' b hc', .slice ra' h rc'] 34)
                have HSm := Lib.hid (RSame_any _ _ _ _ _ _ _ _ _ _ _ ((HV6.out.below hb7).below hbA) (hui.below hbA))
                rw [show sameSig (n : Int) (shownN seed (Sha.sha kMsg2) (n : Int) b) (hiddenN seed (Sha.sha kMsg2) (n : Int) b) (routeN seed b h n h) (n : Int) (shownN seed (Sha.sha kMsg2) (n : Int) b) (hiddenN seed (Sha.sha kMsg2) (n : Int) b) (routeN seed b h n h) = true by simp [sameSig]] at HSm
                obtain ⟨x0, x1, x2, x3⟩ := sigC ((hb7.block _ (lt_of HX6.out)).trans HX6.out)
                have hX7 : X < w7.heap.size := Nat.lt_of_lt_of_le (lt_of HX6.out) hb7.size
                have HB7 := Lib.hid (hb7.next hbA)
                clear o1 o2 o3 hb7 hui hbA k0 k1
                go_wp2_with fail
                refine HSm.out.mono ?_
                rintro e w8 ⟨rfl, hb8⟩
                have hB8 := HB7.out.next hb8
                have HS8 := Lib.hid (show SignerIs p seed b h tva n1 w8 from (hB8.block p (lt_of (show W6.heap[p]? = _ from HS6.out))).trans HS6.out)
                have HK8 := Lib.hid (HK6.out.trans (Kept.of_below hB8))
                clear hb8 hB8 x0 x1 x2 x3
                go_wp2_with fail
                refine (SNext_any p seed b h (n1) tva _ HS8.out).mono ?_
                rintro e wn ⟨rfl, rfl⟩
                go_wp2_with fail
                refine (SLeft_any p seed b h (n1) tva _ HS8.out hh (by rw [HN.out]; omega)).mono ?_
                rintro e wl ⟨rfl, qd, hwl⟩
                have hkl : Kept (Licit.One p) w5 wl := by rw [hwl]; exact ⟨HK8.out.os, HK8.out.tape, HK8.out.output, HK8.out.size, HK8.out.block⟩
                have hsl : SignerIs p seed b h tva (n1) wl := by rw [hwl]; exact HS8.out
                have HKl := Lib.hid hkl
                have HSl := Lib.hid hsl
                have hsub : IntKind.i64.wrap ((N : Int) - ((n1 : Nat) : Int)) = ((N - (n1) : Nat) : Int) := by rw [IntKind.wrap_i64]; omega
                have hsub2 : (N : Int) - ((n1 : Nat) : Int) = ((N - (n1) : Nat) : Int) := by omega
                rw [HN.out]
                clear hwl hkl hsl
                go_wp2
                go_roundw
                case rel => exact ⟨k + 1, n1, by omega, by go_num, rfl, by omega, HSl.out, HKl.out⟩
                case measure => simp [intOf]; omega
          · obtain rfl : k = ts.length := by omega
            go_wp2
            go_ret
            exact ⟨rfl, HBF.out _ HK.out⟩

set_option maxRecDepth 100000 in
theorem contract (H : Type) (enc : TypeId × Value → H) (W : World) (base : Nat) (args : Array Value) (ds gs : List (DataW H)) (before : List MemPlace)
    (hval : ∀ (j : Nat) t v, Tryd.f5.params[j]? = some t → args[j]? = some v → Value.okWide Tryd.prog W .any base t v)
    (hW : DataW.Whole enc Tryd.prog Tryd.f5.params.toList Rows.lamportOnceSpec.vars false W args.toList ds gs before) (hL : laidMetH Tryd.prog Rows.lamportOnceRow.laid W) :
    Calls Tryd.prog 5 args W fun e W' => ∃ v, e = .returned v ∧ Rows.lamportOnceSpec.post enc Tryd.prog Tryd.f5 false true false false W args v W' := by
  have hW' := hW
  obtain ⟨p, q, hA0, hV, rfl, hfz, hnd⟩ := hW
  have hA : DataW.TrodAll enc Tryd.prog W 0 (fun _ => true) true Tryd.f5.params.toList args.toList ds p := hA0
  rw [Tryd.params5] at hA hval
  obtain ⟨v0, vs0, d0, ds0, p0, q0, hargs, rfl, rfl, h0, r0⟩ := trodAll_cons hA
  obtain ⟨v1, vs1, d1, ds1, p1, q1, rfl, rfl, rfl, h1, r1⟩ := trodAll_cons r0
  obtain ⟨v2, vs2, d2, ds2, p2, q2, rfl, rfl, rfl, h2, r2⟩ := trodAll_cons r1
  obtain ⟨rfl, rfl, rfl⟩ := trodAll_nil r2
  obtain rfl : args = #[v0, v1, v2] := by cases args; simp_all
  obtain ⟨rfl, rfl⟩ := trodVars_none hV
  obtain ⟨seed, rfl, hsl⟩ := str_in (hval 0 9 v0 rfl rfl) h0
  obtain ⟨b, h, rfl⟩ := key_in (hval 1 23 v1 rfl rfl) h1
  obtain ⟨ts, hts, h8⟩ := i8s_in (hval 2 40 v2 rfl rfl) h2
  refine (walk seed b h v2 ts W hsl hts h8 (tab_of hL)).mono fun e W' ⟨he, hb⟩ => ⟨_, he, ?_⟩
  exact law_post hW' rfl (by kernel_rfl) (by kernel_rfl) rfl hb

theorem laid_met (os : Os) : laidMet Tryd.prog Rows.lamportOnceRow.laid ((laidWorld os).forCall (fun _ _ => 0) ⟨#[], #[.string ⟨#[]⟩, .agg #[.int .i64 0, .int .i64 0], .slice none 0 0], []⟩).memory :=
  laidMet_of_run' 8 (by kernel_rfl) (by kernel_rfl)
theorem reads (os : Os) {H : Type} (enc : TypeId × Value → H) : ∃ places, DataW.whole enc Tryd.prog ((laidWorld os).forCall (fun _ _ => 0) ⟨#[], #[.string ⟨#[]⟩, .agg #[.int .i64 0, .int .i64 0], .slice none 0 0], []⟩).memory Tryd.f5.params.toList Rows.lamportOnceSpec.vars false (#[.string ⟨#[]⟩, .agg #[.int .i64 0, .int .i64 0], .slice none 0 0] : Array Value).toList 8 = some ([.lit (.string []), .agg [.lit (.int .i64 0), .lit (.int .i64 0)], .nil], [], places) :=
  ⟨[], by kernel_rfl⟩

set_option maxRecDepth 100000 in
theorem lifted (os : Os) (started : os.Started) (H : Type) (enc : TypeId × Value → H) (F : Stop.Interp) :
    ReturnsInHanded {} Tryd.checked os 5 .any ((OpenSpec.ofChange Rows.lamportOnceSpec).preRow enc Tryd.prog Tryd.f5 Rows.lamportOnceRow.domain false Rows.lamportOnceRow.laid) (((OpenSpec.ofChange Rows.lamportOnceSpec).at F).post enc Tryd.prog Tryd.f5 false true false false) := by
  obtain ⟨places, hx⟩ := reads os enc
  refine returnsInHanded_of_row (C := Tryd.checked) (s := OpenSpec.ofChange Rows.lamportOnceSpec) own started (by kernel_rfl) Tryd.func5
    (witness_row_at (enc := enc) (C := Tryd.checked) false (laidWorld os) #[.string ⟨#[]⟩, .agg #[.int .i64 0, .int .i64 0], .slice none 0 0] rfl (by kernel_rfl) (by kernel_rfl) (by kernel_rfl)
      (OpenSpec.preRow_of_cond 8 hx (by kernel_rfl) (fun k hk => by cases hk) (by kernel_rfl) (laid_met os))) ?_
  intro W base args ds gs before hval hW _ _ _ hL _ _
  exact contract H enc W base args ds gs before hval hW hL

set_option maxRecDepth 100000 in
theorem said : Rows.LamportOnceSaid :=
  OpenClaim.holds_of_cond 5 Tryd.f5 rfl rfl rfl rfl rfl rfl rfl ⟨rfl, rfl, rfl, rfl, rfl⟩ rfl rfl rfl rfl rfl (by kernel_rfl) Tryd.func5 (by kernel_rfl)
    (of_decide_eq_true (by kernel_rfl)) (by unfold Func.isWrapper; first | (rw [if_pos (by decide +kernel)]; kernel_rfl) | (rw [if_neg (by decide +kernel)]; exact ⟨rfl, rfl⟩))
    (fun os started H enc _ F => by rw [OpenClaim.pre_eq_preRow]; exact lifted os started H enc F)

/-- No parameter wants a stand-in; the program's own looks are off. -/
theorem plain (f : FuncId) (fn : Func) (hf : Tryd.pinned.checked.prog.funcNamed "licit/licitlaw48.LamportOnce" = some f) (hfn : Tryd.pinned.checked.prog.funcs[f]? = some fn) :
    false = Tryd.pinned.checked.prog.looks [] ∧ ∀ (j : Nat) t, fn.params[j]? = some t → Tryd.pinned.checked.prog.wantsStandIn t = false := by
  obtain rfl : f = 5 := Option.some.inj ((show Tryd.prog.funcNamed "licit/licitlaw48.LamportOnce" = some 5 by kernel_rfl).symm.trans hf) |>.symm
  obtain rfl : fn = Tryd.f5 := (Option.some.inj (Tryd.func5.symm.trans hfn)).symm
  refine ⟨by kernel_rfl, fun j t ht => ?_⟩
  have hall : Tryd.f5.params.toList.all (fun t => !Tryd.prog.wantsStandIn t) = true := by kernel_rfl
  have := List.all_eq_true.1 hall t (Array.mem_toList_iff.2 (Array.mem_of_getElem? ht))
  exact (by simpa using this : Tryd.prog.wantsStandIn t = false)

theorem card : Rows.LamportOnceCardSaid :=
  Claim7.holds_tied_plain_at .later [] _ _ _ _ said (fun _ h => by cases h) (by kernel_rfl) (fun _ h => by cases h) lamportOnce_row_tie rfl ⟨rfl, rfl⟩ (by kernel_rfl) rfl plain (by kernel_rfl)

end Go.Proofs.YtdkjehagkmkokaaDoor.lawOnce
