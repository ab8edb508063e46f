/- The card of MountainGrown is proved: for every claim, text and size the law returns true; the conditions are those of the given row. -/
import Derived.Test.YtfklmjcjjdliiaaDoorLawClaim49
import Derived.Test.YtfklmjcjjdliiaaDoorWkMtG
import Derived.Test.YtfklmjcjjdliiaaDoorWkBend49
import Derived.Deep.Cut
namespace Go.Proofs.YtfklmjcjjdliiaaDoor.lawGrown
open Go Go.RowKit Licit
open Go.ChangeShapes Go.WideShapes Go.ChangeAt

set_option maxHeartbeats 8000000 in
set_option maxRecDepth 100000 in
theorem walk (seed leaf other : Bs) (count how at_ size : Nat) (idx fr : Int) (w : World) (hc : count < 256) (hh : how < 256) (hat : at_ < 256) (hsz : size < 256) (ht : Tab w) (hz : Tz w) :
    Calls Tryd.prog 9 #[claimV seed count idx fr how at_ leaf, .string (B other), .int .u8 (size : Int)] w fun e w' => e = .returned (.bool true) ∧ Below w.heap.size w w' := by
  have HA := Lib.hid (fun W (hb : Below w.heap.size w W) => awake_any49 W (ht.same hb) (hz.same hb))
  have dz : ((B seed).size : Int) = (seed.length : Int) := rfl
  have dy : ((B other).size : Int) = (other.length : Int) := rfl
  have HBx := Lib.hid ((Below.refl w.heap.size w).alloc (Nat.le_refl _) (.cells #[.string (B seed), .int .u8 (count : Int), .int .i64 idx, .int .i64 fr, .int .u8 (how : Int), .int .u8 (at_ : Int), .string (B leaf)] 36))
  have HXx := Lib.hid (new_of w (.cells #[.string (B seed), .int .u8 (count : Int), .int .i64 idx, .int .i64 fr, .int .u8 (how : Int), .int .u8 (at_ : Int), .string (B leaf)] 36))
  go_enter Tryd.func9, Tryd.ntmps9
  go_wp2_with fail
  refine (HA.out _ HBx.out).mono ?_
  rintro e w1 ⟨rfl, hb⟩
  have HB1 := Lib.hid (HBx.out.next hb)
  have HX1 := Lib.hid ((hb.block _ (lt_of HXx.out)).trans HXx.out)
  clear hb
  obtain ⟨k0, k1, k2, k3, k4, k5, k6⟩ := claim_cells HX1.out
  by_cases h1 : 100 < seed.length
  · have d1 : decide (100 < (seed.length : Int)) = true := by simp; omega
    go_wp2_with fail
    refine (HA.out _ HB1.out).mono ?_
    rintro e w3 ⟨rfl, hb⟩
    have HB3 := Lib.hid (HB1.out.next hb)
    clear hb
    go_wp2
    go_ret
    exact ⟨rfl, HB3.out⟩
  have d1 : decide (100 < (seed.length : Int)) = false := by simp; omega
  by_cases h1' : 100 < other.length
  · have d1' : decide (100 < (other.length : Int)) = true := by simp; omega
    go_wp2_with fail
    refine (HA.out _ HB1.out).mono ?_
    rintro e w3 ⟨rfl, hb⟩
    have HB3 := Lib.hid (HB1.out.next hb)
    clear hb
    go_wp2
    go_ret
    exact ⟨rfl, HB3.out⟩
  have d1' : decide (100 < (other.length : Int)) = false := by simp; omega
  by_cases h2 : 40 < count
  · have d2 : decide (40 < (count : Int)) = true := by simp; omega
    go_wp2_with fail
    refine (HA.out _ HB1.out).mono ?_
    rintro e w3 ⟨rfl, hb⟩
    have HB3 := Lib.hid (HB1.out.next hb)
    clear hb
    go_wp2
    go_ret
    exact ⟨rfl, HB3.out⟩
  have d2 : decide (40 < (count : Int)) = false := by simp; omega
  by_cases h3 : 40 < size
  · have d3 : decide (40 < (size : Int)) = true := by simp; omega
    go_wp2_with fail
    refine (HA.out _ HB1.out).mono ?_
    rintro e w3 ⟨rfl, hb⟩
    have HB3 := Lib.hid (HB1.out.next hb)
    clear hb
    go_wp2
    go_ret
    exact ⟨rfl, HB3.out⟩
  have d3 : decide (40 < (size : Int)) = false := by simp; omega
  have hcv : IntKind.i64.wrap (count : Int) = (count : Int) := by rw [IntKind.wrap_i64]; omega
  have hcs : IntKind.i64.wrap (size : Int) = (size : Int) := by rw [IntKind.wrap_i64]; omega
  have HLv := Lib.hid (Leaves_any seed count w1 (by omega) (by omega))
  go_wp2_with fail
  refine HLv.out.mono ?_
  rintro e w2 ⟨vl, rfl, hol, hb⟩
  have HB2 := Lib.hid (HB1.out.next hb)
  have HX2 := Lib.hid ((hb.block _ (lt_of HX1.out)).trans HX1.out)
  obtain ⟨L, hL⟩ : ∃ L, leavesM seed count = L := ⟨_, rfl⟩
  have hLl : L.length = count := by rw [← hL]; exact leavesM_len _ _
  have hL32 : ∀ x ∈ L, x.length = 32 := by rw [← hL]; exact leavesM_32 _ _
  rw [hL] at hol
  clear HLv hb hL k0 k1 k2 k3 k4 k5 k6
  subst hLl
  have hcapl : SlCap vl := SlCap.own hol
  have HOl := Lib.hid (IsSl.of_owns (xs := L.map vS) (by rw [List.length_map]; exact hol) (by rw [List.length_map]; unfold maxLen; omega))
  obtain ⟨la, lk, rfl⟩ := own_form hol
  have hLk : L.length ≤ lk := hcapl
  have HL32 := Lib.hid hL32
  have hck := checkM_zero hL32 (by omega)
  have HCk := Lib.hid hck
  obtain ⟨k, hk⟩ : ∃ k, size % (L.length + 1) = k := ⟨_, rfl⟩
  have hkL : k ≤ L.length := by rw [← hk]; have := Nat.mod_lt size (show 0 < L.length + 1 by omega); omega
  have hkc : k ≤ lk := by omega
  have hkI : (k : Int) ≤ (lk : Int) := by omega
  have hk0 : (0 : Int) ≤ (k : Int) := by omega
  have hw1 : IntKind.i64.wrap ((L.length : Int) + 1) = (L.length : Int) + 1 := by rw [IntKind.wrap_i64]; omega
  have hkm : (size : Int) % ((L.length : Int) + 1) = (k : Int) := by rw [← hk]; simp
  have hkt : (size : Int).tmod ((L.length : Int) + 1) = (k : Int) := by rw [Int.tmod_eq_emod_of_nonneg (by omega), hkm]
  have hwk : IntKind.i64.wrap (k : Int) = (k : Int) := by rw [IntKind.wrap_i64]; omega
  have hne1 : ¬ (L.length : Int) + 1 = 0 := by omega
  have htl : (L.take k).length = k := by rw [List.length_take]; omega
  have Htl := Lib.hid htl
  have hPr := RMtGrow_any _ L (k : Int) w2 HOl.out hcapl
  obtain ⟨PE, hPE⟩ : ∃ x, growE L (k : Int) = x := ⟨_, rfl⟩
  obtain ⟨PP, hPP⟩ : ∃ x, growP L (k : Int) = x := ⟨_, rfl⟩
  rw [hPE, hPP] at hPr
  have HPr := Lib.hid hPr
  have hpp : PP = growN L k L.length := by
    rw [← hPP]
    unfold growP
    rw [if_pos (show growE L (k : Int) = 0 by unfold growE; rw [if_pos hck, if_pos ⟨by omega, by omega⟩]), Int.toNat_natCast]
  have hpl : PP.length ≤ 1000 := by
    rw [hpp, growN, cutsL_len]
    have := stepsL_few k L.length hkL
    omega
  have hp32 : ∀ x ∈ PP, x.length ≤ 1000 := by
    intro x hx
    rw [hpp, growN] at hx
    have := cutsL_all _ _ (by rw [sum2_steps _ _ _ (Nat.le_refl _) hkL]; simp) (fun y hy => hL32 y (List.mem_of_mem_drop hy)) x hx
    omega
  have Hp32 := Lib.hid hp32
  clear hol hck hL32 hPr hPE hPP hpp hp32 hk htl
  go_wp2_with fail
  refine HPr.out.mono ?_
  rintro e w5 ⟨v5, rfl, ho5, hb⟩
  have HB5 := Lib.hid (HB2.out.next hb)
  have HX5 := Lib.hid ((hb.block _ (lt_of HX2.out)).trans HX2.out)
  have HO5 := Lib.hid (HOl.out.below hb)
  have HI5 := Lib.hid (IsSl.of_owns (xs := PP.map vS) (by rw [List.length_map]; exact ho5) (by rw [List.length_map]; unfold maxLen; omega))
  have hnil := NilOk.own ho5
  obtain ⟨a5, c5, rfl⟩ := own_form ho5
  obtain ⟨h8, hh8⟩ : ∃ h8, how % 8 = h8 := ⟨_, rfl⟩
  have hrm : (how : Int) % 8 = (h8 : Int) := by rw [← hh8]; simp
  have hrt : (how : Int).tmod 8 = (h8 : Int) := by rw [Int.tmod_eq_emod_of_nonneg (by omega), hrm]
  have h88 : h8 < 8 := by rw [← hh8]; exact Nat.mod_lt _ (by decide)
  have w1' : IntKind.u8.wrap (h8 : Int) = (h8 : Int) := by rw [IntKind.wrap_u8]; omega
  have w2' : IntKind.i64.wrap (h8 : Int) = (h8 : Int) := by rw [IntKind.wrap_i64]; omega
  have w3' : IntKind.i64.wrap (at_ : Int) = (at_ : Int) := by rw [IntKind.wrap_i64]; omega
  have HBe := Lib.hid (Bend49_any _ PP h8 at_ w5 HI5.out hnil hpl Hp32.out)
  clear hb ho5 hh8 hnil hkm hkt hwk hw1 hne1
  obtain ⟨k0, k1, k2, k3, k4, k5, k6⟩ := claim_cells HX5.out
  go_wp2_with fail
  refine HBe.out.mono ?_
  rintro e w6 ⟨v6, rfl, Q, hq6, hQl, hb⟩
  have HB6 := Lib.hid (HB5.out.next hb)
  have HO6 := Lib.hid (HO5.out.below hb)
  have HI6 := Lib.hid hq6
  obtain ⟨a6, c6, rfl⟩ := hq6.formMap
  clear hb hq6 k0 k1 k2 k3 k4 k5 k6 hrm hrt w1' w2' w3' h88
  have hOf := ROf_any _ L w6 HO6.out hcapl
  rw [HCk.out, show ofS L = (L.length : Int) by unfold ofS; rw [HCk.out, if_pos rfl], show ofP L = peaksOf L by unfold ofP; rw [HCk.out, if_pos rfl]] at hOf
  obtain ⟨PN, hPN⟩ : ∃ x, peaksOf L = x := ⟨_, rfl⟩
  rw [hPN] at hOf
  have HOf := Lib.hid hOf
  clear hOf
  go_wp2_with fail
  refine HOf.out.mono ?_
  rintro e w7 ⟨v4, rfl, hm4, hb⟩
  have HB7x := Lib.hid (HB6.out.next hb)
  have HM7x := Lib.hid hm4
  obtain ⟨p4, rfl, hp4, _⟩ := hm4
  obtain ⟨m7a, m7c, rfl⟩ := hp4.formMap
  obtain ⟨V7, hV⟩ : ∃ V, w7.alloc (.cells #[.int .i64 (L.length : Int), .slice m7a PN.length m7c] 31) = V := ⟨_, rfl⟩
  obtain ⟨D7, hD⟩ : ∃ D, w7.heap.size = D := ⟨_, rfl⟩
  have hbV : Below w7.heap.size w7 V7 := by rw [← hV]; exact (Below.refl _ _).alloc (Nat.le_refl _) _
  have HB7 := Lib.hid (HB7x.out.next hbV)
  have HM7 := Lib.hid (HM7x.out.below hbV)
  have HD7 := Lib.hid (show V7.heap[D7]? = some (.cells #[.int .i64 (L.length : Int), .slice m7a PN.length m7c] 31) by rw [← hD, ← hV]; exact new_of _ _)
  have Hn7 := Lib.hid (hb.trans (hbV.mono hb.size))
  clear hb hp4 hbV
  go_upto_region 8 with fail
  clear hV hD
  have HLo := Lib.hid (Leaves_any other size V7 (by omega) (by omega))
  go_wp2_with fail
  refine HLo.out.mono ?_
  rintro e w8 ⟨vo, rfl, hoo, hb⟩
  obtain ⟨O, hO⟩ : ∃ O, leavesM other size = O := ⟨_, rfl⟩
  have hOl : O.length = size := by rw [← hO]; exact leavesM_len _ _
  have hO32 : ∀ x ∈ O, x.length = 32 := by rw [← hO]; exact leavesM_32 _ _
  rw [hO] at hoo
  have HB8 := Lib.hid (HB7.out.next hb)
  have Hn8 := Lib.hid (Hn7.out.trans (hb.mono Hn7.out.size))
  have HD78 := Lib.hid ((hb.block _ (lt_of HD7.out)).trans HD7.out)
  have HM78 := Lib.hid (HM7.out.below hb)
  have hcapo : SlCap vo := SlCap.own hoo
  have hcko := checkM_zero hO32 (by omega)
  have hOfo := ROf_any _ O w8 (IsSl.of_owns (xs := O.map vS) (by rw [List.length_map, hOl]; exact hoo) (by rw [List.length_map, hOl]; unfold maxLen; omega)) hcapo
  rw [hcko, show ofS O = (size : Int) by unfold ofS; rw [hcko, if_pos rfl, hOl], show ofP O = peaksOf O by unfold ofP; rw [hcko, if_pos rfl]] at hOfo
  obtain ⟨PO, hPO⟩ : ∃ x, peaksOf O = x := ⟨_, rfl⟩
  rw [hPO] at hOfo
  obtain ⟨oa, ok, rfl⟩ := own_form hoo
  have HOfo := Lib.hid hOfo
  clear hb hO hOl hO32 hoo hcapo hcko hOfo hPO HLo
  go_wp2_with fail
  refine HOfo.out.mono ?_
  rintro e w9 ⟨v4, rfl, hm4, hb⟩
  have HB9x := Lib.hid (HB8.out.next hb)
  have HM9x := Lib.hid hm4
  obtain ⟨p4, rfl, hp4, _⟩ := hm4
  obtain ⟨m9a, m9c, rfl⟩ := hp4.formMap
  obtain ⟨V9, hV⟩ : ∃ V, w9.alloc (.cells #[.int .i64 (size : Int), .slice m9a PO.length m9c] 31) = V := ⟨_, rfl⟩
  obtain ⟨D9, hD⟩ : ∃ D, w9.heap.size = D := ⟨_, rfl⟩
  have hbV : Below w9.heap.size w9 V9 := by rw [← hV]; exact (Below.refl _ _).alloc (Nat.le_refl _) _
  have HB9 := Lib.hid (HB9x.out.next hbV)
  have HM9 := Lib.hid (HM9x.out.below hbV)
  have HD9 := Lib.hid (show V9.heap[D9]? = some (.cells #[.int .i64 (size : Int), .slice m9a PO.length m9c] 31) by rw [← hD, ← hV]; exact new_of _ _)
  have Hn9 := Lib.hid (hb.trans (hbV.mono hb.size))
  clear hb hp4 hbV
  go_upto_region 9 with fail
  clear hV hD
  have hckt := checkM_zero (l := L.take k) (fun x hx => HL32.out x (List.mem_of_mem_take hx)) (by rw [Htl.out]; omega)
  have HO9 := Lib.hid (((HO6.out.below Hn8.out).below Hn9.out))
  have hOft := ROf_any (.slice la k lk) (L.take k) V9 (isSl_takes HO9.out hkL) (by show k ≤ lk; exact hkc)
  rw [hckt, show ofS (L.take k) = (k : Int) by unfold ofS; rw [hckt, if_pos rfl, Htl.out], show ofP (L.take k) = peaksOf (L.take k) by unfold ofP; rw [hckt, if_pos rfl]] at hOft
  obtain ⟨PF, hPF⟩ : ∃ x, peaksOf (L.take k) = x := ⟨_, rfl⟩
  rw [hPF] at hOft
  have HOft := Lib.hid hOft
  clear hckt hOft hPF
  go_wp2_with fail
  refine HOft.out.mono ?_
  rintro e w10 ⟨v4, rfl, hm4, hb⟩
  have HB10x := Lib.hid (HB9.out.next hb)
  have HM10x := Lib.hid hm4
  obtain ⟨p4, rfl, hp4, _⟩ := hm4
  obtain ⟨m10a, m10c, rfl⟩ := hp4.formMap
  obtain ⟨W, hV⟩ : ∃ V, w10.alloc (.cells #[.int .i64 (k : Int), .slice m10a PF.length m10c] 31) = V := ⟨_, rfl⟩
  obtain ⟨DF, hD⟩ : ∃ D, w10.heap.size = D := ⟨_, rfl⟩
  have hbV : Below w10.heap.size w10 W := by rw [← hV]; exact (Below.refl _ _).alloc (Nat.le_refl _) _
  have HB10 := Lib.hid (HB10x.out.next hbV)
  have HM10 := Lib.hid (HM10x.out.below hbV)
  have HD10 := Lib.hid (show W.heap[DF]? = some (.cells #[.int .i64 (k : Int), .slice m10a PF.length m10c] 31) by rw [← hD, ← hV]; exact new_of _ _)
  have Hn10 := Lib.hid (hb.trans (hbV.mono hb.size))
  clear hb hp4 hbV
  go_upto_region 10 with fail
  clear hV hD
  have HDN := Lib.hid ((Hn10.out.block _ (Nat.lt_of_lt_of_le (lt_of HD78.out) Hn9.out.size)).trans ((Hn9.out.block _ (lt_of HD78.out)).trans HD78.out))
  have HDO := Lib.hid ((Hn10.out.block _ (lt_of HD9.out)).trans HD9.out)
  have HMN := Lib.hid ((HM78.out.below Hn9.out).below Hn10.out)
  have HMO := Lib.hid (HM9.out.below Hn10.out)
  have HIW := Lib.hid (((HI6.out.below Hn8.out).below Hn9.out).below Hn10.out)
  have HS := Lib.hid (show ∀ Wc, Below W.heap.size W Wc → (fun W : World => (W.cell? ⟨D7, 0, none⟩ = some (.int .i64 (L.length : Int)) ∧ W.cell? ⟨D7, 1, none⟩ = some (.slice m7a PN.length m7c)) ∧ (W.cell? ⟨D9, 0, none⟩ = some (.int .i64 (size : Int)) ∧ W.cell? ⟨D9, 1, none⟩ = some (.slice m9a PO.length m9c)) ∧ W.cell? ⟨DF, 0, none⟩ = some (.int .i64 (k : Int)) ∧ W.cell? ⟨DF, 1, none⟩ = some (.slice m10a PF.length m10c)) Wc from
    fun Wc hb => ⟨⟨(hb.cell (lt_of HDN.out)).trans (mtC HDN.out).1, (hb.cell (lt_of HDN.out)).trans (mtC HDN.out).2⟩, ⟨(hb.cell (lt_of HDO.out)).trans (mtC HDO.out).1, (hb.cell (lt_of HDO.out)).trans (mtC HDO.out).2⟩, (hb.cell (lt_of HD10.out)).trans (mtC HD10.out).1, (hb.cell (lt_of HD10.out)).trans (mtC HD10.out).2⟩)
  have HI1 := Lib.hid (fun u V (hb : Below W.heap.size W V) (hu : IsSl u (Q.map vS) V) => Grown_any _ _ u (k : Int) (L.length : Int) PF PN Q V (HM10.out.below hb) (HMN.out.below hb) hu (by omega) (ht.same (HB10.out.next hb)) (hz.same (HB10.out.next hb)))
  have HI2 := Lib.hid (fun u V (hb : Below W.heap.size W V) (hu : IsSl u (Q.map vS) V) => Grown_any _ _ u (size : Int) (L.length : Int) PO PN Q V (HMO.out.below hb) (HMN.out.below hb) hu (by omega) (ht.same (HB10.out.next hb)) (hz.same (HB10.out.next hb)))
  have HR1 := Lib.hid (fun u V (hb : Below W.heap.size W V) (hu : IsSl u (Q.map vS) V) => RGrown_any _ _ u (k : Int) (L.length : Int) PF PN Q V (HM10.out.below hb) (HMN.out.below hb) hu)
  have HR2 := Lib.hid (fun u V (hb : Below W.heap.size W V) (hu : IsSl u (Q.map vS) V) => RGrown_any _ _ u (size : Int) (L.length : Int) PO PN Q V (HMO.out.below hb) (HMN.out.below hb) hu)
  obtain ⟨G1, hG1⟩ : ∃ G, grownB (k : Int) PF (L.length : Int) PN Q = G := ⟨_, rfl⟩
  obtain ⟨G2, hG2⟩ : ∃ G, grownB (size : Int) PO (L.length : Int) PN Q = G := ⟨_, rfl⟩
  rw [hG1] at HI1 HR1
  rw [hG2] at HI2 HR2
  clear hG1 hG2
  refine wp_region_held_drew (S := (fun W : World => (W.cell? ⟨D7, 0, none⟩ = some (.int .i64 (L.length : Int)) ∧ W.cell? ⟨D7, 1, none⟩ = some (.slice m7a PN.length m7c)) ∧ (W.cell? ⟨D9, 0, none⟩ = some (.int .i64 (size : Int)) ∧ W.cell? ⟨D9, 1, none⟩ = some (.slice m9a PO.length m9c)) ∧ W.cell? ⟨DF, 0, none⟩ = some (.int .i64 (k : Int)) ∧ W.cell? ⟨DF, 1, none⟩ = some (.slice m10a PF.length m10c))) (by kernel_rfl) (HS.out _ (dr (Below.refl _ _))) (fun hHeld => ?_)
  have HF0 := Lib.hid (show Below W.heap.size W W.drew from dr (Below.refl _ _))
  refine take_at 0 87 (oi := ?o1) (v := ?v1) ?hi1 ?hd1 (by kernel_rfl) (by kernel_rfl) (by kernel_rfl) ?hQ1 ?hw1 ?hy1 (by assumption) ?rest1
  case hi1 => simp only [List.getElem?_toArray, List.getElem?_cons_zero]; rfl
  case hd1 => rfl
  case hw1 => kernel_rfl
  case hy1 => intro W hW; (try dsimp only at hW); go_simp <;> with_reducible rfl
  case hQ1 => exact fun _ _ _ h => h
  try simp only [Act.put, List.setIfInBounds_toArray, List.set_cons_zero, List.set_cons_succ]
  refine take_at 1 88 (oi := ?o2) (v := ?v2) ?hi2 ?hd2 (by kernel_rfl) (by kernel_rfl) (by kernel_rfl) ?hQ2 ?hw2 ?hy2 (by assumption) ?rest2
  case hi2 => simp only [List.getElem?_toArray, List.getElem?_cons_succ, List.getElem?_cons_zero]; rfl
  case hd2 => rfl
  case hw2 => kernel_rfl
  case hy2 => intro W hW; (try dsimp only at hW); go_simp <;> with_reducible rfl
  case hQ2 => exact fun _ _ _ h => h
  try simp only [Act.put, List.setIfInBounds_toArray, List.set_cons_zero, List.set_cons_succ]
  refine take_at 2 89 (oi := ?o3) (v := ?v3) ?hi3 ?hd3 (by kernel_rfl) (by kernel_rfl) (by kernel_rfl) ?hQ3 ?hw3 ?hy3 (by assumption) ?rest3
  case hi3 => simp only [List.getElem?_toArray, List.getElem?_cons_succ, List.getElem?_cons_zero]; rfl
  case hd3 => rfl
  case hw3 => kernel_rfl
  case hy3 => intro W hW; (try dsimp only at hW); go_simp <;> with_reducible rfl
  case hQ3 => exact fun _ _ _ h => h
  try simp only [Act.put, List.setIfInBounds_toArray, List.set_cons_zero, List.set_cons_succ]
  refine take_at 5 92 (oi := ?o4) (v := ?v4) ?hi4 ?hd4 (by kernel_rfl) (by kernel_rfl) (by kernel_rfl) ?hQ4 ?hw4 ?hy4 (by assumption) ?rest4
  case hi4 => simp only [List.getElem?_toArray, List.getElem?_cons_succ, List.getElem?_cons_zero]; rfl
  case hd4 => rfl
  case hw4 => kernel_rfl
  case hy4 => intro W hW; (try dsimp only at hW); go_simp <;> with_reducible rfl
  case hQ4 => exact fun _ _ _ h => h
  try simp only [Act.put, List.setIfInBounds_toArray, List.set_cons_zero, List.set_cons_succ]
  refine take_at 6 93 (oi := ?o5) (v := ?v5) ?hi5 ?hd5 (by kernel_rfl) (by kernel_rfl) (by kernel_rfl) ?hQ5 ?hw5 ?hy5 (by assumption) ?rest5
  case hi5 => simp only [List.getElem?_toArray, List.getElem?_cons_succ, List.getElem?_cons_zero]; rfl
  case hd5 => rfl
  case hw5 => kernel_rfl
  case hy5 => intro W hW; (try dsimp only at hW); go_simp <;> with_reducible rfl
  case hQ5 => exact fun _ _ _ h => h
  try simp only [Act.put, List.setIfInBounds_toArray, List.set_cons_zero, List.set_cons_succ]
  refine take_at 7 94 (oi := ?o6) (v := ?v6) ?hi6 ?hd6 (by kernel_rfl) (by kernel_rfl) (by kernel_rfl) ?hQ6 ?hw6 ?hy6 (by assumption) ?rest6
  case hi6 => simp only [List.getElem?_toArray, List.getElem?_cons_succ, List.getElem?_cons_zero]; rfl
  case hd6 => rfl
  case hw6 => kernel_rfl
  case hy6 => intro W hW; (try dsimp only at hW); go_simp <;> with_reducible rfl
  case hQ6 => exact fun _ _ _ h => h
  try simp only [Act.put, List.setIfInBounds_toArray, List.set_cons_zero, List.set_cons_succ]
  refine wpAnyH_ready (rs := [3]) (by kernel_rfl) (by simp) ?_
  refine AllReadyH.cons rfl (fun K hK => ?_) AllReadyH.nil
  go_simp
  refine (CloneS_any _ Q _ (HIW.out.below HF0.out) (by omega)).mono ?_
  rintro e q1 ⟨v1, rfl, ho, hb⟩
  have HF1 := Lib.hid (HF0.out.trans (hb.mono HF0.out.size))
  have HQ1 := Lib.hid (IsSl.of_owns (xs := Q.map vS) (by rw [List.length_map]; exact ho) (by rw [List.length_map]; unfold maxLen; omega))
  obtain ⟨v1a, v1k, rfl⟩ := own_form ho
  clear hb ho
  refine hK.out _ _ (HS.out _ HF1.out) (fun hHeld => ?_)
  clear hK K
  try simp only [Act.put, List.setIfInBounds_toArray, List.set_cons_zero, List.set_cons_succ]
  refine wpAnyH_ready (rs := [4]) (by kernel_rfl) (by simp) ?_
  refine AllReadyH.cons rfl (fun K hK => ?_) AllReadyH.nil
  go_simp
  refine (HI1.out _ _ HF1.out HQ1.out).mono ?_
  rintro e q2 ⟨rfl, hb⟩
  have HF2 := Lib.hid (HF1.out.trans (hb.mono HF1.out.size))
  clear hb
  refine hK.out _ _ (HS.out _ HF2.out) (fun hHeld => ?_)
  clear hK K
  try simp only [Act.put, List.setIfInBounds_toArray, List.set_cons_zero, List.set_cons_succ]
  have HQ2 := Lib.hid (HIW.out.below HF2.out)
  refine wpAnyH_ready (rs := [8]) (by kernel_rfl) (by simp) ?_
  refine AllReadyH.cons rfl (fun K hK => ?_) AllReadyH.nil
  go_simp
  refine (HR1.out _ _ HF2.out HQ2.out).mono ?_
  rintro e q3 ⟨rfl, hb⟩
  have HF3 := Lib.hid (HF2.out.trans (hb.mono HF2.out.size))
  clear hb
  refine hK.out _ _ (HS.out _ HF3.out) (fun hHeld => ?_)
  clear hK K
  try simp only [Act.put, List.setIfInBounds_toArray, List.set_cons_zero, List.set_cons_succ]
  refine take_at 9 96 (oi := ?o7) (v := ?v7) ?hi7 ?hd7 (by kernel_rfl) (by kernel_rfl) (by kernel_rfl) ?hQ7 ?hw7 ?hy7 (by assumption) ?rest7
  case hi7 => simp only [List.getElem?_toArray, List.getElem?_cons_succ, List.getElem?_cons_zero]; rfl
  case hd7 => rfl
  case hw7 => kernel_rfl
  case hy7 => intro W hW; (try dsimp only at hW); go_simp <;> with_reducible rfl
  case hQ7 => exact fun _ _ _ h => h
  try simp only [Act.put, List.setIfInBounds_toArray, List.set_cons_zero, List.set_cons_succ]
  refine take_at 10 97 (oi := ?o8) (v := ?v8) ?hi8 ?hd8 (by kernel_rfl) (by kernel_rfl) (by kernel_rfl) ?hQ8 ?hw8 ?hy8 (by assumption) ?rest8
  case hi8 => simp only [List.getElem?_toArray, List.getElem?_cons_succ, List.getElem?_cons_zero]; rfl
  case hd8 => rfl
  case hw8 => kernel_rfl
  case hy8 => intro W hW; (try dsimp only at hW); go_simp <;> with_reducible rfl
  case hQ8 => exact fun _ _ _ h => h
  try simp only [Act.put, List.setIfInBounds_toArray, List.set_cons_zero, List.set_cons_succ]
  refine take_at 11 98 (oi := ?o9) (v := ?v9) ?hi9 ?hd9 (by kernel_rfl) (by kernel_rfl) (by kernel_rfl) ?hQ9 ?hw9 ?hy9 (by assumption) ?rest9
  case hi9 => simp only [List.getElem?_toArray, List.getElem?_cons_succ, List.getElem?_cons_zero]; rfl
  case hd9 => rfl
  case hw9 => kernel_rfl
  case hy9 => intro W hW; (try dsimp only at hW); go_simp <;> with_reducible rfl
  case hQ9 => exact fun _ _ _ h => h
  try simp only [Act.put, List.setIfInBounds_toArray, List.set_cons_zero, List.set_cons_succ]
  refine take_at 12 99 (oi := ?o10) (v := ?v10) ?hi10 ?hd10 (by kernel_rfl) (by kernel_rfl) (by kernel_rfl) ?hQ10 ?hw10 ?hy10 (by assumption) ?rest10
  case hi10 => simp only [List.getElem?_toArray, List.getElem?_cons_succ, List.getElem?_cons_zero]; rfl
  case hd10 => rfl
  case hw10 => kernel_rfl
  case hy10 => intro W hW; (try dsimp only at hW); go_simp <;> with_reducible rfl
  case hQ10 => exact fun _ _ _ h => h
  try simp only [Act.put, List.setIfInBounds_toArray, List.set_cons_zero, List.set_cons_succ]
  refine take_at 13 100 (oi := ?o11) (v := ?v11) ?hi11 ?hd11 (by kernel_rfl) (by kernel_rfl) (by kernel_rfl) ?hQ11 ?hw11 ?hy11 (by assumption) ?rest11
  case hi11 => simp only [List.getElem?_toArray, List.getElem?_cons_succ, List.getElem?_cons_zero]; rfl
  case hd11 => rfl
  case hw11 => kernel_rfl
  case hy11 => intro W hW; (try dsimp only at hW); go_simp <;> with_reducible rfl
  case hQ11 => exact fun _ _ _ h => h
  try simp only [Act.put, List.setIfInBounds_toArray, List.set_cons_zero, List.set_cons_succ]
  refine take_at 16 103 (oi := ?o12) (v := ?v12) ?hi12 ?hd12 (by kernel_rfl) (by kernel_rfl) (by kernel_rfl) ?hQ12 ?hw12 ?hy12 (by assumption) ?rest12
  case hi12 => simp only [List.getElem?_toArray, List.getElem?_cons_succ, List.getElem?_cons_zero]; rfl
  case hd12 => rfl
  case hw12 => kernel_rfl
  case hy12 => intro W hW; (try dsimp only at hW); go_simp <;> with_reducible rfl
  case hQ12 => exact fun _ _ _ h => h
  try simp only [Act.put, List.setIfInBounds_toArray, List.set_cons_zero, List.set_cons_succ]
  refine take_at 17 104 (oi := ?o13) (v := ?v13) ?hi13 ?hd13 (by kernel_rfl) (by kernel_rfl) (by kernel_rfl) ?hQ13 ?hw13 ?hy13 (by assumption) ?rest13
  case hi13 => simp only [List.getElem?_toArray, List.getElem?_cons_succ, List.getElem?_cons_zero]; rfl
  case hd13 => rfl
  case hw13 => kernel_rfl
  case hy13 => intro W hW; (try dsimp only at hW); go_simp <;> with_reducible rfl
  case hQ13 => exact fun _ _ _ h => h
  try simp only [Act.put, List.setIfInBounds_toArray, List.set_cons_zero, List.set_cons_succ]
  refine take_at 18 105 (oi := ?o14) (v := ?v14) ?hi14 ?hd14 (by kernel_rfl) (by kernel_rfl) (by kernel_rfl) ?hQ14 ?hw14 ?hy14 (by assumption) ?rest14
  case hi14 => simp only [List.getElem?_toArray, List.getElem?_cons_succ, List.getElem?_cons_zero]; rfl
  case hd14 => rfl
  case hw14 => kernel_rfl
  case hy14 => intro W hW; (try dsimp only at hW); go_simp <;> with_reducible rfl
  case hQ14 => exact fun _ _ _ h => h
  try simp only [Act.put, List.setIfInBounds_toArray, List.set_cons_zero, List.set_cons_succ]
  refine wpAnyH_ready (rs := [14]) (by kernel_rfl) (by simp) ?_
  refine AllReadyH.cons rfl (fun K hK => ?_) AllReadyH.nil
  go_simp
  refine (CloneS_any _ Q _ (HIW.out.below HF3.out) (by omega)).mono ?_
  rintro e q4 ⟨v4, rfl, ho, hb⟩
  have HF4 := Lib.hid (HF3.out.trans (hb.mono HF3.out.size))
  have HQ4 := Lib.hid (IsSl.of_owns (xs := Q.map vS) (by rw [List.length_map]; exact ho) (by rw [List.length_map]; unfold maxLen; omega))
  obtain ⟨v4a, v4k, rfl⟩ := own_form ho
  clear hb ho
  refine hK.out _ _ (HS.out _ HF4.out) (fun hHeld => ?_)
  clear hK K
  try simp only [Act.put, List.setIfInBounds_toArray, List.set_cons_zero, List.set_cons_succ]
  refine wpAnyH_ready (rs := [15]) (by kernel_rfl) (by simp) ?_
  refine AllReadyH.cons rfl (fun K hK => ?_) AllReadyH.nil
  go_simp
  refine (HI2.out _ _ HF4.out HQ4.out).mono ?_
  rintro e q5 ⟨rfl, hb⟩
  have HF5 := Lib.hid (HF4.out.trans (hb.mono HF4.out.size))
  clear hb
  refine hK.out _ _ (HS.out _ HF5.out) (fun hHeld => ?_)
  clear hK K
  try simp only [Act.put, List.setIfInBounds_toArray, List.set_cons_zero, List.set_cons_succ]
  have HQ5 := Lib.hid (HIW.out.below HF5.out)
  refine wpAnyH_ready (rs := [19]) (by kernel_rfl) (by simp) ?_
  refine AllReadyH.cons rfl (fun K hK => ?_) AllReadyH.nil
  go_simp
  refine (HR2.out _ _ HF5.out HQ5.out).mono ?_
  rintro e q6 ⟨rfl, hb⟩
  have HF6 := Lib.hid (HF5.out.trans (hb.mono HF5.out.size))
  clear hb
  refine hK.out _ _ (HS.out _ HF6.out) (fun hHeld => ?_)
  clear hK K
  try simp only [Act.put, List.setIfInBounds_toArray, List.set_cons_zero, List.set_cons_succ]
  refine take_at 20 107 (oi := ?o15) (v := ?v15) ?hi15 ?hd15 (by kernel_rfl) (by kernel_rfl) (by kernel_rfl) ?hQ15 ?hw15 ?hy15 (by assumption) ?rest15
  case hi15 => simp only [List.getElem?_toArray, List.getElem?_cons_succ, List.getElem?_cons_zero]; rfl
  case hd15 => rfl
  case hw15 => kernel_rfl
  case hy15 => intro W hW; (try dsimp only at hW); go_simp <;> with_reducible rfl
  case hQ15 => exact fun _ _ _ h => h
  try simp only [Act.put, List.setIfInBounds_toArray, List.set_cons_zero, List.set_cons_succ]
  refine take_at 21 108 (oi := ?o16) (v := ?v16) ?hi16 ?hd16 (by kernel_rfl) (by kernel_rfl) (by kernel_rfl) ?hQ16 ?hw16 ?hy16 (by assumption) ?rest16
  case hi16 => simp only [List.getElem?_toArray, List.getElem?_cons_succ, List.getElem?_cons_zero]; rfl
  case hd16 => rfl
  case hw16 => kernel_rfl
  case hy16 => intro W hW; (try dsimp only at hW); go_simp <;> with_reducible rfl
  case hQ16 => exact fun _ _ _ h => h
  try simp only [Act.put, List.setIfInBounds_toArray, List.set_cons_zero, List.set_cons_succ]
  refine take_at 22 6 (oi := ?o17) (v := ?v17) ?hi17 ?hd17 (by kernel_rfl) (by kernel_rfl) (by kernel_rfl) ?hQ17 ?hw17 ?hy17 (by assumption) ?rest17
  case hi17 => simp only [List.getElem?_toArray, List.getElem?_cons_succ, List.getElem?_cons_zero]; rfl
  case hd17 => rfl
  case hw17 => kernel_rfl
  case hy17 => intro W hW; (try dsimp only at hW); go_simp <;> with_reducible rfl
  case hQ17 => exact fun _ _ _ h => h
  try simp only [Act.put, List.setIfInBounds_toArray, List.set_cons_zero, List.set_cons_succ]
  refine wpAnyH_done (by kernel_rfl) ?_ _
  try simp only [Exit.then]
  go_wp2
  go_ret
  exact ⟨rfl, HB10.out.next HF6.out⟩

section
variable {H : Type} {enc : TypeId × Value → H} {W : World} {base : Nat} {held : Bool} {v : Value} {d : DataW H} {ps : List MemPlace}
set_option maxRecDepth 100000 in
theorem u8_in {b0 : Nat} {r : Reach} (hval : Value.okWide Tryd.prog W r b0 5 v) {sp : Nat → Bool} (hd : DataW.Trod enc Tryd.prog W base sp held 5 v d ps) : ∃ n : Nat, v = .int .u8 (n : Int) ∧ n < 256 := by
  obtain ⟨ct, rfl, _, _, hwf⟩ := open_int Tryd.underlying5 hval hd
  have b1 := u8_of hwf
  exact ⟨ct.toNat, by rw [Int.toNat_of_nonneg b1.1], by omega⟩
end
set_option maxRecDepth 100000 in
theorem contract (H : Type) (enc : TypeId × Value → H) (W : World) (base : Nat) (args : Array Value) (ds gs : List (DataW H)) (before : List MemPlace)
    (hval : ∀ (j : Nat) t v, Tryd.f9.params[j]? = some t → args[j]? = some v → Value.okWide Tryd.prog W .any base t v)
    (hW : DataW.Whole enc Tryd.prog Tryd.f9.params.toList Rows.mountainGrownSpec.vars false W args.toList ds gs before) (hL : laidMetH Tryd.prog Rows.mountainGrownRow.laid W) :
    Calls Tryd.prog 9 args W fun e W' => ∃ v, e = .returned v ∧ Rows.mountainGrownSpec.post enc Tryd.prog Tryd.f9 false true false false W args v W' := by
  have hW' := hW
  obtain ⟨p, q, hA0, hV, rfl, hfz, hnd⟩ := hW
  have hA : DataW.TrodAll enc Tryd.prog W 0 (fun _ => true) true Tryd.f9.params.toList args.toList ds p := hA0
  rw [Tryd.params9] at hA hval
  obtain ⟨v0, vs0, d0, ds0, p0, q0, hargs, rfl, rfl, h0, r0⟩ := trodAll_cons hA
  obtain ⟨v1, vs1, d1, ds1, p1, q1, rfl, rfl, rfl, h1, r1⟩ := trodAll_cons r0
  obtain ⟨v2, vs2, d2, ds2, p2, q2, rfl, rfl, rfl, h2, r2⟩ := trodAll_cons r1
  obtain ⟨rfl, rfl, rfl⟩ := trodAll_nil r2
  obtain rfl : args = #[v0, v1, v2] := by cases args; simp_all
  obtain ⟨rfl, rfl⟩ := trodVars_none hV
  obtain ⟨seed, count, idx, fr, how, at_, leaf, rfl, _, hl, hc, hh, hat⟩ := claim_in (hval 0 36 v0 rfl rfl) h0
  obtain ⟨other, rfl, _⟩ := str_in (hval 1 9 v1 rfl rfl) h1
  obtain ⟨size, rfl, hsz⟩ := u8_in (hval 2 5 v2 rfl rfl) h2
  refine (walk seed leaf other count how at_ size idx fr W hc hh hat hsz (tab_of hL) (tz_of hL)).mono fun e W' ⟨he, hb⟩ => ⟨_, he, ?_⟩
  exact law_post hW' rfl (by kernel_rfl) (by kernel_rfl) rfl hb

theorem laid_met (os : Os) : laidMet Tryd.prog Rows.mountainGrownRow.laid ((laidWorld os).forCall (fun _ _ => 0) ⟨#[], #[.agg #[.string ⟨#[]⟩, .int .u8 0, .int .i64 0, .int .i64 0, .int .u8 0, .int .u8 0, .string ⟨#[]⟩], .string ⟨#[]⟩, .int .u8 0], []⟩).memory :=
  laidMet_of_run' 8 (by kernel_rfl) (by kernel_rfl)
theorem reads (os : Os) {H : Type} (enc : TypeId × Value → H) : ∃ places, DataW.whole enc Tryd.prog ((laidWorld os).forCall (fun _ _ => 0) ⟨#[], #[.agg #[.string ⟨#[]⟩, .int .u8 0, .int .i64 0, .int .i64 0, .int .u8 0, .int .u8 0, .string ⟨#[]⟩], .string ⟨#[]⟩, .int .u8 0], []⟩).memory Tryd.f9.params.toList Rows.mountainGrownSpec.vars false (#[.agg #[.string ⟨#[]⟩, .int .u8 0, .int .i64 0, .int .i64 0, .int .u8 0, .int .u8 0, .string ⟨#[]⟩], .string ⟨#[]⟩, .int .u8 0] : Array Value).toList 8 = some ([.agg [.lit (.string []), .lit (.int .u8 0), .lit (.int .i64 0), .lit (.int .i64 0), .lit (.int .u8 0), .lit (.int .u8 0), .lit (.string [])], .lit (.string []), .lit (.int .u8 0)], [], places) :=
  ⟨[], by kernel_rfl⟩

set_option maxRecDepth 100000 in
theorem lifted (os : Os) (started : os.Started) (H : Type) (enc : TypeId × Value → H) (F : Stop.Interp) :
    ReturnsInHanded {} Tryd.checked os 9 .any ((OpenSpec.ofChange Rows.mountainGrownSpec).preRow enc Tryd.prog Tryd.f9 Rows.mountainGrownRow.domain false Rows.mountainGrownRow.laid) (((OpenSpec.ofChange Rows.mountainGrownSpec).at F).post enc Tryd.prog Tryd.f9 false true false false) := by
  obtain ⟨places, hx⟩ := reads os enc
  refine returnsInHanded_of_row (C := Tryd.checked) (s := OpenSpec.ofChange Rows.mountainGrownSpec) own started (by kernel_rfl) Tryd.func9
    (witness_row_at (enc := enc) (C := Tryd.checked) false (laidWorld os) #[.agg #[.string ⟨#[]⟩, .int .u8 0, .int .i64 0, .int .i64 0, .int .u8 0, .int .u8 0, .string ⟨#[]⟩], .string ⟨#[]⟩, .int .u8 0] rfl (by kernel_rfl) (by kernel_rfl) (by kernel_rfl)
      (OpenSpec.preRow_of_cond 8 hx (by kernel_rfl) (fun k hk => by cases hk) (by kernel_rfl) (laid_met os))) ?_
  intro W base args ds gs before hval hW _ _ _ hL _ _
  exact contract H enc W base args ds gs before hval hW hL

set_option maxRecDepth 100000 in
theorem said : Rows.MountainGrownSaid :=
  OpenClaim.holds_of_cond 9 Tryd.f9 rfl rfl rfl rfl rfl rfl rfl ⟨rfl, rfl, rfl, rfl, rfl⟩ rfl rfl rfl rfl rfl (by kernel_rfl) Tryd.func9 (by kernel_rfl)
    (of_decide_eq_true (by kernel_rfl)) (by unfold Func.isWrapper; first | (rw [if_pos (by decide +kernel)]; kernel_rfl) | (rw [if_neg (by decide +kernel)]; exact ⟨rfl, rfl⟩))
    (fun os started H enc _ F => by rw [OpenClaim.pre_eq_preRow]; exact lifted os started H enc F)

/-- No parameter wants a stand-in; the program's own looks are off. -/
theorem plain (f : FuncId) (fn : Func) (hf : Tryd.pinned.checked.prog.funcNamed "licit/licitlaw49.MountainGrown" = some f) (hfn : Tryd.pinned.checked.prog.funcs[f]? = some fn) :
    false = Tryd.pinned.checked.prog.looks [] ∧ ∀ (j : Nat) t, fn.params[j]? = some t → Tryd.pinned.checked.prog.wantsStandIn t = false := by
  obtain rfl : f = 9 := Option.some.inj ((show Tryd.prog.funcNamed "licit/licitlaw49.MountainGrown" = some 9 by kernel_rfl).symm.trans hf) |>.symm
  obtain rfl : fn = Tryd.f9 := (Option.some.inj (Tryd.func9.symm.trans hfn)).symm
  refine ⟨by kernel_rfl, fun j t ht => ?_⟩
  have hall : Tryd.f9.params.toList.all (fun t => !Tryd.prog.wantsStandIn t) = true := by kernel_rfl
  have := List.all_eq_true.1 hall t (Array.mem_toList_iff.2 (Array.mem_of_getElem? ht))
  exact (by simpa using this : Tryd.prog.wantsStandIn t = false)

theorem card : Rows.MountainGrownCardSaid :=
  Claim7.holds_tied_plain_at .later [] _ _ _ _ said (fun _ h => by cases h) (by kernel_rfl) (fun _ h => by cases h) mountainGrown_row_tie rfl ⟨rfl, rfl⟩ (by kernel_rfl) rfl plain (by kernel_rfl)

end Go.Proofs.YtfklmjcjjdliiaaDoor.lawGrown
