/- Sign of the reference of lamport is the plain signature. -/
import Derived.Test.YtdkjehagkmkokaaDoorWkRefBits
import Derived.Test.YtdkjehagkmkokaaDoorWkSigners
namespace Go.Proofs.YtdkjehagkmkokaaDoor
open Go Go.RowKit Licit

theorem RPub_drew (s : Bs) (hs : s.length ≤ maxLen) (W : World) : Calls Tryd.prog 41 #[.slice (some ⟨W.heap.size, 0, none⟩) 2 2] (W.alloc (.cells #[.string ⟨#[112, 117, 98, 108, 105, 99]⟩, .string (B s)] 9)) fun e w' => e = .returned (.string (B (pubB s))) ∧ Below W.heap.size W w' := RPub_built s hs W
set_option maxHeartbeats 4000000 in
set_option maxRecDepth 100000 in
theorem RSign_any (seed m : Bs) (b h i : Nat) (w : World) (hs : seed.length ≤ maxLen) (hm : m.length ≤ 1000000000000) (hk : keyOk (b : Int) (h : Int) = true) (hi : i < 2 ^ h) :
    Calls Tryd.prog 17 #[.string (B seed), .agg #[.int .i64 (b : Int), .int .i64 (h : Int)], .int .i64 (i : Int), .string (B m)] w fun e w' =>
      ∃ v, e = .returned (.tuple #[v, .int .i64 0]) ∧ IsSig w.heap.size v (i : Int) (shownN seed (Sha.sha m) (i : Int) b) (hiddenN seed (Sha.sha m) (i : Int) b) (routeN seed b h i h) w' ∧ Below w.heap.size w w' := by
  have hk' : 8 ≤ (b : Int) ∧ (b : Int) ≤ 256 ∧ 0 ≤ (h : Int) ∧ (h : Int) ≤ 6 := by simpa [keyOk] using hk
  have hb : b ≤ 256 := by omega
  have hb8 : 8 ≤ b := by omega
  have hh : h ≤ 6 := by omega
  clear hk'
  have HV := Lib.hid (fun W => RValid_yes (b : Int) (h : Int) W hk)
  have HCnt := Lib.hid (fun W => RCount_any (b : Int) h W hh)
  obtain ⟨i0, hi0, hz0, hz1, hz2⟩ := info_parts Tryd.infoStr
  have Hi := Lib.hid hi0
  have Hz0 := Lib.hid hz0
  have Hz1 := Lib.hid hz1
  have Hz2 := Lib.hid hz2
  clear hi0 hz0 hz1 hz2 hk
  obtain ⟨d, hd⟩ : ∃ d, Sha.sha m = d := ⟨_, rfl⟩
  have HBt := Lib.hid (fun W => RBits_any m b W hm hb)
  rw [hd] at HBt
  rw [hd]
  clear hd
  have Hii := Lib.hid hi
  have hi64 : i < 64 := Nat.lt_of_lt_of_le hi (Nat.le_trans (Nat.pow_le_pow_right (by decide) hh) (by decide : 2 ^ 6 ≤ 64))
  obtain ⟨n, hn⟩ : ∃ n, 2 ^ h = n := ⟨_, rfl⟩
  rw [hn] at HCnt hi
  have d1 : decide (n ≤ i) = false := by simp; omega
  have d2 : decide ((i : Int) < 0) = false := by simp
  clear hn hi
  go_enter Tryd.func17, Tryd.ntmps17
  go_wp2_with (first
    | (go_at_call 16; go_loud (
       refine (HV.out _).mono ?_
       rintro e w1 ⟨rfl, hb1⟩
       have hk1 : w1.heap[w.heap.size]? = some (.cells #[.int .i64 (b : Int), .int .i64 (h : Int)] 23) := (hb1.block _ (by simp; omega)).trans (old_of (new_of _ _))
       have hr1 : w1.heap[w.heap.size + 1]? = some (.cells #[.int .i64 0, .slice none 0 0, .slice none 0 0, .slice none 0 0] 34) := (hb1.block _ (by simp)).trans (new_at (by simp) rfl)
       obtain ⟨c0, c1⟩ := keyC hk1
       have HB1 := Lib.hid ((((Below.refl _ _).alloc (Nat.le_refl _) _).alloc (by simp) _).next hb1)
       have HK1 := Lib.hid hk1
       have HR1 := Lib.hid hr1
       clear hb1 hk1 hr1))
    | (go_at_call 22; refine (HCnt.out _).mono ?_; rintro e w2 ⟨rfl, hb2⟩
       have hk2 := (hb2.block _ (lt_of HK1.out)).trans HK1.out
       have hr2 := (hb2.block _ (lt_of HR1.out)).trans HR1.out
       obtain ⟨e0, e1⟩ := keyC hk2
       have HB2 := Lib.hid (HB1.out.next hb2)
       have HK2 := Lib.hid hk2
       have HR2 := Lib.hid hr2
       have hlt2 := lt_of hr2
       have hlt2' : w.heap.size < w2.heap.size := lt_of hk2
       clear hb2 hk2 hr2)
    | (go_at_call 39; refine (HBt.out _).mono ?_; rintro e w3 ⟨mv, rfl, hm3, hb3⟩
       have hk3 : w3.heap[w.heap.size]? = some (.cells #[.int .i64 (b : Int), .int .i64 (h : Int)] 23) := (hb3.block _ (by have := lt_of HK2.out; simp; omega)).trans (old_of HK2.out)
       have hr3 : w3.heap[w.heap.size + 1]? = some (.cells #[.int .i64 0, .slice none 0 0, .slice none 0 0, .slice none 0 0] 34) := (hb3.block _ (by have := lt_of HR2.out; simp; omega)).trans (old_of HR2.out)
       have hs3 : w3.heap[w2.heap.size]? = some (.cells #[.int .i64 (i : Int), .slice none 0 0, .slice none 0 0, .slice none 0 0] 34) := (hb3.block _ (by simp)).trans (new_of _ _)
       have HB3 := Lib.hid (HB2.out.trans ((((Below.refl w2.heap.size w2).alloc (Nat.le_refl _) _).trans (hb3.mono (by simp))).mono HB2.out.size))
       have HM3 := Lib.hid hm3
       have HK3 := Lib.hid hk3
       have HR3 := Lib.hid hr3
       have HS3 := Lib.hid hs3
       clear hb3 hm3 hk3 hr3 hs3))
  obtain ⟨bx, hbx⟩ : ∃ bx, w2.heap.size = bx := ⟨_, rfl⟩
  have hms : mv ≠ .slice none 0 0 ∨ True := .inr trivial
  obtain ⟨mb, mc, rfl, hmb, hmz, _⟩ := own_some HM3.out (by omega)
  have hmb' : bx < mb := by rw [← hbx]; simp at hmb; omega
  have hMC : ∀ k, k < b → w3.cell? ⟨mb, k, none⟩ = some (.int .i64 (bitOf d k : Int)) := fun k hk => by
    have hsl := IsSl.of_owns (xs := (bitsN d b).map vI) (by rw [List.length_map, bitsN_len]; exact HM3.out) (by rw [List.length_map, bitsN_len]; unfold maxLen; omega)
    have hsl' : IsSl (.slice (some ⟨mb, 0, none⟩) ((bitsN d b).map vI).length mc) ((bitsN d b).map vI) w3 := by rw [List.length_map, bitsN_len]; exact hsl
    obtain ⟨b', o', hv, _, hc⟩ := hsl'.at (k := k) (by rw [List.length_map, bitsN_len]; exact hk)
    simp only [Option.some.injEq, Addr.mk.injEq] at hv
    obtain ⟨rfl, rfl, _⟩ := hv
    rw [Nat.zero_add] at hc
    rw [hc]
    simp [bitsN, vI]
  rw [hbx] at HS3 ⊢
  have hbx1 : w.heap.size + 1 < bx := by omega
  have hbx2 : bx < w3.heap.size := by omega
  have HMC := Lib.hid hMC
  clear hbx hMC c0 c1 e0 e1 hlt2 hlt2' hmb HM3 HBt hms
  obtain ⟨B0, hB0⟩ : ∃ B0, w3.heap.size = B0 := ⟨_, rfl⟩
  have HB0 := Lib.hid hB0
  go_loopw [12] (fun n wr => ∃ (k : Nat) (vs vh : Value), k ≤ b ∧ n = .int .i64 k ∧ wr.heap[bx]? = some (.cells #[.int .i64 (i : Int), vs, vh, .slice none 0 0] 34) ∧ Kept (Licit.One bx) w3 wr ∧
      wr.ownsRow B0 9 1 vs k ((shownN seed d (i : Int) k).map vS) ∧ wr.ownsRow B0 9 1 vh k ((hiddenN seed d (i : Int) k).map vS) ∧ Apart vs vh) (fun n _ => b - (intOf n).toNat)
  case atStart => exact ⟨0, _, _, by omega, rfl, HS3.out, Kept.refl _ _, World.ownsRow_nil _ _ _ _, World.ownsRow_nil _ _ _ _, Apart.nil⟩
  case round =>
    obtain ⟨k, vs, vh, hk, rfl, hS, hK, hO, hP, hA⟩ := hrel
    have hkk : wr.heap[w.heap.size]? = some (.cells #[.int .i64 (b : Int), .int .i64 (h : Int)] 23) := (hK.block _ (lt_of HK3.out) (fun e => by have : w.heap.size = bx := e; omega)).trans HK3.out
    obtain ⟨k0, k1⟩ := keyC hkk
    have hcs : wr.cell? ⟨bx, 1, none⟩ = some vs := cell_of hS 1
    have hbw : bx < wr.heap.size := lt_of hS
    have hkw : w.heap.size < wr.heap.size := lt_of hkk
    have hwz : B0 ≤ wr.heap.size := by have := hK.size; omega
    have HS := Lib.hid hS
    have HK := Lib.hid hK
    have HO := Lib.hid hO
    have HP := Lib.hid hP
    have HA := Lib.hid hA
    have HKK := Lib.hid hkk
    clear hS hK hO hP hA hkk
    by_cases hlt : k < b
    · have hmc : wr.cell? ⟨mb, k, none⟩ = some (.int .i64 (bitOf d k : Int)) := (World.cell?_of_block (w := w3) (HK.out.block mb hmz (fun e => by have : mb = bx := e; omega))).trans (HMC.out k hlt)
      have hmw : mb < wr.heap.size := by omega
      obtain ⟨c, hc⟩ : ∃ c, bitOf d k = c := ⟨_, rfl⟩
      have hv2 : c < 2 := by rw [← hc]; exact bitOf_lt d k
      have hS1 : shownN seed d (i : Int) (k + 1) = shownN seed d (i : Int) k ++ [secretB seed (i : Int) (k : Int) (c : Int)] := by rw [shownN_succ, hc]
      have hH1 : hiddenN seed d (i : Int) (k + 1) = hiddenN seed d (i : Int) k ++ [pubB (secretB seed (i : Int) (k : Int) (1 - (c : Int)))] := by rw [hiddenN_succ, hc]
      have HS1 := Lib.hid hS1
      have HH1 := Lib.hid hH1
      rw [hc] at hmc
      have hkb : (k : Int) < (b : Int) := by omega
      have hw1 : IntKind.i64.wrap (1 - (c : Int)) = 1 - (c : Int) := by rw [IntKind.wrap_i64]; omega
      clear hc hS1 hH1
      go_wp2
      go_cut [] (fun wx => ∃ (ra : Option Addr) (rc : Nat), wx.heap[bx]? = some (.cells #[.int .i64 (i : Int), .slice ra (k + 1) rc, vh, .slice none 0 0] 34) ∧ Kept (Licit.One bx) w3 wx ∧
          wx.ownsRow B0 9 1 (.slice ra (k + 1) rc) (k + 1) ((shownN seed d (i : Int) (k + 1)).map vS) ∧ wx.ownsRow B0 9 1 vh k ((hiddenN seed d (i : Int) k).map vS) ∧ Apart (.slice ra (k + 1) rc) vh)
      case first =>
        go_region_law
          (first
            | (go_simp; go_at_call 40; refine (RSecret_any seed (i : Int) (k : Int) (c : Int) _ hs).mono ?_; rintro e w4 ⟨rfl, hb4'⟩
               have hb4 : Below wr.heap.size wr w4 := ⟨hb4'.os, hb4'.tape, hb4'.output, hb4'.size, hb4'.block⟩
               have hs4 := (hb4.block _ (lt_of HS.out)).trans HS.out
               have hcs4 : w4.cell? ⟨bx, 1, none⟩ = some vs := cell_of hs4 1
               have hz4 : bx < w4.heap.size := lt_of hs4
               have hz4' : B0 ≤ w4.heap.size := Nat.le_trans hwz hb4.size
               have HB4 := Lib.hid hb4
               clear hb4 hb4' hs4
               go_wp2_with fail)
            | (refine step_append_two rfl _ _ 32 rfl B0 9 i0 (.string ⟨#[]⟩) 1 16 Tryd.underlying32 Hi.out Hz0.out Hz1.out Hz2.out rfl (by decide) vs k ((shownN seed d (i : Int) k).map vS) rfl ((ownsRow_block HO.out (fun q _ hq => HB4.out.block q hq)).alloc _) ⟨w4.heap.size, 0, none⟩ 1 1 [vS (secretB seed (i : Int) (k : Int) (c : Int))] rfl rfl (news_one (new_of _ _)) (by simp [vS, Value.oneCell']) (by unfold maxLen; omega) (by omega) (by simp; omega) (by decide) ?_
               intro v5 w5 ho5 hg5 hw5
               obtain ⟨hp5, ha5, hk5⟩ := grown_beside ((ownsRow_block HO.out (fun q _ hq => HB4.out.block q hq)).alloc _) (ownsRow_block HP.out (fun q _ hq => HB4.out.block q hq)) HA.out ho5 hg5 hw5
               rw [← map_snoc, ← HS1.out] at ho5
               obtain ⟨ra5, rc5, rfl⟩ := own_form ho5
               have HO5 := Lib.hid ho5
               have HP5 := Lib.hid hp5
               have HA5 := Lib.hid ha5
               have hS5 : w5.heap[bx]? = _ := (hk5 bx (by omega) hz4).trans ((HB4.out.block _ (lt_of HS.out)).trans HS.out)
               have HK5 := Lib.hid (((HK.out.trans (Kept.of_below HB4.out)).alloc _).grown hg5 (fun q hq => .inl (by have := (HO.out.lt q hq).1; omega)))
               have hcs5 : w5.cell? ⟨bx, 1, none⟩ = some vs := cell_of hS5 1
               have hfs5 : w5.frozen? ⟨bx, 1, none⟩ = false := free_of hS5 _
               have HS5 := Lib.hid hS5
               have HZ5 := Lib.hid (lt_of hS5)
               clear ho5 hg5 hw5 hp5 ha5 hk5 hS5))
        all_goals
          go_wp2
          go_meet
          case rel =>
            obtain ⟨w6, h6⟩ : ∃ w6, w5.setCell ⟨bx, 1, none⟩ (.slice ra5 (k + 1) rc5) = w6 := ⟨_, rfl⟩
            rw [h6]
            have hK6 : Kept (Licit.One bx) w5 w6 := h6 ▸ kept_set bx 1 w5 _
            exact ⟨ra5, rc5, h6 ▸ set_of HS5.out 1 _, HK5.out.trans (hK6.mono (fun _ _ e => e)),
              ownsRow_block HO5.out (fun q hq hl => hK6.block q hl (fun e => by have : q = bx := e; have := HB0.out; omega)), ownsRow_block HP5.out (fun q hq hl => hK6.block q hl (fun e => by have : q = bx := e; have := HB0.out; omega)), HA5.out⟩
      case rest =>
        obtain ⟨ra, rc, hS6, hK6, hO6, hP6, hA6⟩ := hcut
        have hch : wc.cell? ⟨bx, 2, none⟩ = some vh := cell_of hS6 2
        have hmc6 : wc.cell? ⟨mb, k, none⟩ = some (.int .i64 (c : Int)) := (World.cell?_of_block (w := w3) (hK6.block mb hmz (fun e => by have : mb = bx := e; omega))).trans ((World.cell?_of_block (w := w3) (HK.out.block mb hmz (fun e => by have : mb = bx := e; omega))).symm.trans hmc)
        have hbc : bx < wc.heap.size := lt_of hS6
        have hwc : B0 ≤ wc.heap.size := by have := hK6.size; have := HB0.out; omega
        have HS6 := Lib.hid hS6
        have HK6 := Lib.hid hK6
        have HO6 := Lib.hid hO6
        have HP6 := Lib.hid hP6
        have HA6 := Lib.hid hA6
        clear hS6 hK6 hO6 hP6 hA6 hcs hmc k0 k1 HS HK HO HP HA HKK hbw hkw hwz hmw
        have hmw : mb < wc.heap.size := by have := HK6.out.size; omega
        go_wp2
        go_region_law
          (first
            | (go_simp; go_at_call 40; refine (RSecret_any seed (i : Int) (k : Int) (1 - (c : Int)) _ hs).mono ?_; rintro e w7 ⟨rfl, hb7'⟩
               have hb7 : Below wc.heap.size wc w7 := ⟨hb7'.os, hb7'.tape, hb7'.output, hb7'.size, hb7'.block⟩
               have hs7 := (hb7.block _ (lt_of HS6.out)).trans HS6.out
               have hcs7 : w7.cell? ⟨bx, 2, none⟩ = some vh := cell_of hs7 2
               have hz7 : bx < w7.heap.size := lt_of hs7
               have HB7 := Lib.hid hb7
               clear hb7 hb7' hs7
               go_wp2_with fail)
            | (go_simp; go_at_call 41; refine (RPub_drew (secretB seed (i : Int) (k : Int) (1 - (c : Int))) (max32 (secretB_len _ _ _ _)) w7).mono ?_; rintro e w8 ⟨rfl, hb8'⟩
               have hb8 : Below wc.heap.size wc w8 := HB7.out.next hb8'
               have hs8 := (hb8.block _ (lt_of HS6.out)).trans HS6.out
               have hcs8 : w8.cell? ⟨bx, 2, none⟩ = some vh := cell_of hs8 2
               have hz8 : bx < w8.heap.size := lt_of hs8
               have hz8' : B0 ≤ w8.heap.size := Nat.le_trans hwc hb8.size
               have HB8 := Lib.hid hb8
               clear hb8 hb8' hs8
               go_wp2_with fail)
            | (refine step_append_two rfl _ _ 32 rfl B0 9 i0 (.string ⟨#[]⟩) 1 16 Tryd.underlying32 Hi.out Hz0.out Hz1.out Hz2.out rfl (by decide) vh k ((hiddenN seed d (i : Int) k).map vS) rfl ((ownsRow_block HP6.out (fun q _ hq => HB8.out.block q hq)).alloc _) ⟨w8.heap.size, 0, none⟩ 1 1 [vS (pubB (secretB seed (i : Int) (k : Int) (1 - (c : Int))))] rfl rfl (news_one (new_of _ _)) (by simp [vS, Value.oneCell']) (by unfold maxLen; omega) (by omega) (by simp; omega) (by decide) ?_
               intro v9 w9 ho9 hg9 hw9
               obtain ⟨hp9, ha9, hk9⟩ := grown_beside ((ownsRow_block HP6.out (fun q _ hq => HB8.out.block q hq)).alloc _) (ownsRow_block HO6.out (fun q _ hq => HB8.out.block q hq)) HA6.out.symm ho9 hg9 hw9
               rw [← map_snoc, ← HH1.out] at ho9
               obtain ⟨ra9, rc9, rfl⟩ := own_form ho9
               have HO9 := Lib.hid ho9
               have HP9 := Lib.hid hp9
               have HA9 := Lib.hid ha9.symm
               have hS9 : w9.heap[bx]? = _ := (hk9 bx (by have := HB0.out; omega) hz8).trans ((HB8.out.block _ (lt_of HS6.out)).trans HS6.out)
               have HK9 := Lib.hid (((HK6.out.trans (Kept.of_below HB8.out)).alloc _).grown hg9 (fun q hq => .inl (by have := (HP6.out.lt q hq).1; have := HB0.out; omega)))
               have hcs9 : w9.cell? ⟨bx, 2, none⟩ = some vh := cell_of hS9 2
               have hfs9 : w9.frozen? ⟨bx, 2, none⟩ = false := free_of hS9 _
               have HS9 := Lib.hid hS9
               clear ho9 hg9 hw9 hp9 ha9 hk9 hS9))
        all_goals
          obtain ⟨w10, h10⟩ : ∃ w10, w9.setCell ⟨bx, 2, none⟩ (.slice ra9 (k + 1) rc9) = w10 := ⟨_, rfl⟩
          rw [h10]
          have hK10 : Kept (Licit.One bx) w9 w10 := h10 ▸ kept_set bx 2 w9 _
          have HS10 := Lib.hid (show w10.heap[bx]? = some (.cells #[.int .i64 (i : Int), .slice ra (k + 1) rc, .slice ra9 (k + 1) rc9, .slice none 0 0] 34) from h10 ▸ set_of HS9.out 2 _)
          have HO10 := Lib.hid (ownsRow_block HP9.out (fun q hq hl => hK10.block q hl (fun e => by have : q = bx := e; have := HB0.out; omega)))
          have HP10 := Lib.hid (ownsRow_block HO9.out (fun q hq hl => hK10.block q hl (fun e => by have : q = bx := e; have := HB0.out; omega)))
          have HK10 := Lib.hid (HK9.out.trans (hK10.mono (fun _ _ e => e)))
          clear h10 hK10 hcs9 hfs9 hch
          go_wp2
          go_roundw
          case rel => exact ⟨k + 1, _, _, by omega, by go_num, HS10.out, HK10.out, HO10.out, HP10.out, HA9.out⟩
          case measure => simp [intOf]; omega
    · obtain rfl : k = b := by omega
      have HLv := Lib.hid (fun W => RLeaves_any seed k h W hs hb hh)
      clear hcs
      go_wp2_with (first
        | (go_at_call 37; refine (HLv.out _).mono ?_; rintro e w4 ⟨lv, rfl, hl4, hb4⟩
           have hs4 := (hb4.block _ (lt_of HS.out)).trans HS.out
           have HO4 := Lib.hid (ownsRow_block HO.out (fun q _ hq => hb4.block q hq))
           have HP4 := Lib.hid (ownsRow_block HP.out (fun q _ hq => hb4.block q hq))
           have HK4 := Lib.hid (HK.out.trans (Kept.of_below hb4))
           have HL4 := Lib.hid (show w4.ownsRow B0 9 1 lv (rowB seed k h 0).length ((rowB seed k h 0).map vS) from ownsRow_base hl4 hwz)
           have HS4 := Lib.hid hs4
           clear hb4 hl4 hs4))
      clear k0 k1 HS HK HO HP HKK hbw hkw hwz
      go_loopw [13, 14] (fun a l wx => ∃ (j : Nat) (vr : Value), j ≤ h ∧ a = .int .i64 ((i / 2 ^ j : Nat) : Int) ∧ wx.heap[bx]? = some (.cells #[.int .i64 (i : Int), vs, vh, vr] 34) ∧ Kept (Licit.One bx) w3 wx ∧
          wx.ownsRow B0 9 1 vs k ((shownN seed d (i : Int) k).map vS) ∧ wx.ownsRow B0 9 1 vh k ((hiddenN seed d (i : Int) k).map vS) ∧ wx.ownsRow B0 9 1 vr j ((routeN seed k h i j).map vS) ∧ wx.ownsRow B0 9 1 l (rowB seed k h j).length ((rowB seed k h j).map vS) ∧
          Apart vr vs ∧ Apart vr vh ∧ Apart vr l) (fun _ l _ => slLen l)
      case atStart => exact ⟨0, _, by omega, by simp, HS4.out, HK4.out, HO4.out, HP4.out, World.ownsRow_nil _ _ _ _, HL4.out, Apart.nil, Apart.nil, Apart.nil⟩
      case round =>
        obtain ⟨j, vr, hj, rfl, hS, hK, hO, hP, hR, hL, hA1, hA2, hA3⟩ := hrel
        clear HS4 HK4 HO4 HP4 HL4
        have hcs : wr.cell? ⟨bx, 3, none⟩ = some vr := cell_of hS 3
        have hbw : bx < wr.heap.size := lt_of hS
        have hwz : B0 ≤ wr.heap.size := by have := hK.size; have := HB0.out; omega
        have hlen := rowB_len seed k h hj
        have HS := Lib.hid hS
        have HK := Lib.hid hK
        have HO := Lib.hid hO
        have HP := Lib.hid hP
        have HR := Lib.hid hR
        have HA1 := Lib.hid hA1
        have HA2 := Lib.hid hA2
        have HA3 := Lib.hid hA3
        obtain ⟨n2, hn2⟩ : ∃ n2, (rowB seed k h j).length = n2 := ⟨_, rfl⟩
        rw [hn2] at hL hlen
        have HL := Lib.hid hL
        have hn64 : n2 ≤ 64 := by rw [hlen]; exact Nat.le_trans (Nat.pow_le_pow_right (by decide) (show h - j ≤ 6 by omega)) (by decide)
        clear hS hK hO hP hR hL hA1 hA2 hA3
        by_cases hlt : j < h
        · have hn1 : 2 ≤ n2 := by
            rw [hlen, show h - j = (h - (j + 1)) + 1 by omega, Nat.pow_succ]
            have := Nat.one_le_two_pow (n := h - (j + 1))
            omega
          obtain ⟨lb, lc, rfl, _, hlz, _⟩ := own_some HL.out (by omega)
          obtain ⟨q, hq⟩ : ∃ q, i / 2 ^ j = q := ⟨_, rfl⟩
          have hq64 : q < 64 := by rw [← hq]; exact Nat.lt_of_le_of_lt (Nat.div_le_self _ _) hi64
          obtain ⟨idx, hidx⟩ : ∃ idx, q ^^^ 1 = idx := ⟨_, rfl⟩
          have hin : idx < n2 := by rw [hlen, ← hidx, ← hq]; exact route_lt Hii.out hlt
          have hxor : bits BinOp.xor IntKind.i64 (q : Int) 1 = (idx : Int) := by rw [← hidx]; exact xor_64 ⟨q, hq64⟩
          obtain ⟨x, hx⟩ : ∃ x, (rowB seed k h j).getD idx [] = x := ⟨_, rfl⟩
          have hct : wr.cell? ⟨lb, idx, none⟩ = some (.string (B x)) := by
            have := own_cell HL.out (i := idx) (by rw [hn2]; exact hin)
            rw [hx] at this
            exact this
          have hstep : routeN seed k h i j ++ [x] = routeN seed k h i (j + 1) := by rw [routeN_succ, hq, hidx, hx]
          have hq2 : i / 2 ^ (j + 1) = q / 2 := by rw [Nat.pow_succ, ← Nat.div_div_eq_div_mul, hq]
          have hinI : (idx : Int) < (n2 : Int) := by omega
          obtain ⟨q2, hq2'⟩ : ∃ q2, q / 2 = q2 := ⟨_, rfl⟩
          have hqd2 : (q : Int).tdiv 2 = (q2 : Int) := by rw [Int.tdiv_eq_ediv_of_nonneg (by omega)]; omega
          have hqd : IntKind.i64.wrap ((q : Int).tdiv 2) = (q2 : Int) := by rw [hqd2, IntKind.wrap_i64]; omega
          have hqd3 : IntKind.i64.wrap (q2 : Int) = (q2 : Int) := by rw [IntKind.wrap_i64]; omega
          have Hst := Lib.hid hstep
          have Hq2 := Lib.hid (hq2.trans hq2')
          have Hn2 := Lib.hid hn2
          rw [hq]
          clear hq hidx hin hx hstep hq2 hq2' hn2 hlen
          go_wp2
          go_region_law
            (first
              | (refine step_append_two rfl _ _ 32 rfl B0 9 i0 (.string ⟨#[]⟩) 1 16 Tryd.underlying32 Hi.out Hz0.out Hz1.out Hz2.out rfl (by decide) vr j ((routeN seed k h i j).map vS) rfl (own_drew (HR.out.alloc (.cells #[.string (B x)] 9))) ⟨wr.heap.size, 0, none⟩ 1 1 [vS x] rfl rfl (news_drew (news_one (new_of wr (.cells #[.string (B x)] 9)))) (by simp [vS, Value.oneCell']) (by unfold maxLen; omega) (by omega) (by simp; omega) (by decide) ?_
                 intro v5 w5 ho5 hg5' hw5
                 have hg5 : (wr.alloc (.cells #[.string (B x)] 9)).grownBy w5 vr.ownBlock := ⟨hg5'.os, hg5'.tape, hg5'.output, hg5'.size, hg5'.block⟩
                 clear hg5'
                 obtain ⟨hp5, ha5, hk5⟩ := grown_beside (w3 := wr) (HR.out.alloc _) HO.out HA1.out ho5 hg5 hw5
                 obtain ⟨hq5, hb5, _⟩ := grown_beside (w3 := wr) (HR.out.alloc _) HP.out HA2.out ho5 hg5 hw5
                 obtain ⟨hl5, hc5, _⟩ := grown_beside (w3 := wr) (HR.out.alloc _) HL.out HA3.out ho5 hg5 hw5
                 rw [← map_snoc, Hst.out] at ho5
                 obtain ⟨ra5, rc5, rfl⟩ := own_form ho5
                 have HR5 := Lib.hid ho5
                 have HO5 := Lib.hid hp5
                 have HP5 := Lib.hid hq5
                 have HL5 := Lib.hid hl5
                 have HA5 := Lib.hid ha5
                 have HC5 := Lib.hid hb5
                 have HD5 := Lib.hid hc5
                 have hS5 : w5.heap[bx]? = _ := (hk5 bx (by have := HB0.out; omega) (lt_of HS.out)).trans HS.out
                 have HK5 := Lib.hid ((HK.out.alloc _).grown hg5 (fun q hq => .inl (by have := (HR.out.lt q hq).1; have := HB0.out; omega)))
                 have hcs5 : w5.cell? ⟨bx, 3, none⟩ = some vr := cell_of hS5 3
                 have hfs5 : w5.frozen? ⟨bx, 3, none⟩ = false := free_of hS5 _
                 have HS5 := Lib.hid hS5
                 clear ho5 hg5 hw5 hp5 ha5 hk5 hS5 hq5 hb5 hl5 hc5))
          all_goals
            obtain ⟨w6, h6⟩ : ∃ w6, w5.setCell ⟨bx, 3, none⟩ (.slice ra5 (j + 1) rc5) = w6 := ⟨_, rfl⟩
            rw [h6]
            have hK6 : Kept (Licit.One bx) w5 w6 := h6 ▸ kept_set bx 3 w5 _
            have hne : ∀ q, B0 ≤ q → q < w5.heap.size → ¬ Licit.One bx q := fun q hq _ e => by have : q = bx := e; have := HB0.out; omega
            have HS6 := Lib.hid (show w6.heap[bx]? = some (.cells #[.int .i64 (i : Int), vs, vh, .slice ra5 (j + 1) rc5] 34) from h6 ▸ set_of HS5.out 3 _)
            have HO6 := Lib.hid (ownsRow_block HO5.out (fun q hq hl => hK6.block q hl (hne q hq hl)))
            have HP6 := Lib.hid (ownsRow_block HP5.out (fun q hq hl => hK6.block q hl (hne q hq hl)))
            have HR6 := Lib.hid (ownsRow_block HR5.out (fun q hq hl => hK6.block q hl (hne q hq hl)))
            have hl6 := ownsRow_block HL5.out (fun q hq hl => hK6.block q hl (hne q hq hl))
            have HK6 := Lib.hid (HK5.out.trans (hK6.mono (fun _ _ e => e)))
            have hsl6 : IsSl (.slice (some ⟨lb, 0, none⟩) n2 lc) ((rowB seed k h j).map vS) w6 := IsSl.of_owns (by rw [List.length_map, Hn2.out]; exact hl6) (by rw [List.length_map, Hn2.out]; unfold maxLen; omega)
            have HLV := Lib.hid (RLevel_any _ (rowB seed k h j) w6 hsl6 (fun x hx => max32 (rowB_mem j x hx)) (by rw [Hn2.out]; omega))
            clear h6 hK6 hcs5 hfs5 hl6 hsl6 hne
            go_wp2_with (first
              | (go_at_call 38; refine HLV.out.mono ?_; rintro e w7 ⟨v7, rfl, ho7, hb7⟩
                 have hs7 := (hb7.block _ (lt_of HS6.out)).trans HS6.out
                 have HO7 := Lib.hid (ownsRow_block HO6.out (fun q _ hq => hb7.block q hq))
                 have HP7 := Lib.hid (ownsRow_block HP6.out (fun q _ hq => hb7.block q hq))
                 have HR7 := Lib.hid (ownsRow_block HR6.out (fun q _ hq => hb7.block q hq))
                 have HK7 := Lib.hid (HK6.out.trans (Kept.of_below hb7))
                 have HS7 := Lib.hid hs7
                 have HL7 := Lib.hid (show w7.ownsRow B0 9 1 v7 (rowB seed k h (j + 1)).length ((rowB seed k h (j + 1)).map vS) from ownsRow_base ho7 (by have := HK6.out.size; have := HB0.out; omega))
                 have HD7 := Lib.hid (show Apart (.slice ra5 (j + 1) rc5) v7 from fun q hq hq' => by have := own_lt HR6.out hq; have := (ho7.lt q hq').1; omega)
                 obtain ⟨la7, lc7, rfl⟩ := own_form HL7.out
                 clear ho7 hb7 hs7))
            have hlv : (rowB seed k h (j + 1)).length = n2 / 2 := by show (level (rowB seed k h j)).length = _; rw [level_len, Hn2.out]
            go_roundw
            case rel => exact ⟨j + 1, _, by omega, by rw [Hq2.out], HS7.out, HK7.out, HO7.out, HP7.out, HR7.out, HL7.out, HA5.out, HC5.out, HD7.out⟩
            case measure =>
              show (rowB seed k h (j + 1)).length < n2
              rw [hlv]
              omega
        · obtain rfl : j = h := by omega
          have hn1 : n2 = 1 := by rw [hlen]; simp
          subst hn1
          obtain ⟨la, lc, rfl⟩ := own_form HL.out
          have hs := HS.out
          obtain ⟨s0, s1, s2, s3⟩ := sigC hs
          have hrb : wr.heap[w.heap.size + 1]? = some (.cells #[.int .i64 0, .slice none 0 0, .slice none 0 0, .slice none 0 0] 34) := (HK.out.block _ (lt_of HR3.out) (fun e => by have : w.heap.size + 1 = bx := e; omega)).trans HR3.out
          obtain ⟨r0, r1, r2, r3⟩ := sigC hrb
          have f0 : wr.frozen? ⟨w.heap.size + 1, 0, none⟩ = false := free_of hrb _
          have f1 : wr.frozen? ⟨w.heap.size + 1, 1, none⟩ = false := free_of hrb _
          have f2 : wr.frozen? ⟨w.heap.size + 1, 2, none⟩ = false := free_of hrb _
          have f3 : wr.frozen? ⟨w.heap.size + 1, 3, none⟩ = false := free_of hrb _
          obtain ⟨sa, sc, rfl⟩ := own_form HO.out
          obtain ⟨ha, hc, rfl⟩ := own_form HP.out
          obtain ⟨ra, rc, rfl⟩ := own_form HR.out
          have Hrb := Lib.hid hrb
          clear hrb hs hcs hlen hn2
          go_wp2
          have hKe := ((((kept_set (w.heap.size + 1) 0 wr (.int .i64 (i : Int))).trans (kept_set (w.heap.size + 1) 1 _ (.slice sa k sc))).trans (kept_set (w.heap.size + 1) 2 _ (.slice ha k hc))).trans (kept_set (w.heap.size + 1) 3 _ (.slice ra j rc)))
          refine ret_whole2 (p := 8) (t' := 9) (ty := 34) rfl (w.heap.size + 1) 34 #[.int .i64 (i : Int), .slice sa k sc, .slice ha k hc, .slice ra j rc] (0, 0) _ rfl (set_of (set_of (set_of (set_of Hrb.out 0 _) 1 _) 2 _) 3 _) Tryd.underlying34 rfl (by kernel_rfl) rfl ?_
          have hne : ∀ q, B0 ≤ q → ¬ Licit.One (w.heap.size + 1) q := fun q hq e => by have : q = w.heap.size + 1 := e; have := HB0.out; omega
          have hB : Below w.heap.size w wr := HB3.out.trans (HK.out.below HB3.out.size (fun q hq e => by have : q = bx := e; omega))
          refine ⟨_, rfl, ⟨_, _, _, rfl, ?_, ?_, ?_⟩, hB.trans (hKe.below hB.size (fun q hq e => by have : q = w.heap.size + 1 := e; omega))⟩
          · rw [shownN_len]
            exact ownsRow_base (ownsRow_block HO.out (fun q hq hl => hKe.block q hl (hne q hq))) (by have := HB0.out; omega)
          · rw [hiddenN_len]
            exact ownsRow_base (ownsRow_block HP.out (fun q hq hl => hKe.block q hl (hne q hq))) (by have := HB0.out; omega)
          · rw [routeN_len]
            exact ownsRow_base (ownsRow_block HR.out (fun q hq hl => hKe.block q hl (hne q hq))) (by have := HB0.out; omega)
end Go.Proofs.YtdkjehagkmkokaaDoor
