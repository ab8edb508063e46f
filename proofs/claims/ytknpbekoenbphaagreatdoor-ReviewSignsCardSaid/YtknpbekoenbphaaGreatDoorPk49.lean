/- Parts of the proofs: WkRefSign, WkSignAll. No condition beyond those at each theorem. -/
import Derived.Test.YtknpbekoenbphaaGreatDoorPk48
set_option linter.unusedVariables false
set_option linter.unusedSimpArgs false
set_option maxHeartbeats 16000000
set_option maxRecDepth 100000
namespace Go.Proofs.YtknpbekoenbphaaGreatDoor
open Go Go.RowKit Licit
theorem kua (s : Bs) (hs : s.length ≤ maxLen) (W : World) : Calls Tryz.prog 48 #[.slice (some ⟨W.heap.size, 0, none⟩) 2 2] (W.alloc (.cells #[.string ⟨#[112, 117, 98, 108, 105, 99]⟩, .string (B s)] 9)) fun e w' => e = .returned (.string (B (koe s))) ∧ Below W.heap.size W w' := kim s hs W
theorem ku2 (seed m : Bs) (b h i : Nat) (w : World) (hs : seed.length ≤ maxLen) (hm : m.length ≤ 1000000000000) (hk : kcp (b : Int) (h : Int) = true) (hi : i < 2 ^ h) :
 Calls Tryz.prog 82 #[.string (B seed), .agg #[.int .i64 (b : Int), .int .i64 (h : Int)], .int .i64 (i : Int), .string (B m)] w fun e w' =>
  ∃ v, e = .returned (.tuple #[v, .int .i64 0]) ∧ kn5 w.heap.size v (i : Int) (kcz seed (Sha.sha m) (i : Int) b) (kb5 seed (Sha.sha m) (i : Int) b) (kdc seed b h i h) w' ∧ Below w.heap.size w w' := by
 have hk' : 8 ≤ (b : Int) ∧ (b : Int) ≤ 256 ∧ 0 ≤ (h : Int) ∧ (h : Int) ≤ 6 := by simpa [kcp] using hk
 have hb : b ≤ 256 := by omega
 have hb8 : 8 ≤ b := by omega
 have hh : h ≤ 6 := by omega
 clear hk'
 have HV := hdd (fun W => ke6 (b : Int) (h : Int) W hk)
 have HCnt := hdd (fun W => kgr (b : Int) h W hh)
 obtain ⟨i0, hi0, hz0, hz1, hz2⟩ := info_parts Tryz.infoStr
 have Hi := hdd hi0
 have Hz0 := hdd hz0
 have Hz1 := hdd hz1
 have Hz2 := hdd hz2
 clear hi0 hz0 hz1 hz2 hk
 obtain ⟨d, hd⟩ : ∃ d, Sha.sha m = d := ⟨_, rfl⟩
 have HBt := hdd (fun W => kt2 m b W hm hb)
 rw [hd] at HBt
 rw [hd]
 clear hd
 have Hii := hdd hi
 have hi64 : i < 64 := Nat.lt_of_lt_of_le hi (Nat.le_trans (Nat.pow_le_pow_right (by decide) hh) (by decide : 2 ^ 6 ≤ 64))
 obtain ⟨n, hn⟩ : ∃ n, 2 ^ h = n := ⟨_, rfl⟩
 rw [hn] at HCnt hi
 have d1 : decide (n ≤ i) = false := by simp; omega
 have d2 : decide ((i : Int) < 0) = false := by simp
 clear hn hi
 go_enter Tryz.func82, Tryz.ntmps82
 go_wp2_with (first
  | (go_at_call 80; go_loud (
     refine (HV.out _).mono ?_
     rintro e w1 ⟨rfl, hb1⟩
     have hk1 : w1.heap[w.heap.size]? = some (.cells #[.int .i64 (b : Int), .int .i64 (h : Int)] 41) := (hb1.block _ (by simp; omega)).trans (kaq (kak _ _))
     have hr1 : w1.heap[w.heap.size + 1]? = some (.cells #[.int .i64 0, .slice none 0 0, .slice none 0 0, .slice none 0 0] 43) := (hb1.block _ (by simp)).trans (kaj (by simp) rfl)
     obtain ⟨c0, c1⟩ := kui hk1
     have HB1 := hdd ((((Below.refl _ _).alloc (Nat.le_refl _) _).alloc (by simp) _).next hb1)
     have HK1 := hdd hk1
     have HR1 := hdd hr1
     clear hb1 hk1 hr1))
  | (go_at_call 125; refine (HCnt.out _).mono ?_; rintro e w2 ⟨rfl, hb2⟩
     have hk2 := (hb2.block _ (kac HK1.out)).trans HK1.out
     have hr2 := (hb2.block _ (kac HR1.out)).trans HR1.out
     obtain ⟨e0, e1⟩ := kui hk2
     have HB2 := hdd (HB1.out.next hb2)
     have HK2 := hdd hk2
     have HR2 := hdd hr2
     have hlt2 := kac hr2
     have hlt2' : w.heap.size < w2.heap.size := kac hk2
     clear hb2 hk2 hr2)
  | (go_at_call 147; refine (HBt.out _).mono ?_; rintro e w3 ⟨mv, rfl, hm3, hb3⟩
     have hk3 : w3.heap[w.heap.size]? = some (.cells #[.int .i64 (b : Int), .int .i64 (h : Int)] 41) := (hb3.block _ (by have := kac HK2.out; simp; omega)).trans (kaq HK2.out)
     have hr3 : w3.heap[w.heap.size + 1]? = some (.cells #[.int .i64 0, .slice none 0 0, .slice none 0 0, .slice none 0 0] 43) := (hb3.block _ (by have := kac HR2.out; simp; omega)).trans (kaq HR2.out)
     have hs3 : w3.heap[w2.heap.size]? = some (.cells #[.int .i64 (i : Int), .slice none 0 0, .slice none 0 0, .slice none 0 0] 43) := (hb3.block _ (by simp)).trans (kak _ _)
     have HB3 := hdd (HB2.out.trans ((((Below.refl w2.heap.size w2).alloc (Nat.le_refl _) _).trans (hb3.mono (by simp))).mono HB2.out.size))
     have HM3 := hdd hm3
     have HK3 := hdd hk3
     have HR3 := hdd hr3
     have HS3 := hdd hs3
     clear hb3 hm3 hk3 hr3 hs3))
 obtain ⟨bx, hbx⟩ : ∃ bx, w2.heap.size = bx := ⟨_, rfl⟩
 have hms : mv ≠ .slice none 0 0 ∨ True := .inr trivial
 obtain ⟨mb, mc, rfl, hmb, hmz, _⟩ := kb2 HM3.out (by omega)
 have hmb' : bx < mb := by rw [← hbx]; simp at hmb; omega
 have hMC : ∀ k, k < b → w3.cell? ⟨mb, k, none⟩ = some (.int .i64 (keq d k : Int)) := fun k hk => by
  have hsl := IsSl.of_owns (xs := (kjg d b).map vI) (by rw [List.length_map, khx]; exact HM3.out) (by rw [List.length_map, khx]; unfold maxLen; omega)
  have hsl' : IsSl (.slice (some ⟨mb, 0, none⟩) ((kjg d b).map vI).length mc) ((kjg d b).map vI) w3 := by rw [List.length_map, khx]; exact hsl
  obtain ⟨b', o', hv, _, hc⟩ := hsl'.at (k := k) (by rw [List.length_map, khx]; exact hk)
  simp only [Option.some.injEq, Addr.mk.injEq] at hv
  obtain ⟨rfl, rfl, _⟩ := hv
  rw [Nat.zero_add] at hc
  rw [hc]
  simp [kjg, vI]
 rw [hbx] at HS3 ⊢
 have hbx1 : w.heap.size + 1 < bx := by omega
 have hbx2 : bx < w3.heap.size := by omega
 have HMC := hdd hMC
 clear hbx hMC c0 c1 e0 e1 hlt2 hlt2' hmb HM3 HBt hms
 obtain ⟨B0, hB0⟩ : ∃ B0, w3.heap.size = B0 := ⟨_, rfl⟩
 have HB0 := hdd hB0
 go_loopw [12] (fun n wr => ∃ (k : Nat) (vs vh : Value), k ≤ b ∧ n = .int .i64 k ∧ wr.heap[bx]? = some (.cells #[.int .i64 (i : Int), vs, vh, .slice none 0 0] 43) ∧ ka1 (Licit.One bx) w3 wr ∧
  wr.ownsRow B0 9 1 vs k ((kcz seed d (i : Int) k).map vS) ∧ wr.ownsRow B0 9 1 vh k ((kb5 seed d (i : Int) k).map vS) ∧ kd9 vs vh) (fun n _ => b - (intOf n).toNat)
 case atStart => exact ⟨0, _, _, by omega, rfl, HS3.out, ka1.refl _ _, World.ownsRow_nil _ _ _ _, World.ownsRow_nil _ _ _ _, kd9.nil⟩
 case round =>
  obtain ⟨k, vs, vh, hk, rfl, hS, hK, hO, hP, hA⟩ := hrel
  have hkk : wr.heap[w.heap.size]? = some (.cells #[.int .i64 (b : Int), .int .i64 (h : Int)] 41) := (hK.block _ (kac HK3.out) (fun e => by have : w.heap.size = bx := e; omega)).trans HK3.out
  obtain ⟨k0, k1⟩ := kui hkk
  have hcs : wr.cell? ⟨bx, 1, none⟩ = some vs := kab hS 1
  have hbw : bx < wr.heap.size := kac hS
  have hkw : w.heap.size < wr.heap.size := kac hkk
  have hwz : B0 ≤ wr.heap.size := by have := hK.size; omega
  have HS := hdd hS
  have HK := hdd hK
  have HO := hdd hO
  have HP := hdd hP
  have HA := hdd hA
  have HKK := hdd hkk
  clear hS hK hO hP hA hkk
  by_cases hlt : k < b
  · have hmc : wr.cell? ⟨mb, k, none⟩ = some (.int .i64 (keq d k : Int)) := (World.cell?_of_block (w := w3) (HK.out.block mb hmz (fun e => by have : mb = bx := e; omega))).trans (HMC.out k hlt)
    have hmw : mb < wr.heap.size := by omega
    obtain ⟨c, hc⟩ : ∃ c, keq d k = c := ⟨_, rfl⟩
    have hv2 : c < 2 := by rw [← hc]; exact kqm d k
    have hS1 : kcz seed d (i : Int) (k + 1) = kcz seed d (i : Int) k ++ [kbr seed (i : Int) (k : Int) (c : Int)] := by rw [kkl, hc]
    have hH1 : kb5 seed d (i : Int) (k + 1) = kb5 seed d (i : Int) k ++ [koe (kbr seed (i : Int) (k : Int) (1 - (c : Int)))] := by rw [kiv, hc]
    have HS1 := hdd hS1
    have HH1 := hdd hH1
    rw [hc] at hmc
    have hkb : (k : Int) < (b : Int) := by omega
    have hw1 : IntKind.i64.wrap (1 - (c : Int)) = 1 - (c : Int) := by rw [IntKind.wrap_i64]; omega
    clear hc hS1 hH1
    go_wp2
    go_cut [] (fun wx => ∃ (ra : Option Addr) (rc : Nat), wx.heap[bx]? = some (.cells #[.int .i64 (i : Int), .slice ra (k + 1) rc, vh, .slice none 0 0] 43) ∧ ka1 (Licit.One bx) w3 wx ∧
     wx.ownsRow B0 9 1 (.slice ra (k + 1) rc) (k + 1) ((kcz seed d (i : Int) (k + 1)).map vS) ∧ wx.ownsRow B0 9 1 vh k ((kb5 seed d (i : Int) k).map vS) ∧ kd9 (.slice ra (k + 1) rc) vh)
    case first =>
     go_region_law
      (first
        | (go_simp; go_at_call 151; refine (kfi seed (i : Int) (k : Int) (c : Int) _ hs).mono ?_; rintro e w4 ⟨rfl, hb4'⟩
           have hb4 : Below wr.heap.size wr w4 := ⟨hb4'.os, hb4'.tape, hb4'.output, hb4'.size, hb4'.block⟩
           have hs4 := (hb4.block _ (kac HS.out)).trans HS.out
           have hcs4 : w4.cell? ⟨bx, 1, none⟩ = some vs := kab hs4 1
           have hz4 : bx < w4.heap.size := kac hs4
           have hz4' : B0 ≤ w4.heap.size := Nat.le_trans hwz hb4.size
           have HB4 := hdd hb4
           clear hb4 hb4' hs4
           go_wp2_with fail)
        | (refine kb4 rfl _ _ 39 rfl B0 9 i0 (.string ⟨#[]⟩) 1 16 Tryz.underlying39 Hi.out Hz0.out Hz1.out Hz2.out rfl (by decide) vs k ((kcz seed d (i : Int) k).map vS) rfl ((kaf HO.out (fun q _ hq => HB4.out.block q hq)).alloc _) ⟨w4.heap.size, 0, none⟩ 1 1 [vS (kbr seed (i : Int) (k : Int) (c : Int))] rfl rfl (kbm (kak _ _)) (by simp [vS, Value.oneCell']) (by unfold maxLen; omega) (by omega) (by simp; omega) (by decide) ?_
           intro v5 w5 ho5 hg5 hw5
           obtain ⟨hp5, ha5, hk5⟩ := kb0 ((kaf HO.out (fun q _ hq => HB4.out.block q hq)).alloc _) (kaf HP.out (fun q _ hq => HB4.out.block q hq)) HA.out ho5 hg5 hw5
           rw [← kdq, ← HS1.out] at ho5
           obtain ⟨ra5, rc5, rfl⟩ := kah ho5
           have HO5 := hdd ho5
           have HP5 := hdd hp5
           have HA5 := hdd ha5
           have hS5 : w5.heap[bx]? = _ := (hk5 bx (by omega) hz4).trans ((HB4.out.block _ (kac HS.out)).trans HS.out)
           have HK5 := hdd (((HK.out.trans (ka1.of_below HB4.out)).alloc _).grown hg5 (fun q hq => .inl (by have := (HO.out.lt q hq).1; omega)))
           have hcs5 : w5.cell? ⟨bx, 1, none⟩ = some vs := kab hS5 1
           have hfs5 : w5.frozen? ⟨bx, 1, none⟩ = false := kai hS5 _
           have HS5 := hdd hS5
           have HZ5 := hdd (kac hS5)
           clear ho5 hg5 hw5 hp5 ha5 hk5 hS5))
     all_goals
      go_wp2
      go_meet
      case rel =>
       obtain ⟨w6, h6⟩ : ∃ w6, w5.setCell ⟨bx, 1, none⟩ (.slice ra5 (k + 1) rc5) = w6 := ⟨_, rfl⟩
       rw [h6]
       have hK6 : ka1 (Licit.One bx) w5 w6 := h6 ▸ kau bx 1 w5 _
       exact ⟨ra5, rc5, h6 ▸ set_of HS5.out 1 _, HK5.out.trans (hK6.mono (fun _ _ e => e)),
        kaf HO5.out (fun q hq hl => hK6.block q hl (fun e => by have : q = bx := e; have := HB0.out; omega)), kaf HP5.out (fun q hq hl => hK6.block q hl (fun e => by have : q = bx := e; have := HB0.out; omega)), HA5.out⟩
    case rest =>
     obtain ⟨ra, rc, hS6, hK6, hO6, hP6, hA6⟩ := hcut
     have hch : wc.cell? ⟨bx, 2, none⟩ = some vh := kab hS6 2
     have hmc6 : wc.cell? ⟨mb, k, none⟩ = some (.int .i64 (c : Int)) := (World.cell?_of_block (w := w3) (hK6.block mb hmz (fun e => by have : mb = bx := e; omega))).trans ((World.cell?_of_block (w := w3) (HK.out.block mb hmz (fun e => by have : mb = bx := e; omega))).symm.trans hmc)
     have hbc : bx < wc.heap.size := kac hS6
     have hwc : B0 ≤ wc.heap.size := by have := hK6.size; have := HB0.out; omega
     have HS6 := hdd hS6
     have HK6 := hdd hK6
     have HO6 := hdd hO6
     have HP6 := hdd hP6
     have HA6 := hdd hA6
     clear hS6 hK6 hO6 hP6 hA6 hcs hmc k0 k1 HS HK HO HP HA HKK hbw hkw hwz hmw
     have hmw : mb < wc.heap.size := by have := HK6.out.size; omega
     go_wp2
     go_region_law
      (first
        | (go_simp; go_at_call 151; refine (kfi seed (i : Int) (k : Int) (1 - (c : Int)) _ hs).mono ?_; rintro e w7 ⟨rfl, hb7'⟩
           have hb7 : Below wc.heap.size wc w7 := ⟨hb7'.os, hb7'.tape, hb7'.output, hb7'.size, hb7'.block⟩
           have hs7 := (hb7.block _ (kac HS6.out)).trans HS6.out
           have hcs7 : w7.cell? ⟨bx, 2, none⟩ = some vh := kab hs7 2
           have hz7 : bx < w7.heap.size := kac hs7
           have HB7 := hdd hb7
           clear hb7 hb7' hs7
           go_wp2_with fail)
        | (go_simp; go_at_call 48; refine (kua (kbr seed (i : Int) (k : Int) (1 - (c : Int))) (kgw (kej _ _ _ _)) w7).mono ?_; rintro e w8 ⟨rfl, hb8'⟩
           have hb8 : Below wc.heap.size wc w8 := HB7.out.next hb8'
           have hs8 := (hb8.block _ (kac HS6.out)).trans HS6.out
           have hcs8 : w8.cell? ⟨bx, 2, none⟩ = some vh := kab hs8 2
           have hz8 : bx < w8.heap.size := kac hs8
           have hz8' : B0 ≤ w8.heap.size := Nat.le_trans hwc hb8.size
           have HB8 := hdd hb8
           clear hb8 hb8' hs8
           go_wp2_with fail)
        | (refine kb4 rfl _ _ 39 rfl B0 9 i0 (.string ⟨#[]⟩) 1 16 Tryz.underlying39 Hi.out Hz0.out Hz1.out Hz2.out rfl (by decide) vh k ((kb5 seed d (i : Int) k).map vS) rfl ((kaf HP6.out (fun q _ hq => HB8.out.block q hq)).alloc _) ⟨w8.heap.size, 0, none⟩ 1 1 [vS (koe (kbr seed (i : Int) (k : Int) (1 - (c : Int))))] rfl rfl (kbm (kak _ _)) (by simp [vS, Value.oneCell']) (by unfold maxLen; omega) (by omega) (by simp; omega) (by decide) ?_
           intro v9 w9 ho9 hg9 hw9
           obtain ⟨hp9, ha9, hk9⟩ := kb0 ((kaf HP6.out (fun q _ hq => HB8.out.block q hq)).alloc _) (kaf HO6.out (fun q _ hq => HB8.out.block q hq)) HA6.out.symm ho9 hg9 hw9
           rw [← kdq, ← HH1.out] at ho9
           obtain ⟨ra9, rc9, rfl⟩ := kah ho9
           have HO9 := hdd ho9
           have HP9 := hdd hp9
           have HA9 := hdd ha9.symm
           have hS9 : w9.heap[bx]? = _ := (hk9 bx (by have := HB0.out; omega) hz8).trans ((HB8.out.block _ (kac HS6.out)).trans HS6.out)
           have HK9 := hdd (((HK6.out.trans (ka1.of_below HB8.out)).alloc _).grown hg9 (fun q hq => .inl (by have := (HP6.out.lt q hq).1; have := HB0.out; omega)))
           have hcs9 : w9.cell? ⟨bx, 2, none⟩ = some vh := kab hS9 2
           have hfs9 : w9.frozen? ⟨bx, 2, none⟩ = false := kai hS9 _
           have HS9 := hdd hS9
           clear ho9 hg9 hw9 hp9 ha9 hk9 hS9))
     all_goals
      obtain ⟨w10, h10⟩ : ∃ w10, w9.setCell ⟨bx, 2, none⟩ (.slice ra9 (k + 1) rc9) = w10 := ⟨_, rfl⟩
      rw [h10]
      have hK10 : ka1 (Licit.One bx) w9 w10 := h10 ▸ kau bx 2 w9 _
      have HS10 := hdd (show w10.heap[bx]? = some (.cells #[.int .i64 (i : Int), .slice ra (k + 1) rc, .slice ra9 (k + 1) rc9, .slice none 0 0] 43) from h10 ▸ set_of HS9.out 2 _)
      have HO10 := hdd (kaf HP9.out (fun q hq hl => hK10.block q hl (fun e => by have : q = bx := e; have := HB0.out; omega)))
      have HP10 := hdd (kaf HO9.out (fun q hq hl => hK10.block q hl (fun e => by have : q = bx := e; have := HB0.out; omega)))
      have HK10 := hdd (HK9.out.trans (hK10.mono (fun _ _ e => e)))
      clear h10 hK10 hcs9 hfs9 hch
      go_wp2
      go_roundw
      case rel => exact ⟨k + 1, _, _, by omega, by go_num, HS10.out, HK10.out, HO10.out, HP10.out, HA9.out⟩
      case measure => simp [intOf]; omega
  · obtain rfl : k = b := by omega
    have HLv := hdd (fun W => kpb seed k h W hs hb hh)
    clear hcs
    go_wp2_with (first
     | (go_at_call 138; refine (HLv.out _).mono ?_; rintro e w4 ⟨lv, rfl, hl4, hb4⟩
        have hs4 := (hb4.block _ (kac HS.out)).trans HS.out
        have HO4 := hdd (kaf HO.out (fun q _ hq => hb4.block q hq))
        have HP4 := hdd (kaf HP.out (fun q _ hq => hb4.block q hq))
        have HK4 := hdd (HK.out.trans (ka1.of_below hb4))
        have HL4 := hdd (show w4.ownsRow B0 9 1 lv (kd8 seed k h 0).length ((kd8 seed k h 0).map vS) from kan hl4 hwz)
        have HS4 := hdd hs4
        clear hb4 hl4 hs4))
    clear k0 k1 HS HK HO HP HKK hbw hkw hwz
    go_loopw [13, 14] (fun a l wx => ∃ (j : Nat) (vr : Value), j ≤ h ∧ a = .int .i64 ((i / 2 ^ j : Nat) : Int) ∧ wx.heap[bx]? = some (.cells #[.int .i64 (i : Int), vs, vh, vr] 43) ∧ ka1 (Licit.One bx) w3 wx ∧
     wx.ownsRow B0 9 1 vs k ((kcz seed d (i : Int) k).map vS) ∧ wx.ownsRow B0 9 1 vh k ((kb5 seed d (i : Int) k).map vS) ∧ wx.ownsRow B0 9 1 vr j ((kdc seed k h i j).map vS) ∧ wx.ownsRow B0 9 1 l (kd8 seed k h j).length ((kd8 seed k h j).map vS) ∧
     kd9 vr vs ∧ kd9 vr vh ∧ kd9 vr l) (fun _ l _ => kvv l)
    case atStart => exact ⟨0, _, by omega, by simp, HS4.out, HK4.out, HO4.out, HP4.out, World.ownsRow_nil _ _ _ _, HL4.out, kd9.nil, kd9.nil, kd9.nil⟩
    case round =>
     obtain ⟨j, vr, hj, rfl, hS, hK, hO, hP, hR, hL, hA1, hA2, hA3⟩ := hrel
     clear HS4 HK4 HO4 HP4 HL4
     have hcs : wr.cell? ⟨bx, 3, none⟩ = some vr := kab hS 3
     have hbw : bx < wr.heap.size := kac hS
     have hwz : B0 ≤ wr.heap.size := by have := hK.size; have := HB0.out; omega
     have hlen := kjn seed k h hj
     have HS := hdd hS
     have HK := hdd hK
     have HO := hdd hO
     have HP := hdd hP
     have HR := hdd hR
     have HA1 := hdd hA1
     have HA2 := hdd hA2
     have HA3 := hdd hA3
     obtain ⟨n2, hn2⟩ : ∃ n2, (kd8 seed k h j).length = n2 := ⟨_, rfl⟩
     rw [hn2] at hL hlen
     have HL := hdd hL
     have hn64 : n2 ≤ 64 := by rw [hlen]; exact Nat.le_trans (Nat.pow_le_pow_right (by decide) (show h - j ≤ 6 by omega)) (by decide)
     clear hS hK hO hP hR hL hA1 hA2 hA3
     by_cases hlt : j < h
     · have hn1 : 2 ≤ n2 := by
        rw [hlen, show h - j = (h - (j + 1)) + 1 by omega, Nat.pow_succ]
        have := Nat.one_le_two_pow (n := h - (j + 1))
        omega
       obtain ⟨lb, lc, rfl, _, hlz, _⟩ := kb2 HL.out (by omega)
       obtain ⟨q, hq⟩ : ∃ q, i / 2 ^ j = q := ⟨_, rfl⟩
       have hq64 : q < 64 := by rw [← hq]; exact Nat.lt_of_le_of_lt (Nat.div_le_self _ _) hi64
       obtain ⟨idx, hidx⟩ : ∃ idx, q ^^^ 1 = idx := ⟨_, rfl⟩
       have hin : idx < n2 := by rw [hlen, ← hidx, ← hq]; exact kqv Hii.out hlt
       have hxor : bits BinOp.xor IntKind.i64 (q : Int) 1 = (idx : Int) := by rw [← hidx]; exact kyn ⟨q, hq64⟩
       obtain ⟨x, hx⟩ : ∃ x, (kd8 seed k h j).getD idx [] = x := ⟨_, rfl⟩
       have hct : wr.cell? ⟨lb, idx, none⟩ = some (.string (B x)) := by
        have := kly HL.out (i := idx) (by rw [hn2]; exact hin)
        rw [hx] at this
        exact this
       have hstep : kdc seed k h i j ++ [x] = kdc seed k h i (j + 1) := by rw [kke, hq, hidx, hx]
       have hq2 : i / 2 ^ (j + 1) = q / 2 := by rw [Nat.pow_succ, ← Nat.div_div_eq_div_mul, hq]
       have hinI : (idx : Int) < (n2 : Int) := by omega
       obtain ⟨q2, hq2'⟩ : ∃ q2, q / 2 = q2 := ⟨_, rfl⟩
       have hqd2 : (q : Int).tdiv 2 = (q2 : Int) := by rw [Int.tdiv_eq_ediv_of_nonneg (by omega)]; omega
       have hqd : IntKind.i64.wrap ((q : Int).tdiv 2) = (q2 : Int) := by rw [hqd2, IntKind.wrap_i64]; omega
       have hqd3 : IntKind.i64.wrap (q2 : Int) = (q2 : Int) := by rw [IntKind.wrap_i64]; omega
       have Hst := hdd hstep
       have Hq2 := hdd (hq2.trans hq2')
       have Hn2 := hdd hn2
       rw [hq]
       clear hq hidx hin hx hstep hq2 hq2' hn2 hlen
       go_wp2
       go_region_law
        (first
          | (refine kb4 rfl _ _ 39 rfl B0 9 i0 (.string ⟨#[]⟩) 1 16 Tryz.underlying39 Hi.out Hz0.out Hz1.out Hz2.out rfl (by decide) vr j ((kdc seed k h i j).map vS) rfl (kqy (HR.out.alloc (.cells #[.string (B x)] 9))) ⟨wr.heap.size, 0, none⟩ 1 1 [vS x] rfl rfl (knp (kbm (kak wr (.cells #[.string (B x)] 9)))) (by simp [vS, Value.oneCell']) (by unfold maxLen; omega) (by omega) (by simp; omega) (by decide) ?_
             intro v5 w5 ho5 hg5' hw5
             have hg5 : (wr.alloc (.cells #[.string (B x)] 9)).grownBy w5 vr.ownBlock := ⟨hg5'.os, hg5'.tape, hg5'.output, hg5'.size, hg5'.block⟩
             clear hg5'
             obtain ⟨hp5, ha5, hk5⟩ := kb0 (w3 := wr) (HR.out.alloc _) HO.out HA1.out ho5 hg5 hw5
             obtain ⟨hq5, hb5, _⟩ := kb0 (w3 := wr) (HR.out.alloc _) HP.out HA2.out ho5 hg5 hw5
             obtain ⟨hl5, hc5, _⟩ := kb0 (w3 := wr) (HR.out.alloc _) HL.out HA3.out ho5 hg5 hw5
             rw [← kdq, Hst.out] at ho5
             obtain ⟨ra5, rc5, rfl⟩ := kah ho5
             have HR5 := hdd ho5
             have HO5 := hdd hp5
             have HP5 := hdd hq5
             have HL5 := hdd hl5
             have HA5 := hdd ha5
             have HC5 := hdd hb5
             have HD5 := hdd hc5
             have hS5 : w5.heap[bx]? = _ := (hk5 bx (by have := HB0.out; omega) (kac HS.out)).trans HS.out
             have HK5 := hdd ((HK.out.alloc _).grown hg5 (fun q hq => .inl (by have := (HR.out.lt q hq).1; have := HB0.out; omega)))
             have hcs5 : w5.cell? ⟨bx, 3, none⟩ = some vr := kab hS5 3
             have hfs5 : w5.frozen? ⟨bx, 3, none⟩ = false := kai hS5 _
             have HS5 := hdd hS5
             clear ho5 hg5 hw5 hp5 ha5 hk5 hS5 hq5 hb5 hl5 hc5))
       all_goals
        obtain ⟨w6, h6⟩ : ∃ w6, w5.setCell ⟨bx, 3, none⟩ (.slice ra5 (j + 1) rc5) = w6 := ⟨_, rfl⟩
        rw [h6]
        have hK6 : ka1 (Licit.One bx) w5 w6 := h6 ▸ kau bx 3 w5 _
        have hne : ∀ q, B0 ≤ q → q < w5.heap.size → ¬ Licit.One bx q := fun q hq _ e => by have : q = bx := e; have := HB0.out; omega
        have HS6 := hdd (show w6.heap[bx]? = some (.cells #[.int .i64 (i : Int), vs, vh, .slice ra5 (j + 1) rc5] 43) from h6 ▸ set_of HS5.out 3 _)
        have HO6 := hdd (kaf HO5.out (fun q hq hl => hK6.block q hl (hne q hq hl)))
        have HP6 := hdd (kaf HP5.out (fun q hq hl => hK6.block q hl (hne q hq hl)))
        have HR6 := hdd (kaf HR5.out (fun q hq hl => hK6.block q hl (hne q hq hl)))
        have hl6 := kaf HL5.out (fun q hq hl => hK6.block q hl (hne q hq hl))
        have HK6 := hdd (HK5.out.trans (hK6.mono (fun _ _ e => e)))
        have hsl6 : IsSl (.slice (some ⟨lb, 0, none⟩) n2 lc) ((kd8 seed k h j).map vS) w6 := IsSl.of_owns (by rw [List.length_map, Hn2.out]; exact hl6) (by rw [List.length_map, Hn2.out]; unfold maxLen; omega)
        have HLV := hdd (kss _ (kd8 seed k h j) w6 hsl6 (fun x hx => kgw (kxj j x hx)) (by rw [Hn2.out]; omega))
        clear h6 hK6 hcs5 hfs5 hl6 hsl6 hne
        go_wp2_with (first
         | (go_at_call 139; refine HLV.out.mono ?_; rintro e w7 ⟨v7, rfl, ho7, hb7⟩
            have hs7 := (hb7.block _ (kac HS6.out)).trans HS6.out
            have HO7 := hdd (kaf HO6.out (fun q _ hq => hb7.block q hq))
            have HP7 := hdd (kaf HP6.out (fun q _ hq => hb7.block q hq))
            have HR7 := hdd (kaf HR6.out (fun q _ hq => hb7.block q hq))
            have HK7 := hdd (HK6.out.trans (ka1.of_below hb7))
            have HS7 := hdd hs7
            have HL7 := hdd (show w7.ownsRow B0 9 1 v7 (kd8 seed k h (j + 1)).length ((kd8 seed k h (j + 1)).map vS) from kan ho7 (by have := HK6.out.size; have := HB0.out; omega))
            have HD7 := hdd (show kd9 (.slice ra5 (j + 1) rc5) v7 from fun q hq hq' => by have := kkj HR6.out hq; have := (ho7.lt q hq').1; omega)
            obtain ⟨la7, lc7, rfl⟩ := kah HL7.out
            clear ho7 hb7 hs7))
        have hlv : (kd8 seed k h (j + 1)).length = n2 / 2 := by show (ko5 (kd8 seed k h j)).length = _; rw [kkg, Hn2.out]
        go_roundw
        case rel => exact ⟨j + 1, _, by omega, by rw [Hq2.out], HS7.out, HK7.out, HO7.out, HP7.out, HR7.out, HL7.out, HA5.out, HC5.out, HD7.out⟩
        case measure =>
         show (kd8 seed k h (j + 1)).length < n2
         rw [hlv]
         omega
     · obtain rfl : j = h := by omega
       have hn1 : n2 = 1 := by rw [hlen]; simp
       subst hn1
       obtain ⟨la, lc, rfl⟩ := kah HL.out
       have hs := HS.out
       obtain ⟨s0, s1, s2, s3⟩ := kf1 hs
       have hrb : wr.heap[w.heap.size + 1]? = some (.cells #[.int .i64 0, .slice none 0 0, .slice none 0 0, .slice none 0 0] 43) := (HK.out.block _ (kac HR3.out) (fun e => by have : w.heap.size + 1 = bx := e; omega)).trans HR3.out
       obtain ⟨r0, r1, r2, r3⟩ := kf1 hrb
       have f0 : wr.frozen? ⟨w.heap.size + 1, 0, none⟩ = false := kai hrb _
       have f1 : wr.frozen? ⟨w.heap.size + 1, 1, none⟩ = false := kai hrb _
       have f2 : wr.frozen? ⟨w.heap.size + 1, 2, none⟩ = false := kai hrb _
       have f3 : wr.frozen? ⟨w.heap.size + 1, 3, none⟩ = false := kai hrb _
       obtain ⟨sa, sc, rfl⟩ := kah HO.out
       obtain ⟨ha, hc, rfl⟩ := kah HP.out
       obtain ⟨ra, rc, rfl⟩ := kah HR.out
       have Hrb := hdd hrb
       clear hrb hs hcs hlen hn2
       go_wp2
       have hKe := ((((kau (w.heap.size + 1) 0 wr (.int .i64 (i : Int))).trans (kau (w.heap.size + 1) 1 _ (.slice sa k sc))).trans (kau (w.heap.size + 1) 2 _ (.slice ha k hc))).trans (kau (w.heap.size + 1) 3 _ (.slice ra j rc)))
       refine kam (p := 8) (t' := 9) (ty := 43) rfl (w.heap.size + 1) 43 #[.int .i64 (i : Int), .slice sa k sc, .slice ha k hc, .slice ra j rc] (0, 0) _ rfl (set_of (set_of (set_of (set_of Hrb.out 0 _) 1 _) 2 _) 3 _) Tryz.underlying43 rfl (by kernel_rfl) rfl ?_
       have hne : ∀ q, B0 ≤ q → ¬ Licit.One (w.heap.size + 1) q := fun q hq e => by have : q = w.heap.size + 1 := e; have := HB0.out; omega
       have hB : Below w.heap.size w wr := HB3.out.trans (HK.out.below HB3.out.size (fun q hq e => by have : q = bx := e; omega))
       refine ⟨_, rfl, ⟨_, _, _, rfl, ?_, ?_, ?_⟩, hB.trans (hKe.below hB.size (fun q hq e => by have : q = w.heap.size + 1 := e; omega))⟩
       · rw [kgo]
         exact kan (kaf HO.out (fun q hq hl => hKe.block q hl (hne q hq))) (by have := HB0.out; omega)
       · rw [kfp]
         exact kan (kaf HP.out (fun q hq hl => hKe.block q hl (hne q hq))) (by have := HB0.out; omega)
       · rw [kgp]
         exact kan (kaf HR.out (fun q hq hl => hKe.block q hl (hne q hq))) (by have := HB0.out; omega)
abbrev k2s : Value := .agg #[.int .i64 0, .slice none 0 0, .slice none 0 0, .slice none 0 0]
def kfe (b h i : Int) : Bool := kcp b h && decide (0 ≤ i) && decide (i < ((2 ^ h.toNat : Nat) : Int))
def kml (b h i : Int) : Int := if kfe b h i = true then 0 else 3
def kxz (b h i : Int) : Int := if kfe b h i = true then i else 0
def k06 (seed m : Bs) (b h i : Int) : List Bs := if kfe b h i = true then kcz seed (Sha.sha m) i b.toNat else []
def k1e (seed m : Bs) (b h i : Int) : List Bs := if kfe b h i = true then kb5 seed (Sha.sha m) i b.toNat else []
def k04 (seed : Bs) (b h i : Int) : List Bs := if kfe b h i = true then kdc seed b.toNat h.toNat i.toNat h.toNat else []
theorem kve (w : World) : kec k2s 0 [] [] [] w := ⟨_, _, _, rfl, ⟨by simp, .inl ⟨none, 0, rfl, rfl⟩⟩, ⟨by simp, .inl ⟨none, 0, rfl, rfl⟩⟩, ⟨by simp, .inl ⟨none, 0, rfl, rfl⟩⟩⟩
theorem kk9 {b h i : Int} (hf : kfe b h i = false) : kcp b h = false ∨ (kcp b h = true ∧ i < 0) ∨ (kcp b h = true ∧ 0 ≤ i ∧ ((2 ^ h.toNat : Nat) : Int) ≤ i) := by
 unfold kfe at hf
 cases hk : kcp b h with
 | false => exact .inl rfl
 | true =>
   rw [hk, Bool.true_and] at hf
   by_cases h0 : i < 0
   · exact .inr (.inl ⟨rfl, h0⟩)
   · have h1 : 0 ≤ i := by omega
     rw [decide_eq_true h1, Bool.true_and, decide_eq_false_iff_not] at hf
     exact .inr (.inr ⟨rfl, h1, by omega⟩)
theorem k0f (seed m : Bs) (b h i : Int) (w : World) (hf : kfe b h i = false) :
 Calls Tryz.prog 81 #[.string (B seed), .agg #[.int .i64 b, .int .i64 h], .int .i64 i, .string (B m)] w fun e w' => e = .returned (.tuple #[k2s, .int .i64 3]) ∧ Below w.heap.size w w' := by
 rcases kk9 hf with hk | ⟨hk, h0⟩ | ⟨hk, h0, h1⟩
 · have HV := hdd (fun W => kqx b h W hk)
   clear hk hf
   go_enter Tryz.func81, Tryz.ntmps81
   go_wp2_with (first
    | (go_at_call 140; refine (HV.out _).mono ?_; rintro e w1 ⟨rfl, hb1⟩
       have hr1 : w1.heap[w.heap.size + 1]? = some (.cells #[.int .i64 0, .slice none 0 0, .slice none 0 0, .slice none 0 0] 43) := (hb1.block _ (by simp)).trans (kaj (by simp) rfl)
       obtain ⟨r0, r1, r2, r3⟩ := kf1 hr1
       have f0 : w1.frozen? ⟨w.heap.size + 1, 0, none⟩ = false := kai hr1 _
       have f1 : w1.frozen? ⟨w.heap.size + 1, 1, none⟩ = false := kai hr1 _
       have f2 : w1.frozen? ⟨w.heap.size + 1, 2, none⟩ = false := kai hr1 _
       have f3 : w1.frozen? ⟨w.heap.size + 1, 3, none⟩ = false := kai hr1 _
       have HR1 := hdd hr1
       have HB1 := hdd ((((Below.refl w.heap.size w).alloc (Nat.le_refl _) _).alloc (by simp) _).next hb1)
       clear hb1 hr1))
   have hKe := ((((kau (w.heap.size + 1) 0 w1 (.int .i64 0)).trans (kau (w.heap.size + 1) 1 _ (.slice none 0 0))).trans (kau (w.heap.size + 1) 2 _ (.slice none 0 0))).trans (kau (w.heap.size + 1) 3 _ (.slice none 0 0)))
   refine kam (p := 8) (t' := 9) (ty := 43) rfl (w.heap.size + 1) 43 _ (0, 0) _ rfl (set_of (set_of (set_of (set_of HR1.out 0 _) 1 _) 2 _) 3 _) Tryz.underlying43 rfl (by kernel_rfl) rfl ?_
   exact ⟨rfl, HB1.out.trans (hKe.below HB1.out.size (fun q hq e => by have : q = w.heap.size + 1 := e; omega))⟩
 · have HV := hdd (fun W => khq b h W hk)
   clear hk hf
   have d2 : decide (i < 0) = true := by simpa using h0
   go_enter Tryz.func81, Tryz.ntmps81
   go_wp2_with (first
    | (go_at_call 140; refine (HV.out _).mono ?_; rintro e w1 ⟨rfl, hb1⟩
       have hr1 : w1.heap[w.heap.size + 1]? = some (.cells #[.int .i64 0, .slice none 0 0, .slice none 0 0, .slice none 0 0] 43) := (hb1.block _ (by simp)).trans (kaj (by simp) rfl)
       obtain ⟨r0, r1, r2, r3⟩ := kf1 hr1
       have f0 : w1.frozen? ⟨w.heap.size + 1, 0, none⟩ = false := kai hr1 _
       have f1 : w1.frozen? ⟨w.heap.size + 1, 1, none⟩ = false := kai hr1 _
       have f2 : w1.frozen? ⟨w.heap.size + 1, 2, none⟩ = false := kai hr1 _
       have f3 : w1.frozen? ⟨w.heap.size + 1, 3, none⟩ = false := kai hr1 _
       have HR1 := hdd hr1
       have HB1 := hdd ((((Below.refl w.heap.size w).alloc (Nat.le_refl _) _).alloc (by simp) _).next hb1)
       clear hb1 hr1))
   have hKe := ((((kau (w.heap.size + 1) 0 w1 (.int .i64 0)).trans (kau (w.heap.size + 1) 1 _ (.slice none 0 0))).trans (kau (w.heap.size + 1) 2 _ (.slice none 0 0))).trans (kau (w.heap.size + 1) 3 _ (.slice none 0 0)))
   refine kam (p := 8) (t' := 9) (ty := 43) rfl (w.heap.size + 1) 43 _ (0, 0) _ rfl (set_of (set_of (set_of (set_of HR1.out 0 _) 1 _) 2 _) 3 _) Tryz.underlying43 rfl (by kernel_rfl) rfl ?_
   exact ⟨rfl, HB1.out.trans (hKe.below HB1.out.size (fun q hq e => by have : q = w.heap.size + 1 := e; omega))⟩
 · have hk' : 8 ≤ b ∧ b ≤ 256 ∧ 0 ≤ h ∧ h ≤ 6 := by simpa [kcp] using hk
   obtain ⟨h, rfl⟩ : ∃ n : Nat, h = (n : Int) := ⟨h.toNat, by omega⟩
   have hh : h ≤ 6 := by omega
   have HV := hdd (fun W => khq b (h : Int) W hk)
   have HCnt := hdd (fun W => kgr b h W hh)
   obtain ⟨N, hN, hp1, hp2, h64, _⟩ := kn7 hh
   rw [Int.toNat_natCast, hN] at h1
   rw [hN] at HCnt
   clear hk hf hk' hN
   have d2 : decide (i < 0) = false := by simp; omega
   have d3 : decide ((N : Int) ≤ i) = true := by simp; omega
   go_enter Tryz.func81, Tryz.ntmps81
   go_wp2_with (first
    | (go_at_call 140; refine (HV.out _).mono ?_; rintro e w1 ⟨rfl, hb1⟩
       have hr1 : w1.heap[w.heap.size + 1]? = some (.cells #[.int .i64 0, .slice none 0 0, .slice none 0 0, .slice none 0 0] 43) := (hb1.block _ (by simp)).trans (kaj (by simp) rfl)
       obtain ⟨r0, r1, r2, r3⟩ := kf1 hr1
       have f0 : w1.frozen? ⟨w.heap.size + 1, 0, none⟩ = false := kai hr1 _
       have f1 : w1.frozen? ⟨w.heap.size + 1, 1, none⟩ = false := kai hr1 _
       have f2 : w1.frozen? ⟨w.heap.size + 1, 2, none⟩ = false := kai hr1 _
       have f3 : w1.frozen? ⟨w.heap.size + 1, 3, none⟩ = false := kai hr1 _
       have HR1 := hdd hr1
       have hk1 : w1.heap[w.heap.size]? = some (.cells #[.int .i64 b, .int .i64 (h : Int)] 41) := (hb1.block _ (by simp; omega)).trans (kaq (kak _ _))
       obtain ⟨k0, k1⟩ := kui hk1
       have HB1 := hdd ((((Below.refl w.heap.size w).alloc (Nat.le_refl _) _).alloc (by simp) _).next hb1)
       clear hb1 hr1 hk1))
   have hKe := ((((kau (w.heap.size + 1) 0 w1 (.int .i64 0)).trans (kau (w.heap.size + 1) 1 _ (.slice none 0 0))).trans (kau (w.heap.size + 1) 2 _ (.slice none 0 0))).trans (kau (w.heap.size + 1) 3 _ (.slice none 0 0)))
   refine kam (p := 8) (t' := 9) (ty := 43) rfl (w.heap.size + 1) 43 _ (0, 0) _ rfl (set_of (set_of (set_of (set_of HR1.out 0 _) 1 _) 2 _) 3 _) Tryz.underlying43 rfl (by kernel_rfl) rfl ?_
   exact ⟨rfl, HB1.out.trans (hKe.below HB1.out.size (fun q hq e => by have : q = w.heap.size + 1 := e; omega))⟩
theorem kxh (seed m : Bs) (b h i : Int) (w : World) (hf : kfe b h i = false) :
 Calls Tryz.prog 82 #[.string (B seed), .agg #[.int .i64 b, .int .i64 h], .int .i64 i, .string (B m)] w fun e w' => e = .returned (.tuple #[k2s, .int .i64 3]) ∧ Below w.heap.size w w' := by
 rcases kk9 hf with hk | ⟨hk, h0⟩ | ⟨hk, h0, h1⟩
 · have HV := hdd (fun W => kkf b h W hk)
   clear hk hf
   go_enter Tryz.func82, Tryz.ntmps82
   go_wp2_with (first
    | (go_at_call 80; refine (HV.out _).mono ?_; rintro e w1 ⟨rfl, hb1⟩
       have hr1 : w1.heap[w.heap.size + 1]? = some (.cells #[.int .i64 0, .slice none 0 0, .slice none 0 0, .slice none 0 0] 43) := (hb1.block _ (by simp)).trans (kaj (by simp) rfl)
       obtain ⟨r0, r1, r2, r3⟩ := kf1 hr1
       have f0 : w1.frozen? ⟨w.heap.size + 1, 0, none⟩ = false := kai hr1 _
       have f1 : w1.frozen? ⟨w.heap.size + 1, 1, none⟩ = false := kai hr1 _
       have f2 : w1.frozen? ⟨w.heap.size + 1, 2, none⟩ = false := kai hr1 _
       have f3 : w1.frozen? ⟨w.heap.size + 1, 3, none⟩ = false := kai hr1 _
       have HR1 := hdd hr1
       have HB1 := hdd ((((Below.refl w.heap.size w).alloc (Nat.le_refl _) _).alloc (by simp) _).next hb1)
       clear hb1 hr1))
   have hKe := ((((kau (w.heap.size + 1) 0 w1 (.int .i64 0)).trans (kau (w.heap.size + 1) 1 _ (.slice none 0 0))).trans (kau (w.heap.size + 1) 2 _ (.slice none 0 0))).trans (kau (w.heap.size + 1) 3 _ (.slice none 0 0)))
   refine kam (p := 8) (t' := 9) (ty := 43) rfl (w.heap.size + 1) 43 _ (0, 0) _ rfl (set_of (set_of (set_of (set_of HR1.out 0 _) 1 _) 2 _) 3 _) Tryz.underlying43 rfl (by kernel_rfl) rfl ?_
   exact ⟨rfl, HB1.out.trans (hKe.below HB1.out.size (fun q hq e => by have : q = w.heap.size + 1 := e; omega))⟩
 · have HV := hdd (fun W => ke6 b h W hk)
   clear hk hf
   have d2 : decide (i < 0) = true := by simpa using h0
   go_enter Tryz.func82, Tryz.ntmps82
   go_wp2_with (first
    | (go_at_call 80; refine (HV.out _).mono ?_; rintro e w1 ⟨rfl, hb1⟩
       have hr1 : w1.heap[w.heap.size + 1]? = some (.cells #[.int .i64 0, .slice none 0 0, .slice none 0 0, .slice none 0 0] 43) := (hb1.block _ (by simp)).trans (kaj (by simp) rfl)
       obtain ⟨r0, r1, r2, r3⟩ := kf1 hr1
       have f0 : w1.frozen? ⟨w.heap.size + 1, 0, none⟩ = false := kai hr1 _
       have f1 : w1.frozen? ⟨w.heap.size + 1, 1, none⟩ = false := kai hr1 _
       have f2 : w1.frozen? ⟨w.heap.size + 1, 2, none⟩ = false := kai hr1 _
       have f3 : w1.frozen? ⟨w.heap.size + 1, 3, none⟩ = false := kai hr1 _
       have HR1 := hdd hr1
       have HB1 := hdd ((((Below.refl w.heap.size w).alloc (Nat.le_refl _) _).alloc (by simp) _).next hb1)
       clear hb1 hr1))
   have hKe := ((((kau (w.heap.size + 1) 0 w1 (.int .i64 0)).trans (kau (w.heap.size + 1) 1 _ (.slice none 0 0))).trans (kau (w.heap.size + 1) 2 _ (.slice none 0 0))).trans (kau (w.heap.size + 1) 3 _ (.slice none 0 0)))
   refine kam (p := 8) (t' := 9) (ty := 43) rfl (w.heap.size + 1) 43 _ (0, 0) _ rfl (set_of (set_of (set_of (set_of HR1.out 0 _) 1 _) 2 _) 3 _) Tryz.underlying43 rfl (by kernel_rfl) rfl ?_
   exact ⟨rfl, HB1.out.trans (hKe.below HB1.out.size (fun q hq e => by have : q = w.heap.size + 1 := e; omega))⟩
 · have hk' : 8 ≤ b ∧ b ≤ 256 ∧ 0 ≤ h ∧ h ≤ 6 := by simpa [kcp] using hk
   obtain ⟨h, rfl⟩ : ∃ n : Nat, h = (n : Int) := ⟨h.toNat, by omega⟩
   have hh : h ≤ 6 := by omega
   have HV := hdd (fun W => ke6 b (h : Int) W hk)
   have HCnt := hdd (fun W => kgr b h W hh)
   obtain ⟨N, hN, hp1, hp2, h64, _⟩ := kn7 hh
   rw [Int.toNat_natCast, hN] at h1
   rw [hN] at HCnt
   clear hk hf hk' hN
   have d2 : decide (i < 0) = false := by simp; omega
   have d3 : decide ((N : Int) ≤ i) = true := by simp; omega
   go_enter Tryz.func82, Tryz.ntmps82
   go_wp2_with (first
    | (go_at_call 80; refine (HV.out _).mono ?_; rintro e w1 ⟨rfl, hb1⟩
       have hr1 : w1.heap[w.heap.size + 1]? = some (.cells #[.int .i64 0, .slice none 0 0, .slice none 0 0, .slice none 0 0] 43) := (hb1.block _ (by simp)).trans (kaj (by simp) rfl)
       have HR1 := hdd hr1
       have hk1 : w1.heap[w.heap.size]? = some (.cells #[.int .i64 b, .int .i64 (h : Int)] 41) := (hb1.block _ (by simp; omega)).trans (kaq (kak _ _))
       obtain ⟨k0, k1⟩ := kui hk1
       have HB1 := hdd ((((Below.refl w.heap.size w).alloc (Nat.le_refl _) _).alloc (by simp) _).next hb1)
       clear hb1 hr1 hk1)
    | (go_at_call 125; refine (HCnt.out _).mono ?_; rintro e w2 ⟨rfl, hb2⟩
       have hr2 : w2.heap[w.heap.size + 1]? = some (.cells #[.int .i64 0, .slice none 0 0, .slice none 0 0, .slice none 0 0] 43) := (hb2.block _ (kac HR1.out)).trans HR1.out
       obtain ⟨r0, r1, r2, r3⟩ := kf1 hr2
       have f0 : w2.frozen? ⟨w.heap.size + 1, 0, none⟩ = false := kai hr2 _
       have f1 : w2.frozen? ⟨w.heap.size + 1, 1, none⟩ = false := kai hr2 _
       have f2 : w2.frozen? ⟨w.heap.size + 1, 2, none⟩ = false := kai hr2 _
       have f3 : w2.frozen? ⟨w.heap.size + 1, 3, none⟩ = false := kai hr2 _
       have HR2 := hdd hr2
       have HB2 := hdd (HB1.out.next hb2)
       clear hb2 hr2))
   have hKe := ((((kau (w.heap.size + 1) 0 w2 (.int .i64 0)).trans (kau (w.heap.size + 1) 1 _ (.slice none 0 0))).trans (kau (w.heap.size + 1) 2 _ (.slice none 0 0))).trans (kau (w.heap.size + 1) 3 _ (.slice none 0 0)))
   refine kam (p := 8) (t' := 9) (ty := 43) rfl (w.heap.size + 1) 43 _ (0, 0) _ rfl (set_of (set_of (set_of (set_of HR2.out 0 _) 1 _) 2 _) 3 _) Tryz.underlying43 rfl (by kernel_rfl) rfl ?_
   exact ⟨rfl, HB2.out.trans (hKe.below HB2.out.size (fun q hq e => by have : q = w.heap.size + 1 := e; omega))⟩
theorem kec.own {base : Nat} {v : Value} {i : Int} {S H R : List Bs} {w : World} (h : kn5 base v i S H R w) (h1 : S.length ≤ maxLen) (h2 : H.length ≤ maxLen) (h3 : R.length ≤ maxLen) : kec v i S H R w := kec.of_sig h h1 h2 h3
end Go.Proofs.YtknpbekoenbphaaGreatDoor
