/- Parts of the proofs: WkRoot, WkSign, WkRefSig2, WkRefBits, WkSigners. No condition beyond those at each theorem. -/
import Derived.Deep.DeepCutAuto
import Derived.Test.YtknpbekoenbphaaGreatDoorPk47
set_option linter.unusedVariables false
set_option linter.unusedSimpArgs false
set_option maxHeartbeats 16000000
set_option maxRecDepth 100000
namespace Go.Proofs.YtknpbekoenbphaaGreatDoor
open Go Go.RowKit Licit
theorem kqb (seed : Bs) (b h j : Nat) (hj : j ≤ h) : ((List.range (h + 1)).map (kd8 seed b h)).getD j [] = kd8 seed b h j := by simp [List.getD_eq_getElem?_getD, show j < h + 1 by omega]
theorem kot {base : Nat} {v : Value} {seed : Bs} {b h : Nat} {w : World} (hh : h ≤ 6) (ho : kg4 base v ((List.range (h + 1)).map (kd8 seed b h)) w) : ki4 v ((List.range (h + 1)).map (kd8 seed b h)) w := by
 refine ho.isRows (by simp [maxLen]; omega) fun j hj => ?_
 rw [List.length_map, List.length_range] at hj
 rw [kqb _ _ _ _ (by omega), kjn seed b h (by omega)]
 exact Nat.le_trans (Nat.le_trans (Nat.pow_le_pow_right (by decide) (show h - j ≤ 6 by omega)) (by decide : 2 ^ 6 ≤ 64)) (by decide)
theorem ks8 : ∀ x : Fin 256, bits .and .i64 (x.val : Int) 1 = ((x.val % 2 : Nat) : Int) := by decide
theorem kup (d : Bs) (k : Nat) (w : World) (hd : d.length = 32) (hk : k < 256) : Calls Tryz.prog 143 #[.string (B d), .int .i64 (k : Int)] w fun e w' => e = .returned (.int .i64 (keq d k : Int)) ∧ w' = w := by
 have hb0 : (0 : Int) ≤ (k : Int) / 8 := by omega
 have hb1 : (k : Int) / 8 < ((B d).size : Int) := by rw [show (B d).size = 32 from hd]; omega
 go_enter Tryz.func143, Tryz.ntmps143
 go_wp2
 go_ret
 refine ⟨?_, rfl⟩
 have hx : (B d)[k / 8]'(by rw [show (B d).size = 32 from hd]; omega) = d.getD (k / 8) 0 := by
  rw [List.getD_eq_getElem?_getD, List.getElem?_eq_getElem (by omega)]
  rfl
 have hlt : (d.getD (k / 8) 0).toNat < 256 := UInt8.toNat_lt _
 have hq : (d.getD (k / 8) 0).toNat / 2 ^ (7 - k % 8) < 256 := Nat.lt_of_le_of_lt (Nat.div_le_self _ _) hlt
 have hc : ((d.getD (k / 8) 0).toNat : Int) / 2 ^ (7 - k % 8) = (((d.getD (k / 8) 0).toNat / 2 ^ (7 - k % 8) : Nat) : Int) := by simp
 have hbit : keq d k = (d.getD (k / 8) 0).toNat / 2 ^ (7 - k % 8) % 2 := rfl
 rw [hx, hc, hbit]
 generalize (d.getD (k / 8) 0).toNat / 2 ^ (7 - k % 8) = q at hq
 have hw : wrap64 (q : Int) = (q : Int) := by unfold wrap64; omega
 have := ks8 ⟨q, hq⟩
 dsimp only at this
 rw [hw, this]
 rfl
def kn5 (base : Nat) (v : Value) (i : Int) (S H R : List Bs) (w : World) : Prop := ∃ vs vh vr : Value, v = .agg #[.int .i64 i, vs, vh, vr] ∧
 w.ownsRow base 9 1 vs S.length (S.map vS) ∧ w.ownsRow base 9 1 vh H.length (H.map vS) ∧ w.ownsRow base 9 1 vr R.length (R.map vS)
theorem kyn : ∀ x : Fin 64, bits .xor .i64 (x.val : Int) 1 = ((x.val ^^^ 1 : Nat) : Int) := by decide
theorem kz6 {i j : Nat} (hi : i < 64) : bits .xor .i64 ((i : Int) / 2 ^ j) 1 = (((i / 2 ^ j) ^^^ 1 : Nat) : Int) := by
 have hq : i / 2 ^ j < 64 := Nat.lt_of_le_of_lt (Nat.div_le_self _ _) hi
 have hc : (i : Int) / 2 ^ j = ((i / 2 ^ j : Nat) : Int) := by simp
 rw [hc]
 exact kyn ⟨_, hq⟩
theorem kqy {w : World} {base : Nat} {t : TypeId} {size : Nat} {v : Value} {n : Nat} {xs : List Value} (h : w.ownsRow base t size v n xs) : w.drew.ownsRow base t size v n xs := h
theorem knp {w : World} {l : List Value} {ad : Addr} (h : ∀ j u, l[j]? = some u → w.cell? (ad.add j) = some u) : ∀ j u, l[j]? = some u → w.drew.cell? (ad.add j) = some u := h
theorem kb0 {base n : Nat} {v v' u : Value} {xs ys : List Value} {x : Value} {T : TypeId} {w3 w4 : World} {m : Nat} {o : Obj} (ho : (w3.alloc o).ownsRow base T 1 v n xs) (hu : w3.ownsRow base T 1 u m ys) (hA : kd9 v u)
 (_ : w4.ownsRow base T 1 v' (n + 1) (xs ++ [x])) (hg : (w3.alloc o).grownBy w4 v.ownBlock) (hw : ∀ q, v'.ownBlock = some q → v.ownBlock = some q ∨ (w3.alloc o).heap.size ≤ q) :
 w4.ownsRow base T 1 u m ys ∧ kd9 v' u ∧ (∀ q, q < base → q < w3.heap.size → w4.heap[q]? = w3.heap[q]?) := by
 refine ⟨ki7 hu (fun q hq => ?_), fun q hq hu' => ?_, fun q hq hl => ?_⟩
 · have hl := kkj hu hq
   exact (hg.block q (by simp; omega) (fun e => hA q e.symm hq)).trans (Below.heap_alloc _ _ _ hl)
 · rcases hw q hq with h | h
   · exact hA q h hu'
   · have := kkj hu hu'
     simp at h
     omega
 · refine (hg.block q (by simp; omega) (fun e => ?_)).trans (Below.heap_alloc _ _ _ hl)
   have := (kdw ho e.symm).1
   omega
theorem kwo (tv : Value) (seed m : Bs) (b h i : Nat) (w : World) (hs : seed.length ≤ maxLen) (hm : m.length ≤ 1000000000000) (hb : b ≤ 256) (hh : h ≤ 6) (hi : i < 2 ^ h) (ht : Tab w)
 (hr : ki4 tv ((List.range (h + 1)).map (kd8 seed b h)) w) :
 Calls Tryz.prog 149 #[tv, .string (B seed), .agg #[.int .i64 (b : Int), .int .i64 (h : Int)], .int .i64 (i : Int), .string (B m)] w fun e w' =>
  ∃ v, e = .returned v ∧ kn5 w.heap.size v (i : Int) (kcz seed (Sha.sha m) (i : Int) b) (kb5 seed (Sha.sha m) (i : Int) b) (kdc seed b h i h) w' ∧ Below w.heap.size w w' := by
 obtain ⟨i0, hi, hz0, hz1, hz2⟩ := info_parts Tryz.infoStr
 have Hi := hdd hi
 have Hz0 := hdd hz0
 have Hz1 := hdd hz1
 have Hz2 := hdd hz2
 clear hi hz0 hz1 hz2
 obtain ⟨d, hd⟩ : ∃ d, Sha.sha m = d := ⟨_, rfl⟩
 have hdl : d.length = 32 := by rw [← hd]; exact Sha.sha_len _
 have HD := hdd hd
 rw [hd]
 clear hd
 have hi64 : i < 64 := Nat.lt_of_lt_of_le hi (Nat.le_trans (Nat.pow_le_pow_right (by decide) hh) (by decide : 2 ^ 6 ≤ 64))
 have Hr := hdd hr
 have Hii := hdd hi
 clear hr hi
 go_enter Tryz.func149, Tryz.ntmps149
 go_wp2_with (first
  | (go_at_call 89; refine (klw m _ hm).mono ?_; rintro e w1 ⟨rfl, hb1⟩; rw [HD.out]
     have hB1 : Below w.heap.size w w1 := ((((Below.refl _ _).alloc (Nat.le_refl _) _).alloc (by simp) _).alloc (by simp; omega) _).next hb1
     have hK1 : w1.heap[w.heap.size]? = some (.cells #[.int .i64 (b : Int), .int .i64 (h : Int)] 41) := (hb1.block _ (by simp; omega)).trans (kaq (kaq (kak _ _)))
     have hS1 : w1.heap[w.heap.size + 1 + 1]? = some (.cells #[.int .i64 (i : Int), .slice none 0 0, .slice none 0 0, .slice none 0 0] 43) := (hb1.block _ (by simp)).trans (kaj (by simp) rfl)
     have hR1 : w1.heap[w.heap.size + 1]? = some (.cells #[.int .i64 0, .slice none 0 0, .slice none 0 0, .slice none 0 0] 43) := (hb1.block _ (by simp)).trans (kaq (kaj (by simp) rfl))
     have hc0 : w1.cell? ⟨w.heap.size, 0, none⟩ = some (.int .i64 (b : Int)) := kab hK1 0
     have hz1 : w.heap.size + 3 ≤ w1.heap.size := by have := hb1.size; simp at this; omega
     have HB1 := hdd hB1
     have HK1 := hdd hK1
     have HS1 := hdd hS1
     have HR1 := hdd hR1
     clear hb1 hB1 hK1 hS1 hR1))
 obtain ⟨bx, hbx⟩ : ∃ bx, w.heap.size + 1 + 1 = bx := ⟨_, rfl⟩
 rw [hbx] at HS1 ⊢
 have hbx1 : w.heap.size + 1 < bx := by omega
 have hbx2 : bx < w.heap.size + 3 := by omega
 clear hbx
 go_loopw [22] (fun n wr => ∃ (k : Nat) (vs vh : Value), k ≤ b ∧ n = .int .i64 k ∧ wr.heap[bx]? = some (.cells #[.int .i64 (i : Int), vs, vh, .slice none 0 0] 43) ∧ (∀ q, w.heap.size ≤ q → q < w.heap.size + 2 → wr.heap[q]? = w1.heap[q]?) ∧
  wr.ownsRow (w.heap.size + 3) 9 1 vs k ((kcz seed d (i : Int) k).map vS) ∧ wr.ownsRow (w.heap.size + 3) 9 1 vh k ((kb5 seed d (i : Int) k).map vS) ∧ kd9 vs vh ∧ Below w.heap.size w wr ∧ w.heap.size + 3 ≤ wr.heap.size) (fun n _ => b - (intOf n).toNat)
 case atStart => exact ⟨0, _, _, by omega, rfl, HS1.out, fun _ _ _ => rfl, World.ownsRow_nil _ _ _ _, World.ownsRow_nil _ _ _ _, kd9.nil, HB1.out, hz1⟩
 case round =>
  obtain ⟨k, vs, vh, hk, rfl, hS, hK, hO, hP, hA, hB, hzr⟩ := hrel
  have hcs : wr.cell? ⟨bx, 1, none⟩ = some vs := kab hS 1
  have htr := ht.same hB
  have HS := hdd hS
  have HK := hdd hK
  have HO := hdd hO
  have HP := hdd hP
  have HA := hdd hA
  have HB := hdd hB
  clear hS hK hO hP hA hB
  by_cases hlt : k < b
  · have hv2 : keq d k < 2 := kqm d k
    go_wp2_with (first
     | (go_at_call 143; refine (kup d k _ hdl (by omega)).mono ?_; rintro e w2 ⟨rfl, rfl⟩))
    go_cut [] (fun wx => ∃ (ra : Option Addr) (rc : Nat), wx.heap[bx]? = some (.cells #[.int .i64 (i : Int), .slice ra (k + 1) rc, vh, .slice none 0 0] 43) ∧ (∀ q, w.heap.size ≤ q → q < w.heap.size + 2 → wx.heap[q]? = w1.heap[q]?) ∧
     wx.ownsRow (w.heap.size + 3) 9 1 (.slice ra (k + 1) rc) (k + 1) ((kcz seed d (i : Int) (k + 1)).map vS) ∧ wx.ownsRow (w.heap.size + 3) 9 1 vh k ((kb5 seed d (i : Int) k).map vS) ∧ kd9 (.slice ra (k + 1) rc) vh ∧ Below w.heap.size w wx ∧ w.heap.size + 3 ≤ wx.heap.size)
    case first =>
     go_region_law
      (first
        | (go_simp; go_at_call 196; refine (kia seed (i : Int) (k : Int) (keq d k : Int) _ hs htr.drew).mono ?_; rintro e w3 ⟨rfl, hb3⟩
           have hs3 := (hb3.block _ (kac HS.out)).trans HS.out
           have hcs3 : w3.cell? ⟨bx, 1, none⟩ = some vs := kab hs3 1
           have hz3 : bx < w3.heap.size := kac hs3
           have HB3 := hdd (kp7 hb3)
           clear hb3 hs3
           go_wp2_with fail)
        | (refine kb4 rfl _ _ 39 rfl (w.heap.size + 3) 9 i0 (.string ⟨#[]⟩) 1 16 Tryz.underlying39 Hi.out Hz0.out Hz1.out Hz2.out rfl (by decide) vs k ((kcz seed d (i : Int) k).map vS) rfl ((kaf HO.out (fun q _ hq => HB3.out.block q hq)).alloc _) ⟨w3.heap.size, 0, none⟩ 1 1 [vS (kbr seed (i : Int) (k : Int) (keq d k : Int))] rfl rfl (kbm (kak _ _)) (by simp [vS, Value.oneCell']) (by unfold maxLen; omega) (by omega) (by have := HB3.out.size; simp; omega) (by decide) ?_
           intro v4 w4 ho4 hg4 hw4
           obtain ⟨hp4, ha4, hk4⟩ := kb0 ((kaf HO.out (fun q _ hq => HB3.out.block q hq)).alloc _) (kaf HP.out (fun q _ hq => HB3.out.block q hq)) HA.out ho4 hg4 hw4
           rw [← kdq, ← kkl] at ho4
           obtain ⟨ra4, rc4, rfl⟩ := kah ho4
           have HO4 := hdd ho4
           have HP4 := hdd hp4
           have HA4 := hdd ha4
           have hS4 : w4.heap[bx]? = _ := (hk4 bx hbx2 hz3).trans ((HB3.out.block _ (kac HS.out)).trans HS.out)
           have HK4 := hdd (show ∀ q, w.heap.size ≤ q → q < w.heap.size + 2 → w4.heap[q]? = w1.heap[q]? from fun q hq1 hq2 => (hk4 q (by omega) (by have := HB3.out.size; omega)).trans ((HB3.out.block q (show q < w2.heap.size by omega)).trans (HK.out q hq1 hq2)))
           have HB4 := hdd (((HB.out.next HB3.out).alloc (by omega) _).grown hg4 (by simp; omega) (fun q hq => by have := (HO.out.lt q hq).1; omega))
           have hcs4 : w4.cell? ⟨bx, 1, none⟩ = some vs := kab hS4 1
           have hfs4 : w4.frozen? ⟨bx, 1, none⟩ = false := kai hS4 _
           have HS4 := hdd hS4
           have HG4 := hdd (show w.heap.size + 3 ≤ w4.heap.size by have h1 := HB3.out.size; have h2 := hg4.size; simp at h2; have h3 : w2.heap.size ≤ w3.heap.size := h1; omega)
           clear ho4 hg4 hw4 hp4 ha4 hk4 hS4))
     all_goals
      go_wp2
      go_meet
      case rel =>
       obtain ⟨w5, h5⟩ : ∃ w5, w4.setCell ⟨bx, 1, none⟩ (.slice ra4 (k + 1) rc4) = w5 := ⟨_, rfl⟩
       rw [h5]
       have hK5 : ka1 (Licit.One bx) w4 w5 := h5 ▸ kau bx 1 w4 _
       exact ⟨ra4, rc4, h5 ▸ set_of HS4.out 1 _, fun q hq1 hq2 => (hK5.block q (by have := HG4.out; omega) (fun e => by have : q = bx := e; omega)).trans (HK4.out q hq1 hq2),
        kaf HO4.out (fun q hq hl => hK5.block q hl (fun e => by have : q = bx := e; omega)), kaf HP4.out (fun q hq hl => hK5.block q hl (fun e => by have : q = bx := e; omega)), HA4.out,
        HB4.out.trans (hK5.below HB4.out.size (fun q hq e => by have : q = bx := e; omega)), Nat.le_trans HG4.out hK5.size⟩
    case rest =>
     obtain ⟨ra4, rc4, hS5, hK5, hO5, hP5, hA5, hB5, hz5⟩ := hcut
     have hch : wc.cell? ⟨bx, 2, none⟩ = some vh := kab hS5 2
     have HS5 := hdd hS5
     have HK5 := hdd hK5
     have HO5 := hdd hO5
     have HP5 := hdd hP5
     have HA4 := hdd hA5
     have HB5 := hdd hB5
     have ht5 := ht.same hB5
     have hw1 : IntKind.i64.wrap (1 - (keq d k : Int)) = 1 - (keq d k : Int) := by rw [IntKind.wrap_i64]; omega
     clear hS5 hK5 hO5 hP5 hA5 hB5 hcs
     go_wp2
     go_region_law
      (first
        | (go_simp; go_at_call 196; refine (kia seed (i : Int) (k : Int) (1 - (keq d k : Int)) _ hs ht5.drew).mono ?_; rintro e w6 ⟨rfl, hb6⟩
           have hs6 := (hb6.block _ (kac HS5.out)).trans HS5.out
           have hcs6 : w6.cell? ⟨bx, 2, none⟩ = some vh := kab hs6 2
           have HB6 := hdd (kp7 hb6)
           have ht6 := ht5.same HB6.out
           clear hb6 hs6
           go_wp2_with fail)
        | (go_simp; go_at_call 142; refine (klr (kbr seed (i : Int) (k : Int) (1 - (keq d k : Int))) _ (kgw (kej _ _ _ _)) ht6).mono ?_; rintro e w7 ⟨rfl, hb7⟩
           have HB7 := hdd (HB6.out.next hb7)
           have hs7 := (HB7.out.block _ (kac HS5.out)).trans HS5.out
           have hcs7 : w7.cell? ⟨bx, 2, none⟩ = some vh := kab hs7 2
           have hz7 : bx < w7.heap.size := kac hs7
           clear hb7 hs7
           go_wp2_with fail)
        | (refine kb4 rfl _ _ 39 rfl (w.heap.size + 3) 9 i0 (.string ⟨#[]⟩) 1 16 Tryz.underlying39 Hi.out Hz0.out Hz1.out Hz2.out rfl (by decide) vh k ((kb5 seed d (i : Int) k).map vS) rfl ((kaf HP5.out (fun q _ hq => HB7.out.block q hq)).alloc _) ⟨w7.heap.size, 0, none⟩ 1 1 [vS (koe (kbr seed (i : Int) (k : Int) (1 - (keq d k : Int))))] rfl rfl (kbm (kak _ _)) (by simp [vS, Value.oneCell']) (by unfold maxLen; omega) (by omega) (by have := HB7.out.size; simp; omega) (by decide) ?_
           intro v8 w8 ho8 hg8 hw8
           obtain ⟨hp8, ha8, hk8⟩ := kb0 ((kaf HP5.out (fun q _ hq => HB7.out.block q hq)).alloc _) (kaf HO5.out (fun q _ hq => HB7.out.block q hq)) HA4.out.symm ho8 hg8 hw8
           rw [← kdq, ← kiv] at ho8
           obtain ⟨ra8, rc8, rfl⟩ := kah ho8
           have HO8 := hdd ho8
           have HP8 := hdd hp8
           have HA8 := hdd ha8.symm
           have hS8 : w8.heap[bx]? = _ := (hk8 bx hbx2 hz7).trans ((HB7.out.block _ (kac HS5.out)).trans HS5.out)
           have HK8 := hdd (show ∀ q, w.heap.size ≤ q → q < w.heap.size + 2 → w8.heap[q]? = w1.heap[q]? from fun q hq1 hq2 => (hk8 q (by omega) (by have := HB7.out.size; omega)).trans ((HB7.out.block q (show q < wc.heap.size by omega)).trans (HK5.out q hq1 hq2)))
           have HB8 := hdd (((HB5.out.next HB7.out).alloc (by omega) _).grown hg8 (by simp; omega) (fun q hq => by have := (HP5.out.lt q hq).1; omega))
           have hcs8 : w8.cell? ⟨bx, 2, none⟩ = some vh := kab hS8 2
           have hfs8 : w8.frozen? ⟨bx, 2, none⟩ = false := kai hS8 _
           have hz8 : w.heap.size + 3 ≤ w8.heap.size := by have h1 := HB7.out.size; have h2 := hg8.size; simp at h2; omega
           have HS8 := hdd hS8
           clear ho8 hg8 hw8 hp8 ha8 hk8 hS8))
     all_goals
      obtain ⟨w9, h9⟩ : ∃ w9, w8.setCell ⟨bx, 2, none⟩ (.slice ra8 (k + 1) rc8) = w9 := ⟨_, rfl⟩
      rw [h9]
      have hK9 : ka1 (Licit.One bx) w8 w9 := h9 ▸ kau bx 2 w8 _
      have hS9 : w9.heap[bx]? = some (.cells #[.int .i64 (i : Int), .slice ra4 (k + 1) rc4, .slice ra8 (k + 1) rc8, .slice none 0 0] 43) := h9 ▸ set_of HS8.out 2 _
      have HO9 := hdd (kaf HP8.out (fun q hq hl => hK9.block q hl (fun e => by have : q = bx := e; omega)))
      have HP9 := hdd (kaf HO8.out (fun q hq hl => hK9.block q hl (fun e => by have : q = bx := e; omega)))
      have HK9 := hdd (show ∀ q, w.heap.size ≤ q → q < w.heap.size + 2 → w9.heap[q]? = w1.heap[q]? from fun q hq1 hq2 => (hK9.block q (by omega) (fun e => by have : q = bx := e; omega)).trans (HK8.out q hq1 hq2))
      have HB9 := hdd (HB8.out.trans (hK9.below HB8.out.size (fun q hq e => by have : q = bx := e; omega)))
      have hz9 : w.heap.size + 3 ≤ w9.heap.size := by have := hK9.size; omega
      have HS9 := hdd hS9
      clear h9 hK9 hS9 hcs8 hfs8 hch
      go_wp2
      go_roundw
      case rel => exact ⟨k + 1, _, _, by omega, by go_num, HS9.out, HK9.out, HO9.out, HP9.out, HA8.out, HB9.out, hz9⟩
      case measure => simp [intOf]; omega
  · obtain rfl : k = b := by omega
    have hc1 : wr.cell? ⟨w.heap.size, 1, none⟩ = some (.int .i64 (h : Int)) := kab ((HK.out _ (Nat.le_refl _) (by omega)).trans HK1.out) 1
    clear hcs
    go_wp2
    go_loopw [53] (fun n wx => ∃ (j : Nat) (vr : Value), j ≤ h ∧ n = .int .i64 j ∧ wx.heap[bx]? = some (.cells #[.int .i64 (i : Int), vs, vh, vr] 43) ∧
     wx.ownsRow (w.heap.size + 3) 9 1 vs k ((kcz seed d (i : Int) k).map vS) ∧ wx.ownsRow (w.heap.size + 3) 9 1 vh k ((kb5 seed d (i : Int) k).map vS) ∧ wx.ownsRow (w.heap.size + 3) 9 1 vr j ((kdc seed k h i j).map vS) ∧
     kd9 vr vs ∧ kd9 vr vh ∧ Below w.heap.size w wx ∧ w.heap.size + 3 ≤ wx.heap.size ∧ (∀ q, w.heap.size ≤ q → q < w.heap.size + 2 → wx.heap[q]? = w1.heap[q]?)) (fun n _ => h - (intOf n).toNat)
    case atStart => exact ⟨0, _, by omega, rfl, HS.out, HO.out, HP.out, World.ownsRow_nil _ _ _ _, kd9.nil, kd9.nil, HB.out, hzr, HK.out⟩
    case round =>
     clear hc0 hc1 HS HO HP HB HK HK1 HS1 HA htr hlt
     obtain ⟨j, vr, hj, rfl, hS, hO, hP, hR, hA1, hA2, hB, hzr, hK⟩ := hrel
     have HK := hdd hK
     clear hK
     have hcs : wr.cell? ⟨bx, 3, none⟩ = some vr := kab hS 3
     have hbz : bx < wr.heap.size := kac hS
     have HS := hdd hS
     have HO := hdd hO
     have HP := hdd hP
     have HR := hdd hR
     have HA1 := hdd hA1
     have HA2 := hdd hA2
     have HB := hdd hB
     clear hS hO hP hR hA1 hA2 hB
     by_cases hlt : j < h
     · obtain ⟨idx, hidx⟩ : ∃ idx, (i / 2 ^ j) ^^^ 1 = idx := ⟨_, rfl⟩
       have hlen := kjn seed k h (Nat.le_of_lt hlt)
       obtain ⟨n2, hn2⟩ : ∃ n2, 2 ^ (h - j) = n2 := ⟨_, rfl⟩
       have hin : idx < n2 := by rw [← hn2, ← hidx]; exact kqv Hii.out hlt
       have hxor : bits BinOp.xor IntKind.i64 ((i : Int) / 2 ^ j) 1 = (idx : Int) := by rw [← hidx]; exact kz6 hi64
       rw [hn2] at hlen
       obtain ⟨x, hx⟩ : ∃ x, (kd8 seed k h j).getD idx [] = x := ⟨_, rfl⟩
       obtain ⟨m1, hm1⟩ : ∃ m1, h + 1 = m1 := ⟨_, rfl⟩
       obtain ⟨tb, tf, tc, row, htv, htb, hct, hrow⟩ := Hr.out.at (n := m1) (by rw [← hm1]; simp) (j := j) (by omega)
       rw [kqb _ _ _ _ (by omega)] at hrow
       obtain ⟨rb, ro, rc, hrv, hrb, hcr⟩ := hrow.text hlen hin
       rw [hx] at hcr
       subst htv hrv
       have hjm : (j : Int) < (m1 : Int) := by omega
       have hinI : (idx : Int) < (n2 : Int) := by omega
       have hstep : kdc seed k h i j ++ [x] = kdc seed k h i (j + 1) := by rw [kke, hidx, hx]
       have hSS : ∀ W, Below w.heap.size w W → (fun W : World => W.cell? ⟨tb, tf + j, none⟩ = some (.slice (some ⟨rb, ro, none⟩) n2 rc) ∧ W.cell? ⟨rb, ro + idx, none⟩ = some (.string (B x))) W := fun W hW => ⟨(hW.cell htb).trans hct, (hW.cell hrb).trans hcr⟩
       have hS0 := hSS _ HB.out
       have HSS := hdd hSS
       have Hst := hdd hstep
       clear hidx hlen hn2 hx hm1 hrow hct hcr hstep hSS hin
       obtain ⟨hS1, hS2⟩ := hS0
       go_wp2
       go_region_law
        (first
          | (refine kb4 rfl _ _ 39 rfl (w.heap.size + 3) 9 i0 (.string ⟨#[]⟩) 1 16 Tryz.underlying39 Hi.out Hz0.out Hz1.out Hz2.out rfl (by decide) vr j ((kdc seed k h i j).map vS) rfl (kqy (HR.out.alloc (.cells #[.string (B x)] 9))) ⟨wr.heap.size, 0, none⟩ 1 1 [vS x] rfl rfl (knp (kbm (kak wr (.cells #[.string (B x)] 9)))) (by simp [vS, Value.oneCell']) (by unfold maxLen; omega) (by omega) (by simp; omega) (by decide) ?_
             intro v4 w4 ho4 hg4' hw4
             have hg4 : (wr.alloc (.cells #[.string (B x)] 9)).grownBy w4 vr.ownBlock := ⟨hg4'.os, hg4'.tape, hg4'.output, hg4'.size, hg4'.block⟩
             clear hg4'
             obtain ⟨hp4, ha4, hk4⟩ := kb0 (w3 := wr) (HR.out.alloc _) HO.out HA1.out ho4 hg4 hw4
             obtain ⟨hq4, hb4, _⟩ := kb0 (w3 := wr) (HR.out.alloc _) HP.out HA2.out ho4 hg4 hw4
             rw [← kdq, Hst.out] at ho4
             obtain ⟨ra4, rc4, rfl⟩ := kah ho4
             have HR4 := hdd ho4
             have HO4 := hdd hp4
             have HP4 := hdd hq4
             have HA4 := hdd ha4
             have HC4 := hdd hb4
             have hS4 : w4.heap[bx]? = _ := (hk4 bx hbx2 (kac HS.out)).trans HS.out
             have HB4 := hdd ((HB.out.alloc (by omega) _).grown hg4 (by simp; omega) (fun q hq => by have := (HR.out.lt q hq).1; omega))
             have hcs4 : w4.cell? ⟨bx, 3, none⟩ = some vr := kab hS4 3
             have hfs4 : w4.frozen? ⟨bx, 3, none⟩ = false := kai hS4 _
             have HK4 := hdd (show ∀ q, w.heap.size ≤ q → q < w.heap.size + 2 → w4.heap[q]? = w1.heap[q]? from fun q hq1 hq2 => (hk4 q (by omega) (by omega)).trans (HK.out q hq1 hq2))
             have HZ4 := hdd (show w.heap.size + 3 ≤ w4.heap.size by have h2 := hg4.size; simp at h2; omega)
             have HS4 := hdd hS4
             clear ho4 hg4 hw4 hp4 ha4 hk4 hS4 hq4 hb4))
       all_goals
        obtain ⟨w9, h9⟩ : ∃ w9, w4.setCell ⟨bx, 3, none⟩ (.slice ra4 (j + 1) rc4) = w9 := ⟨_, rfl⟩
        rw [h9]
        have hK9 : ka1 (Licit.One bx) w4 w9 := h9 ▸ kau bx 3 w4 _
        have hS9 : w9.heap[bx]? = some (.cells #[.int .i64 (i : Int), vs, vh, .slice ra4 (j + 1) rc4] 43) := h9 ▸ set_of HS4.out 3 _
        have HO9 := hdd (kaf HO4.out (fun q hq hl => hK9.block q hl (fun e => by have : q = bx := e; omega)))
        have HP9 := hdd (kaf HP4.out (fun q hq hl => hK9.block q hl (fun e => by have : q = bx := e; omega)))
        have HR9 := hdd (kaf HR4.out (fun q hq hl => hK9.block q hl (fun e => by have : q = bx := e; omega)))
        have HB9 := hdd (HB4.out.trans (hK9.below HB4.out.size (fun q hq e => by have : q = bx := e; omega)))
        have HK9 := hdd (show ∀ q, w.heap.size ≤ q → q < w.heap.size + 2 → w9.heap[q]? = w1.heap[q]? from fun q hq1 hq2 => (hK9.block q (by have := HZ4.out; omega) (fun e => by have : q = bx := e; omega)).trans (HK4.out q hq1 hq2))
        have HZ9 := hdd (Nat.le_trans HZ4.out hK9.size)
        have HS9 := hdd hS9
        clear h9 hK9 hS9 hcs4 hfs4
        go_wp2
        go_roundw
        case rel => exact ⟨j + 1, _, by omega, by go_num, HS9.out, HO9.out, HP9.out, HR9.out, HA4.out, HC4.out, HB9.out, HZ9.out, HK9.out⟩
        case measure => simp [intOf]; omega
     · obtain rfl : j = h := by omega
       have hc0 : wr.cell? ⟨bx, 0, none⟩ = some (.int .i64 (i : Int)) := kab HS.out 0
       have hc1 : wr.cell? ⟨bx, 1, none⟩ = some vs := kab HS.out 1
       have hc2 : wr.cell? ⟨bx, 2, none⟩ = some vh := kab HS.out 2
       have hrb := (HK.out (w.heap.size + 1) (by omega) (by omega)).trans HR1.out
       have hr0 : wr.cell? ⟨w.heap.size + 1, 0, none⟩ = some (.int .i64 0) := kab hrb 0
       have hr1 : wr.cell? ⟨w.heap.size + 1, 1, none⟩ = some (.slice none 0 0) := kab hrb 1
       have hr2 : wr.cell? ⟨w.heap.size + 1, 2, none⟩ = some (.slice none 0 0) := kab hrb 2
       have hr3 : wr.cell? ⟨w.heap.size + 1, 3, none⟩ = some (.slice none 0 0) := kab hrb 3
       have hf0 : wr.frozen? ⟨w.heap.size + 1, 0, none⟩ = false := kai hrb _
       have hf1 : wr.frozen? ⟨w.heap.size + 1, 1, none⟩ = false := kai hrb _
       have hf2 : wr.frozen? ⟨w.heap.size + 1, 2, none⟩ = false := kai hrb _
       have hf3 : wr.frozen? ⟨w.heap.size + 1, 3, none⟩ = false := kai hrb _
       have Hrb := hdd hrb
       clear hrb
       obtain ⟨sa, sc, rfl⟩ := kah HO.out
       obtain ⟨ha, hc, rfl⟩ := kah HP.out
       obtain ⟨ra, rc, rfl⟩ := kah HR.out
       go_wp2
       have hKe := ((((kau (w.heap.size + 1) 0 wr (.int .i64 (i : Int))).trans (kau (w.heap.size + 1) 1 _ (.slice sa k sc))).trans (kau (w.heap.size + 1) 2 _ (.slice ha k hc))).trans (kau (w.heap.size + 1) 3 _ (.slice ra j rc)))
       refine kcr (p := 10) (ty := 43) rfl (w.heap.size + 1) 43 #[.int .i64 (i : Int), .slice sa k sc, .slice ha k hc, .slice ra j rc] (0, 0) _ rfl (set_of (set_of (set_of (set_of Hrb.out 0 _) 1 _) 2 _) 3 _) Tryz.underlying43 rfl (by kernel_rfl) rfl ?_
       have hne : ∀ q, w.heap.size + 3 ≤ q → ¬ Licit.One (w.heap.size + 1) q := fun q hq e => by have : q = w.heap.size + 1 := e; omega
       refine ⟨_, rfl, ⟨_, _, _, rfl, ?_, ?_, ?_⟩, HB.out.trans (hKe.below HB.out.size (fun q hq e => by have : q = w.heap.size + 1 := e; omega))⟩
       · rw [kgo]
         exact kan (kaf HO.out (fun q hq hl => hKe.block q hl (hne q hq))) (by omega)
       · rw [kfp]
         exact kan (kaf HP.out (fun q hq hl => hKe.block q hl (hne q hq))) (by omega)
       · rw [kgp]
         exact kan (kaf HR.out (fun q hq hl => hKe.block q hl (hne q hq))) (by omega)
theorem kui {w : World} {r : Nat} {x0 x1 : Value} {T : TypeId} (h : w.heap[r]? = some (.cells #[x0, x1] T)) : w.cell? ⟨r, 0, none⟩ = some x0 ∧ w.cell? ⟨r, 1, none⟩ = some x1 := ⟨kab h 0, kab h 1⟩
def keu (seed : Bs) (b h : Int) : Bool := decide (seed.length ≤ 100) && (!(kcp b h) || (decide (b ≤ 12) && decide (h ≤ 2)))
theorem ktg (seed : Bs) (b h : Int) (w : World) : kcg 32 #[.string (B seed), .agg #[.int .i64 b, .int .i64 h]] w (.bool (keu seed b h)) := by
 have hsz : (B seed).size = seed.length := rfl
 by_cases h1 : seed.length ≤ 100
 · have d1 : decide ((seed.length : Int) ≤ 100) = true := by simp; omega
   cases hk : kcp b h with
   | false =>
     have HV := hdd (fun W => kkf b h W hk)
     have hq : keu seed b h = true := by simp [keu, hk, h1]
     rw [hq]
     clear hq hk h1
     go_enter Tryz.func32, Tryz.ntmps32
     go_wp2_with (go_at_call 80; refine (HV.out _).mono ?_; rintro e w1 ⟨rfl, hb1⟩; have HB1 := hdd (((Below.refl w.heap.size w).alloc (Nat.le_refl _) _).next hb1); clear hb1)
     go_ret
     exact ⟨rfl, HB1.out⟩
   | true =>
     have HV := hdd (fun W => ke6 b h W hk)
     by_cases h2 : b ≤ 12
     · have d2 : decide (b ≤ 12) = true := by simpa using h2
       have hq : keu seed b h = decide (h ≤ 2) := by simp [keu, hk, h1, h2]
       rw [hq]
       clear hq hk h1 h2
       go_enter Tryz.func32, Tryz.ntmps32
       go_wp2_with (go_at_call 80; refine (HV.out _).mono ?_; rintro e w1 ⟨rfl, hb1⟩; have g := (hb1.block w.heap.size (by simp)).trans (kak w _); have c0 := kab g 0; have c1 := kab g 1; have HB1 := hdd (((Below.refl w.heap.size w).alloc (Nat.le_refl _) _).next hb1); clear hb1 g)
       go_ret
       exact ⟨rfl, HB1.out⟩
     · have d2 : decide (b ≤ 12) = false := by simpa using h2
       have hq : keu seed b h = false := by simp [keu, hk, h1, h2]
       rw [hq]
       clear hq hk h1 h2
       go_enter Tryz.func32, Tryz.ntmps32
       go_wp2_with (go_at_call 80; refine (HV.out _).mono ?_; rintro e w1 ⟨rfl, hb1⟩; have g := (hb1.block w.heap.size (by simp)).trans (kak w _); have c0 := kab g 0; have c1 := kab g 1; have HB1 := hdd (((Below.refl w.heap.size w).alloc (Nat.le_refl _) _).next hb1); clear hb1 g)
       go_ret
       exact ⟨rfl, HB1.out⟩
 · have d1 : decide ((seed.length : Int) ≤ 100) = false := by simp; omega
   have hq : keu seed b h = false := by simp [keu, h1]
   rw [hq]
   clear hq h1
   go_enter Tryz.func32, Tryz.ntmps32
   go_wp2
   go_ret
   exact ⟨rfl, (Below.refl _ _).alloc (Nat.le_refl _) _⟩
theorem Tryz.infoInt : (Tryz.prog.info? 3).map (fun i => (i.zero, i.size, i.bytes)) = some (some (.int .i64 0), 1, 8) := by kernel_rfl
def kjg (d : Bs) (n : Nat) : List Int := (List.range n).map fun k => (keq d k : Int)
theorem khx (d : Bs) (n : Nat) : (kjg d n).length = n := by simp [kjg]
theorem kq8 (d : Bs) (n : Nat) : kjg d (n + 1) = kjg d n ++ [(keq d n : Int)] := by simp [kjg, List.range_succ]
theorem kyc (d : Bs) (k : Nat) (_ : d.length = 32) (h : k / 8 < (B d).size) : bits BinOp.and IntKind.i64 (wrap64 ((((B d)[k / 8]'h).toNat : Int) / 2 ^ (7 - k % 8))) 1 = (keq d k : Int) := by
 have hk8 : k / 8 < d.length := h
 have hx : (B d)[k / 8]'h = d.getD (k / 8) 0 := by
  rw [List.getD_eq_getElem?_getD, List.getElem?_eq_getElem hk8]
  rfl
 have hlt : (d.getD (k / 8) 0).toNat < 256 := UInt8.toNat_lt _
 have hq : (d.getD (k / 8) 0).toNat / 2 ^ (7 - k % 8) < 256 := Nat.lt_of_le_of_lt (Nat.div_le_self _ _) hlt
 have hc : ((d.getD (k / 8) 0).toNat : Int) / 2 ^ (7 - k % 8) = (((d.getD (k / 8) 0).toNat / 2 ^ (7 - k % 8) : Nat) : Int) := by simp
 have hbit : keq d k = (d.getD (k / 8) 0).toNat / 2 ^ (7 - k % 8) % 2 := rfl
 rw [hx, hc, hbit]
 generalize (d.getD (k / 8) 0).toNat / 2 ^ (7 - k % 8) = q at hq
 have hw : wrap64 (q : Int) = (q : Int) := by unfold wrap64; omega
 have := ks8 ⟨q, hq⟩
 dsimp only at this
 rw [hw, this]
theorem kt2 (m : Bs) (n : Nat) (w : World) (hm : m.length ≤ 1000000000000) (hn : n ≤ 256) :
 Calls Tryz.prog 147 #[.string (B m), .int .i64 (n : Int)] w fun e w' => ∃ v, e = .returned v ∧ w'.ownsRow w.heap.size 3 1 v n ((kjg (Sha.sha m) n).map vI) ∧ Below w.heap.size w w' := by
 obtain ⟨i0, hi, hz0, hz1, hz2⟩ := info_parts Tryz.infoInt
 have Hi := hdd hi
 have Hz0 := hdd hz0
 have Hz1 := hdd hz1
 have Hz2 := hdd hz2
 clear hi hz0 hz1 hz2
 obtain ⟨d, hd⟩ : ∃ d, Sha.sha m = d := ⟨_, rfl⟩
 have hdl : d.length = 32 := by rw [← hd]; exact Sha.sha_len _
 have HD := hdd hd
 rw [hd]
 clear hd
 go_enter Tryz.func147, Tryz.ntmps147
 go_wp2_with (first
  | (go_at_call 111; refine (kp3 m _ hm).mono ?_; rintro e w1 ⟨rfl, hb1⟩; rw [HD.out]; have HB1 := hdd hb1; clear hb1))
 go_loopw [6, 7] (fun v n' wr => ∃ k : Nat, k ≤ n ∧ n' = .int .i64 k ∧ wr.ownsRow w.heap.size 3 1 v k ((kjg d k).map vI) ∧ Below w.heap.size w wr) (fun _ n' _ => n - (intOf n').toNat)
 case atStart => exact ⟨0, by omega, rfl, World.ownsRow_nil _ _ _ _, HB1.out⟩
 case round =>
  obtain ⟨k, hk, rfl, hO, hB⟩ := hrel
  have HO := hdd hO
  have HB := hdd hB
  clear hO hB
  by_cases hlt : k < n
  · have hb0 : (0 : Int) ≤ (k : Int) / 8 := by omega
    have hb1 : (k : Int) / 8 < ((B d).size : Int) := by rw [show (B d).size = 32 from hdl]; omega
    have HX := hdd (fun h => kyc d k hdl h)
    go_wp2_with (first
     | (at_builtin
        go_loud (
        rw [HX.out]
        refine wpList_append_own _ rfl _ _ 104 rfl w.heap.size 3 i0 (.int .i64 0) 1 8 Tryz.underlying104 Hi.out Hz0.out Hz1.out Hz2.out rfl (by decide) _ k ((kjg d k).map vI) rfl (HO.out.alloc _) ⟨wr.heap.size, 0, none⟩ 1 1 [vI (keq d k : Int)] rfl rfl (kbm (kak _ _)) (by simp [vI, Value.oneCell']) (by unfold maxLen; omega) (by omega) (by have := HB.out.size; simp; omega) ?_
        intro v3 w3 ho3 hg3 _
        rw [← kdq, ← kq8] at ho3
        have hb3 : Below w.heap.size w w3 := (HB.out.alloc HB.out.size _).grown hg3 (by have := HB.out.size; simp; omega) (fun q hq => (HO.out.lt q hq).1)
        have HO3 := hdd ho3
        have HB3 := hdd hb3
        clear ho3 hg3 hb3)))
    go_roundw
    case rel => exact ⟨k + 1, by omega, by go_num, HO3.out, HB3.out⟩
    case measure => simp [intOf]; omega
  · obtain rfl : k = n := by omega
    obtain ⟨a, cap, hv⟩ := kah HO.out
    subst hv
    go_wp2
    go_ret
    exact ⟨_, rfl, HO.out, HB.out⟩
theorem kec.of_sig {base : Nat} {v : Value} {i : Int} {S H R : List Bs} {w : World} (h : kn5 base v i S H R w) (h1 : S.length ≤ maxLen) (h2 : H.length ≤ maxLen) (h3 : R.length ≤ maxLen) : kec v i S H R w := by
 obtain ⟨vs, vh, vr, rfl, a1, a2, a3⟩ := h
 exact ⟨vs, vh, vr, rfl, IsSl.of_owns (by rw [List.length_map]; exact a1) (by rw [List.length_map]; exact h1), IsSl.of_owns (by rw [List.length_map]; exact a2) (by rw [List.length_map]; exact h2), IsSl.of_owns (by rw [List.length_map]; exact a3) (by rw [List.length_map]; exact h3)⟩
theorem kxs (seed m : Bs) (b h i : Nat) (w : World) (hs : seed.length ≤ maxLen) (hm : m.length ≤ 1000000000000) (hk : kcp (b : Int) (h : Int) = true) (hi : i < 2 ^ h) (ht : Tab w) :
 Calls Tryz.prog 81 #[.string (B seed), .agg #[.int .i64 (b : Int), .int .i64 (h : Int)], .int .i64 (i : Int), .string (B m)] w fun e w' =>
  ∃ v, e = .returned (.tuple #[v, .int .i64 0]) ∧ kn5 w.heap.size v (i : Int) (kcz seed (Sha.sha m) (i : Int) b) (kb5 seed (Sha.sha m) (i : Int) b) (kdc seed b h i h) w' ∧ Below w.heap.size w w' := by
 have hk' : 8 ≤ (b : Int) ∧ (b : Int) ≤ 256 ∧ 0 ≤ (h : Int) ∧ (h : Int) ≤ 6 := by simpa [kcp] using hk
 have hb : b ≤ 256 := by omega
 have hh : h ≤ 6 := by omega
 clear hk'
 have HV := hdd (fun W => khq (b : Int) (h : Int) W hk)
 have HSg := hdd (fun (tv : Value) (W : World) (hT : Tab W) hr => kwo tv seed m b h i W hs hm hb hh hi hT hr)
 have HRw := hdd (fun (W : World) (hT : Tab W) => kwv seed b h W hs hb hh hT)
 obtain ⟨n, hn⟩ : ∃ n, 2 ^ h = n := ⟨_, rfl⟩
 have hpi : (1 : Int) * 2 ^ h = (n : Int) := by rw [← hn]; simp
 have hpi2 : (2 : Int) ^ h = (n : Int) := by rw [← hn]; simp
 have hn64 : n ≤ 64 := by rw [← hn]; exact Nat.le_trans (Nat.pow_le_pow_right (by decide) hh) (by decide)
 rw [hn] at hi
 have d1 : decide ((n : Int) ≤ (i : Int)) = false := by simp; omega
 have d2 : decide ((i : Int) < 0) = false := by simp
 clear hn hk
 go_enter Tryz.func81, Tryz.ntmps81
 go_wp2_with (first
  | (go_at_call 140; refine (HV.out _).mono ?_; rintro e w1 ⟨rfl, hb1⟩
     have hk1 : w1.heap[w.heap.size]? = some (.cells #[.int .i64 (b : Int), .int .i64 (h : Int)] 41) := (hb1.block _ (by simp; omega)).trans (kaq (kak _ _))
     have hr1 : w1.heap[w.heap.size + 1]? = some (.cells #[.int .i64 0, .slice none 0 0, .slice none 0 0, .slice none 0 0] 43) := (hb1.block _ (by simp)).trans (kaj (by simp) rfl)
     have hc0 : w1.cell? ⟨w.heap.size, 0, none⟩ = some (.int .i64 (b : Int)) := kab hk1 0
     have hc1 : w1.cell? ⟨w.heap.size, 1, none⟩ = some (.int .i64 (h : Int)) := kab hk1 1
     have HB1 := hdd ((((Below.refl _ _).alloc (Nat.le_refl _) _).alloc (by simp) _).next hb1)
     have HK1 := hdd hk1
     have HR1 := hdd hr1
     clear hb1 hk1 hr1))
 go_region_held3 (fun W => W.cell? ⟨w.heap.size, 0, none⟩ = some (.int .i64 (b : Int)) ∧ W.cell? ⟨w.heap.size, 1, none⟩ = some (.int .i64 (h : Int)))
  (first | go_keep)
  (first
    | (go_at_call 150; refine (HRw.out _ (ht.same HB1.out).drew).mono ?_; rintro e w2 ⟨v2, rfl, ho2, hb2⟩
       have hb2' := kp7 hb2
       have hk2 := (hb2'.block _ (kac HK1.out)).trans HK1.out
       have hr2 := (hb2'.block _ (kac HR1.out)).trans HR1.out
       have hd0 : w2.cell? ⟨w.heap.size, 0, none⟩ = some (.int .i64 (b : Int)) := kab hk2 0
       have hd1 : w2.cell? ⟨w.heap.size, 1, none⟩ = some (.int .i64 (h : Int)) := kab hk2 1
       have HB2 := hdd (HB1.out.next hb2')
       have HK2 := hdd hk2
       have HR2 := hdd hr2
       have HI2 := hdd (kot hh ho2)
       clear ho2 hb2 hb2' hk2 hr2)
    | (go_at_call 149; refine (HSg.out _ _ (ht.same HB2.out) HI2.out).mono ?_; rintro e w3 ⟨v3, rfl, hs3, hb3⟩
       have hk3 := (hb3.block _ (kac HK2.out)).trans HK2.out
       have hr3 := (hb3.block _ (kac HR2.out)).trans HR2.out
       have he0 : w3.cell? ⟨w.heap.size, 0, none⟩ = some (.int .i64 (b : Int)) := kab hk3 0
       have he1 : w3.cell? ⟨w.heap.size, 1, none⟩ = some (.int .i64 (h : Int)) := kab hk3 1
       have HB3 := hdd (HB2.out.next hb3)
       have HZ3 := hdd (show w.heap.size + 2 ≤ w2.heap.size from kac HR2.out)
       have HR3 := hdd hr3
       have HK3 := hdd hk3
       obtain ⟨vs, vh, vr, rfl, o1, o2, o3⟩ := hs3
       obtain ⟨sa, sc, rfl⟩ := kah o1
       obtain ⟨ha, hc, rfl⟩ := kah o2
       obtain ⟨ra, rc, rfl⟩ := kah o3
       have O1 := hdd o1
       have O2 := hdd o2
       have O3 := hdd o3
       have hr30 : w3.cell? ⟨w.heap.size + 1, 0, none⟩ = some (.int .i64 0) := kab hr3 0
       have hr31 : w3.cell? ⟨w.heap.size + 1, 1, none⟩ = some (.slice none 0 0) := kab hr3 1
       have hr32 : w3.cell? ⟨w.heap.size + 1, 2, none⟩ = some (.slice none 0 0) := kab hr3 2
       have hr33 : w3.cell? ⟨w.heap.size + 1, 3, none⟩ = some (.slice none 0 0) := kab hr3 3
       have hf30 : w3.frozen? ⟨w.heap.size + 1, 0, none⟩ = false := kai hr3 0
       have hf31 : w3.frozen? ⟨w.heap.size + 1, 1, none⟩ = false := kai hr3 1
       have hf32 : w3.frozen? ⟨w.heap.size + 1, 2, none⟩ = false := kai hr3 2
       have hf33 : w3.frozen? ⟨w.heap.size + 1, 3, none⟩ = false := kai hr3 3
       clear o1 o2 o3 hb3 hk3 hr3))
 all_goals
  go_wp2
  have hK4 := ((((kau (w.heap.size + 1) 0 w3 (.int .i64 (i : Int))).trans (kau (w.heap.size + 1) 1 _ (.slice sa (kcz seed (Sha.sha m) (i : Int) b).length sc))).trans (kau (w.heap.size + 1) 2 _ (.slice ha (kb5 seed (Sha.sha m) (i : Int) b).length hc))).trans (kau (w.heap.size + 1) 3 _ (.slice ra (kdc seed b h i h).length rc)))
  have HK4 := hdd hK4
  clear hK4
  refine kam (p := 8) (t' := 9) (ty := 43) rfl (w.heap.size + 1) 43 _ (0, 0) _ rfl (set_of (set_of (set_of (set_of HR3.out 0 _) 1 _) 2 _) 3 _) Tryz.underlying43 rfl (by kernel_rfl) rfl ?_
  have hne : ∀ q, w2.heap.size ≤ q → q < w3.heap.size → ¬ Licit.One (w.heap.size + 1) q := fun q hq _ e => by have : q = w.heap.size + 1 := e; have := HZ3.out; omega
  refine ⟨_, rfl, ⟨_, _, _, rfl, ?_, ?_, ?_⟩, HB3.out.trans (HK4.out.below HB3.out.size (fun q hq e => by have : q = w.heap.size + 1 := e; omega))⟩
  · exact kan (kaf O1.out (fun q hq hl => HK4.out.block q hl (hne q hq hl))) (by have := HZ3.out; omega)
  · exact kan (kaf O2.out (fun q hq hl => HK4.out.block q hl (hne q hq hl))) (by have := HZ3.out; omega)
  · exact kan (kaf O3.out (fun q hq hl => HK4.out.block q hl (hne q hq hl))) (by have := HZ3.out; omega)
theorem kn7 {h : Nat} (hh : h ≤ 6) : ∃ n : Nat, 2 ^ h = n ∧ (1 : Int) * 2 ^ h = (n : Int) ∧ (2 : Int) ^ h = (n : Int) ∧ n ≤ 64 ∧ 1 ≤ n :=
 ⟨2 ^ h, rfl, by simp, by simp, Nat.le_trans (Nat.pow_le_pow_right (by decide) hh) (by decide), Nat.one_le_two_pow⟩
end Go.Proofs.YtknpbekoenbphaaGreatDoor
