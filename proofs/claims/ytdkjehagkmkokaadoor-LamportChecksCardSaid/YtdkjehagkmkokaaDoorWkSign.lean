/- value and sign of package lamport. -/
import Derived.Test.YtdkjehagkmkokaaDoorWkRoot
import Derived.Test.YtdkjehagkmkokaaDoorFrmAll
import Derived.Test.YtdkjehagkmkokaaDoorPlainAll
import Derived.Deep.DeepCutAuto
import Derived.Deep.RegionLaw
namespace Go.Proofs.YtdkjehagkmkokaaDoor
open Go Go.RowKit Licit

set_option maxRecDepth 100000 in
theorem and_one : ∀ x : Fin 256, bits .and .i64 (x.val : Int) 1 = ((x.val % 2 : Nat) : Int) := by decide
theorem value_any (d : Bs) (k : Nat) (w : World) (hd : d.length = 32) (hk : k < 256) : Calls Tryd.prog 45 #[.string (B d), .int .i64 (k : Int)] w fun e w' => e = .returned (.int .i64 (bitOf d k : Int)) ∧ w' = w := by
  have hb0 : (0 : Int) ≤ (k : Int) / 8 := by omega
  have hb1 : (k : Int) / 8 < ((B d).size : Int) := by rw [show (B d).size = 32 from hd]; omega
  go_enter Tryd.func45, Tryd.ntmps45
  go_wp2
  go_ret
  refine ⟨?_, rfl⟩
  have hx : (B d)[k / 8]'(by rw [show (B d).size = 32 from hd]; omega) = d.getD (k / 8) 0 := by
    rw [List.getD_eq_getElem?_getD, List.getElem?_eq_getElem (by omega)]
    rfl
  have hlt : (d.getD (k / 8) 0).toNat < 256 := UInt8.toNat_lt _
  have hq : (d.getD (k / 8) 0).toNat / 2 ^ (7 - k % 8) < 256 := Nat.lt_of_le_of_lt (Nat.div_le_self _ _) hlt
  have hc : ((d.getD (k / 8) 0).toNat : Int) / 2 ^ (7 - k % 8) = (((d.getD (k / 8) 0).toNat / 2 ^ (7 - k % 8) : Nat) : Int) := by simp
  have hbit : bitOf d k = (d.getD (k / 8) 0).toNat / 2 ^ (7 - k % 8) % 2 := rfl
  rw [hx, hc, hbit]
  generalize (d.getD (k / 8) 0).toNat / 2 ^ (7 - k % 8) = q at hq
  have hw : wrap64 (q : Int) = (q : Int) := by unfold wrap64; omega
  have := and_one ⟨q, hq⟩
  dsimp only at this
  rw [hw, this]
  rfl

/-- A signature as a value: own rows, none of them another one's. -/
def IsSig (base : Nat) (v : Value) (i : Int) (S H R : List Bs) (w : World) : Prop := ∃ vs vh vr : Value, v = .agg #[.int .i64 i, vs, vh, vr] ∧
  w.ownsRow base 9 1 vs S.length (S.map vS) ∧ w.ownsRow base 9 1 vh H.length (H.map vS) ∧ w.ownsRow base 9 1 vr R.length (R.map vS)

theorem xor_64 : ∀ x : Fin 64, bits .xor .i64 (x.val : Int) 1 = ((x.val ^^^ 1 : Nat) : Int) := by decide
theorem xor_one {i j : Nat} (hi : i < 64) : bits .xor .i64 ((i : Int) / 2 ^ j) 1 = (((i / 2 ^ j) ^^^ 1 : Nat) : Int) := by
  have hq : i / 2 ^ j < 64 := Nat.lt_of_le_of_lt (Nat.div_le_self _ _) hi
  have hc : (i : Int) / 2 ^ j = ((i / 2 ^ j : Nat) : Int) := by simp
  rw [hc]
  exact xor_64 ⟨_, hq⟩
theorem xor_lt {a : Nat} : ∀ {n : Nat}, a < 2 ^ (n + 1) → a ^^^ 1 < 2 ^ (n + 1) := by
  intro n h
  exact Nat.xor_lt_two_pow h (Nat.one_lt_two_pow (by omega))
theorem own_drew {w : World} {base : Nat} {t : TypeId} {size : Nat} {v : Value} {n : Nat} {xs : List Value} (h : w.ownsRow base t size v n xs) : w.drew.ownsRow base t size v n xs := h
theorem news_drew {w : World} {l : List Value} {ad : Addr} (h : ∀ j u, l[j]? = some u → w.cell? (ad.add j) = some u) : ∀ j u, l[j]? = some u → w.drew.cell? (ad.add j) = some u := h
theorem grown_beside {base n : Nat} {v v' u : Value} {xs ys : List Value} {x : Value} {T : TypeId} {w3 w4 : World} {m : Nat} {o : Obj} (ho : (w3.alloc o).ownsRow base T 1 v n xs) (hu : w3.ownsRow base T 1 u m ys) (hA : Apart v u)
    (_ : w4.ownsRow base T 1 v' (n + 1) (xs ++ [x])) (hg : (w3.alloc o).grownBy w4 v.ownBlock) (hw : ∀ q, v'.ownBlock = some q → v.ownBlock = some q ∨ (w3.alloc o).heap.size ≤ q) :
    w4.ownsRow base T 1 u m ys ∧ Apart v' u ∧ (∀ q, q < base → q < w3.heap.size → w4.heap[q]? = w3.heap[q]?) := by
  refine ⟨own_at hu (fun q hq => ?_), fun q hq hu' => ?_, fun q hq hl => ?_⟩
  · have hl := own_lt hu hq
    exact (hg.block q (by simp; omega) (fun e => hA q e.symm hq)).trans (Below.heap_alloc _ _ _ hl)
  · rcases hw q hq with h | h
    · exact hA q h hu'
    · have := own_lt hu hu'
      simp at h
      omega
  · refine (hg.block q (by simp; omega) (fun e => ?_)).trans (Below.heap_alloc _ _ _ hl)
    have := (own_block ho e.symm).1
    omega
set_option maxHeartbeats 4000000 in
set_option maxRecDepth 100000 in
theorem sign_any (tv : Value) (seed m : Bs) (b h i : Nat) (w : World) (hs : seed.length ≤ maxLen) (hm : m.length ≤ 1000000000000) (hb : b ≤ 256) (hh : h ≤ 6) (hi : i < 2 ^ h) (ht : Tab w)
    (hr : IsRows tv ((List.range (h + 1)).map (rowB seed b h)) w) :
    Calls Tryd.prog 48 #[tv, .string (B seed), .agg #[.int .i64 (b : Int), .int .i64 (h : Int)], .int .i64 (i : Int), .string (B m)] w fun e w' =>
      ∃ v, e = .returned v ∧ IsSig w.heap.size v (i : Int) (shownN seed (Sha.sha m) (i : Int) b) (hiddenN seed (Sha.sha m) (i : Int) b) (routeN seed b h i h) w' ∧ Below w.heap.size w w' := by
  obtain ⟨i0, hi, hz0, hz1, hz2⟩ := info_parts Tryd.infoStr
  have Hi := Lib.hid hi
  have Hz0 := Lib.hid hz0
  have Hz1 := Lib.hid hz1
  have Hz2 := Lib.hid hz2
  clear hi hz0 hz1 hz2
  obtain ⟨d, hd⟩ : ∃ d, Sha.sha m = d := ⟨_, rfl⟩
  have hdl : d.length = 32 := by rw [← hd]; exact Sha.sha_len _
  have HD := Lib.hid hd
  rw [hd]
  clear hd
  have hi64 : i < 64 := Nat.lt_of_lt_of_le hi (Nat.le_trans (Nat.pow_le_pow_right (by decide) hh) (by decide : 2 ^ 6 ≤ 64))
  have Hr := Lib.hid hr
  have Hii := Lib.hid hi
  clear hr hi
  go_enter Tryd.func48, Tryd.ntmps48
  go_wp2_with (first
    | (go_at_call 43; refine (DSum_any m _ hm).mono ?_; rintro e w1 ⟨rfl, hb1⟩; rw [HD.out]
       have hB1 : Below w.heap.size w w1 := ((((Below.refl _ _).alloc (Nat.le_refl _) _).alloc (by simp) _).alloc (by simp; omega) _).next hb1
       have hK1 : w1.heap[w.heap.size]? = some (.cells #[.int .i64 (b : Int), .int .i64 (h : Int)] 23) := (hb1.block _ (by simp; omega)).trans (old_of (old_of (new_of _ _)))
       have hS1 : w1.heap[w.heap.size + 1 + 1]? = some (.cells #[.int .i64 (i : Int), .slice none 0 0, .slice none 0 0, .slice none 0 0] 34) := (hb1.block _ (by simp)).trans (new_at (by simp) rfl)
       have hR1 : w1.heap[w.heap.size + 1]? = some (.cells #[.int .i64 0, .slice none 0 0, .slice none 0 0, .slice none 0 0] 34) := (hb1.block _ (by simp)).trans (old_of (new_at (by simp) rfl))
       have hc0 : w1.cell? ⟨w.heap.size, 0, none⟩ = some (.int .i64 (b : Int)) := cell_of hK1 0
       have hz1 : w.heap.size + 3 ≤ w1.heap.size := by have := hb1.size; simp at this; omega
       have HB1 := Lib.hid hB1
       have HK1 := Lib.hid hK1
       have HS1 := Lib.hid hS1
       have HR1 := Lib.hid hR1
       clear hb1 hB1 hK1 hS1 hR1))
  obtain ⟨bx, hbx⟩ : ∃ bx, w.heap.size + 1 + 1 = bx := ⟨_, rfl⟩
  rw [hbx] at HS1 ⊢
  have hbx1 : w.heap.size + 1 < bx := by omega
  have hbx2 : bx < w.heap.size + 3 := by omega
  clear hbx
  go_loopw [22] (fun n wr => ∃ (k : Nat) (vs vh : Value), k ≤ b ∧ n = .int .i64 k ∧ wr.heap[bx]? = some (.cells #[.int .i64 (i : Int), vs, vh, .slice none 0 0] 34) ∧ (∀ q, w.heap.size ≤ q → q < w.heap.size + 2 → wr.heap[q]? = w1.heap[q]?) ∧
      wr.ownsRow (w.heap.size + 3) 9 1 vs k ((shownN seed d (i : Int) k).map vS) ∧ wr.ownsRow (w.heap.size + 3) 9 1 vh k ((hiddenN seed d (i : Int) k).map vS) ∧ Apart vs vh ∧ Below w.heap.size w wr ∧ w.heap.size + 3 ≤ wr.heap.size) (fun n _ => b - (intOf n).toNat)
  case atStart => exact ⟨0, _, _, by omega, rfl, HS1.out, fun _ _ _ => rfl, World.ownsRow_nil _ _ _ _, World.ownsRow_nil _ _ _ _, Apart.nil, HB1.out, hz1⟩
  case round =>
    obtain ⟨k, vs, vh, hk, rfl, hS, hK, hO, hP, hA, hB, hzr⟩ := hrel
    have hcs : wr.cell? ⟨bx, 1, none⟩ = some vs := cell_of hS 1
    have htr := ht.same hB
    have HS := Lib.hid hS
    have HK := Lib.hid hK
    have HO := Lib.hid hO
    have HP := Lib.hid hP
    have HA := Lib.hid hA
    have HB := Lib.hid hB
    clear hS hK hO hP hA hB
    by_cases hlt : k < b
    · have hv2 : bitOf d k < 2 := bitOf_lt d k
      go_wp2_with (first
        | (go_at_call 45; refine (value_any d k _ hdl (by omega)).mono ?_; rintro e w2 ⟨rfl, rfl⟩))
      go_cut [] (fun wx => ∃ (ra : Option Addr) (rc : Nat), wx.heap[bx]? = some (.cells #[.int .i64 (i : Int), .slice ra (k + 1) rc, vh, .slice none 0 0] 34) ∧ (∀ q, w.heap.size ≤ q → q < w.heap.size + 2 → wx.heap[q]? = w1.heap[q]?) ∧
          wx.ownsRow (w.heap.size + 3) 9 1 (.slice ra (k + 1) rc) (k + 1) ((shownN seed d (i : Int) (k + 1)).map vS) ∧ wx.ownsRow (w.heap.size + 3) 9 1 vh k ((hiddenN seed d (i : Int) k).map vS) ∧ Apart (.slice ra (k + 1) rc) vh ∧ Below w.heap.size w wx ∧ w.heap.size + 3 ≤ wx.heap.size)
      case first =>
        go_region_law
          (first
            | (go_simp; go_at_call 72; refine (secret_any seed (i : Int) (k : Int) (bitOf d k : Int) _ hs htr.drew).mono ?_; rintro e w3 ⟨rfl, hb3⟩
               have hs3 := (hb3.block _ (lt_of HS.out)).trans HS.out
               have hcs3 : w3.cell? ⟨bx, 1, none⟩ = some vs := cell_of hs3 1
               have hz3 : bx < w3.heap.size := lt_of hs3
               have HB3 := Lib.hid (undrew hb3)
               clear hb3 hs3
               go_wp2_with fail)
            | (refine step_append_two rfl _ _ 32 rfl (w.heap.size + 3) 9 i0 (.string ⟨#[]⟩) 1 16 Tryd.underlying32 Hi.out Hz0.out Hz1.out Hz2.out rfl (by decide) vs k ((shownN seed d (i : Int) k).map vS) rfl ((ownsRow_block HO.out (fun q _ hq => HB3.out.block q hq)).alloc _) ⟨w3.heap.size, 0, none⟩ 1 1 [vS (secretB seed (i : Int) (k : Int) (bitOf d k : Int))] rfl rfl (news_one (new_of _ _)) (by simp [vS, Value.oneCell']) (by unfold maxLen; omega) (by omega) (by have := HB3.out.size; simp; omega) (by decide) ?_
               intro v4 w4 ho4 hg4 hw4
               obtain ⟨hp4, ha4, hk4⟩ := grown_beside ((ownsRow_block HO.out (fun q _ hq => HB3.out.block q hq)).alloc _) (ownsRow_block HP.out (fun q _ hq => HB3.out.block q hq)) HA.out ho4 hg4 hw4
               rw [← map_snoc, ← shownN_succ] at ho4
               obtain ⟨ra4, rc4, rfl⟩ := own_form ho4
               have HO4 := Lib.hid ho4
               have HP4 := Lib.hid hp4
               have HA4 := Lib.hid ha4
               have hS4 : w4.heap[bx]? = _ := (hk4 bx hbx2 hz3).trans ((HB3.out.block _ (lt_of HS.out)).trans HS.out)
               have HK4 := Lib.hid (show ∀ q, w.heap.size ≤ q → q < w.heap.size + 2 → w4.heap[q]? = w1.heap[q]? from fun q hq1 hq2 => (hk4 q (by omega) (by have := HB3.out.size; omega)).trans ((HB3.out.block q (show q < w2.heap.size by omega)).trans (HK.out q hq1 hq2)))
               have HB4 := Lib.hid (((HB.out.next HB3.out).alloc (by omega) _).grown hg4 (by simp; omega) (fun q hq => by have := (HO.out.lt q hq).1; omega))
               have hcs4 : w4.cell? ⟨bx, 1, none⟩ = some vs := cell_of hS4 1
               have hfs4 : w4.frozen? ⟨bx, 1, none⟩ = false := free_of hS4 _
               have HS4 := Lib.hid hS4
               have HG4 := Lib.hid (show w.heap.size + 3 ≤ w4.heap.size by have h1 := HB3.out.size; have h2 := hg4.size; simp at h2; have h3 : w2.heap.size ≤ w3.heap.size := h1; omega)
               clear ho4 hg4 hw4 hp4 ha4 hk4 hS4))
        all_goals
          go_wp2
          go_meet
          case rel =>
            obtain ⟨w5, h5⟩ : ∃ w5, w4.setCell ⟨bx, 1, none⟩ (.slice ra4 (k + 1) rc4) = w5 := ⟨_, rfl⟩
            rw [h5]
            have hK5 : Kept (Licit.One bx) w4 w5 := h5 ▸ kept_set bx 1 w4 _
            exact ⟨ra4, rc4, h5 ▸ set_of HS4.out 1 _, fun q hq1 hq2 => (hK5.block q (by have := HG4.out; omega) (fun e => by have : q = bx := e; omega)).trans (HK4.out q hq1 hq2),
              ownsRow_block HO4.out (fun q hq hl => hK5.block q hl (fun e => by have : q = bx := e; omega)), ownsRow_block HP4.out (fun q hq hl => hK5.block q hl (fun e => by have : q = bx := e; omega)), HA4.out,
              HB4.out.trans (hK5.below HB4.out.size (fun q hq e => by have : q = bx := e; omega)), Nat.le_trans HG4.out hK5.size⟩
      case rest =>
        obtain ⟨ra4, rc4, hS5, hK5, hO5, hP5, hA5, hB5, hz5⟩ := hcut
        have hch : wc.cell? ⟨bx, 2, none⟩ = some vh := cell_of hS5 2
        have HS5 := Lib.hid hS5
        have HK5 := Lib.hid hK5
        have HO5 := Lib.hid hO5
        have HP5 := Lib.hid hP5
        have HA4 := Lib.hid hA5
        have HB5 := Lib.hid hB5
        have ht5 := ht.same hB5
        have hw1 : IntKind.i64.wrap (1 - (bitOf d k : Int)) = 1 - (bitOf d k : Int) := by rw [IntKind.wrap_i64]; omega
        clear hS5 hK5 hO5 hP5 hA5 hB5 hcs
        go_wp2
        go_region_law
          (first
            | (go_simp; go_at_call 72; refine (secret_any seed (i : Int) (k : Int) (1 - (bitOf d k : Int)) _ hs ht5.drew).mono ?_; rintro e w6 ⟨rfl, hb6⟩
               have hs6 := (hb6.block _ (lt_of HS5.out)).trans HS5.out
               have hcs6 : w6.cell? ⟨bx, 2, none⟩ = some vh := cell_of hs6 2
               have HB6 := Lib.hid (undrew hb6)
               have ht6 := ht5.same HB6.out
               clear hb6 hs6
               go_wp2_with fail)
            | (go_simp; go_at_call 44; refine (public_any (secretB seed (i : Int) (k : Int) (1 - (bitOf d k : Int))) _ (max32 (secretB_len _ _ _ _)) ht6).mono ?_; rintro e w7 ⟨rfl, hb7⟩
               have HB7 := Lib.hid (HB6.out.next hb7)
               have hs7 := (HB7.out.block _ (lt_of HS5.out)).trans HS5.out
               have hcs7 : w7.cell? ⟨bx, 2, none⟩ = some vh := cell_of hs7 2
               have hz7 : bx < w7.heap.size := lt_of hs7
               clear hb7 hs7
               go_wp2_with fail)
            | (refine step_append_two rfl _ _ 32 rfl (w.heap.size + 3) 9 i0 (.string ⟨#[]⟩) 1 16 Tryd.underlying32 Hi.out Hz0.out Hz1.out Hz2.out rfl (by decide) vh k ((hiddenN seed d (i : Int) k).map vS) rfl ((ownsRow_block HP5.out (fun q _ hq => HB7.out.block q hq)).alloc _) ⟨w7.heap.size, 0, none⟩ 1 1 [vS (pubB (secretB seed (i : Int) (k : Int) (1 - (bitOf d k : Int))))] rfl rfl (news_one (new_of _ _)) (by simp [vS, Value.oneCell']) (by unfold maxLen; omega) (by omega) (by have := HB7.out.size; simp; omega) (by decide) ?_
               intro v8 w8 ho8 hg8 hw8
               obtain ⟨hp8, ha8, hk8⟩ := grown_beside ((ownsRow_block HP5.out (fun q _ hq => HB7.out.block q hq)).alloc _) (ownsRow_block HO5.out (fun q _ hq => HB7.out.block q hq)) HA4.out.symm ho8 hg8 hw8
               rw [← map_snoc, ← hiddenN_succ] at ho8
               obtain ⟨ra8, rc8, rfl⟩ := own_form ho8
               have HO8 := Lib.hid ho8
               have HP8 := Lib.hid hp8
               have HA8 := Lib.hid ha8.symm
               have hS8 : w8.heap[bx]? = _ := (hk8 bx hbx2 hz7).trans ((HB7.out.block _ (lt_of HS5.out)).trans HS5.out)
               have HK8 := Lib.hid (show ∀ q, w.heap.size ≤ q → q < w.heap.size + 2 → w8.heap[q]? = w1.heap[q]? from fun q hq1 hq2 => (hk8 q (by omega) (by have := HB7.out.size; omega)).trans ((HB7.out.block q (show q < wc.heap.size by omega)).trans (HK5.out q hq1 hq2)))
               have HB8 := Lib.hid (((HB5.out.next HB7.out).alloc (by omega) _).grown hg8 (by simp; omega) (fun q hq => by have := (HP5.out.lt q hq).1; omega))
               have hcs8 : w8.cell? ⟨bx, 2, none⟩ = some vh := cell_of hS8 2
               have hfs8 : w8.frozen? ⟨bx, 2, none⟩ = false := free_of hS8 _
               have hz8 : w.heap.size + 3 ≤ w8.heap.size := by have h1 := HB7.out.size; have h2 := hg8.size; simp at h2; omega
               have HS8 := Lib.hid hS8
               clear ho8 hg8 hw8 hp8 ha8 hk8 hS8))
        all_goals
          obtain ⟨w9, h9⟩ : ∃ w9, w8.setCell ⟨bx, 2, none⟩ (.slice ra8 (k + 1) rc8) = w9 := ⟨_, rfl⟩
          rw [h9]
          have hK9 : Kept (Licit.One bx) w8 w9 := h9 ▸ kept_set bx 2 w8 _
          have hS9 : w9.heap[bx]? = some (.cells #[.int .i64 (i : Int), .slice ra4 (k + 1) rc4, .slice ra8 (k + 1) rc8, .slice none 0 0] 34) := h9 ▸ set_of HS8.out 2 _
          have HO9 := Lib.hid (ownsRow_block HP8.out (fun q hq hl => hK9.block q hl (fun e => by have : q = bx := e; omega)))
          have HP9 := Lib.hid (ownsRow_block HO8.out (fun q hq hl => hK9.block q hl (fun e => by have : q = bx := e; omega)))
          have HK9 := Lib.hid (show ∀ q, w.heap.size ≤ q → q < w.heap.size + 2 → w9.heap[q]? = w1.heap[q]? from fun q hq1 hq2 => (hK9.block q (by omega) (fun e => by have : q = bx := e; omega)).trans (HK8.out q hq1 hq2))
          have HB9 := Lib.hid (HB8.out.trans (hK9.below HB8.out.size (fun q hq e => by have : q = bx := e; omega)))
          have hz9 : w.heap.size + 3 ≤ w9.heap.size := by have := hK9.size; omega
          have HS9 := Lib.hid hS9
          clear h9 hK9 hS9 hcs8 hfs8 hch
          go_wp2
          go_roundw
          case rel => exact ⟨k + 1, _, _, by omega, by go_num, HS9.out, HK9.out, HO9.out, HP9.out, HA8.out, HB9.out, hz9⟩
          case measure => simp [intOf]; omega
    · obtain rfl : k = b := by omega
      have hc1 : wr.cell? ⟨w.heap.size, 1, none⟩ = some (.int .i64 (h : Int)) := cell_of ((HK.out _ (Nat.le_refl _) (by omega)).trans HK1.out) 1
      clear hcs
      go_wp2
      go_loopw [53] (fun n wx => ∃ (j : Nat) (vr : Value), j ≤ h ∧ n = .int .i64 j ∧ wx.heap[bx]? = some (.cells #[.int .i64 (i : Int), vs, vh, vr] 34) ∧
          wx.ownsRow (w.heap.size + 3) 9 1 vs k ((shownN seed d (i : Int) k).map vS) ∧ wx.ownsRow (w.heap.size + 3) 9 1 vh k ((hiddenN seed d (i : Int) k).map vS) ∧ wx.ownsRow (w.heap.size + 3) 9 1 vr j ((routeN seed k h i j).map vS) ∧
          Apart vr vs ∧ Apart vr vh ∧ Below w.heap.size w wx ∧ w.heap.size + 3 ≤ wx.heap.size ∧ (∀ q, w.heap.size ≤ q → q < w.heap.size + 2 → wx.heap[q]? = w1.heap[q]?)) (fun n _ => h - (intOf n).toNat)
      case atStart => exact ⟨0, _, by omega, rfl, HS.out, HO.out, HP.out, World.ownsRow_nil _ _ _ _, Apart.nil, Apart.nil, HB.out, hzr, HK.out⟩
      case round =>
        clear hc0 hc1 HS HO HP HB HK HK1 HS1 HA htr hlt
        obtain ⟨j, vr, hj, rfl, hS, hO, hP, hR, hA1, hA2, hB, hzr, hK⟩ := hrel
        have HK := Lib.hid hK
        clear hK
        have hcs : wr.cell? ⟨bx, 3, none⟩ = some vr := cell_of hS 3
        have hbz : bx < wr.heap.size := lt_of hS
        have HS := Lib.hid hS
        have HO := Lib.hid hO
        have HP := Lib.hid hP
        have HR := Lib.hid hR
        have HA1 := Lib.hid hA1
        have HA2 := Lib.hid hA2
        have HB := Lib.hid hB
        clear hS hO hP hR hA1 hA2 hB
        by_cases hlt : j < h
        · obtain ⟨idx, hidx⟩ : ∃ idx, (i / 2 ^ j) ^^^ 1 = idx := ⟨_, rfl⟩
          have hlen := rowB_len seed k h (Nat.le_of_lt hlt)
          obtain ⟨n2, hn2⟩ : ∃ n2, 2 ^ (h - j) = n2 := ⟨_, rfl⟩
          have hin : idx < n2 := by rw [← hn2, ← hidx]; exact route_lt Hii.out hlt
          have hxor : bits BinOp.xor IntKind.i64 ((i : Int) / 2 ^ j) 1 = (idx : Int) := by rw [← hidx]; exact xor_one hi64
          rw [hn2] at hlen
          obtain ⟨x, hx⟩ : ∃ x, (rowB seed k h j).getD idx [] = x := ⟨_, rfl⟩
          obtain ⟨m1, hm1⟩ : ∃ m1, h + 1 = m1 := ⟨_, rfl⟩
          obtain ⟨tb, tf, tc, row, htv, htb, hct, hrow⟩ := Hr.out.at (n := m1) (by rw [← hm1]; simp) (j := j) (by omega)
          rw [rows_get _ _ _ _ (by omega)] at hrow
          obtain ⟨rb, ro, rc, hrv, hrb, hcr⟩ := hrow.text hlen hin
          rw [hx] at hcr
          subst htv hrv
          have hjm : (j : Int) < (m1 : Int) := by omega
          have hinI : (idx : Int) < (n2 : Int) := by omega
          have hstep : routeN seed k h i j ++ [x] = routeN seed k h i (j + 1) := by rw [routeN_succ, hidx, hx]
          have hSS : ∀ W, Below w.heap.size w W → (fun W : World => W.cell? ⟨tb, tf + j, none⟩ = some (.slice (some ⟨rb, ro, none⟩) n2 rc) ∧ W.cell? ⟨rb, ro + idx, none⟩ = some (.string (B x))) W := fun W hW => ⟨(hW.cell htb).trans hct, (hW.cell hrb).trans hcr⟩
          have hS0 := hSS _ HB.out
          have HSS := Lib.hid hSS
          have Hst := Lib.hid hstep
          clear hidx hlen hn2 hx hm1 hrow hct hcr hstep hSS hin
          obtain ⟨hS1, hS2⟩ := hS0
          go_wp2
          go_region_law
            (first
              | (refine step_append_two rfl _ _ 32 rfl (w.heap.size + 3) 9 i0 (.string ⟨#[]⟩) 1 16 Tryd.underlying32 Hi.out Hz0.out Hz1.out Hz2.out rfl (by decide) vr j ((routeN seed k h i j).map vS) rfl (own_drew (HR.out.alloc (.cells #[.string (B x)] 9))) ⟨wr.heap.size, 0, none⟩ 1 1 [vS x] rfl rfl (news_drew (news_one (new_of wr (.cells #[.string (B x)] 9)))) (by simp [vS, Value.oneCell']) (by unfold maxLen; omega) (by omega) (by simp; omega) (by decide) ?_
                 intro v4 w4 ho4 hg4' hw4
                 have hg4 : (wr.alloc (.cells #[.string (B x)] 9)).grownBy w4 vr.ownBlock := ⟨hg4'.os, hg4'.tape, hg4'.output, hg4'.size, hg4'.block⟩
                 clear hg4'
                 obtain ⟨hp4, ha4, hk4⟩ := grown_beside (w3 := wr) (HR.out.alloc _) HO.out HA1.out ho4 hg4 hw4
                 obtain ⟨hq4, hb4, _⟩ := grown_beside (w3 := wr) (HR.out.alloc _) HP.out HA2.out ho4 hg4 hw4
                 rw [← map_snoc, Hst.out] at ho4
                 obtain ⟨ra4, rc4, rfl⟩ := own_form ho4
                 have HR4 := Lib.hid ho4
                 have HO4 := Lib.hid hp4
                 have HP4 := Lib.hid hq4
                 have HA4 := Lib.hid ha4
                 have HC4 := Lib.hid hb4
                 have hS4 : w4.heap[bx]? = _ := (hk4 bx hbx2 (lt_of HS.out)).trans HS.out
                 have HB4 := Lib.hid ((HB.out.alloc (by omega) _).grown hg4 (by simp; omega) (fun q hq => by have := (HR.out.lt q hq).1; omega))
                 have hcs4 : w4.cell? ⟨bx, 3, none⟩ = some vr := cell_of hS4 3
                 have hfs4 : w4.frozen? ⟨bx, 3, none⟩ = false := free_of hS4 _
                 have HK4 := Lib.hid (show ∀ q, w.heap.size ≤ q → q < w.heap.size + 2 → w4.heap[q]? = w1.heap[q]? from fun q hq1 hq2 => (hk4 q (by omega) (by omega)).trans (HK.out q hq1 hq2))
                 have HZ4 := Lib.hid (show w.heap.size + 3 ≤ w4.heap.size by have h2 := hg4.size; simp at h2; omega)
                 have HS4 := Lib.hid hS4
                 clear ho4 hg4 hw4 hp4 ha4 hk4 hS4 hq4 hb4))
          all_goals
            obtain ⟨w9, h9⟩ : ∃ w9, w4.setCell ⟨bx, 3, none⟩ (.slice ra4 (j + 1) rc4) = w9 := ⟨_, rfl⟩
            rw [h9]
            have hK9 : Kept (Licit.One bx) w4 w9 := h9 ▸ kept_set bx 3 w4 _
            have hS9 : w9.heap[bx]? = some (.cells #[.int .i64 (i : Int), vs, vh, .slice ra4 (j + 1) rc4] 34) := h9 ▸ set_of HS4.out 3 _
            have HO9 := Lib.hid (ownsRow_block HO4.out (fun q hq hl => hK9.block q hl (fun e => by have : q = bx := e; omega)))
            have HP9 := Lib.hid (ownsRow_block HP4.out (fun q hq hl => hK9.block q hl (fun e => by have : q = bx := e; omega)))
            have HR9 := Lib.hid (ownsRow_block HR4.out (fun q hq hl => hK9.block q hl (fun e => by have : q = bx := e; omega)))
            have HB9 := Lib.hid (HB4.out.trans (hK9.below HB4.out.size (fun q hq e => by have : q = bx := e; omega)))
            have HK9 := Lib.hid (show ∀ q, w.heap.size ≤ q → q < w.heap.size + 2 → w9.heap[q]? = w1.heap[q]? from fun q hq1 hq2 => (hK9.block q (by have := HZ4.out; omega) (fun e => by have : q = bx := e; omega)).trans (HK4.out q hq1 hq2))
            have HZ9 := Lib.hid (Nat.le_trans HZ4.out hK9.size)
            have HS9 := Lib.hid hS9
            clear h9 hK9 hS9 hcs4 hfs4
            go_wp2
            go_roundw
            case rel => exact ⟨j + 1, _, by omega, by go_num, HS9.out, HO9.out, HP9.out, HR9.out, HA4.out, HC4.out, HB9.out, HZ9.out, HK9.out⟩
            case measure => simp [intOf]; omega
        · obtain rfl : j = h := by omega
          have hc0 : wr.cell? ⟨bx, 0, none⟩ = some (.int .i64 (i : Int)) := cell_of HS.out 0
          have hc1 : wr.cell? ⟨bx, 1, none⟩ = some vs := cell_of HS.out 1
          have hc2 : wr.cell? ⟨bx, 2, none⟩ = some vh := cell_of HS.out 2
          have hrb := (HK.out (w.heap.size + 1) (by omega) (by omega)).trans HR1.out
          have hr0 : wr.cell? ⟨w.heap.size + 1, 0, none⟩ = some (.int .i64 0) := cell_of hrb 0
          have hr1 : wr.cell? ⟨w.heap.size + 1, 1, none⟩ = some (.slice none 0 0) := cell_of hrb 1
          have hr2 : wr.cell? ⟨w.heap.size + 1, 2, none⟩ = some (.slice none 0 0) := cell_of hrb 2
          have hr3 : wr.cell? ⟨w.heap.size + 1, 3, none⟩ = some (.slice none 0 0) := cell_of hrb 3
          have hf0 : wr.frozen? ⟨w.heap.size + 1, 0, none⟩ = false := free_of hrb _
          have hf1 : wr.frozen? ⟨w.heap.size + 1, 1, none⟩ = false := free_of hrb _
          have hf2 : wr.frozen? ⟨w.heap.size + 1, 2, none⟩ = false := free_of hrb _
          have hf3 : wr.frozen? ⟨w.heap.size + 1, 3, none⟩ = false := free_of hrb _
          have Hrb := Lib.hid hrb
          clear hrb
          obtain ⟨sa, sc, rfl⟩ := own_form HO.out
          obtain ⟨ha, hc, rfl⟩ := own_form HP.out
          obtain ⟨ra, rc, rfl⟩ := own_form HR.out
          go_wp2
          have hKe := ((((kept_set (w.heap.size + 1) 0 wr (.int .i64 (i : Int))).trans (kept_set (w.heap.size + 1) 1 _ (.slice sa k sc))).trans (kept_set (w.heap.size + 1) 2 _ (.slice ha k hc))).trans (kept_set (w.heap.size + 1) 3 _ (.slice ra j rc)))
          refine ret_whole (p := 10) (ty := 34) rfl (w.heap.size + 1) 34 #[.int .i64 (i : Int), .slice sa k sc, .slice ha k hc, .slice ra j rc] (0, 0) _ rfl (set_of (set_of (set_of (set_of Hrb.out 0 _) 1 _) 2 _) 3 _) Tryd.underlying34 rfl (by kernel_rfl) rfl ?_
          have hne : ∀ q, w.heap.size + 3 ≤ q → ¬ Licit.One (w.heap.size + 1) q := fun q hq e => by have : q = w.heap.size + 1 := e; omega
          refine ⟨_, rfl, ⟨_, _, _, rfl, ?_, ?_, ?_⟩, HB.out.trans (hKe.below HB.out.size (fun q hq e => by have : q = w.heap.size + 1 := e; omega))⟩
          · rw [shownN_len]
            exact ownsRow_base (ownsRow_block HO.out (fun q hq hl => hKe.block q hl (hne q hq))) (by omega)
          · rw [hiddenN_len]
            exact ownsRow_base (ownsRow_block HP.out (fun q hq hl => hKe.block q hl (hne q hq))) (by omega)
          · rw [routeN_len]
            exact ownsRow_base (ownsRow_block HR.out (fun q hq hl => hKe.block q hl (hne q hq))) (by omega)
end Go.Proofs.YtdkjehagkmkokaaDoor
