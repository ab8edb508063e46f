/- Prove of package mountain does what the plain function says. -/
import Derived.Test.YtfklmjcjjdliiaaDoorWkMt5
namespace Go.Proofs.YtfklmjcjjdliiaaDoor
open Go Go.RowKit Licit

def proveE (l : List Bs) (i : Int) : Int := if checkM l = 0 then (if 0 ≤ i ∧ i < (l.length : Int) then 0 else 3) else checkM l
def proveP (l : List Bs) (i : Int) : List Bs := if proveE l i = 0 then proveN l (place l.length i.toNat).2.2 i.toNat (place l.length i.toNat).2.1 else []
theorem beside_lt {r h j : Nat} (hr : r < 2 ^ h) (hj : j < h) : (r / 2 ^ j ^^^ 1) * 2 ^ j + 2 ^ j ≤ 2 ^ h := by
  have := route_lt (i := r) (h := h) (j := j) hr hj
  have h3 : ((r / 2 ^ j ^^^ 1) + 1) * 2 ^ j ≤ 2 ^ (h - j) * 2 ^ j := Nat.mul_le_mul_right _ this
  rw [← Nat.pow_add, Nat.sub_add_cancel (by omega), Nat.add_mul, Nat.one_mul] at h3
  exact h3
theorem proveN_all {l : List Bs} (hl : l.length ≤ 1024) {i : Nat} : (proveN l (place l.length i).2.2 i (place l.length i).2.1).length ≤ 21 ∨ ¬ i < l.length := by
  by_cases h : i < l.length
  · left
    rw [proveN_len]
    have := (place_ok (show l.length < 2 ^ 21 by omega) h).2.2.2.2.2
    omega
  · exact .inr h
theorem pow_le_1024 {h n : Nat} (hn : 2 ^ h ≤ n) (h2 : n ≤ 1024) : h ≤ 10 := by
  rcases Nat.lt_or_ge 10 h with c | c
  · have := Nat.pow_le_pow_right (n := 2) (by decide) c
    omega
  · exact c

/-- A part of a list of texts. -/
theorem sl_part {b off n cap : Nat} {l : List Bs} {w : World} (h : IsSl (.slice (some ⟨b, off, none⟩) n cap) (l.map vS) w) (hn : l.length = n) {at_ k : Nat} (hk : at_ + k ≤ n) (h0 : 0 < k) (c' : Nat) :
    IsSl (.slice (some ⟨b, off + at_, none⟩) k c') (((l.drop at_).take k).map vS) w := by
  have hlm : (l.map vS).length = n := by rw [List.length_map, hn]
  rw [← hlm] at h
  have h1 := sl_drop (c' := c') h (k := at_) (by omega)
  have hl2 : ((l.map vS).drop at_).length = (l.map vS).length - at_ := by rw [List.length_drop]
  rw [← hl2] at h1
  have h2 := sl_take h1 (k := k) (by rw [hl2]; omega)
  rw [← List.map_drop, ← List.map_take] at h2
  exact h2

set_option maxHeartbeats 8000000 in
set_option maxRecDepth 100000 in
theorem MtProve_any (v : Value) (l : List Bs) (i : Int) (w : World) (h : IsSl v (l.map vS) w) (hcv : SlCap v) (ht : Tab w) :
    Calls Tryd.prog 15 #[v, .int .i64 i] w fun e w' => ∃ v', e = .returned (.tuple #[v', .int .i64 (proveE l i)]) ∧ w'.ownsRow w.heap.size 9 1 v' (proveP l i).length ((proveP l i).map vS) ∧ Below w.heap.size w w' := by
  obtain ⟨i0, hi, hz0, hz1, hz2⟩ := info_parts Tryd.infoStr
  have Hi := Lib.hid hi
  have Hz0 := Lib.hid hz0
  have Hz1 := Lib.hid hz1
  have Hz2 := Lib.hid hz2
  clear hi hz0 hz1 hz2
  have HC := Lib.hid (fun W (hb : Below w.heap.size w W) => check_any v l W (h.below hb))
  have H := Lib.hid h
  obtain ⟨a0, cap0, rfl⟩ := h.formMap
  have hcap : l.length ≤ cap0 := hcv
  have hmx := h.1
  rw [List.length_map] at hmx
  unfold maxLen at hmx
  clear h hcv
  obtain ⟨C, hC⟩ : ∃ C, checkM l = C := ⟨_, rfl⟩
  rw [hC] at HC
  have HR0 := Lib.hid (Below.refl w.heap.size w)
  by_cases hc : C = 0
  rotate_left
  · have hs : proveE l i = C := by unfold proveE; rw [hC, if_neg hc]
    have hp : proveP l i = [] := by unfold proveP; rw [hs, if_neg hc]
    rw [hs, hp]
    have hcl : (C == 0) = false := by simpa using hc
    clear hC hs hp
    go_enter Tryd.func15, Tryd.ntmps15
    go_wp2_with fail
    refine (HC.out _ HR0.out).mono ?_
    rintro e w1 ⟨rfl, rfl⟩
    go_wp2
    go_ret2
    exact ⟨_, rfl, World.ownsRow_nil _ _ _ _, HR0.out⟩
  subst hc
  obtain ⟨hl, h32⟩ := checkM_iff.1 hC
  have HL32 := Lib.hid (all32_get h32)
  by_cases h0 : i < 0
  · have hs : proveE l i = 3 := by unfold proveE; rw [hC, if_pos rfl, if_neg (by omega)]
    have hp : proveP l i = [] := by unfold proveP; rw [hs]; rfl
    rw [hs, hp]
    have d1 : decide (i < 0) = true := by simpa using h0
    clear hC hs hp
    go_enter Tryd.func15, Tryd.ntmps15
    go_wp2_with fail
    refine (HC.out _ HR0.out).mono ?_
    rintro e w1 ⟨rfl, rfl⟩
    go_wp2
    go_ret2
    exact ⟨_, rfl, World.ownsRow_nil _ _ _ _, HR0.out⟩
  obtain ⟨j, rfl⟩ : ∃ j : Nat, i = (j : Int) := ⟨i.toNat, by omega⟩
  have d1 : decide ((j : Int) < 0) = false := by simp
  by_cases hjl : l.length ≤ j
  · have hs : proveE l (j : Int) = 3 := by unfold proveE; rw [hC, if_pos rfl, if_neg (by omega)]
    have hp : proveP l (j : Int) = [] := by unfold proveP; rw [hs]; rfl
    rw [hs, hp]
    have d2 : decide ((l.length : Int) ≤ (j : Int)) = true := by simp; omega
    clear hC hs hp
    go_enter Tryd.func15, Tryd.ntmps15
    go_wp2_with fail
    refine (HC.out _ HR0.out).mono ?_
    rintro e w1 ⟨rfl, rfl⟩
    go_wp2
    go_ret2
    exact ⟨_, rfl, World.ownsRow_nil _ _ _ _, HR0.out⟩
  have d2 : decide ((l.length : Int) ≤ (j : Int)) = false := by simp; omega
  have hs : proveE l (j : Int) = 0 := by unfold proveE; rw [hC, if_pos rfl, if_pos (by omega)]
  have hp : proveP l (j : Int) = proveN l (place l.length j).2.2 j (place l.length j).2.1 := by unfold proveP; rw [hs, if_pos rfl, Int.toNat_natCast]
  rw [hs, hp]
  have HPl := Lib.hid (fun W => place_any l.length j W (by omega) (by omega))
  obtain ⟨_, _, p3, p4, p5, p6⟩ := place_ok (show l.length < 2 ^ 21 by omega) (show j < l.length by omega)
  obtain ⟨Nm, hNm⟩ : ∃ x, (place l.length j).1 = x := ⟨_, rfl⟩
  obtain ⟨Hh, hHh⟩ : ∃ x, (place l.length j).2.1 = x := ⟨_, rfl⟩
  obtain ⟨F, hF⟩ : ∃ x, (place l.length j).2.2 = x := ⟨_, rfl⟩
  rw [hNm, hHh, hF] at HPl
  rw [hF] at p3
  rw [hF, hHh] at p4 p5
  rw [hHh, hF]
  rw [hHh] at p6
  have hH10 := pow_le_1024 (show 2 ^ Hh ≤ l.length by omega) hl
  obtain ⟨r, hr⟩ : ∃ r, j - F = r := ⟨_, rfl⟩
  have hrl : r < 2 ^ Hh := by omega
  have HRl := Lib.hid hrl
  have HP5 := Lib.hid p5
  obtain ⟨b, off, cap', hv⟩ := sl_some H.out (by rw [List.length_map]; omega)
  rw [List.length_map] at hv
  simp only [Value.slice.injEq, true_and] at hv
  obtain ⟨rfl, rfl⟩ := hv
  clear hC hs hp hNm hHh hF h32 hrl p4 p5
  go_enter Tryd.func15, Tryd.ntmps15
  go_wp2_with fail
  refine (HC.out _ HR0.out).mono ?_
  rintro e w1 ⟨rfl, rfl⟩
  go_wp2_with fail
  refine (HPl.out _).mono ?_
  rintro e w1 ⟨rfl, rfl⟩
  go_wp2_with
    (at_make
     refine wpList_make_own _ rfl _ _ 22 rfl w1.heap.size 9 i0 (.string ⟨#[]⟩) 1 Tryd.underlying22 Hi.out Hz0.out Hz1.out _ _ _ Hh rfl rfl rfl (by rw [Hz2.out]; omega) (by unfold maxLen; omega) (Nat.le_refl _) ?_
     intro w2 ho2 hg2
     have HO2 := Lib.hid ho2
     have HB2 := Lib.hid ((Below.refl w1.heap.size w1).grown hg2 (Nat.le_refl _) (fun q hq => by cases hq))
     clear ho2 hg2)
  go_loopw [10, 37] (fun v n wr => ∃ (k : Nat), k ≤ Hh ∧ n = .int .i64 (k : Int) ∧ wr.ownsRow w1.heap.size 9 1 v k ((proveN l F j k).map vS) ∧ Below w1.heap.size w1 wr) (fun _ n _ => Hh - (intOf n).toNat)
  case atStart => exact ⟨0, by omega, rfl, HO2.out, HB2.out⟩
  case round =>
    obtain ⟨k, hk, rfl, ho, hb⟩ := hrel
    have HO := Lib.hid ho
    have HB := Lib.hid hb
    obtain ⟨va, vc, rfl⟩ := own_form ho
    clear ho hb HO2 HB2
    by_cases hlt : k < Hh
    · have hbl := beside_lt HRl.out hlt
      obtain ⟨d, hd⟩ : ∃ d, r / 2 ^ k = d := ⟨_, rfl⟩
      obtain ⟨x, hx⟩ : ∃ x, d ^^^ 1 = x := ⟨_, rfl⟩
      obtain ⟨p2, hp2⟩ : ∃ p2, 2 ^ k = p2 := ⟨_, rfl⟩
      have hp20 : 0 < p2 := by rw [← hp2]; exact Nat.two_pow_pos k
      have hpk : p2 ≤ 1024 := by rw [← hp2]; exact Nat.le_trans (Nat.pow_le_pow_right (by decide) (show k ≤ 10 by omega)) (by decide)
      have hdr : d ≤ r := by rw [← hd]; exact Nat.div_le_self _ _
      rw [hd, hx, hp2] at hbl
      obtain ⟨y, hy⟩ : ∃ y, x * p2 = y := ⟨_, rfl⟩
      rw [hy] at hbl
      have hyl : y + p2 ≤ 2 ^ Hh := hbl
      have hat : F + y + p2 ≤ l.length := by have := HP5.out; omega
      have hdv : (r : Int) / 2 ^ k = (d : Int) := by rw [← hd]; simp
      have hdv2 : (r : Int) / (p2 : Int) = (d : Int) := by rw [← hd, ← hp2]; simp
      have hsub : (j : Int) - (F : Int) = (r : Int) := by omega
      have hxor : bits .xor .i64 (d : Int) 1 = (x : Int) := by rw [← hx]; exact bits_xor_i64_nat d 1 (by omega) (by decide)
      have hmul : (x : Int) * 2 ^ k = (y : Int) := by rw [← hy, ← hp2]; simp
      have hmul2 : (x : Int) * (p2 : Int) = (y : Int) := by rw [← hy]; simp
      have hpi : (1 : Int) * 2 ^ k = (p2 : Int) := by rw [← hp2]; simp
      have hpi' : (2 : Int) ^ k = (p2 : Int) := by rw [← hp2]; simp
      have hw1 : IntKind.i64.wrap (p2 : Int) = (p2 : Int) := by rw [IntKind.wrap_i64]; omega
      have hw2 : IntKind.i64.wrap (y : Int) = (y : Int) := by rw [IntKind.wrap_i64]; omega
      have hw3 : IntKind.i64.wrap ((F : Int) + (y : Int)) = (F : Int) + (y : Int) := by rw [IntKind.wrap_i64]; omega
      have hw4 : IntKind.i64.wrap ((F : Int) + (y : Int) + (p2 : Int)) = (F : Int) + (y : Int) + (p2 : Int) := by rw [IntKind.wrap_i64]; omega
      have hkm : min k 64 = k := by omega
      have hk64 : k ≤ 64 := by omega
      have HPk := Lib.hid (peak_any k (.slice (some ⟨b, off + (F + y), none⟩) p2 (cap0 - (F + y))) ((l.drop (F + y)).take p2) wr (sl_part (H.out.below HB.out) rfl hat hp20 _) (show p2 ≤ cap0 - (F + y) by omega) (by rw [List.length_take, List.length_drop, hp2]; omega) (by omega) (fun z hz => max32 (HL32.out z (List.mem_of_mem_drop (List.mem_of_mem_take hz)))) (ht.same HB.out))
      have hres : peakN k ((l.drop (F + y)).take p2) = besideN l F j k := by
        unfold besideN subM
        rw [hr, hd, hx, hp2, hy]
      rw [hres] at HPk
      obtain ⟨z, hz⟩ : ∃ z, besideN l F j k = z := ⟨_, rfl⟩
      rw [hz] at HPk
      have HZ := Lib.hid (show (proveN l F j k).map vS ++ [vS z] = (proveN l F j (k + 1)).map vS by rw [proveN_succ, hz, List.map_append]; rfl)
      have hi1 : (0 : Int) ≤ (F : Int) + (y : Int) := by omega
      have hi2 : (F : Int) + (y : Int) ≤ (F : Int) + (y : Int) + (p2 : Int) := by omega
      have hi3 : (F : Int) + (y : Int) + (p2 : Int) ≤ (cap0 : Int) := by omega
      have hi4 : (0 : Int) ≤ (F : Int) + (y : Int) + (p2 : Int) := by omega
      have hn1 : ((F : Int) + (y : Int)).toNat = F + y := by omega
      have hn2 : ((F : Int) + (y : Int) + (p2 : Int)).toNat = F + y + p2 := by omega
      have hn3 : F + y + p2 - (F + y) = p2 := by omega
      clear hbl hyl hx hd hp2 hy hres hz
      go_wp2_with
        (first
          | (go_at_call 45; refine HPk.out.mono ?_; rintro e w3 ⟨rfl, hb3⟩
             have HO3 := Lib.hid (ownsRow_block HO.out (fun q _ hq => hb3.block q hq))
             have HB3 := Lib.hid (HB.out.next hb3)
             clear hb3)
          | (at_builtin
             go_loud (
             refine wpList_append_own _ rfl _ _ 22 rfl w1.heap.size 9 i0 (.string ⟨#[]⟩) 1 16 Tryd.underlying22 Hi.out Hz0.out Hz1.out Hz2.out rfl (by decide) _ k ((proveN l F j k).map vS) rfl (HO3.out.alloc _) ⟨w3.heap.size, 0, none⟩ 1 1 [vS z] rfl rfl (news_one (new_of _ _)) (by simp [vS, Value.oneCell']) (by unfold maxLen; omega) (by omega) (by have := HB3.out.size; simp; omega) ?_
             intro v5 w5 ho5 hg5 _
             have hb5 : Below w1.heap.size w1 w5 := (HB3.out.alloc HB3.out.size _).grown hg5 (by have := HB3.out.size; simp; omega) (fun q hq => by have := HO3.out.lt q hq; exact this.1)
             have HO5 := Lib.hid ho5
             have HB5 := Lib.hid hb5
             clear ho5 hg5 hb5)))
      go_roundw
      case rel => exact ⟨k + 1, by omega, by go_num, by rw [← HZ.out]; exact HO5.out, HB5.out⟩
      case measure => simp [intOf]; omega
    · obtain rfl : k = Hh := by omega
      go_wp2
      go_ret2
      rw [proveN_len]
      exact ⟨_, rfl, HO.out, HB.out⟩
end Go.Proofs.YtfklmjcjjdliiaaDoor
