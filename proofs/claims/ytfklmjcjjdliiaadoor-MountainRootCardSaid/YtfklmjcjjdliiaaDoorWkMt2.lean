/- OnesCount of package bits below 2^21, heights of the reference of mountain, Valid and check of both, do what the plain functions say. -/
import Derived.Test.YtfklmjcjjdliiaaDoorWkMt1
import Derived.Test.YtfklmjcjjdliiaaDoorWkFormed
import Derived.Test.YtfklmjcjjdliiaaDoorPlainOnes
import Derived.Laws.Bits64b
namespace Go.Proofs.YtfklmjcjjdliiaaDoor
open Go Go.RowKit Licit

theorem bits_and_i64_nat (a b : Nat) (ha : a < 9223372036854775808) (hb : b < 9223372036854775808) : bits .and .i64 (a : Int) (b : Int) = ((a &&& b : Nat) : Int) := by
  have hx : a &&& b < 2 ^ 63 := Nat.and_lt_two_pow _ (by omega)
  have h1 : (BitVec.ofInt 64 (a : Int)).toNat = a := by
    rw [BitVec.ofInt_natCast, BitVec.toNat_ofNat]; exact Nat.mod_eq_of_lt (by omega)
  have h2 : (BitVec.ofInt 64 (b : Int)).toNat = b := by
    rw [BitVec.ofInt_natCast, BitVec.toNat_ofNat]; exact Nat.mod_eq_of_lt (by omega)
  show IntKind.i64.wrap ((BitVec.ofInt 64 (a : Int) &&& BitVec.ofInt 64 (b : Int)).toNat : Int) = _
  rw [BitVec.toNat_and, h1, h2, IntKind.wrap_i64]
  omega
theorem bits_xor_i64_nat (a b : Nat) (ha : a < 9223372036854775808) (hb : b < 9223372036854775808) : bits .xor .i64 (a : Int) (b : Int) = ((a ^^^ b : Nat) : Int) := by
  have hx : a ^^^ b < 2 ^ 63 := Nat.xor_lt_two_pow (by omega) (by omega)
  have h1 : (BitVec.ofInt 64 (a : Int)).toNat = a := by
    rw [BitVec.ofInt_natCast, BitVec.toNat_ofNat]; exact Nat.mod_eq_of_lt (by omega)
  have h2 : (BitVec.ofInt 64 (b : Int)).toNat = b := by
    rw [BitVec.ofInt_natCast, BitVec.toNat_ofNat]; exact Nat.mod_eq_of_lt (by omega)
  show IntKind.i64.wrap ((BitVec.ofInt 64 (a : Int) ^^^ BitVec.ofInt 64 (b : Int)).toNat : Int) = _
  rw [BitVec.toNat_xor, h1, h2, IntKind.wrap_i64]
  omega
set_option maxHeartbeats 1000000 in
theorem Ones64_any (x : Nat) (w : World) (hx : x < 2 ^ 21) : Calls Tryd.prog 80 #[.int .u64 (x : Int)] w fun e w' => e = .returned (.int .i64 ((hts x).length : Int)) ∧ w' = w := by
  obtain ⟨h3, h4⟩ := ones_is hx
  obtain ⟨L, hL⟩ : ∃ L, (hts x).length = L := ⟨_, rfl⟩
  obtain ⟨y1, hy1⟩ : ∃ y1, onesX1 x = y1 := ⟨_, rfl⟩
  obtain ⟨y2, hy2⟩ : ∃ y2, onesX2 y1 = y2 := ⟨_, rfl⟩
  obtain ⟨y3, hy3⟩ : ∃ y3, onesX3 y2 = y3 := ⟨_, rfl⟩
  rw [hy1, hy2, hy3] at h3 h4
  rw [hL] at h4 ⊢
  obtain ⟨z, hz⟩ : ∃ z, y3 + y3 / 256 = z := ⟨_, rfl⟩
  obtain ⟨u, hu⟩ : ∃ u, z + z / 65536 = u := ⟨_, rfl⟩
  obtain ⟨t, ht⟩ : ∃ t, u + u / 4294967296 = t := ⟨_, rfl⟩
  have h4' : t % 128 = L ∧ t < 2 ^ 30 := by rw [← ht, ← hu, ← hz]; exact h4
  have k1 : ∀ a b : Nat, b < 2 ^ 63 → a &&& b ≤ b := fun a b _ => Nat.and_le_right
  have l1 : y1 < 18446744073709551616 := by rw [← hy1]; unfold onesX1; have := @Nat.and_le_right (x / 2) 6148914691236517205; have := @Nat.and_le_right x 6148914691236517205; omega
  have l2 : y2 < 18446744073709551616 := by rw [← hy2]; unfold onesX2; have := @Nat.and_le_right (y1 / 4) 3689348814741910323; have := @Nat.and_le_right y1 3689348814741910323; omega
  have e1 : IntKind.u64.wrap (bits .and .u64 ((x : Int) / 2) 6148914691236517205 + bits .and .u64 (x : Int) 6148914691236517205) = (y1 : Int) := by
    have a1 : bits .and .u64 ((x : Int) / 2) 6148914691236517205 = ((x / 2 &&& 6148914691236517205 : Nat) : Int) := bits_and_u64_nat (x / 2) 6148914691236517205 (by omega) (by decide)
    have a2 : bits .and .u64 (x : Int) 6148914691236517205 = ((x &&& 6148914691236517205 : Nat) : Int) := bits_and_u64_nat x 6148914691236517205 (by omega) (by decide)
    rw [a1, a2, IntKind.wrap_u64, ← hy1]
    unfold onesX1 at hy1 ⊢
    omega
  have e2 : IntKind.u64.wrap (bits .and .u64 ((y1 : Int) / 4) 3689348814741910323 + bits .and .u64 (y1 : Int) 3689348814741910323) = (y2 : Int) := by
    have a1 : bits .and .u64 ((y1 : Int) / 4) 3689348814741910323 = ((y1 / 4 &&& 3689348814741910323 : Nat) : Int) := bits_and_u64_nat (y1 / 4) 3689348814741910323 (by omega) (by decide)
    have a2 : bits .and .u64 (y1 : Int) 3689348814741910323 = ((y1 &&& 3689348814741910323 : Nat) : Int) := bits_and_u64_nat y1 3689348814741910323 (by omega) (by decide)
    rw [a1, a2, IntKind.wrap_u64, ← hy2]
    unfold onesX2 at hy2 ⊢
    omega
  have l2' : y2 / 16 + y2 < 18446744073709551616 := by
    have hb : y2 < 2 ^ 63 + 0 := by
      rw [← hy2]; unfold onesX2; have := @Nat.and_le_right (y1 / 4) 3689348814741910323; have := @Nat.and_le_right y1 3689348814741910323; omega
    omega
  have e3 : bits .and .u64 (IntKind.u64.wrap ((y2 : Int) / 16 + (y2 : Int))) 1085102592571150095 = (y3 : Int) := by
    have a0 : IntKind.u64.wrap ((y2 : Int) / 16 + (y2 : Int)) = ((y2 / 16 + y2 : Nat) : Int) := by rw [IntKind.wrap_u64]; omega
    have a1 : bits .and .u64 ((y2 / 16 + y2 : Nat) : Int) 1085102592571150095 = (((y2 / 16 + y2) &&& 1085102592571150095 : Nat) : Int) := bits_and_u64_nat (y2 / 16 + y2) 1085102592571150095 l2' (by decide)
    rw [a0, a1, ← hy3]
    rfl
  have e4 : IntKind.u64.wrap ((y3 : Int) + (y3 : Int) / 256) = (z : Int) := by rw [IntKind.wrap_u64]; omega
  have e5 : IntKind.u64.wrap ((z : Int) + (z : Int) / 65536) = (u : Int) := by rw [IntKind.wrap_u64]; omega
  have e6 : IntKind.u64.wrap ((u : Int) + (u : Int) / 4294967296) = (t : Int) := by rw [IntKind.wrap_u64]; omega
  have e7 : bits .and .i64 (t : Int) 127 = (L : Int) := by
    have := bits_and_i64_nat t 127 (by omega) (by decide)
    rw [show (127 : Nat) = 2 ^ 7 - 1 from rfl, Nat.and_two_pow_sub_one_eq_mod, show 2 ^ 7 = 128 from rfl, h4'.1] at this
    exact this
  have e8 : IntKind.i64.wrap (t : Int) = (t : Int) := by rw [IntKind.wrap_i64]; omega
  clear h3 h4 hL hy1 hy2 hy3 hz hu ht h4' k1 l1 l2 l2'
  go_enter Tryd.func80, Tryd.ntmps80
  go_wp2
  go_ret
  exact ⟨rfl, rfl⟩
theorem Ones_any (x : Nat) (w : World) (hx : x < 2 ^ 21) : Calls Tryd.prog 60 #[.int .u64 (x : Int)] w fun e w' => e = .returned (.int .i64 ((hts x).length : Int)) ∧ w' = w := by
  go_enter Tryd.func60, Tryd.ntmps60
  go_wp2_with (go_at_call 80; refine (Ones64_any x _ hx).mono ?_; rintro e w1 ⟨rfl, rfl⟩)
  go_ret
  exact ⟨rfl, rfl⟩
theorem wrong_any (x : Bs) (w : World) : Calls Tryd.prog 50 #[.string (B x)] w fun e w' => e = .returned (.bool (!(decide (x.length = 32)))) ∧ w' = w := clos_any x w
theorem Wrongs_any (v : Value) (xs : List Bs) (w : World) (h : IsSl v (xs.map vS) w) :
    Calls Tryd.prog 51 #[v, .func (.func 50) #[] #[]] w fun e w' => e = .returned (.bool (!(all32 xs))) ∧ w' = w :=
  Contains_any 50 (enters_of Tryd.func50 (by kernel_rfl) rfl) clos_any v xs w h

theorem check_any (v : Value) (xs : List Bs) (w : World) (h : IsSl v (xs.map vS) w) :
    Calls Tryd.prog 43 #[v] w fun e w' => e = .returned (.int .i64 (checkM xs)) ∧ w' = w := by
  have HC := Lib.hid (fun W (hw : W = w) => Wrongs_any v xs W (hw ▸ h))
  obtain ⟨a, cap, rfl⟩ := h.formMap
  clear h
  unfold checkM
  by_cases c : 1024 < xs.length
  · have d1 : decide (1024 < (xs.length : Int)) = true := by simp; omega
    rw [if_pos c]
    go_enter Tryd.func43, Tryd.ntmps43
    go_wp2
    go_ret
    exact ⟨rfl, rfl⟩
  · have d1 : decide (1024 < (xs.length : Int)) = false := by simp; omega
    rw [if_neg c]
    cases hA : all32 xs with
    | true =>
      rw [hA] at HC
      go_enter Tryd.func43, Tryd.ntmps43
      go_wp2_with (go_at_call 51; refine (HC.out _ rfl).mono ?_; rintro e w1 ⟨rfl, rfl⟩)
      go_ret
      exact ⟨rfl, rfl⟩
    | false =>
      rw [hA] at HC
      go_enter Tryd.func43, Tryd.ntmps43
      go_wp2_with (go_at_call 51; refine (HC.out _ rfl).mono ?_; rintro e w1 ⟨rfl, rfl⟩)
      go_ret
      exact ⟨rfl, rfl⟩
theorem RCheck49_any (v : Value) (xs : List Bs) (w : World) (h : IsSl v (xs.map vS) w) :
    Calls Tryd.prog 46 #[v] w fun e w' => e = .returned (.int .i64 (checkM xs)) ∧ w' = w := by
  have HC := Lib.hid (fun W (hw : W = w) => Digests_any v xs W (hw ▸ h))
  obtain ⟨a, cap, rfl⟩ := h.formMap
  clear h
  unfold checkM
  by_cases c : 1024 < xs.length
  · have d1 : decide (1024 < (xs.length : Int)) = true := by simp; omega
    rw [if_pos c]
    go_enter Tryd.func46, Tryd.ntmps46
    go_wp2
    go_ret
    exact ⟨rfl, rfl⟩
  · have d1 : decide (1024 < (xs.length : Int)) = false := by simp; omega
    rw [if_neg c]
    cases hA : all32 xs with
    | true =>
      rw [hA] at HC
      go_enter Tryd.func46, Tryd.ntmps46
      go_wp2_with (go_at_call 55; refine (HC.out _ rfl).mono ?_; rintro e w1 ⟨rfl, rfl⟩)
      go_ret
      exact ⟨rfl, rfl⟩
    | false =>
      rw [hA] at HC
      go_enter Tryd.func46, Tryd.ntmps46
      go_wp2_with (go_at_call 55; refine (HC.out _ rfl).mono ?_; rintro e w1 ⟨rfl, rfl⟩)
      go_ret
      exact ⟨rfl, rfl⟩

def vN (h : Nat) : Value := .int .i64 (h : Int)
theorem hts_step (k n : Nat) : htsB (k + 1) n = if n / 2 ^ k % 2 = 1 then k :: htsB k n else htsB k n := rfl
theorem and_one_i64 (n : Nat) (h : n < 9223372036854775808) : bits .and .i64 (n : Int) 1 = ((n % 2 : Nat) : Int) := by
  have := bits_and_i64_nat n 1 h (by decide)
  rw [Nat.and_one_is_mod] at this
  exact this
theorem Tryd.infoInt49 : (Tryd.prog.info? 3).map (fun i => (i.zero, i.size, i.bytes)) = some (some (.int .i64 0), 1, 8) := by kernel_rfl

set_option maxHeartbeats 1000000 in
set_option maxRecDepth 100000 in
theorem heights_any (n : Nat) (w : World) (hn : n ≤ 1048576) :
    Calls Tryd.prog 61 #[.int .i64 (n : Int)] w fun e w' => ∃ v, e = .returned v ∧ w'.ownsRow w.heap.size 3 1 v (hts n).length ((hts n).map vN) ∧ Below w.heap.size w w' := by
  obtain ⟨i0, hi, hz0, hz1, hz2⟩ := info_parts Tryd.infoInt49
  have Hi := Lib.hid hi
  have Hz0 := Lib.hid hz0
  have Hz1 := Lib.hid hz1
  have Hz2 := Lib.hid hz2
  clear hi hz0 hz1 hz2
  go_enter Tryd.func61, Tryd.ntmps61
  go_wp2
  go_loopw [3, 4] (fun v h wr => ∃ (k : Nat) (acc : List Nat), k ≤ 21 ∧ h = .int .i64 ((k : Int) - 1) ∧ acc ++ htsB k n = hts n ∧ wr.ownsRow w.heap.size 3 1 v acc.length (acc.map vN) ∧ Below w.heap.size w wr) (fun _ h _ => (intOf h + 1).toNat)
  case atStart => exact ⟨21, [], by omega, rfl, rfl, World.ownsRow_nil _ _ _ _, Below.refl _ _⟩
  case round =>
    obtain ⟨k, acc, hk, rfl, ha, ho, hb⟩ := hrel
    have HA := Lib.hid ha
    have HO := Lib.hid ho
    have HB := Lib.hid hb
    have hal : acc.length ≤ 21 := by have := congrArg List.length ha; rw [List.length_append] at this; have : (hts n).length ≤ 21 := hts_len 21 n; omega
    clear ha ho hb
    cases k with
    | zero =>
      have hneg : decide ((0 : Int) ≤ ((0 : Nat) : Int) - 1) = false := by decide
      go_wp2
      go_ret
      have ha := HA.out
      rw [htsB, List.append_nil] at ha
      rw [← ha]
      exact ⟨_, rfl, HO.out, HB.out⟩
    | succ k =>
      obtain ⟨d, hd⟩ : ∃ d, n / 2 ^ k = d := ⟨_, rfl⟩
      have hdl : d ≤ n := by rw [← hd]; exact Nat.div_le_self _ _
      have hkd : (n : Int) / 2 ^ k = (d : Int) := by rw [← hd]; simp
      have hka : ((k + 1 : Nat) : Int) - 1 = (k : Int) := by omega
      have hkm : min k 64 = k := by omega
      have hk64 : k ≤ 64 := by omega
      rw [hka]
      have hand := and_one_i64 d (by omega)
      obtain ⟨r, hr⟩ : ∃ r, d % 2 = r := ⟨_, rfl⟩
      rw [hr] at hand
      have HA2 := Lib.hid (show acc ++ (if r = 1 then k :: htsB k n else htsB k n) = hts n by rw [← hr, ← hd]; exact HA.out)
      clear hd HA hka
      by_cases hr1 : r = 1
      · subst hr1
        have ha2 := HA2.out
        rw [if_pos rfl] at ha2
        have HA3 := Lib.hid ha2
        clear ha2 hr
        go_wp2_with (at_builtin
                     go_loud (
                     refine wpList_append_own _ rfl _ _ 66 rfl w.heap.size 3 i0 (.int .i64 0) 1 8 Tryd.underlying66 Hi.out Hz0.out Hz1.out Hz2.out rfl (by decide) _ acc.length (acc.map vN) rfl (HO.out.alloc _) ⟨wr.heap.size, 0, none⟩ 1 1 [vN k] rfl rfl (news_one (new_of _ _)) (by simp [vN, Value.oneCell']) (by unfold maxLen; omega) (by omega) (by have := HB.out.size; simp; omega) ?_
                     intro v3 w3 ho3 hg3 _
                     have hb3 : Below w.heap.size w w3 := (HB.out.alloc HB.out.size _).grown hg3 (by have := HB.out.size; simp; omega) (fun q hq => by have := HO.out.lt q hq; exact this.1)
                     have HO3 := Lib.hid ho3
                     have HB3 := Lib.hid hb3
                     clear ho3 hg3 hb3))
        go_roundw
        case rel => exact ⟨k, acc ++ [k], by omega, by go_num, by rw [List.append_assoc]; exact HA3.out, by rw [List.length_append, List.map_append]; exact HO3.out, HB3.out⟩
        case measure => simp [intOf]
      · have hr1' : ((r : Int) == 1) = false := by simp; omega
        have ha2 := HA2.out
        rw [if_neg hr1] at ha2
        have HA3 := Lib.hid ha2
        clear ha2 hr hr1
        go_wp2
        go_roundw
        case rel => exact ⟨k, acc, by omega, by go_num, HA3.out, HO.out, HB.out⟩
        case measure => simp [intOf]

/-- A slice without memory holds nothing. -/
def NilOk (p : Value) : Prop := ∀ n c, p = .slice none n c → c = 0
theorem NilOk.own {w : World} {base : Nat} {e : TypeId} {size : Nat} {v : Value} {n : Nat} {xs : List Value} (h : w.ownsRow base e size v n xs) : NilOk v := by
  intro n' c hv
  rcases h.2 with ⟨rfl, rfl⟩ | ⟨g, cap, cur, rfl, hg, hh, h1, _⟩
  · simp only [Value.slice.injEq] at hv; exact hv.2.2.symm
  · simp at hv
theorem NilOk.nil : NilOk (.slice none 0 0) := by
  intro n' c hv
  simp only [Value.slice.injEq] at hv
  exact hv.2.2.symm
/-- A range as a value: its size, and its peaks. -/
def MtIs (v : Value) (s : Int) (P : List Bs) (w : World) : Prop := ∃ p : Value, v = .agg #[.int .i64 s, p] ∧ IsSl p (P.map vS) w ∧ NilOk p
theorem MtIs.below {v : Value} {s : Int} {P : List Bs} {w w' : World} (h : MtIs v s P w) (hb : Below w.heap.size w w') : MtIs v s P w' := by
  obtain ⟨p, rfl, h1, h2⟩ := h
  exact ⟨p, rfl, h1.below hb, h2⟩
theorem mtC {w : World} {r : Nat} {x0 x1 : Value} {T : TypeId} (h : w.heap[r]? = some (.cells #[x0, x1] T)) : w.cell? ⟨r, 0, none⟩ = some x0 ∧ w.cell? ⟨r, 1, none⟩ = some x1 := ⟨cell_of h 0, cell_of h 1⟩
def validM (s : Int) (P : List Bs) : Int := if okM s P = true then 0 else 1

set_option maxHeartbeats 4000000 in
set_option maxRecDepth 100000 in
theorem MtValid_any (v : Value) (s : Int) (P : List Bs) (w : World) (h : MtIs v s P w) :
    Calls Tryd.prog 30 #[v] w fun e w' => e = .returned (.int .i64 (validM s P)) ∧ Below w.heap.size w w' := by
  obtain ⟨p, rfl, h1, _⟩ := h
  have hB1 : Below w.heap.size w (w.alloc (.cells #[.int .i64 s, p] 31)) := (Below.refl _ _).alloc (Nat.le_refl _) _
  have HW := Lib.hid (fun W (hb : Below w.heap.size w W) => Wrongs_any p P W (h1.below hb))
  obtain ⟨a, cap, rfl⟩ := h1.formMap
  have hl := h1.1
  rw [List.length_map] at hl
  unfold maxLen at hl
  have HB1 := Lib.hid hB1
  have Hx := Lib.hid (new_of w (.cells #[.int .i64 s, .slice a P.length cap] 31))
  clear hB1 h1
  by_cases c1 : s < 0
  · have d1 : decide (s < 0) = true := by simpa using c1
    have hq : validM s P = 1 := by unfold validM; rw [if_neg]; intro h; have := okM_iff.1 h; omega
    rw [hq]
    clear hq
    go_enter Tryd.func30, Tryd.ntmps30
    go_wp2
    go_quiet (fail)
    go_wp2
    go_ret
    exact ⟨rfl, below_drewN HB1.out _⟩
  obtain ⟨n, rfl⟩ : ∃ n : Nat, s = (n : Int) := ⟨s.toNat, by omega⟩
  have d1 : decide ((n : Int) < 0) = false := by simp
  clear c1
  by_cases c2 : 1048576 < n
  · have d2 : decide (1048576 < (n : Int)) = true := by simp; omega
    have hq : validM (n : Int) P = 1 := by unfold validM; rw [if_neg]; intro h; have := okM_iff.1 h; omega
    rw [hq]
    clear hq
    go_enter Tryd.func30, Tryd.ntmps30
    go_wp2
    go_quiet (fail)
    go_wp2
    go_ret
    exact ⟨rfl, below_drewN HB1.out _⟩
  have d2 : decide (1048576 < (n : Int)) = false := by simp; omega
  have hcv : IntKind.u64.wrap (n : Int) = (n : Int) := by rw [IntKind.wrap_u64]; omega
  have HO := Lib.hid (fun W => Ones_any n W (by omega))
  obtain ⟨L, hL⟩ : ∃ L, (hts n).length = L := ⟨_, rfl⟩
  rw [hL] at HO
  have HL := Lib.hid hL
  have hLl : L ≤ 21 := by rw [← hL]; exact hts_len 21 n
  have hn20 : n ≤ 1048576 := by omega
  clear hL c2
  by_cases c3 : P.length = L
  rotate_left
  · have hq : validM (n : Int) P = 1 := by unfold validM; rw [if_neg]; intro h; have := okM_iff.1 h; rw [Int.toNat_natCast, HL.out] at this; exact c3 this.2.1
    rw [hq]
    have d3 : ((P.length : Int) == (L : Int)) = false := by simp; omega
    have d3' : ((P.length : Int) != (L : Int)) = true := by rw [bne, d3]; rfl
    clear hq c3
    go_enter Tryd.func30, Tryd.ntmps30
    go_wp2
    go_quiet ((go_at_call 60; exact Calls.quiet_of_same (HO.out _)))
    go_wp2
    go_ret
    exact ⟨rfl, below_drewN HB1.out _⟩
  subst c3
  cases hA : all32 P with
  | true =>
    rw [hA] at HW
    have hq : validM (n : Int) P = 0 := by unfold validM; rw [if_pos]; exact okM_iff.2 ⟨by omega, by rw [Int.toNat_natCast, HL.out], hA⟩
    rw [hq]
    clear hq hA
    go_enter Tryd.func30, Tryd.ntmps30
    go_wp2
    go_quiet ((first | (go_at_call 60; exact Calls.quiet_of_same (HO.out _)) | (go_at_call 51; exact Calls.quiet_of_same (HW.out _ (below_drewN HB1.out _)))))
    go_wp2
    go_ret
    exact ⟨rfl, below_drewN HB1.out _⟩
  | false =>
    rw [hA] at HW
    have hq : validM (n : Int) P = 1 := by unfold validM; rw [if_neg]; intro h; have := okM_iff.1 h; rw [hA] at this; exact Bool.noConfusion this.2.2
    rw [hq]
    clear hq hA
    go_enter Tryd.func30, Tryd.ntmps30
    go_wp2
    go_quiet ((first | (go_at_call 60; exact Calls.quiet_of_same (HO.out _)) | (go_at_call 51; exact Calls.quiet_of_same (HW.out _ (below_drewN HB1.out _)))))
    go_wp2
    go_ret
    exact ⟨rfl, below_drewN HB1.out _⟩
end Go.Proofs.YtfklmjcjjdliiaaDoor
