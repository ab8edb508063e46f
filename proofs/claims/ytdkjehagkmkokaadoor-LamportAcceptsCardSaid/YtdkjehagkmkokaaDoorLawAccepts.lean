/- The card of LamportAccepts is proved: for every job and every other message the law returns true; the conditions are those of the given row. -/
import Derived.Test.YtdkjehagkmkokaaDoorLawKit48
import Derived.Test.YtdkjehagkmkokaaDoorWkAwake48
import Derived.Test.YtdkjehagkmkokaaDoorWkSignAll
import Derived.Test.YtdkjehagkmkokaaDoorWkRCheckM
import Derived.Laws.BitsAllLaws
namespace Go.Proofs.YtdkjehagkmkokaaDoor.lawAccepts
open Go Go.RowKit Licit
open Go.ChangeShapes Go.WideShapes Go.ChangeAt

theorem job_cells {w : World} {r : Nat} {x0 x1 x2 x3 x4 x5 x6 : Value} {T : TypeId} (h : w.heap[r]? = some (.cells #[x0, x1, x2, x3, x4, x5, x6] T)) :
    w.cell? ⟨r, 0, none⟩ = some x0 ∧ w.cell? ⟨r, 1, none⟩ = some x1 ∧ w.cell? ⟨r, 2, none⟩ = some x2 ∧ w.cell? ⟨r, 3, none⟩ = some x3 ∧ w.cell? ⟨r, 4, none⟩ = some x4 := ⟨cell_of h 0, cell_of h 1, cell_of h 2, cell_of h 3, cell_of h 4⟩
theorem Root_no (seed : Bs) (b h : Int) (w : World) (hk : keyOk b h = false) :
    Gives 13 #[.string (B seed), .agg #[.int .i64 b, .int .i64 h]] w (.tuple #[.string (B []), .int .i64 3]) := by
  have HV := Lib.hid (fun W => Valid_no b h W hk)
  clear hk
  go_enter Tryd.func13, Tryd.ntmps13
  go_wp2_with (first
    | (go_at_call 15; refine (HV.out _).mono ?_; rintro e w1 ⟨rfl, hb1⟩; have Hb1 := Lib.hid (((Below.refl w.heap.size w).alloc (Nat.le_refl _) _).next hb1); clear hb1))
  go_ret2
  exact ⟨rfl, Hb1.out⟩
/-- The first n bits of two digests are the same. -/
def sameN (d d' : Bs) : Nat → Bool
  | 0 => true
  | n + 1 => sameN d d' n && decide (bitOf d n = bitOf d' n)
theorem sameN_all {d d' : Bs} : ∀ {n : Nat}, sameN d d' n = true → ∀ k, k < n → bitOf d' k = bitOf d k
  | n + 1, h, k, hk => by
    rw [sameN, Bool.and_eq_true, decide_eq_true_eq] at h
    by_cases e : k = n
    · rw [e]; exact h.2.symm
    · exact sameN_all h.1 k (by omega)

theorem dr' {B : Nat} {w w' : World} (h : Below B w w') (q : Nat) : Below B w (w'.drewN q) := ⟨h.os, h.tape, h.output, h.size, h.block⟩
theorem xor_expr (d d' : Bs) (k : Nat) (h : k / 8 < (B d).size) (h' : k / 8 < (B d').size) :
    (bits BinOp.and IntKind.u8 (bits BinOp.xor IntKind.u8 (((B d)[k / 8]'h).toNat : Int) (((B d')[k / 8]'h').toNat : Int) / 2 ^ (7 - k % 8)) 1 == 0) = decide (bitOf d k = bitOf d' k) := by
  have hk : k / 8 < d.length := h
  have hk' : k / 8 < d'.length := h'
  have hx : (B d)[k / 8]'h = d.getD (k / 8) 0 := by
    rw [List.getD_eq_getElem?_getD, List.getElem?_eq_getElem hk]
    rfl
  have hy : (B d')[k / 8]'h' = d'.getD (k / 8) 0 := by
    rw [List.getD_eq_getElem?_getD, List.getElem?_eq_getElem hk']
    rfl
  have e1 : bitOf d k = (d.getD (k / 8) 0).toNat / 2 ^ (7 - k % 8) % 2 := rfl
  have e2 : bitOf d' k = (d'.getD (k / 8) 0).toNat / 2 ^ (7 - k % 8) % 2 := rfl
  rw [hx, hy, e1, e2]
  generalize d.getD (k / 8) 0 = x
  generalize d'.getD (k / 8) 0 = y
  generalize 7 - k % 8 = s
  have lx : x.toNat < 256 := UInt8.toNat_lt x
  have ly : y.toNat < 256 := UInt8.toNat_lt y
  rw [u8_xor_nat _ _ lx ly]
  have hxy : x.toNat ^^^ y.toNat < 256 := Nat.xor_lt_two_pow (n := 8) lx ly
  have hq : (x.toNat ^^^ y.toNat) / 2 ^ s < 256 := Nat.lt_of_le_of_lt (Nat.div_le_self _ _) hxy
  have hc : ((x.toNat ^^^ y.toNat : Nat) : Int) / 2 ^ s = (((x.toNat ^^^ y.toNat) / 2 ^ s : Nat) : Int) := by simp
  have ha := u8_and_nat ((x.toNat ^^^ y.toNat) / 2 ^ s) 1 hq (by decide)
  rw [Nat.and_one_is_mod] at ha
  rw [hc]
  have ha' : bits BinOp.and IntKind.u8 (((x.toNat ^^^ y.toNat) / 2 ^ s : Nat) : Int) 1 = (((x.toNat ^^^ y.toNat) / 2 ^ s % 2 : Nat) : Int) := ha
  rw [ha']
  have t := Nat.testBit_xor x.toNat y.toNat s
  rw [Nat.testBit_eq_decide_div_mod_eq, Nat.testBit_eq_decide_div_mod_eq, Nat.testBit_eq_decide_div_mod_eq] at t
  have l1 := Nat.mod_lt ((x.toNat ^^^ y.toNat) / 2 ^ s) (show 0 < 2 by decide)
  have l2 := Nat.mod_lt (x.toNat / 2 ^ s) (show 0 < 2 by decide)
  have l3 := Nat.mod_lt (y.toNat / 2 ^ s) (show 0 < 2 by decide)
  generalize (x.toNat ^^^ y.toNat) / 2 ^ s % 2 = a at *
  generalize x.toNat / 2 ^ s % 2 = b at *
  generalize y.toNat / 2 ^ s % 2 = c at *
  have a01 : a = 0 ∨ a = 1 := by omega
  have b01 : b = 0 ∨ b = 1 := by omega
  have c01 : c = 0 ∨ c = 1 := by omega
  rcases a01 with rfl | rfl <;> rcases b01 with rfl | rfl <;> rcases c01 with rfl | rfl <;> simp_all

set_option maxHeartbeats 8000000 in
set_option maxRecDepth 100000 in
theorem walk (seed m other : Bs) (b h i : Int) (how at_ : Nat) (w : World) (hs : seed.length ≤ maxLen) (ht : Tab w) :
    Calls Tryd.prog 8 #[jobV seed m b h i how at_, .string (B other)] w fun e w' => e = .returned (.bool true) ∧ Below w.heap.size w w' := by
  have HL := Lib.hid (fun W => Light_any seed b h W)
  have HA := Lib.hid (fun W (hT : Tab W) => awake_any48 W hT)
  obtain ⟨l, hl⟩ : ∃ l, lightB seed b h = l := ⟨_, rfl⟩
  rw [hl] at HL
  have hmz : ((B m).size : Int) = (m.length : Int) := rfl
  have hoz : ((B other).size : Int) = (other.length : Int) := rfl
  clear hl
  go_enter Tryd.func8, Tryd.ntmps8
  go_wp2_with fail
  refine (HA.out _ (ht.same ((Below.refl _ _).alloc (Nat.le_refl _) _))).mono ?_
  rintro e w1 ⟨rfl, hb⟩
  have hk1 : w1.heap[w.heap.size]? = some (.cells #[.string (B seed), .string (B m), .int .i64 b, .int .i64 h, .int .i64 i, .int .u8 (how : Int), .int .u8 (at_ : Int)] 31) := (hb.block _ (by simp)).trans (new_of _ _)
  have hb1 := ((Below.refl w.heap.size w).alloc (Nat.le_refl _) _).next hb
  have Hk1 := Lib.hid hk1
  have Hb1 := Lib.hid hb1
  obtain ⟨k0, k1, k2, k3, k4⟩ := job_cells hk1
  clear hb hb1 hk1
  go_wp2_with fail
  refine (HL.out _).mono ?_
  rintro e w2 ⟨rfl, hb⟩
  have hk2 := (hb.block _ (lt_of Hk1.out)).trans Hk1.out
  have Hk2 := Lib.hid hk2
  have hb2 := Hb1.out.next hb
  have ht2 := ht.same hb2
  have Hb2 := Lib.hid hb2
  clear k0 k1 k2 k3 k4
  obtain ⟨k0, k1, k2, k3, k4⟩ := job_cells hk2
  clear hb hb2 hk2
  cases l with
  | false =>
    go_wp2_with fail
    refine (HA.out _ ht2).mono ?_
    rintro e w3 ⟨rfl, hb⟩
    have Hb3 := Lib.hid (Hb2.out.next hb)
    clear hb
    go_wp2
    go_ret
    exact ⟨rfl, Hb3.out⟩
  | true =>
    by_cases hm : 200 < m.length
    · have d1 : decide (200 < (m.length : Int)) = true := by simp; omega
      go_wp2_with fail
      refine (HA.out _ ht2).mono ?_
      rintro e w3 ⟨rfl, hb⟩
      have Hb3 := Lib.hid (Hb2.out.next hb)
      clear hb
      go_wp2
      go_ret
      exact ⟨rfl, Hb3.out⟩
    have d1 : decide (200 < (m.length : Int)) = false := by simp; omega
    by_cases hm' : 200 < other.length
    · have d1 : decide (200 < (other.length : Int)) = true := by simp; omega
      go_wp2_with fail
      refine (HA.out _ ht2).mono ?_
      rintro e w3 ⟨rfl, hb⟩
      have Hb3 := Lib.hid (Hb2.out.next hb)
      clear hb
      go_wp2
      go_ret
      exact ⟨rfl, Hb3.out⟩
    have d2 : decide (200 < (other.length : Int)) = false := by simp; omega
    cases hok : signOk b h i with
    | false =>
      have HSg := Lib.hid (fun W => Sign_no seed m b h i W hok)
      rcases sign_cases hok with hk | ⟨hk, h0⟩ | ⟨hk, h0, h1⟩
      · have HRt := Lib.hid (fun W => Root_no seed b h W hk)
        go_wp2_with fail
        refine (HRt.out _).mono ?_
        rintro e w3 ⟨rfl, hb⟩
        have Hk3 := Lib.hid ((hb.block _ (lt_of Hk2.out)).trans Hk2.out)
        have Hb3 := Lib.hid (Hb2.out.next hb)
        clear hb k0 k1 k2 k3 k4
        obtain ⟨k0, k1, k2, k3, k4⟩ := job_cells Hk3.out
        go_wp2_with fail
        refine (HSg.out _).mono ?_
        rintro e w4 ⟨rfl, hb⟩
        have Hk4 := Lib.hid ((hb.block _ (lt_of Hk3.out)).trans Hk3.out)
        have Hb4 := Lib.hid (Hb3.out.next hb)
        clear hb k0 k1 k2 k3 k4
        go_wp2
        obtain ⟨W, hW⟩ : ∃ W, w4.alloc (.cells #[.int .i64 0, .slice none 0 0, .slice none 0 0, .slice none 0 0] 34) = W := ⟨_, rfl⟩
        obtain ⟨X, hX⟩ : ∃ X, w4.heap.size = X := ⟨_, rfl⟩
        have Hk5 := Lib.hid (show W.heap[w.heap.size]? = some (.cells #[.string (B seed), .string (B m), .int .i64 b, .int .i64 h, .int .i64 i, .int .u8 (how : Int), .int .u8 (at_ : Int)] 31) by rw [← hW]; exact old_of Hk4.out)
        have HX5 := Lib.hid (show W.heap[X]? = some (.cells #[.int .i64 0, .slice none 0 0, .slice none 0 0, .slice none 0 0] 34) by rw [← hW, ← hX]; exact new_of _ _)
        have Hb5 := Lib.hid (show Below w.heap.size w W by rw [← hW]; exact Hb4.out.alloc Hb4.out.size _)
        rw [hW, hX]
        clear hW hX
        refine wp_region_held_drew (S := (fun W : World => (W.cell? ⟨w.heap.size, 0, none⟩ = some (.string (B seed)) ∧ W.cell? ⟨w.heap.size, 1, none⟩ = some (.string (B m)) ∧ W.cell? ⟨w.heap.size, 2, none⟩ = some (.int .i64 b) ∧ W.cell? ⟨w.heap.size, 3, none⟩ = some (.int .i64 h) ∧ W.cell? ⟨w.heap.size, 4, none⟩ = some (.int .i64 i)) ∧ W.cell? ⟨X, 1, none⟩ = some (.slice none 0 0))) (by kernel_rfl) ⟨job_cells (w := W) Hk5.out, (sigC (w := W) HX5.out).2.1⟩ (fun hHeld => ?_)
        refine take_at 0 62 (oi := ?o1) (v := ?v1) ?hi1 ?hd1 (by kernel_rfl) (by kernel_rfl) (by kernel_rfl) ?hQ1 ?hw1 ?hy1 (by assumption) ?rest1
        case hi1 => simp only [List.getElem?_toArray, List.getElem?_cons_zero]; rfl
        case hd1 => rfl
        case hw1 => kernel_rfl
        case hy1 => intro W hW; (try dsimp only at hW); go_simp <;> with_reducible rfl
        case hQ1 => exact fun _ _ _ h => h
        try simp only [Act.put, List.setIfInBounds_toArray, List.set_cons_zero, List.set_cons_succ]
        refine take_at 1 63 (oi := ?o2) (v := ?v2) ?hi2 ?hd2 (by kernel_rfl) (by kernel_rfl) (by kernel_rfl) ?hQ2 ?hw2 ?hy2 (by assumption) ?rest2
        case hi2 => simp only [List.getElem?_toArray, List.getElem?_cons_succ, List.getElem?_cons_zero]; rfl
        case hd2 => rfl
        case hw2 => kernel_rfl
        case hy2 => intro W hW; (try dsimp only at hW); go_simp <;> with_reducible rfl
        case hQ2 => exact fun _ _ _ h => h
        try simp only [Act.put, List.setIfInBounds_toArray, List.set_cons_zero, List.set_cons_succ]
        refine take_at 2 64 (oi := ?o3) (v := ?v3) ?hi3 ?hd3 (by kernel_rfl) (by kernel_rfl) (by kernel_rfl) ?hQ3 ?hw3 ?hy3 (by assumption) ?rest3
        case hi3 => simp only [List.getElem?_toArray, List.getElem?_cons_succ, List.getElem?_cons_zero]; rfl
        case hd3 => rfl
        case hw3 => kernel_rfl
        case hy3 => intro W hW; (try dsimp only at hW); go_simp <;> with_reducible rfl
        case hQ3 => exact fun _ _ _ h => h
        try simp only [Act.put, List.setIfInBounds_toArray, List.set_cons_zero, List.set_cons_succ]
        refine take_at 3 65 (oi := ?o4) (v := ?v4) ?hi4 ?hd4 (by kernel_rfl) (by kernel_rfl) (by kernel_rfl) ?hQ4 ?hw4 ?hy4 (by assumption) ?rest4
        case hi4 => simp only [List.getElem?_toArray, List.getElem?_cons_succ, List.getElem?_cons_zero]; rfl
        case hd4 => rfl
        case hw4 => kernel_rfl
        case hy4 => intro W hW; (try dsimp only at hW); go_simp <;> with_reducible rfl
        case hQ4 => exact fun _ _ _ h => h
        try simp only [Act.put, List.setIfInBounds_toArray, List.set_cons_zero, List.set_cons_succ]
        refine take_at 4 66 (oi := ?o5) (v := ?v5) ?hi5 ?hd5 (by kernel_rfl) (by kernel_rfl) (by kernel_rfl) ?hQ5 ?hw5 ?hy5 (by assumption) ?rest5
        case hi5 => simp only [List.getElem?_toArray, List.getElem?_cons_succ, List.getElem?_cons_zero]; rfl
        case hd5 => rfl
        case hw5 => kernel_rfl
        case hy5 => intro W hW; (try dsimp only at hW); go_simp <;> with_reducible rfl
        case hQ5 => exact fun _ _ _ h => h
        try simp only [Act.put, List.setIfInBounds_toArray, List.set_cons_zero, List.set_cons_succ]
        refine take_at 5 67 (oi := ?o6) (v := ?v6) ?hi6 ?hd6 (by kernel_rfl) (by kernel_rfl) (by kernel_rfl) ?hQ6 ?hw6 ?hy6 (by assumption) ?rest6
        case hi6 => simp only [List.getElem?_toArray, List.getElem?_cons_succ, List.getElem?_cons_zero]; rfl
        case hd6 => rfl
        case hw6 => kernel_rfl
        case hy6 => intro W hW; (try dsimp only at hW); go_simp <;> with_reducible rfl
        case hQ6 => exact fun _ _ _ h => h
        try simp only [Act.put, List.setIfInBounds_toArray, List.set_cons_zero, List.set_cons_succ]
        refine take_at 6 68 (oi := ?o7) (v := ?v7) ?hi7 ?hd7 (by kernel_rfl) (by kernel_rfl) (by kernel_rfl) ?hQ7 ?hw7 ?hy7 (by assumption) ?rest7
        case hi7 => simp only [List.getElem?_toArray, List.getElem?_cons_succ, List.getElem?_cons_zero]; rfl
        case hd7 => rfl
        case hw7 => kernel_rfl
        case hy7 => intro W hW; (try dsimp only at hW); go_simp <;> with_reducible rfl
        case hQ7 => exact fun _ _ _ h => h
        try simp only [Act.put, List.setIfInBounds_toArray, List.set_cons_zero, List.set_cons_succ]
        refine take_at 7 69 (oi := ?o8) (v := ?v8) ?hi8 ?hd8 (by kernel_rfl) (by kernel_rfl) (by kernel_rfl) ?hQ8 ?hw8 ?hy8 (by assumption) ?rest8
        case hi8 => simp only [List.getElem?_toArray, List.getElem?_cons_succ, List.getElem?_cons_zero]; rfl
        case hd8 => rfl
        case hw8 => kernel_rfl
        case hy8 => intro W hW; (try dsimp only at hW); go_simp <;> with_reducible rfl
        case hQ8 => exact fun _ _ _ h => h
        try simp only [Act.put, List.setIfInBounds_toArray, List.set_cons_zero, List.set_cons_succ]
        refine pass_at 8 70 (oi := ?o9) ?hi9 ?hd9 (by kernel_rfl) (by kernel_rfl) (by kernel_rfl) ?hQ9 ?hw9 (by assumption) ?rest9
        case hi9 => simp only [List.getElem?_toArray, List.getElem?_cons_succ, List.getElem?_cons_zero]; rfl
        case hd9 => rfl
        case hQ9 => exact fun _ _ _ h => h
        case hw9 => kernel_rfl
        try simp only [Act.put, List.setIfInBounds_toArray, List.set_cons_zero, List.set_cons_succ]
        refine pass_at 9 71 (oi := ?o10) ?hi10 ?hd10 (by kernel_rfl) (by kernel_rfl) (by kernel_rfl) ?hQ10 ?hw10 (by assumption) ?rest10
        case hi10 => simp only [List.getElem?_toArray, List.getElem?_cons_succ, List.getElem?_cons_zero]; rfl
        case hd10 => rfl
        case hQ10 => exact fun _ _ _ h => h
        case hw10 => kernel_rfl
        try simp only [Act.put, List.setIfInBounds_toArray, List.set_cons_zero, List.set_cons_succ]
        refine pass_at 10 72 (oi := ?o11) ?hi11 ?hd11 (by kernel_rfl) (by kernel_rfl) (by kernel_rfl) ?hQ11 ?hw11 (by assumption) ?rest11
        case hi11 => simp only [List.getElem?_toArray, List.getElem?_cons_succ, List.getElem?_cons_zero]; rfl
        case hd11 => rfl
        case hQ11 => exact fun _ _ _ h => h
        case hw11 => kernel_rfl
        try simp only [Act.put, List.setIfInBounds_toArray, List.set_cons_zero, List.set_cons_succ]
        refine take_at 11 73 (oi := ?o12) (v := ?v12) ?hi12 ?hd12 (by kernel_rfl) (by kernel_rfl) (by kernel_rfl) ?hQ12 ?hw12 ?hy12 (by assumption) ?rest12
        case hi12 => simp only [List.getElem?_toArray, List.getElem?_cons_succ, List.getElem?_cons_zero]; rfl
        case hd12 => rfl
        case hw12 => kernel_rfl
        case hy12 => intro W hW; (try dsimp only at hW); go_simp <;> with_reducible rfl
        case hQ12 => exact fun _ _ _ h => h
        try simp only [Act.put, List.setIfInBounds_toArray, List.set_cons_zero, List.set_cons_succ]
        refine take_at 12 74 (oi := ?o13) (v := ?v13) ?hi13 ?hd13 (by kernel_rfl) (by kernel_rfl) (by kernel_rfl) ?hQ13 ?hw13 ?hy13 (by assumption) ?rest13
        case hi13 => simp only [List.getElem?_toArray, List.getElem?_cons_succ, List.getElem?_cons_zero]; rfl
        case hd13 => rfl
        case hw13 => kernel_rfl
        case hy13 => intro W hW; (try dsimp only at hW); go_simp <;> with_reducible rfl
        case hQ13 => exact fun _ _ _ h => h
        try simp only [Act.put, List.setIfInBounds_toArray, List.set_cons_zero, List.set_cons_succ]
        refine pass_at 13 75 (oi := ?o14) ?hi14 ?hd14 (by kernel_rfl) (by kernel_rfl) (by kernel_rfl) ?hQ14 ?hw14 (by assumption) ?rest14
        case hi14 => simp only [List.getElem?_toArray, List.getElem?_cons_succ, List.getElem?_cons_zero]; rfl
        case hd14 => rfl
        case hQ14 => exact fun _ _ _ h => h
        case hw14 => kernel_rfl
        try simp only [Act.put, List.setIfInBounds_toArray, List.set_cons_zero, List.set_cons_succ]
        refine pass_at 14 76 (oi := ?o15) ?hi15 ?hd15 (by kernel_rfl) (by kernel_rfl) (by kernel_rfl) ?hQ15 ?hw15 (by assumption) ?rest15
        case hi15 => simp only [List.getElem?_toArray, List.getElem?_cons_succ, List.getElem?_cons_zero]; rfl
        case hd15 => rfl
        case hQ15 => exact fun _ _ _ h => h
        case hw15 => kernel_rfl
        try simp only [Act.put, List.setIfInBounds_toArray, List.set_cons_zero, List.set_cons_succ]
        refine pass_at 15 77 (oi := ?o16) ?hi16 ?hd16 (by kernel_rfl) (by kernel_rfl) (by kernel_rfl) ?hQ16 ?hw16 (by assumption) ?rest16
        case hi16 => simp only [List.getElem?_toArray, List.getElem?_cons_succ, List.getElem?_cons_zero]; rfl
        case hd16 => rfl
        case hQ16 => exact fun _ _ _ h => h
        case hw16 => kernel_rfl
        try simp only [Act.put, List.setIfInBounds_toArray, List.set_cons_zero, List.set_cons_succ]
        refine pass_at 16 78 (oi := ?o17) ?hi17 ?hd17 (by kernel_rfl) (by kernel_rfl) (by kernel_rfl) ?hQ17 ?hw17 (by assumption) ?rest17
        case hi17 => simp only [List.getElem?_toArray, List.getElem?_cons_succ, List.getElem?_cons_zero]; rfl
        case hd17 => rfl
        case hQ17 => exact fun _ _ _ h => h
        case hw17 => kernel_rfl
        try simp only [Act.put, List.setIfInBounds_toArray, List.set_cons_zero, List.set_cons_succ]
        refine pass_at 17 79 (oi := ?o18) ?hi18 ?hd18 (by kernel_rfl) (by kernel_rfl) (by kernel_rfl) ?hQ18 ?hw18 (by assumption) ?rest18
        case hi18 => simp only [List.getElem?_toArray, List.getElem?_cons_succ, List.getElem?_cons_zero]; rfl
        case hd18 => rfl
        case hQ18 => exact fun _ _ _ h => h
        case hw18 => kernel_rfl
        try simp only [Act.put, List.setIfInBounds_toArray, List.set_cons_zero, List.set_cons_succ]
        refine pass_at 18 80 (oi := ?o19) ?hi19 ?hd19 (by kernel_rfl) (by kernel_rfl) (by kernel_rfl) ?hQ19 ?hw19 (by assumption) ?rest19
        case hi19 => simp only [List.getElem?_toArray, List.getElem?_cons_succ, List.getElem?_cons_zero]; rfl
        case hd19 => rfl
        case hQ19 => exact fun _ _ _ h => h
        case hw19 => kernel_rfl
        try simp only [Act.put, List.setIfInBounds_toArray, List.set_cons_zero, List.set_cons_succ]
        refine take_at 19 81 (oi := ?o20) (v := ?v20) ?hi20 ?hd20 (by kernel_rfl) (by kernel_rfl) (by kernel_rfl) ?hQ20 ?hw20 ?hy20 (by assumption) ?rest20
        case hi20 => simp only [List.getElem?_toArray, List.getElem?_cons_succ, List.getElem?_cons_zero]; rfl
        case hd20 => rfl
        case hw20 => kernel_rfl
        case hy20 => intro W hW; (try dsimp only at hW); go_simp <;> with_reducible rfl
        case hQ20 => exact fun _ _ _ h => h
        try simp only [Act.put, List.setIfInBounds_toArray, List.set_cons_zero, List.set_cons_succ]
        refine take_at 20 82 (oi := ?o21) (v := ?v21) ?hi21 ?hd21 (by kernel_rfl) (by kernel_rfl) (by kernel_rfl) ?hQ21 ?hw21 ?hy21 (by assumption) ?rest21
        case hi21 => simp only [List.getElem?_toArray, List.getElem?_cons_succ, List.getElem?_cons_zero]; rfl
        case hd21 => rfl
        case hw21 => kernel_rfl
        case hy21 => intro W hW; (try dsimp only at hW); go_simp <;> with_reducible rfl
        case hQ21 => exact fun _ _ _ h => h
        try simp only [Act.put, List.setIfInBounds_toArray, List.set_cons_zero, List.set_cons_succ]
        refine take_at 21 4 (oi := ?o22) (v := ?v22) ?hi22 ?hd22 (by kernel_rfl) (by kernel_rfl) (by kernel_rfl) ?hQ22 ?hw22 ?hy22 (by assumption) ?rest22
        case hi22 => simp only [List.getElem?_toArray, List.getElem?_cons_succ, List.getElem?_cons_zero]; rfl
        case hd22 => rfl
        case hw22 => kernel_rfl
        case hy22 => intro W hW; (try dsimp only at hW); go_simp <;> with_reducible rfl
        case hQ22 => exact fun _ _ _ h => h
        try simp only [Act.put, List.setIfInBounds_toArray, List.set_cons_zero, List.set_cons_succ]
        refine wpAnyH_done (by kernel_rfl) ?_ _
        simp only [Exit.then]
        go_wp2
        go_ret
        exact ⟨rfl, dr Hb5.out⟩
      · have hk' : 8 ≤ b ∧ b ≤ 256 ∧ 0 ≤ h ∧ h ≤ 6 := by simpa [keyOk] using hk
        obtain ⟨b, rfl⟩ : ∃ n : Nat, b = (n : Int) := ⟨b.toNat, by omega⟩
        obtain ⟨h, rfl⟩ : ∃ n : Nat, h = (n : Int) := ⟨h.toNat, by omega⟩
        have HRt := Lib.hid (fun W hT => Root_any seed b h W hs hk hT)
        have d3 : decide (i < 0) = true := by simpa using h0
        go_wp2_with fail
        refine (HRt.out _ ht2).mono ?_
        rintro e w3 ⟨rfl, hb⟩
        have Hk3 := Lib.hid ((hb.block _ (lt_of Hk2.out)).trans Hk2.out)
        have Hb3 := Lib.hid (Hb2.out.next hb)
        clear hb k0 k1 k2 k3 k4
        obtain ⟨k0, k1, k2, k3, k4⟩ := job_cells Hk3.out
        go_wp2_with fail
        refine (HSg.out _).mono ?_
        rintro e w4 ⟨rfl, hb⟩
        have Hk4 := Lib.hid ((hb.block _ (lt_of Hk3.out)).trans Hk3.out)
        have Hb4 := Lib.hid (Hb3.out.next hb)
        clear hb k0 k1 k2 k3 k4
        go_wp2
        obtain ⟨W, hW⟩ : ∃ W, w4.alloc (.cells #[.int .i64 0, .slice none 0 0, .slice none 0 0, .slice none 0 0] 34) = W := ⟨_, rfl⟩
        obtain ⟨X, hX⟩ : ∃ X, w4.heap.size = X := ⟨_, rfl⟩
        have Hk5 := Lib.hid (show W.heap[w.heap.size]? = some (.cells #[.string (B seed), .string (B m), .int .i64 (b : Int), .int .i64 (h : Int), .int .i64 i, .int .u8 (how : Int), .int .u8 (at_ : Int)] 31) by rw [← hW]; exact old_of Hk4.out)
        have HX5 := Lib.hid (show W.heap[X]? = some (.cells #[.int .i64 0, .slice none 0 0, .slice none 0 0, .slice none 0 0] 34) by rw [← hW, ← hX]; exact new_of _ _)
        have Hb5 := Lib.hid (show Below w.heap.size w W by rw [← hW]; exact Hb4.out.alloc Hb4.out.size _)
        rw [hW, hX]
        clear hW hX
        refine wp_region_held_drew (S := (fun W : World => (W.cell? ⟨w.heap.size, 0, none⟩ = some (.string (B seed)) ∧ W.cell? ⟨w.heap.size, 1, none⟩ = some (.string (B m)) ∧ W.cell? ⟨w.heap.size, 2, none⟩ = some (.int .i64 (b : Int)) ∧ W.cell? ⟨w.heap.size, 3, none⟩ = some (.int .i64 (h : Int)) ∧ W.cell? ⟨w.heap.size, 4, none⟩ = some (.int .i64 i)) ∧ W.cell? ⟨X, 1, none⟩ = some (.slice none 0 0))) (by kernel_rfl) ⟨job_cells (w := W) Hk5.out, (sigC (w := W) HX5.out).2.1⟩ (fun hHeld => ?_)
        refine take_at 0 62 (oi := ?o23) (v := ?v23) ?hi23 ?hd23 (by kernel_rfl) (by kernel_rfl) (by kernel_rfl) ?hQ23 ?hw23 ?hy23 (by assumption) ?rest23
        case hi23 => simp only [List.getElem?_toArray, List.getElem?_cons_zero]; rfl
        case hd23 => rfl
        case hw23 => kernel_rfl
        case hy23 => intro W hW; (try dsimp only at hW); go_simp <;> with_reducible rfl
        case hQ23 => exact fun _ _ _ h => h
        try simp only [Act.put, List.setIfInBounds_toArray, List.set_cons_zero, List.set_cons_succ]
        refine take_at 1 63 (oi := ?o24) (v := ?v24) ?hi24 ?hd24 (by kernel_rfl) (by kernel_rfl) (by kernel_rfl) ?hQ24 ?hw24 ?hy24 (by assumption) ?rest24
        case hi24 => simp only [List.getElem?_toArray, List.getElem?_cons_succ, List.getElem?_cons_zero]; rfl
        case hd24 => rfl
        case hw24 => kernel_rfl
        case hy24 => intro W hW; (try dsimp only at hW); go_simp <;> with_reducible rfl
        case hQ24 => exact fun _ _ _ h => h
        try simp only [Act.put, List.setIfInBounds_toArray, List.set_cons_zero, List.set_cons_succ]
        refine take_at 2 64 (oi := ?o25) (v := ?v25) ?hi25 ?hd25 (by kernel_rfl) (by kernel_rfl) (by kernel_rfl) ?hQ25 ?hw25 ?hy25 (by assumption) ?rest25
        case hi25 => simp only [List.getElem?_toArray, List.getElem?_cons_succ, List.getElem?_cons_zero]; rfl
        case hd25 => rfl
        case hw25 => kernel_rfl
        case hy25 => intro W hW; (try dsimp only at hW); go_simp <;> with_reducible rfl
        case hQ25 => exact fun _ _ _ h => h
        try simp only [Act.put, List.setIfInBounds_toArray, List.set_cons_zero, List.set_cons_succ]
        refine take_at 3 65 (oi := ?o26) (v := ?v26) ?hi26 ?hd26 (by kernel_rfl) (by kernel_rfl) (by kernel_rfl) ?hQ26 ?hw26 ?hy26 (by assumption) ?rest26
        case hi26 => simp only [List.getElem?_toArray, List.getElem?_cons_succ, List.getElem?_cons_zero]; rfl
        case hd26 => rfl
        case hw26 => kernel_rfl
        case hy26 => intro W hW; (try dsimp only at hW); go_simp <;> with_reducible rfl
        case hQ26 => exact fun _ _ _ h => h
        try simp only [Act.put, List.setIfInBounds_toArray, List.set_cons_zero, List.set_cons_succ]
        refine take_at 4 66 (oi := ?o27) (v := ?v27) ?hi27 ?hd27 (by kernel_rfl) (by kernel_rfl) (by kernel_rfl) ?hQ27 ?hw27 ?hy27 (by assumption) ?rest27
        case hi27 => simp only [List.getElem?_toArray, List.getElem?_cons_succ, List.getElem?_cons_zero]; rfl
        case hd27 => rfl
        case hw27 => kernel_rfl
        case hy27 => intro W hW; (try dsimp only at hW); go_simp <;> with_reducible rfl
        case hQ27 => exact fun _ _ _ h => h
        try simp only [Act.put, List.setIfInBounds_toArray, List.set_cons_zero, List.set_cons_succ]
        refine take_at 5 67 (oi := ?o28) (v := ?v28) ?hi28 ?hd28 (by kernel_rfl) (by kernel_rfl) (by kernel_rfl) ?hQ28 ?hw28 ?hy28 (by assumption) ?rest28
        case hi28 => simp only [List.getElem?_toArray, List.getElem?_cons_succ, List.getElem?_cons_zero]; rfl
        case hd28 => rfl
        case hw28 => kernel_rfl
        case hy28 => intro W hW; (try dsimp only at hW); go_simp <;> with_reducible rfl
        case hQ28 => exact fun _ _ _ h => h
        try simp only [Act.put, List.setIfInBounds_toArray, List.set_cons_zero, List.set_cons_succ]
        refine take_at 6 68 (oi := ?o29) (v := ?v29) ?hi29 ?hd29 (by kernel_rfl) (by kernel_rfl) (by kernel_rfl) ?hQ29 ?hw29 ?hy29 (by assumption) ?rest29
        case hi29 => simp only [List.getElem?_toArray, List.getElem?_cons_succ, List.getElem?_cons_zero]; rfl
        case hd29 => rfl
        case hw29 => kernel_rfl
        case hy29 => intro W hW; (try dsimp only at hW); go_simp <;> with_reducible rfl
        case hQ29 => exact fun _ _ _ h => h
        try simp only [Act.put, List.setIfInBounds_toArray, List.set_cons_zero, List.set_cons_succ]
        refine take_at 7 69 (oi := ?o30) (v := ?v30) ?hi30 ?hd30 (by kernel_rfl) (by kernel_rfl) (by kernel_rfl) ?hQ30 ?hw30 ?hy30 (by assumption) ?rest30
        case hi30 => simp only [List.getElem?_toArray, List.getElem?_cons_succ, List.getElem?_cons_zero]; rfl
        case hd30 => rfl
        case hw30 => kernel_rfl
        case hy30 => intro W hW; (try dsimp only at hW); go_simp <;> with_reducible rfl
        case hQ30 => exact fun _ _ _ h => h
        try simp only [Act.put, List.setIfInBounds_toArray, List.set_cons_zero, List.set_cons_succ]
        refine take_at 8 70 (oi := ?o31) (v := ?v31) ?hi31 ?hd31 (by kernel_rfl) (by kernel_rfl) (by kernel_rfl) ?hQ31 ?hw31 ?hy31 (by assumption) ?rest31
        case hi31 => simp only [List.getElem?_toArray, List.getElem?_cons_succ, List.getElem?_cons_zero]; rfl
        case hd31 => rfl
        case hw31 => kernel_rfl
        case hy31 => intro W hW; (try dsimp only at hW); go_simp <;> with_reducible rfl
        case hQ31 => exact fun _ _ _ h => h
        try simp only [Act.put, List.setIfInBounds_toArray, List.set_cons_zero, List.set_cons_succ]
        refine take_at 9 71 (oi := ?o32) (v := ?v32) ?hi32 ?hd32 (by kernel_rfl) (by kernel_rfl) (by kernel_rfl) ?hQ32 ?hw32 ?hy32 (by assumption) ?rest32
        case hi32 => simp only [List.getElem?_toArray, List.getElem?_cons_succ, List.getElem?_cons_zero]; rfl
        case hd32 => rfl
        case hw32 => kernel_rfl
        case hy32 => intro W hW; (try dsimp only at hW); go_simp <;> with_reducible rfl
        case hQ32 => exact fun _ _ _ h => h
        try simp only [Act.put, List.setIfInBounds_toArray, List.set_cons_zero, List.set_cons_succ]
        refine take_at 10 72 (oi := ?o33) (v := ?v33) ?hi33 ?hd33 (by kernel_rfl) (by kernel_rfl) (by kernel_rfl) ?hQ33 ?hw33 ?hy33 (by assumption) ?rest33
        case hi33 => simp only [List.getElem?_toArray, List.getElem?_cons_succ, List.getElem?_cons_zero]; rfl
        case hd33 => rfl
        case hw33 => kernel_rfl
        case hy33 => intro W hW; (try dsimp only at hW); go_simp <;> with_reducible rfl
        case hQ33 => exact fun _ _ _ h => h
        try simp only [Act.put, List.setIfInBounds_toArray, List.set_cons_zero, List.set_cons_succ]
        refine take_at 11 73 (oi := ?o34) (v := ?v34) ?hi34 ?hd34 (by kernel_rfl) (by kernel_rfl) (by kernel_rfl) ?hQ34 ?hw34 ?hy34 (by assumption) ?rest34
        case hi34 => simp only [List.getElem?_toArray, List.getElem?_cons_succ, List.getElem?_cons_zero]; rfl
        case hd34 => rfl
        case hw34 => kernel_rfl
        case hy34 => intro W hW; (try dsimp only at hW); go_simp <;> with_reducible rfl
        case hQ34 => exact fun _ _ _ h => h
        try simp only [Act.put, List.setIfInBounds_toArray, List.set_cons_zero, List.set_cons_succ]
        refine take_at 12 74 (oi := ?o35) (v := ?v35) ?hi35 ?hd35 (by kernel_rfl) (by kernel_rfl) (by kernel_rfl) ?hQ35 ?hw35 ?hy35 (by assumption) ?rest35
        case hi35 => simp only [List.getElem?_toArray, List.getElem?_cons_succ, List.getElem?_cons_zero]; rfl
        case hd35 => rfl
        case hw35 => kernel_rfl
        case hy35 => intro W hW; (try dsimp only at hW); go_simp <;> with_reducible rfl
        case hQ35 => exact fun _ _ _ h => h
        try simp only [Act.put, List.setIfInBounds_toArray, List.set_cons_zero, List.set_cons_succ]
        refine pass_at 13 75 (oi := ?o36) ?hi36 ?hd36 (by kernel_rfl) (by kernel_rfl) (by kernel_rfl) ?hQ36 ?hw36 (by assumption) ?rest36
        case hi36 => simp only [List.getElem?_toArray, List.getElem?_cons_succ, List.getElem?_cons_zero]; rfl
        case hd36 => rfl
        case hQ36 => exact fun _ _ _ h => h
        case hw36 => kernel_rfl
        try simp only [Act.put, List.setIfInBounds_toArray, List.set_cons_zero, List.set_cons_succ]
        refine pass_at 14 76 (oi := ?o37) ?hi37 ?hd37 (by kernel_rfl) (by kernel_rfl) (by kernel_rfl) ?hQ37 ?hw37 (by assumption) ?rest37
        case hi37 => simp only [List.getElem?_toArray, List.getElem?_cons_succ, List.getElem?_cons_zero]; rfl
        case hd37 => rfl
        case hQ37 => exact fun _ _ _ h => h
        case hw37 => kernel_rfl
        try simp only [Act.put, List.setIfInBounds_toArray, List.set_cons_zero, List.set_cons_succ]
        refine pass_at 15 77 (oi := ?o38) ?hi38 ?hd38 (by kernel_rfl) (by kernel_rfl) (by kernel_rfl) ?hQ38 ?hw38 (by assumption) ?rest38
        case hi38 => simp only [List.getElem?_toArray, List.getElem?_cons_succ, List.getElem?_cons_zero]; rfl
        case hd38 => rfl
        case hQ38 => exact fun _ _ _ h => h
        case hw38 => kernel_rfl
        try simp only [Act.put, List.setIfInBounds_toArray, List.set_cons_zero, List.set_cons_succ]
        refine pass_at 16 78 (oi := ?o39) ?hi39 ?hd39 (by kernel_rfl) (by kernel_rfl) (by kernel_rfl) ?hQ39 ?hw39 (by assumption) ?rest39
        case hi39 => simp only [List.getElem?_toArray, List.getElem?_cons_succ, List.getElem?_cons_zero]; rfl
        case hd39 => rfl
        case hQ39 => exact fun _ _ _ h => h
        case hw39 => kernel_rfl
        try simp only [Act.put, List.setIfInBounds_toArray, List.set_cons_zero, List.set_cons_succ]
        refine pass_at 17 79 (oi := ?o40) ?hi40 ?hd40 (by kernel_rfl) (by kernel_rfl) (by kernel_rfl) ?hQ40 ?hw40 (by assumption) ?rest40
        case hi40 => simp only [List.getElem?_toArray, List.getElem?_cons_succ, List.getElem?_cons_zero]; rfl
        case hd40 => rfl
        case hQ40 => exact fun _ _ _ h => h
        case hw40 => kernel_rfl
        try simp only [Act.put, List.setIfInBounds_toArray, List.set_cons_zero, List.set_cons_succ]
        refine pass_at 18 80 (oi := ?o41) ?hi41 ?hd41 (by kernel_rfl) (by kernel_rfl) (by kernel_rfl) ?hQ41 ?hw41 (by assumption) ?rest41
        case hi41 => simp only [List.getElem?_toArray, List.getElem?_cons_succ, List.getElem?_cons_zero]; rfl
        case hd41 => rfl
        case hQ41 => exact fun _ _ _ h => h
        case hw41 => kernel_rfl
        try simp only [Act.put, List.setIfInBounds_toArray, List.set_cons_zero, List.set_cons_succ]
        refine take_at 19 81 (oi := ?o42) (v := ?v42) ?hi42 ?hd42 (by kernel_rfl) (by kernel_rfl) (by kernel_rfl) ?hQ42 ?hw42 ?hy42 (by assumption) ?rest42
        case hi42 => simp only [List.getElem?_toArray, List.getElem?_cons_succ, List.getElem?_cons_zero]; rfl
        case hd42 => rfl
        case hw42 => kernel_rfl
        case hy42 => intro W hW; (try dsimp only at hW); go_simp <;> with_reducible rfl
        case hQ42 => exact fun _ _ _ h => h
        try simp only [Act.put, List.setIfInBounds_toArray, List.set_cons_zero, List.set_cons_succ]
        refine take_at 20 82 (oi := ?o43) (v := ?v43) ?hi43 ?hd43 (by kernel_rfl) (by kernel_rfl) (by kernel_rfl) ?hQ43 ?hw43 ?hy43 (by assumption) ?rest43
        case hi43 => simp only [List.getElem?_toArray, List.getElem?_cons_succ, List.getElem?_cons_zero]; rfl
        case hd43 => rfl
        case hw43 => kernel_rfl
        case hy43 => intro W hW; (try dsimp only at hW); go_simp <;> with_reducible rfl
        case hQ43 => exact fun _ _ _ h => h
        try simp only [Act.put, List.setIfInBounds_toArray, List.set_cons_zero, List.set_cons_succ]
        refine take_at 21 4 (oi := ?o44) (v := ?v44) ?hi44 ?hd44 (by kernel_rfl) (by kernel_rfl) (by kernel_rfl) ?hQ44 ?hw44 ?hy44 (by assumption) ?rest44
        case hi44 => simp only [List.getElem?_toArray, List.getElem?_cons_succ, List.getElem?_cons_zero]; rfl
        case hd44 => rfl
        case hw44 => kernel_rfl
        case hy44 => intro W hW; (try dsimp only at hW); go_simp <;> with_reducible rfl
        case hQ44 => exact fun _ _ _ h => h
        try simp only [Act.put, List.setIfInBounds_toArray, List.set_cons_zero, List.set_cons_succ]
        refine wpAnyH_done (by kernel_rfl) ?_ _
        simp only [Exit.then]
        go_wp2
        go_ret
        exact ⟨rfl, dr Hb5.out⟩
      · have hk' : 8 ≤ b ∧ b ≤ 256 ∧ 0 ≤ h ∧ h ≤ 6 := by simpa [keyOk] using hk
        obtain ⟨b, rfl⟩ : ∃ n : Nat, b = (n : Int) := ⟨b.toNat, by omega⟩
        obtain ⟨h, rfl⟩ : ∃ n : Nat, h = (n : Int) := ⟨h.toNat, by omega⟩
        have HRt := Lib.hid (fun W hT => Root_any seed b h W hs hk hT)
        have HCnt := Lib.hid (fun W => RCount_any (b : Int) h W (by omega))
        obtain ⟨N, hN, _, _, h64, _⟩ := pow_facts (h := h) (by omega)
        rw [hN] at HCnt
        rw [Int.toNat_natCast, hN] at h1
        have d3 : decide (i < 0) = false := by simp; omega
        have d4 : decide ((N : Int) ≤ i) = true := by simp; omega
        clear hN
        go_wp2_with fail
        refine (HRt.out _ ht2).mono ?_
        rintro e w3 ⟨rfl, hb⟩
        have Hk3 := Lib.hid ((hb.block _ (lt_of Hk2.out)).trans Hk2.out)
        have Hb3 := Lib.hid (Hb2.out.next hb)
        clear hb k0 k1 k2 k3 k4
        obtain ⟨k0, k1, k2, k3, k4⟩ := job_cells Hk3.out
        go_wp2_with fail
        refine (HSg.out _).mono ?_
        rintro e w4 ⟨rfl, hb⟩
        have Hk4 := Lib.hid ((hb.block _ (lt_of Hk3.out)).trans Hk3.out)
        have Hb4 := Lib.hid (Hb3.out.next hb)
        clear hb k0 k1 k2 k3 k4
        go_wp2
        obtain ⟨W, hW⟩ : ∃ W, w4.alloc (.cells #[.int .i64 0, .slice none 0 0, .slice none 0 0, .slice none 0 0] 34) = W := ⟨_, rfl⟩
        obtain ⟨X, hX⟩ : ∃ X, w4.heap.size = X := ⟨_, rfl⟩
        have Hk5 := Lib.hid (show W.heap[w.heap.size]? = some (.cells #[.string (B seed), .string (B m), .int .i64 (b : Int), .int .i64 (h : Int), .int .i64 i, .int .u8 (how : Int), .int .u8 (at_ : Int)] 31) by rw [← hW]; exact old_of Hk4.out)
        have HX5 := Lib.hid (show W.heap[X]? = some (.cells #[.int .i64 0, .slice none 0 0, .slice none 0 0, .slice none 0 0] 34) by rw [← hW, ← hX]; exact new_of _ _)
        have Hb5 := Lib.hid (show Below w.heap.size w W by rw [← hW]; exact Hb4.out.alloc Hb4.out.size _)
        rw [hW, hX]
        clear hW hX
        refine wp_region_held_drew (S := (fun W : World => (W.cell? ⟨w.heap.size, 0, none⟩ = some (.string (B seed)) ∧ W.cell? ⟨w.heap.size, 1, none⟩ = some (.string (B m)) ∧ W.cell? ⟨w.heap.size, 2, none⟩ = some (.int .i64 (b : Int)) ∧ W.cell? ⟨w.heap.size, 3, none⟩ = some (.int .i64 (h : Int)) ∧ W.cell? ⟨w.heap.size, 4, none⟩ = some (.int .i64 i)) ∧ W.cell? ⟨X, 1, none⟩ = some (.slice none 0 0))) (by kernel_rfl) ⟨job_cells (w := W) Hk5.out, (sigC (w := W) HX5.out).2.1⟩ (fun hHeld => ?_)
        refine take_at 0 62 (oi := ?o45) (v := ?v45) ?hi45 ?hd45 (by kernel_rfl) (by kernel_rfl) (by kernel_rfl) ?hQ45 ?hw45 ?hy45 (by assumption) ?rest45
        case hi45 => simp only [List.getElem?_toArray, List.getElem?_cons_zero]; rfl
        case hd45 => rfl
        case hw45 => kernel_rfl
        case hy45 => intro W hW; (try dsimp only at hW); go_simp <;> with_reducible rfl
        case hQ45 => exact fun _ _ _ h => h
        try simp only [Act.put, List.setIfInBounds_toArray, List.set_cons_zero, List.set_cons_succ]
        refine take_at 1 63 (oi := ?o46) (v := ?v46) ?hi46 ?hd46 (by kernel_rfl) (by kernel_rfl) (by kernel_rfl) ?hQ46 ?hw46 ?hy46 (by assumption) ?rest46
        case hi46 => simp only [List.getElem?_toArray, List.getElem?_cons_succ, List.getElem?_cons_zero]; rfl
        case hd46 => rfl
        case hw46 => kernel_rfl
        case hy46 => intro W hW; (try dsimp only at hW); go_simp <;> with_reducible rfl
        case hQ46 => exact fun _ _ _ h => h
        try simp only [Act.put, List.setIfInBounds_toArray, List.set_cons_zero, List.set_cons_succ]
        refine take_at 2 64 (oi := ?o47) (v := ?v47) ?hi47 ?hd47 (by kernel_rfl) (by kernel_rfl) (by kernel_rfl) ?hQ47 ?hw47 ?hy47 (by assumption) ?rest47
        case hi47 => simp only [List.getElem?_toArray, List.getElem?_cons_succ, List.getElem?_cons_zero]; rfl
        case hd47 => rfl
        case hw47 => kernel_rfl
        case hy47 => intro W hW; (try dsimp only at hW); go_simp <;> with_reducible rfl
        case hQ47 => exact fun _ _ _ h => h
        try simp only [Act.put, List.setIfInBounds_toArray, List.set_cons_zero, List.set_cons_succ]
        refine take_at 3 65 (oi := ?o48) (v := ?v48) ?hi48 ?hd48 (by kernel_rfl) (by kernel_rfl) (by kernel_rfl) ?hQ48 ?hw48 ?hy48 (by assumption) ?rest48
        case hi48 => simp only [List.getElem?_toArray, List.getElem?_cons_succ, List.getElem?_cons_zero]; rfl
        case hd48 => rfl
        case hw48 => kernel_rfl
        case hy48 => intro W hW; (try dsimp only at hW); go_simp <;> with_reducible rfl
        case hQ48 => exact fun _ _ _ h => h
        try simp only [Act.put, List.setIfInBounds_toArray, List.set_cons_zero, List.set_cons_succ]
        refine take_at 4 66 (oi := ?o49) (v := ?v49) ?hi49 ?hd49 (by kernel_rfl) (by kernel_rfl) (by kernel_rfl) ?hQ49 ?hw49 ?hy49 (by assumption) ?rest49
        case hi49 => simp only [List.getElem?_toArray, List.getElem?_cons_succ, List.getElem?_cons_zero]; rfl
        case hd49 => rfl
        case hw49 => kernel_rfl
        case hy49 => intro W hW; (try dsimp only at hW); go_simp <;> with_reducible rfl
        case hQ49 => exact fun _ _ _ h => h
        try simp only [Act.put, List.setIfInBounds_toArray, List.set_cons_zero, List.set_cons_succ]
        refine take_at 5 67 (oi := ?o50) (v := ?v50) ?hi50 ?hd50 (by kernel_rfl) (by kernel_rfl) (by kernel_rfl) ?hQ50 ?hw50 ?hy50 (by assumption) ?rest50
        case hi50 => simp only [List.getElem?_toArray, List.getElem?_cons_succ, List.getElem?_cons_zero]; rfl
        case hd50 => rfl
        case hw50 => kernel_rfl
        case hy50 => intro W hW; (try dsimp only at hW); go_simp <;> with_reducible rfl
        case hQ50 => exact fun _ _ _ h => h
        try simp only [Act.put, List.setIfInBounds_toArray, List.set_cons_zero, List.set_cons_succ]
        refine take_at 6 68 (oi := ?o51) (v := ?v51) ?hi51 ?hd51 (by kernel_rfl) (by kernel_rfl) (by kernel_rfl) ?hQ51 ?hw51 ?hy51 (by assumption) ?rest51
        case hi51 => simp only [List.getElem?_toArray, List.getElem?_cons_succ, List.getElem?_cons_zero]; rfl
        case hd51 => rfl
        case hw51 => kernel_rfl
        case hy51 => intro W hW; (try dsimp only at hW); go_simp <;> with_reducible rfl
        case hQ51 => exact fun _ _ _ h => h
        try simp only [Act.put, List.setIfInBounds_toArray, List.set_cons_zero, List.set_cons_succ]
        refine take_at 7 69 (oi := ?o52) (v := ?v52) ?hi52 ?hd52 (by kernel_rfl) (by kernel_rfl) (by kernel_rfl) ?hQ52 ?hw52 ?hy52 (by assumption) ?rest52
        case hi52 => simp only [List.getElem?_toArray, List.getElem?_cons_succ, List.getElem?_cons_zero]; rfl
        case hd52 => rfl
        case hw52 => kernel_rfl
        case hy52 => intro W hW; (try dsimp only at hW); go_simp <;> with_reducible rfl
        case hQ52 => exact fun _ _ _ h => h
        try simp only [Act.put, List.setIfInBounds_toArray, List.set_cons_zero, List.set_cons_succ]
        refine take_at 8 70 (oi := ?o53) (v := ?v53) ?hi53 ?hd53 (by kernel_rfl) (by kernel_rfl) (by kernel_rfl) ?hQ53 ?hw53 ?hy53 (by assumption) ?rest53
        case hi53 => simp only [List.getElem?_toArray, List.getElem?_cons_succ, List.getElem?_cons_zero]; rfl
        case hd53 => rfl
        case hw53 => kernel_rfl
        case hy53 => intro W hW; (try dsimp only at hW); go_simp <;> with_reducible rfl
        case hQ53 => exact fun _ _ _ h => h
        try simp only [Act.put, List.setIfInBounds_toArray, List.set_cons_zero, List.set_cons_succ]
        refine take_at 9 71 (oi := ?o54) (v := ?v54) ?hi54 ?hd54 (by kernel_rfl) (by kernel_rfl) (by kernel_rfl) ?hQ54 ?hw54 ?hy54 (by assumption) ?rest54
        case hi54 => simp only [List.getElem?_toArray, List.getElem?_cons_succ, List.getElem?_cons_zero]; rfl
        case hd54 => rfl
        case hw54 => kernel_rfl
        case hy54 => intro W hW; (try dsimp only at hW); go_simp <;> with_reducible rfl
        case hQ54 => exact fun _ _ _ h => h
        try simp only [Act.put, List.setIfInBounds_toArray, List.set_cons_zero, List.set_cons_succ]
        refine take_at 10 72 (oi := ?o55) (v := ?v55) ?hi55 ?hd55 (by kernel_rfl) (by kernel_rfl) (by kernel_rfl) ?hQ55 ?hw55 ?hy55 (by assumption) ?rest55
        case hi55 => simp only [List.getElem?_toArray, List.getElem?_cons_succ, List.getElem?_cons_zero]; rfl
        case hd55 => rfl
        case hw55 => kernel_rfl
        case hy55 => intro W hW; (try dsimp only at hW); go_simp <;> with_reducible rfl
        case hQ55 => exact fun _ _ _ h => h
        try simp only [Act.put, List.setIfInBounds_toArray, List.set_cons_zero, List.set_cons_succ]
        refine take_at 11 73 (oi := ?o56) (v := ?v56) ?hi56 ?hd56 (by kernel_rfl) (by kernel_rfl) (by kernel_rfl) ?hQ56 ?hw56 ?hy56 (by assumption) ?rest56
        case hi56 => simp only [List.getElem?_toArray, List.getElem?_cons_succ, List.getElem?_cons_zero]; rfl
        case hd56 => rfl
        case hw56 => kernel_rfl
        case hy56 => intro W hW; (try dsimp only at hW); go_simp <;> with_reducible rfl
        case hQ56 => exact fun _ _ _ h => h
        try simp only [Act.put, List.setIfInBounds_toArray, List.set_cons_zero, List.set_cons_succ]
        refine take_at 12 74 (oi := ?o57) (v := ?v57) ?hi57 ?hd57 (by kernel_rfl) (by kernel_rfl) (by kernel_rfl) ?hQ57 ?hw57 ?hy57 (by assumption) ?rest57
        case hi57 => simp only [List.getElem?_toArray, List.getElem?_cons_succ, List.getElem?_cons_zero]; rfl
        case hd57 => rfl
        case hw57 => kernel_rfl
        case hy57 => intro W hW; (try dsimp only at hW); go_simp <;> with_reducible rfl
        case hQ57 => exact fun _ _ _ h => h
        try simp only [Act.put, List.setIfInBounds_toArray, List.set_cons_zero, List.set_cons_succ]
        refine take_at 13 75 (oi := ?o58) (v := ?v58) ?hi58 ?hd58 (by kernel_rfl) (by kernel_rfl) (by kernel_rfl) ?hQ58 ?hw58 ?hy58 (by assumption) ?rest58
        case hi58 => simp only [List.getElem?_toArray, List.getElem?_cons_succ, List.getElem?_cons_zero]; rfl
        case hd58 => rfl
        case hw58 => kernel_rfl
        case hy58 => intro W hW; (try dsimp only at hW); go_simp <;> with_reducible rfl
        case hQ58 => exact fun _ _ _ h => h
        try simp only [Act.put, List.setIfInBounds_toArray, List.set_cons_zero, List.set_cons_succ]
        refine take_at 14 76 (oi := ?o59) (v := ?v59) ?hi59 ?hd59 (by kernel_rfl) (by kernel_rfl) (by kernel_rfl) ?hQ59 ?hw59 ?hy59 (by assumption) ?rest59
        case hi59 => simp only [List.getElem?_toArray, List.getElem?_cons_succ, List.getElem?_cons_zero]; rfl
        case hd59 => rfl
        case hw59 => kernel_rfl
        case hy59 => intro W hW; (try dsimp only at hW); go_simp <;> with_reducible rfl
        case hQ59 => exact fun _ _ _ h => h
        try simp only [Act.put, List.setIfInBounds_toArray, List.set_cons_zero, List.set_cons_succ]
        refine take_at 15 77 (oi := ?o60) (v := ?v60) ?hi60 ?hd60 (by kernel_rfl) (by kernel_rfl) (by kernel_rfl) ?hQ60 ?hw60 ?hy60 (by assumption) ?rest60
        case hi60 => simp only [List.getElem?_toArray, List.getElem?_cons_succ, List.getElem?_cons_zero]; rfl
        case hd60 => rfl
        case hw60 => kernel_rfl
        case hy60 => intro W hW; (try dsimp only at hW); go_simp <;> with_reducible rfl
        case hQ60 => exact fun _ _ _ h => h
        try simp only [Act.put, List.setIfInBounds_toArray, List.set_cons_zero, List.set_cons_succ]
        refine take_at 16 78 (oi := ?o61) (v := ?v61) ?hi61 ?hd61 (by kernel_rfl) (by kernel_rfl) (by kernel_rfl) ?hQ61 ?hw61 ?hy61 (by assumption) ?rest61
        case hi61 => simp only [List.getElem?_toArray, List.getElem?_cons_succ, List.getElem?_cons_zero]; rfl
        case hd61 => rfl
        case hw61 => kernel_rfl
        case hy61 => intro W hW; (try dsimp only at hW); go_simp <;> with_reducible rfl
        case hQ61 => exact fun _ _ _ h => h
        try simp only [Act.put, List.setIfInBounds_toArray, List.set_cons_zero, List.set_cons_succ]
        refine wpAnyH_ready (rs := [17]) (by kernel_rfl) (by simp) ?_
        refine AllReadyH.cons rfl (fun K hK => ?_) AllReadyH.nil
        go_simp
        refine (HCnt.out _).mono ?_
        rintro e w6 ⟨rfl, hb6'⟩
        have hb6 : Below W.heap.size W w6 := ⟨hb6'.os, hb6'.tape, hb6'.output, hb6'.size, hb6'.block⟩
        have Hk6 := Lib.hid ((hb6.block _ (lt_of Hk5.out)).trans Hk5.out)
        have HX6 := Lib.hid ((hb6.block _ (lt_of HX5.out)).trans HX5.out)
        have Hb6 := Lib.hid (Hb5.out.next hb6)
        clear hb6 hb6' hHeld
        go_wp2_with fail
        refine hK.out _ _ ⟨job_cells (w := w6) Hk6.out, (sigC (w := w6) HX6.out).2.1⟩ (fun hHeld => ?_)
        clear hK K
        try simp only [Act.put, List.setIfInBounds_toArray, List.set_cons_zero, List.set_cons_succ]
        refine take_at 18 80 (oi := ?o62) (v := ?v62) ?hi62 ?hd62 (by kernel_rfl) (by kernel_rfl) (by kernel_rfl) ?hQ62 ?hw62 ?hy62 (by assumption) ?rest62
        case hi62 => simp only [List.getElem?_toArray, List.getElem?_cons_succ, List.getElem?_cons_zero]; rfl
        case hd62 => rfl
        case hw62 => kernel_rfl
        case hy62 => intro W hW; (try dsimp only at hW); go_simp <;> with_reducible rfl
        case hQ62 => exact fun _ _ _ h => h
        try simp only [Act.put, List.setIfInBounds_toArray, List.set_cons_zero, List.set_cons_succ]
        refine take_at 19 81 (oi := ?o63) (v := ?v63) ?hi63 ?hd63 (by kernel_rfl) (by kernel_rfl) (by kernel_rfl) ?hQ63 ?hw63 ?hy63 (by assumption) ?rest63
        case hi63 => simp only [List.getElem?_toArray, List.getElem?_cons_succ, List.getElem?_cons_zero]; rfl
        case hd63 => rfl
        case hw63 => kernel_rfl
        case hy63 => intro W hW; (try dsimp only at hW); go_simp <;> with_reducible rfl
        case hQ63 => exact fun _ _ _ h => h
        try simp only [Act.put, List.setIfInBounds_toArray, List.set_cons_zero, List.set_cons_succ]
        refine take_at 20 82 (oi := ?o64) (v := ?v64) ?hi64 ?hd64 (by kernel_rfl) (by kernel_rfl) (by kernel_rfl) ?hQ64 ?hw64 ?hy64 (by assumption) ?rest64
        case hi64 => simp only [List.getElem?_toArray, List.getElem?_cons_succ, List.getElem?_cons_zero]; rfl
        case hd64 => rfl
        case hw64 => kernel_rfl
        case hy64 => intro W hW; (try dsimp only at hW); go_simp <;> with_reducible rfl
        case hQ64 => exact fun _ _ _ h => h
        try simp only [Act.put, List.setIfInBounds_toArray, List.set_cons_zero, List.set_cons_succ]
        refine take_at 21 4 (oi := ?o65) (v := ?v65) ?hi65 ?hd65 (by kernel_rfl) (by kernel_rfl) (by kernel_rfl) ?hQ65 ?hw65 ?hy65 (by assumption) ?rest65
        case hi65 => simp only [List.getElem?_toArray, List.getElem?_cons_succ, List.getElem?_cons_zero]; rfl
        case hd65 => rfl
        case hw65 => kernel_rfl
        case hy65 => intro W hW; (try dsimp only at hW); go_simp <;> with_reducible rfl
        case hQ65 => exact fun _ _ _ h => h
        try simp only [Act.put, List.setIfInBounds_toArray, List.set_cons_zero, List.set_cons_succ]
        refine wpAnyH_done (by kernel_rfl) ?_ _
        simp only [Exit.then]
        go_wp2
        go_ret
        exact ⟨rfl, Hb6.out⟩
    | true =>
      have hok' := hok
      unfold signOk at hok'
      simp only [Bool.and_eq_true, decide_eq_true_eq] at hok'
      obtain ⟨⟨hk, h0⟩, h1⟩ := hok'
      have hk' : 8 ≤ b ∧ b ≤ 256 ∧ 0 ≤ h ∧ h ≤ 6 := by simpa [keyOk] using hk
      obtain ⟨b, rfl⟩ : ∃ n : Nat, b = (n : Int) := ⟨b.toNat, by omega⟩
      obtain ⟨h, rfl⟩ : ∃ n : Nat, h = (n : Int) := ⟨h.toNat, by omega⟩
      obtain ⟨i, rfl⟩ : ∃ n : Nat, i = (n : Int) := ⟨i.toNat, by omega⟩
      rw [Int.toNat_natCast] at h1
      have hi : i < 2 ^ h := by omega
      have hb : b ≤ 256 := by omega
      have hh : h ≤ 6 := by omega
      obtain ⟨R, hR⟩ : ∃ R, rootB seed b h = R := ⟨_, rfl⟩
      obtain ⟨d, hd⟩ : ∃ d, Sha.sha m = d := ⟨_, rfl⟩
      obtain ⟨d', hd'⟩ : ∃ d', Sha.sha other = d' := ⟨_, rfl⟩
      have HRt := Lib.hid (fun W hT => Root_any seed b h W hs hk hT)
      rw [hR] at HRt
      have HSg := Lib.hid (fun W hT => Sign_any seed m b h i W hs (by omega) hk hi hT)
      obtain ⟨SS, hSS⟩ : ∃ x, shownN seed (Sha.sha m) (i : Int) b = x := ⟨_, rfl⟩
      obtain ⟨HH, hHH⟩ : ∃ x, hiddenN seed (Sha.sha m) (i : Int) b = x := ⟨_, rfl⟩
      obtain ⟨RR, hRR⟩ : ∃ x, routeN seed b h i h = x := ⟨_, rfl⟩
      rw [hSS, hHH, hRR] at HSg
      have HlS := Lib.hid (show SS.length = b by rw [← hSS]; exact shownN_len _ _ _ _)
      have HlH := Lib.hid (show HH.length = b by rw [← hHH]; exact hiddenN_len _ _ _ _)
      have HlR := Lib.hid (show RR.length = h by rw [← hRR]; exact routeN_len _ _ _ _ _)
      have HC1 := Lib.hid (show checkB R (b : Int) (h : Int) m (i : Int) SS HH RR = 0 by rw [← hR, ← hSS, ← hHH, ← hRR]; exact check_signed seed m m b h i hk hi (fun _ _ => rfl))
      have HC2 := Lib.hid (show sameN d d' b = true → checkB R (b : Int) (h : Int) other (i : Int) SS HH RR = 0 from fun hsm => by rw [← hR, ← hSS, ← hHH, ← hRR]; exact check_signed seed m other b h i hk hi (fun k hkb => by rw [hd, hd']; exact sameN_all hsm k hkb))
      have HD1 := Lib.hid (fun W => RSum_any m W (by omega))
      have HD2 := Lib.hid (fun W => RSum_any other W (by omega))
      rw [hd] at HD1
      rw [hd'] at HD2
      have hdl : d.length = 32 := by rw [← hd]; exact Sha.sha_len _
      have hdl' : d'.length = 32 := by rw [← hd']; exact Sha.sha_len _
      clear hok hk hk' h0 h1 hR hd hd' hSS hHH hRR hi
      go_wp2_with fail
      refine (HRt.out _ ht2).mono ?_
      rintro e w3 ⟨rfl, hb3⟩
      have Hk3 := Lib.hid ((hb3.block _ (lt_of Hk2.out)).trans Hk2.out)
      have Hb3 := Lib.hid (Hb2.out.next hb3)
      have ht3 := ht2.same hb3
      clear hb3 k0 k1 k2 k3 k4
      obtain ⟨k0, k1, k2, k3, k4⟩ := job_cells Hk3.out
      go_wp2_with fail
      refine (HSg.out _ ht3).mono ?_
      rintro e w4 ⟨v, rfl, hv, hb4⟩
      have Hk4 := Lib.hid ((hb4.block _ (lt_of Hk3.out)).trans Hk3.out)
      have Hb4 := Lib.hid (Hb3.out.next hb4)
      have hsi := SigIs.of_sig hv (by rw [HlS.out]; unfold maxLen; omega) (by rw [HlH.out]; unfold maxLen; omega) (by rw [HlR.out]; unfold maxLen; omega)
      obtain ⟨vs, vh, vr, rfl, o1, o2, o3⟩ := hv
      obtain ⟨sa, sc, rfl⟩ := own_form o1
      obtain ⟨ha, hc, rfl⟩ := own_form o2
      obtain ⟨ra, rc, rfl⟩ := own_form o3
      rw [HlS.out, HlH.out, HlR.out] at hsi ⊢
      obtain ⟨W, hW⟩ : ∃ W, w4.alloc (.cells #[.int .i64 (i : Int), .slice sa b sc, .slice ha b hc, .slice ra h rc] 34) = W := ⟨_, rfl⟩
      obtain ⟨X, hX⟩ : ∃ X, w4.heap.size = X := ⟨_, rfl⟩
      have hbW : Below w4.heap.size w4 W := by rw [← hW]; exact (Below.refl _ _).alloc (Nat.le_refl _) _
      have Hk5 := Lib.hid (show W.heap[w.heap.size]? = some (.cells #[.string (B seed), .string (B m), .int .i64 (b : Int), .int .i64 (h : Int), .int .i64 (i : Int), .int .u8 (how : Int), .int .u8 (at_ : Int)] 31) by rw [← hW]; exact old_of Hk4.out)
      have HX5 := Lib.hid (show W.heap[X]? = some (.cells #[.int .i64 (i : Int), .slice sa b sc, .slice ha b hc, .slice ra h rc] 34) by rw [← hW, ← hX]; exact new_of _ _)
      have Hb5 := Lib.hid (Hb4.out.next hbW)
      have HV5 := Lib.hid (hsi.below hbW)
      have ht5 := ht3.same (hb4.next hbW)
      have HCk := Lib.hid (Check_any R m (b : Int) (h : Int) _ (i : Int) SS HH RR W (by omega) HV5.out ht5)
      rw [HC1.out] at HCk
      have hzX : w.heap.size < w4.heap.size := lt_of Hk4.out
      have HW := Lib.hid hW
      have HXe := Lib.hid hX
      obtain ⟨j0, j1, j2, j3, j4⟩ := job_cells Hk4.out
      clear o1 o2 o3 hsi hb4 hbW hW hX k0 k1 k2 k3 k4
      go_wp2_with fail
      rw [HW.out, HXe.out]
      clear j0 j1 j2 j3 j4
      refine HCk.out.mono ?_
      rintro e w6 ⟨rfl, hb6⟩
      have Hk6 := Lib.hid ((hb6.block _ (lt_of Hk5.out)).trans Hk5.out)
      have HX6 := Lib.hid ((hb6.block _ (lt_of HX5.out)).trans HX5.out)
      have Hb6 := Lib.hid (Hb5.out.next hb6)
      have HV6 := Lib.hid (HV5.out.below hb6)
      have ht6 := ht5.same hb6
      clear hb6
      obtain ⟨k0, k1, k2, k3, k4⟩ := job_cells Hk6.out
      go_wp2_with fail
      refine (HD1.out _).mono ?_
      rintro e w7 ⟨rfl, hb7⟩
      have Hk7 := Lib.hid ((hb7.block _ (lt_of Hk6.out)).trans Hk6.out)
      have HX7 := Lib.hid ((hb7.block _ (lt_of HX6.out)).trans HX6.out)
      have Hb7 := Lib.hid (Hb6.out.next hb7)
      have HV7 := Lib.hid (HV6.out.below hb7)
      have ht7 := ht6.same hb7
      clear hb7 k0 k1 k2 k3 k4
      go_wp2_with fail
      refine (HD2.out _).mono ?_
      rintro e w8 ⟨rfl, hb8⟩
      have Hk8 := Lib.hid ((hb8.block _ (lt_of Hk7.out)).trans Hk7.out)
      have HX8 := Lib.hid ((hb8.block _ (lt_of HX7.out)).trans HX7.out)
      have Hb8 := Lib.hid (Hb7.out.next hb8)
      have HV8 := Lib.hid (HV7.out.below hb8)
      have ht8 := ht7.same hb8
      clear hb8
      go_wp2
      go_loopw [9, 12] (fun sm n wr => ∃ k : Nat, k ≤ b ∧ n = .int .i64 k ∧ sm = .bool (sameN d d' k) ∧ Below w8.heap.size w8 wr) (fun _ n _ => b - (intOf n).toNat)
      case atStart => exact ⟨0, by omega, rfl, rfl, Below.refl _ _⟩
      case round =>
        obtain ⟨k, hkb, rfl, rfl, hB⟩ := hrel
        have Hkr := Lib.hid ((hB.block _ (lt_of Hk8.out)).trans Hk8.out)
        obtain ⟨k0, k1, k2, k3, k4⟩ := job_cells Hkr.out
        have HB := Lib.hid hB
        clear hB
        by_cases hlt : k < b
        · cases hsm : sameN d d' k with
          | false =>
            have hn : sameN d d' (k + 1) = false := by rw [sameN, hsm]; rfl
            have Hn := Lib.hid hn
            clear hn hsm
            go_wp2
            go_quiet (fail)
            go_wp2
            go_roundw
            case rel => exact ⟨k + 1, by omega, by go_num, by rw [Hn.out], dr' HB.out _⟩
            case measure => simp [intOf]; omega
          | true =>
            have hn : sameN d d' (k + 1) = decide (bitOf d k = bitOf d' k) := by rw [sameN, hsm]; rfl
            have Hn := Lib.hid hn
            have hb0 : (0 : Int) ≤ (k : Int) / 8 := by omega
            have hb1 : (k : Int) / 8 < ((B d).size : Int) := by rw [show (B d).size = 32 from hdl]; omega
            have hb2 : (k : Int) / 8 < ((B d').size : Int) := by rw [show (B d').size = 32 from hdl']; omega
            clear hn hsm
            go_wp2
            go_quiet (fail)
            go_wp2
            go_roundw
            case rel => exact ⟨k + 1, by omega, by go_num, by rw [xor_expr, Hn.out], dr' HB.out _⟩
            case measure => simp [intOf]; omega
        · obtain rfl : k = b := by omega
          have HXr := Lib.hid ((HB.out.block _ (lt_of HX8.out)).trans HX8.out)
          have HVr := Lib.hid (HV8.out.below HB.out)
          have htr := ht8.same HB.out
          obtain ⟨G, hG⟩ : ∃ G, checkB R (k : Int) (h : Int) other (i : Int) SS HH RR = G := ⟨_, rfl⟩
          have HCk2 := Lib.hid (Check_any R other (k : Int) (h : Int) _ (i : Int) SS HH RR wr (by omega) HVr.out htr)
          rw [hG] at HCk2 HC2
          have HG := Lib.hid hG
          have Hbr := Lib.hid (Hb8.out.next HB.out)
          clear hG
          obtain ⟨x0, x1, x2, x3⟩ := sigC HXr.out
          cases hsm : sameN d d' k with
          | true =>
            have hG0 := HC2.out hsm
            rw [hG0] at HCk2
            clear hG0 hsm HG
            go_wp2_with fail
            refine HCk2.out.mono ?_
            rintro e w9 ⟨rfl, hb9⟩
            have Hb9 := Lib.hid (Hbr.out.next hb9)
            clear hb9
            go_wp2
            go_ret
            exact ⟨rfl, Hb9.out⟩
          | false =>
            clear hsm
            by_cases hG18 : G = 18
            · subst hG18
              clear HG
              go_wp2_with fail
              refine HCk2.out.mono ?_
              rintro e w9 ⟨rfl, hb9⟩
              have Hb9 := Lib.hid (Hbr.out.next hb9)
              clear hb9
              go_wp2
              go_ret
              exact ⟨rfl, Hb9.out⟩
            · have hg1 : (G == 18) = false := by simpa using hG18
              have hg2 : decide (G = 18) = false := by simpa using hG18
              clear hG18
              go_wp2_with fail
              refine HCk2.out.mono ?_
              rintro e w9 ⟨rfl, hb9⟩
              have Hb9 := Lib.hid (Hbr.out.next hb9)
              have HRC := Lib.hid (RCheck_any R other (k : Int) (h : Int) _ (i : Int) SS HH RR w9 (by omega) (HVr.out.below hb9))
              rw [HG.out] at HRC
              have HX9 := Lib.hid ((hb9.block _ (lt_of HXr.out)).trans HXr.out)
              have Hk9 := Lib.hid ((hb9.block _ (lt_of Hkr.out)).trans Hkr.out)
              clear hb9 k0 k1 k2 k3 k4 x0 x1 x2 x3
              obtain ⟨k0, k1, k2, k3, k4⟩ := job_cells Hk9.out
              obtain ⟨x0, x1, x2, x3⟩ := sigC HX9.out
              go_wp2_with fail
              refine HRC.out.mono ?_
              rintro e w10 ⟨rfl, hb10⟩
              have Hb10 := Lib.hid (Hb9.out.next hb10)
              clear hb10
              go_wp2
              go_ret
              exact ⟨rfl, Hb10.out⟩

set_option maxRecDepth 100000 in
theorem contract (H : Type) (enc : TypeId × Value → H) (W : World) (base : Nat) (args : Array Value) (ds gs : List (DataW H)) (before : List MemPlace)
    (hval : ∀ (j : Nat) t v, Tryd.f8.params[j]? = some t → args[j]? = some v → Value.okWide Tryd.prog W .any base t v)
    (hW : DataW.Whole enc Tryd.prog Tryd.f8.params.toList Rows.lamportAcceptsSpec.vars false W args.toList ds gs before) (hL : laidMetH Tryd.prog Rows.lamportAcceptsRow.laid W) :
    Calls Tryd.prog 8 args W fun e W' => ∃ v, e = .returned v ∧ Rows.lamportAcceptsSpec.post enc Tryd.prog Tryd.f8 false true false false W args v W' := by
  have hW' := hW
  obtain ⟨p, q, hA0, hV, rfl, hfz, hnd⟩ := hW
  have hA : DataW.TrodAll enc Tryd.prog W 0 (fun _ => true) true Tryd.f8.params.toList args.toList ds p := hA0
  rw [Tryd.params8] at hA hval
  obtain ⟨v0, vs0, d0, ds0, p0, q0, hargs, rfl, rfl, h0, r0⟩ := trodAll_cons hA
  obtain ⟨v1, vs1, d1, ds1, p1, q1, rfl, rfl, rfl, h1, r1⟩ := trodAll_cons r0
  obtain ⟨rfl, rfl, rfl⟩ := trodAll_nil r1
  obtain rfl : args = #[v0, v1] := by cases args; simp_all
  obtain ⟨rfl, rfl⟩ := trodVars_none hV
  obtain ⟨seed, m, b, h, i, how, at_, rfl, hsl, hml, _⟩ := job_in (hval 0 31 v0 rfl rfl) h0
  obtain ⟨other, rfl, _⟩ := str_in (hval 1 9 v1 rfl rfl) h1
  refine (walk seed m other b h i how at_ W hsl (tab_of hL)).mono fun e W' ⟨he, hb⟩ => ⟨_, he, ?_⟩
  exact law_post hW' rfl (by kernel_rfl) (by kernel_rfl) rfl hb

theorem laid_met (os : Os) : laidMet Tryd.prog Rows.lamportAcceptsRow.laid ((laidWorld os).forCall (fun _ _ => 0) ⟨#[], #[.agg #[.string ⟨#[]⟩, .string ⟨#[]⟩, .int .i64 0, .int .i64 0, .int .i64 0, .int .u8 0, .int .u8 0], .string ⟨#[]⟩], []⟩).memory :=
  laidMet_of_run' 8 (by kernel_rfl) (by kernel_rfl)
theorem reads (os : Os) {H : Type} (enc : TypeId × Value → H) : ∃ places, DataW.whole enc Tryd.prog ((laidWorld os).forCall (fun _ _ => 0) ⟨#[], #[.agg #[.string ⟨#[]⟩, .string ⟨#[]⟩, .int .i64 0, .int .i64 0, .int .i64 0, .int .u8 0, .int .u8 0], .string ⟨#[]⟩], []⟩).memory Tryd.f8.params.toList Rows.lamportAcceptsSpec.vars false (#[.agg #[.string ⟨#[]⟩, .string ⟨#[]⟩, .int .i64 0, .int .i64 0, .int .i64 0, .int .u8 0, .int .u8 0], .string ⟨#[]⟩] : Array Value).toList 8 = some ([.agg [.lit (.string []), .lit (.string []), .agg [.lit (.int .i64 0), .lit (.int .i64 0)], .lit (.int .i64 0), .lit (.int .u8 0), .lit (.int .u8 0)], .lit (.string [])], [], places) :=
  ⟨[], by kernel_rfl⟩

set_option maxRecDepth 100000 in
theorem lifted (os : Os) (started : os.Started) (H : Type) (enc : TypeId × Value → H) (F : Stop.Interp) :
    ReturnsInHanded {} Tryd.checked os 8 .any ((OpenSpec.ofChange Rows.lamportAcceptsSpec).preRow enc Tryd.prog Tryd.f8 Rows.lamportAcceptsRow.domain false Rows.lamportAcceptsRow.laid) (((OpenSpec.ofChange Rows.lamportAcceptsSpec).at F).post enc Tryd.prog Tryd.f8 false true false false) := by
  obtain ⟨places, hx⟩ := reads os enc
  refine returnsInHanded_of_row (C := Tryd.checked) (s := OpenSpec.ofChange Rows.lamportAcceptsSpec) own started (by kernel_rfl) Tryd.func8
    (witness_row_at (enc := enc) (C := Tryd.checked) false (laidWorld os) #[.agg #[.string ⟨#[]⟩, .string ⟨#[]⟩, .int .i64 0, .int .i64 0, .int .i64 0, .int .u8 0, .int .u8 0], .string ⟨#[]⟩] rfl (by kernel_rfl) (by kernel_rfl) (by kernel_rfl)
      (OpenSpec.preRow_of_cond 8 hx (by kernel_rfl) (fun k hk => by cases hk) (by kernel_rfl) (laid_met os))) ?_
  intro W base args ds gs before hval hW _ _ _ hL _ _
  exact contract H enc W base args ds gs before hval hW hL

set_option maxRecDepth 100000 in
theorem said : Rows.LamportAcceptsSaid :=
  OpenClaim.holds_of_cond 8 Tryd.f8 rfl rfl rfl rfl rfl rfl rfl ⟨rfl, rfl, rfl, rfl, rfl⟩ rfl rfl rfl rfl rfl (by kernel_rfl) Tryd.func8 (by kernel_rfl)
    (of_decide_eq_true (by kernel_rfl)) (by unfold Func.isWrapper; first | (rw [if_pos (by decide +kernel)]; kernel_rfl) | (rw [if_neg (by decide +kernel)]; exact ⟨rfl, rfl⟩))
    (fun os started H enc _ F => by rw [OpenClaim.pre_eq_preRow]; exact lifted os started H enc F)

/-- No parameter wants a stand-in; the program's own looks are off. -/
theorem plain (f : FuncId) (fn : Func) (hf : Tryd.pinned.checked.prog.funcNamed "licit/licitlaw48.LamportAccepts" = some f) (hfn : Tryd.pinned.checked.prog.funcs[f]? = some fn) :
    false = Tryd.pinned.checked.prog.looks [] ∧ ∀ (j : Nat) t, fn.params[j]? = some t → Tryd.pinned.checked.prog.wantsStandIn t = false := by
  obtain rfl : f = 8 := Option.some.inj ((show Tryd.prog.funcNamed "licit/licitlaw48.LamportAccepts" = some 8 by kernel_rfl).symm.trans hf) |>.symm
  obtain rfl : fn = Tryd.f8 := (Option.some.inj (Tryd.func8.symm.trans hfn)).symm
  refine ⟨by kernel_rfl, fun j t ht => ?_⟩
  have hall : Tryd.f8.params.toList.all (fun t => !Tryd.prog.wantsStandIn t) = true := by kernel_rfl
  have := List.all_eq_true.1 hall t (Array.mem_toList_iff.2 (Array.mem_of_getElem? ht))
  exact (by simpa using this : Tryd.prog.wantsStandIn t = false)

theorem card : Rows.LamportAcceptsCardSaid :=
  Claim7.holds_tied_plain_at .later [] _ _ _ _ said (fun _ h => by cases h) (by kernel_rfl) (fun _ h => by cases h) lamportAccepts_row_tie rfl ⟨rfl, rfl⟩ (by kernel_rfl) rfl plain (by kernel_rfl)

end Go.Proofs.YtdkjehagkmkokaaDoor.lawAccepts
