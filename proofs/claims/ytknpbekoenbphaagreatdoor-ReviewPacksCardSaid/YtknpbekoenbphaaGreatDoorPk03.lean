/- Parts of the proofs: WkRv1, ShaRot, ShaTab, ShaRound, ShaPerm. No condition beyond those at each theorem. -/
import Derived.BigRegion
import Derived.Test.YtknpbekoenbphaaGreatDoorPk02
set_option linter.unusedVariables false
set_option linter.unusedSimpArgs false
set_option maxHeartbeats 16000000
set_option maxRecDepth 100000
namespace Go.Proofs.YtknpbekoenbphaaGreatDoor
open Go Go.RowKit Licit
theorem kb7 (x : Bs) (w : World) : Calls Tryz.prog 160 #[.string (B x)] w fun e w' => e = .returned (.bool (Rv.digB x)) ∧ w' = w := by
 have hs : (B x).size = x.length := rfl
 by_cases h : x.length = 32
 · have hq : (((B x).size : Int) == 32) = true := by simp; omega
   go_enter Tryz.func160, Tryz.ntmps160
   go_wp2
   go_ret
   refine ⟨?_, rfl⟩
   simp [Rv.digB, h]
 · have hq : (((B x).size : Int) == 32) = false := by simp; omega
   go_enter Tryz.func160, Tryz.ntmps160
   go_wp2
   go_ret
   refine ⟨?_, rfl⟩
   simp [Rv.digB, h]
   omega
theorem kb3 {a b : Bool} (h : a = b) : Ending.returned (.bool a) = .returned (.bool b) := by rw [h]
theorem kgk {α : Type} (p : α → Bool) (xs : List α) (k : Nat) (hk : k < xs.length) (h : (xs.take k).all p = true) : (xs.take (k + 1)).all p = p xs[k] := by
 rw [List.take_add_one, List.all_append, h, List.getElem?_eq_getElem hk]
 simp
theorem km8 {α : Type} (p : α → Bool) (xs : List α) (k : Nat) (hk : k < xs.length) (h : p xs[k] = false) : xs.all p = false := by
 rw [List.all_eq_false]
 exact ⟨xs[k], List.getElem_mem _, by simp [h]⟩
theorem ko4 (c : UInt8) : Rv.chB c = true ↔ ((97 ≤ (c.toNat : Int) ∧ (c.toNat : Int) ≤ 122) ∨ (48 ≤ (c.toNat : Int) ∧ (c.toNat : Int) ≤ 57) ∨ (c.toNat : Int) = 46 ∨ (c.toNat : Int) = 95 ∨ (c.toNat : Int) = 45) := by
 unfold Rv.chB
 simp only [Bool.or_eq_true, Bool.and_eq_true, decide_eq_true_eq, UInt8.le_iff_toNat_le, ← UInt8.toNat_inj]
 simp
 omega
theorem ky0 (c : UInt8) : Rv.chB c = false ↔ ¬ ((97 ≤ (c.toNat : Int) ∧ (c.toNat : Int) ≤ 122) ∨ (48 ≤ (c.toNat : Int) ∧ (c.toNat : Int) ≤ 57) ∨ (c.toNat : Int) = 46 ∨ (c.toNat : Int) = 95 ∨ (c.toNat : Int) = 45) := by
 rw [← ko4]; simp
theorem ko2 (c least : UInt8) : (decide (least ≤ c) && decide (c ≤ 126)) = true ↔ ((least.toNat : Int) ≤ (c.toNat : Int) ∧ (c.toNat : Int) ≤ 126) := by
 simp only [Bool.and_eq_true, decide_eq_true_eq, UInt8.le_iff_toNat_le]
 simp
 omega
theorem kyi (c least : UInt8) : (decide (least ≤ c) && decide (c ≤ 126)) = false ↔ ¬ ((least.toNat : Int) ≤ (c.toNat : Int) ∧ (c.toNat : Int) ≤ 126) := by
 rw [← ko2]; simp
theorem kjy (s : ByteArray) (low high : Nat) (least : UInt8) (w : World) (hs : s.size ≤ maxLen) (hl : low ≤ 1000) (hh : high ≤ 1000) :
 Calls Tryz.prog 203 #[.string s, .int .i64 (low : Int), .int .i64 (high : Int), .int .u8 (least.toNat : Int)] w fun e w' => e = .returned (.bool (Rv.textB s.data.toList low high least)) ∧ w' = w := by
 have hsz : s.data.toList.length = s.size := rfl
 unfold maxLen at hs
 by_cases h1 : low ≤ s.size
 rotate_left
 · have hr : Rv.textB s.data.toList low high least = false := by unfold Rv.textB; rw [decide_eq_false (p := low ≤ s.data.toList.length) (by omega)]; rfl
   have d1 : decide (s.size < low) = true := by simp; omega
   rw [hr]
   clear hr
   go_enter Tryz.func203, Tryz.ntmps203
   go_wp2
   go_ret
   exact ⟨rfl, rfl⟩
 have d1 : decide (s.size < low) = false := by simp; omega
 by_cases h2 : s.size ≤ high
 rotate_left
 · have hr : Rv.textB s.data.toList low high least = false := by unfold Rv.textB; rw [decide_eq_false (p := s.data.toList.length ≤ high) (by omega)]; simp
   have d2 : decide (high < s.size) = true := by simp; omega
   rw [hr]
   clear hr
   go_enter Tryz.func203, Tryz.ntmps203
   go_wp2
   go_ret
   exact ⟨rfl, rfl⟩
 have d2 : decide (high < s.size) = false := by simp; omega
 have hr : Rv.textB s.data.toList low high least = s.data.toList.all fun c => decide (least ≤ c) && decide (c ≤ 126) := by unfold Rv.textB; rw [decide_eq_true (p := low ≤ s.data.toList.length) (by omega), decide_eq_true (p := s.data.toList.length ≤ high) (by omega)]; simp
 obtain ⟨R, hR⟩ : ∃ R, (s.data.toList.all fun c => decide (least ≤ c) && decide (c ≤ 126)) = R := ⟨_, rfl⟩
 rw [hr, hR]
 have HZ := hdd hsz
 have HR := hdd hR
 clear hr hsz hR
 go_enter Tryz.func203, Tryz.ntmps203
 go_wp2
 go_loop [9, 22] (fun _ n => ∃ k : Nat, k ≤ s.size ∧ n = .int .i64 k ∧ (s.data.toList.take k).all (fun c => decide (least ≤ c) && decide (c ≤ 126)) = true) (fun _ n => s.size - (intOf n).toNat)
 case atStart => exact ⟨0, by omega, rfl, by simp⟩
 case round =>
  obtain ⟨k, hk, rfl, hA⟩ := hrel
  have HA := hdd hA
  clear hA
  by_cases hlt : k < s.size
  · have ht := kgk _ _ k (by rw [HZ.out]; exact hlt) HA.out
    have hn := fun h => km8 (fun c => decide (least ≤ c) && decide (c ≤ 126)) s.data.toList k (by rw [HZ.out]; exact hlt) h
    have hg : s.data.toList[k] = s[k] := rfl
    rw [hg, Bool.eq_iff_iff, ko2] at ht
    rw [hg, kyi] at hn
    have HT := hdd ht
    have HN := hdd hn
    clear ht hn hg
    go_wp2
    all_goals first
     | (go_round
        case rel => exact ⟨k + 1, by omega, by go_num, HT.out.2 ⟨by omega, by omega⟩⟩
        case measure => simp [intOf]; omega)
     | (go_ret
        exact ⟨kb3 ((HN.out (by omega)).symm.trans HR.out), rfl⟩)
  · obtain rfl : k = s.size := by omega
    have hA := HA.out
    rw [← HZ.out, List.take_length] at hA
    go_wp2
    go_ret
    exact ⟨kb3 (hA.symm.trans HR.out), rfl⟩
theorem kxi (s : ByteArray) (w : World) (hs : s.size ≤ maxLen) : Calls Tryz.prog 91 #[.string s] w fun e w' => e = .returned (.bool (Rv.nameB s.data.toList)) ∧ w' = w := by
 have hsz : s.data.toList.length = s.size := rfl
 unfold maxLen at hs
 by_cases h1 : 1 ≤ s.size
 rotate_left
 · have hr : Rv.nameB s.data.toList = false := by unfold Rv.nameB; rw [decide_eq_false (p := 1 ≤ s.data.toList.length) (by omega)]; rfl
   have d1 : decide ((s.size : Int) < 1) = true := decide_eq_true (by omega)
   rw [hr]
   clear hr
   go_enter Tryz.func91, Tryz.ntmps91
   go_wp2
   go_ret
   exact ⟨rfl, rfl⟩
 have d1 : decide ((s.size : Int) < 1) = false := decide_eq_false (by omega)
 by_cases h2 : s.size ≤ 32
 rotate_left
 · have hr : Rv.nameB s.data.toList = false := by unfold Rv.nameB; rw [decide_eq_false (p := s.data.toList.length ≤ 32) (by omega)]; simp
   have d2 : decide ((32 : Int) < (s.size : Int)) = true := decide_eq_true (by omega)
   rw [hr]
   clear hr
   go_enter Tryz.func91, Tryz.ntmps91
   go_wp2
   go_ret
   exact ⟨rfl, rfl⟩
 have d2 : decide ((32 : Int) < (s.size : Int)) = false := decide_eq_false (by omega)
 have h0 : 0 < s.size := h1
 have hg : s.data.toList.getD 0 0 = s[0] := by
  rw [List.getD_eq_getElem?_getD, List.getElem?_eq_getElem (by omega)]; rfl
 have hr : Rv.nameB s.data.toList = (decide (s[0] ≠ 46) && decide (s[0] ≠ 45) && s.data.toList.all Rv.chB) := by unfold Rv.nameB; rw [hg, decide_eq_true (p := 1 ≤ s.data.toList.length) (by omega), decide_eq_true (p := s.data.toList.length ≤ 32) (by omega)]; simp
 rw [hr]
 have HZ := hdd hsz
 clear hr hsz hg
 by_cases h3 : s[0] = 46
 · have d3 : ((s[0].toNat : Int) == 46) = true := by rw [h3]; rfl
   have hr : (decide (s[0] ≠ 46) && decide (s[0] ≠ 45) && s.data.toList.all Rv.chB) = false := by rw [decide_eq_false (by simpa using h3)]; simp
   rw [hr]
   clear hr h3
   go_enter Tryz.func91, Tryz.ntmps91
   go_wp2
   go_ret
   exact ⟨rfl, rfl⟩
 have d3 : ((s[0].toNat : Int) == 46) = false := by
  have hne : s[0].toNat ≠ 46 := fun e => h3 (UInt8.toNat_inj.1 e)
  simp; omega
 by_cases h4 : s[0] = 45
 · have d4 : ((s[0].toNat : Int) == 45) = true := by rw [h4]; rfl
   have hr : (decide (s[0] ≠ 46) && decide (s[0] ≠ 45) && s.data.toList.all Rv.chB) = false := by rw [decide_eq_false (p := s[0] ≠ 45) (by simpa using h4)]; simp
   rw [hr]
   clear hr h4 h3
   go_enter Tryz.func91, Tryz.ntmps91
   go_wp2
   go_ret
   exact ⟨rfl, rfl⟩
 have d4 : ((s[0].toNat : Int) == 45) = false := by
  have hne : s[0].toNat ≠ 45 := fun e => h4 (UInt8.toNat_inj.1 e)
  simp; omega
 rw [decide_eq_true h3, decide_eq_true h4]
 simp only [Bool.true_and]
 obtain ⟨R, hR⟩ : ∃ R, s.data.toList.all Rv.chB = R := ⟨_, rfl⟩
 rw [hR]
 have HR := hdd hR
 clear h3 h4 hR
 go_enter Tryz.func91, Tryz.ntmps91
 go_wp2
 go_loop [3, 4, 25, 31] (fun _ _ n _ => ∃ k : Nat, k ≤ s.size ∧ n = .int .i64 k ∧ (s.data.toList.take k).all Rv.chB = true) (fun _ _ n _ => s.size - (intOf n).toNat)
 case atStart => exact ⟨0, by omega, rfl, by simp⟩
 case round =>
  obtain ⟨k, hk, rfl, hA⟩ := hrel
  have HA := hdd hA
  clear hA d3 d4 d1 d2
  by_cases hlt : k < s.size
  · have ht := kgk _ _ k (by rw [HZ.out]; exact hlt) HA.out
    have hn := fun h => km8 Rv.chB s.data.toList k (by rw [HZ.out]; exact hlt) h
    have hg : s.data.toList[k] = s[k] := rfl
    rw [hg, Bool.eq_iff_iff, ko4] at ht
    rw [hg, ky0] at hn
    have HT := hdd ht
    have HN := hdd hn
    clear ht hn hg
    go_wp2
    all_goals first
     | (go_round
        case rel => exact ⟨k + 1, by omega, by go_num, HT.out.2 (by simp at *; omega)⟩
        case measure => simp [intOf]; omega)
     | (go_ret
        exact ⟨kb3 ((HN.out (by simp at *; omega)).symm.trans HR.out), rfl⟩)
  · obtain rfl : k = s.size := by omega
    have hA := HA.out
    rw [← HZ.out, List.take_length] at hA
    go_wp2
    go_ret
    exact ⟨kb3 (hA.symm.trans HR.out), rfl⟩
theorem kdu (x y : Bs) : Op.bytesLess (B x).toList (B y).toList = Rv.ltB x y := by
 rw [ByteArray.toList_eq, ByteArray.toList_eq, B_list, B_list]; rfl
theorem ku7 (l : List Bs) (x : Bs) : Rv.ascB (l ++ [x]) = (Rv.ascB l && (match l.getLast? with | none => true | some y => Rv.ltB y x)) := by
 induction l with
 | nil => rfl
 | cons a r ih =>
   cases r with
   | nil => simp [Rv.ascB]
   | cons b q =>
     show (Rv.ltB a b && Rv.ascB ((b :: q) ++ [x])) = _
     rw [ih]
     simp [Rv.ascB, List.getLast?_cons_cons, Bool.and_assoc]
theorem kwx (l r : List Bs) (h : Rv.ascB l = false) : Rv.ascB (l ++ r) = false := by
 induction l with
 | nil => simp [Rv.ascB] at h
 | cons a q ih =>
   cases q with
   | nil => simp [Rv.ascB] at h
   | cons b q =>
     simp only [Rv.ascB, Bool.and_eq_false_iff] at h
     show (Rv.ltB a b && Rv.ascB ((b :: q) ++ r)) = false
     rcases h with h | h
     · rw [h]; rfl
     · rw [ih h]; simp
theorem kuq (xs : List Bs) {k : Nat} (h0 : 0 < k) (hk : k ≤ xs.length) : (xs.take k).getLast? = some (xs.getD (k - 1) []) := by
 rw [List.getLast?_eq_getElem?, List.length_take, Nat.min_eq_left hk, List.getElem?_take_of_lt (by omega), List.getElem?_eq_getElem (by omega), List.getD_eq_getElem?_getD, List.getElem?_eq_getElem (by omega)]
 rfl
theorem km7 (xs : List Bs) {k : Nat} (hk : k < xs.length) (h : Rv.ascB (xs.take k) = true) : Rv.ascB (xs.take (k + 1)) = (decide (k = 0) || Rv.ltB (xs.getD (k - 1) []) (xs.getD k [])) := by
 rw [List.take_succ_eq_append_getElem hk, ku7, h]
 by_cases h0 : k = 0
 · subst h0; simp
 · rw [kuq xs (by omega) (by omega)]
   simp [h0, List.getD_eq_getElem?_getD, List.getElem?_eq_getElem hk]
theorem ku9 (xs : List Bs) {k : Nat} (h : Rv.ascB (xs.take k) = false) : Rv.ascB xs = false := by
 rw [← List.take_append_drop k xs]
 exact kwx _ _ h
def okN (xs : List Bs) : Bool := xs.all Rv.digB && Rv.ascB xs
theorem kw9 (xs : List Bs) {k : Nat} (hk : k < xs.length) (h : okN (xs.take k) = true) : okN (xs.take (k + 1)) = (Rv.digB (xs.getD k []) && (decide (k = 0) || Rv.ltB (xs.getD (k - 1) []) (xs.getD k []))) := by
 unfold okN at *
 rw [Bool.and_eq_true] at h
 rw [kgk _ _ k hk h.1, km7 xs hk h.2]
 have e : xs.getD k [] = xs[k] := by rw [List.getD_eq_getElem?_getD, List.getElem?_eq_getElem hk]; rfl
 rw [e]
theorem k0u (xs : List Bs) {k : Nat} (h : okN (xs.take k) = false) : okN xs = false := by
 unfold okN at *
 rw [Bool.and_eq_false_iff] at h
 rcases h with h | h
 · have : xs.all Rv.digB = false := by
    rw [← List.take_append_drop k xs, List.all_append, h]; rfl
   rw [this]; rfl
 · rw [ku9 xs h]; simp
theorem ku0 (v : Value) (xs : List Bs) (w : World) (h : IsSl v (xs.map vS) w) : Calls Tryz.prog 92 #[v] w fun e w' => e = .returned (.bool (Rv.namesB xs)) ∧ w' = w := by
 obtain ⟨a, cap, rfl⟩ := h.formMap
 have hmx := h.1
 rw [List.length_map] at hmx
 unfold maxLen at hmx
 have hr : Rv.namesB xs = (okN xs && decide (xs.length ≤ 16)) := by unfold Rv.namesB okN; cases decide (xs.length ≤ 16) <;> simp
 obtain ⟨R, hR⟩ : ∃ R, okN xs = R := ⟨_, rfl⟩
 rw [hr, hR]
 have HR := hdd hR
 have H := hdd h
 clear hr hR h
 go_enter Tryz.func92, Tryz.ntmps92
 go_wp2
 go_loopw [3, 4, 7] (fun _ _ n wr => wr = w ∧ ∃ k : Nat, k ≤ xs.length ∧ n = .int .i64 k ∧ okN (xs.take k) = true) (fun _ _ n _ => xs.length - (intOf n).toNat)
 case atStart => exact ⟨rfl, 0, by omega, rfl, by simp [okN, Rv.ascB]⟩
 case round =>
  obtain ⟨rfl, k, hk, rfl, hA⟩ := hrel
  have HA := hdd hA
  clear hA
  by_cases hlt : k < xs.length
  · have HST := hdd (kw9 xs hlt HA.out)
    have HNO := hdd (fun h => k0u xs (k := k + 1) h)
    have h2 := H.out
    obtain ⟨b, off, cap', hv, hb, hc⟩ := h2.text rfl hlt
    simp only [Value.slice.injEq, true_and] at hv
    obtain ⟨rfl, rfl⟩ := hv
    obtain ⟨x, hx⟩ : ∃ x, xs.getD k [] = x := ⟨_, rfl⟩
    rw [hx] at hc
    have Hx := hdd hx
    have hi1 : (k : Int) < (xs.length : Int) := by omega
    clear hx
    by_cases c1 : Rv.digB x = true
    rotate_left
    · simp only [Bool.not_eq_true] at c1
      have hcall := kb7 x
      rw [c1] at hcall
      have C1 := hdd c1
      clear h2 c1
      go_wp2_with (go_at_call 160; refine (hcall _).mono ?_; rintro e w' ⟨rfl, rfl⟩)
      go_ret
      exact ⟨kb3 (by rw [← HR.out, HNO.out (by rw [HST.out, Hx.out, C1.out]; rfl)]; rfl), rfl⟩
    have hcall := kb7 x
    rw [c1] at hcall
    have C1 := hdd c1
    clear c1
    by_cases c0 : k = 0
    · have C0 := hdd c0
      have hq : decide (0 < k) = false := decide_eq_false (by omega)
      clear h2 c0
      go_wp2_with (go_at_call 160; refine (hcall _).mono ?_; rintro e w' ⟨rfl, rfl⟩)
      go_roundw
      case rel => exact ⟨trivial, k + 1, by omega, by go_num, by rw [HST.out, Hx.out, C1.out, decide_eq_true C0.out]; rfl⟩
      case measure => simp [intOf]; omega
    have hq : decide (0 < k) = true := decide_eq_true (by omega)
    obtain ⟨b2, off2, cap2, hv2, hb2, hc2⟩ := h2.text rfl (show k - 1 < xs.length by omega)
    simp only [Value.slice.injEq, true_and, Option.some.injEq, Addr.mk.injEq, and_true] at hv2
    obtain ⟨⟨rfl, rfl⟩, rfl⟩ := hv2
    obtain ⟨y, hy⟩ : ∃ y, xs.getD (k - 1) [] = y := ⟨_, rfl⟩
    rw [hy] at hc2
    have Hy := hdd hy
    have e1 : IntKind.i64.wrap ((k : Int) - 1) = ((k - 1 : Nat) : Int) := by rw [IntWalk.i64_in _ (by omega)]; omega
    have e2 : ((k : Int) - 1).toNat = k - 1 := by omega
    have e3 : (0 : Int) ≤ (k : Int) - 1 := by omega
    have C0 := hdd c0
    clear hy h2 c0
    by_cases c2 : Rv.ltB y x = true
    · have hl : Op.bytesLess (B y).toList (B x).toList = true := (kdu y x).trans c2
      have C2 := hdd c2
      clear c2
      go_wp2_with (go_at_call 160; refine (hcall _).mono ?_; rintro e w' ⟨rfl, rfl⟩)
      go_roundw
      case rel => exact ⟨trivial, k + 1, by omega, by go_num, by rw [HST.out, Hx.out, C1.out, Hy.out, C2.out]; simp⟩
      case measure => simp [intOf]; omega
    · simp only [Bool.not_eq_true] at c2
      have hl : Op.bytesLess (B y).toList (B x).toList = false := (kdu y x).trans c2
      have C2 := hdd c2
      clear c2
      go_wp2_with (go_at_call 160; refine (hcall _).mono ?_; rintro e w' ⟨rfl, rfl⟩)
      go_ret
      exact ⟨kb3 (by rw [← HR.out, HNO.out (by rw [HST.out, Hx.out, C1.out, Hy.out, C2.out, decide_eq_false C0.out]; rfl)]; rfl), rfl⟩
  · obtain rfl : k = xs.length := by omega
    have hA := HA.out
    rw [List.take_length] at hA
    have HA := hdd hA
    clear hA
    go_wp2
    go_ret
    exact ⟨kb3 (by rw [← HR.out, HA.out, Bool.true_and]; exact decide_eq_decide.2 (by omega)), rfl⟩
abbrev evV (e : Rv.Ev) (vn vt vs vh vr : Value) : Value := .agg #[.int .i64 e.kind, .string (B e.author), .int .i64 e.number, vn, .string (B e.root), .int .i64 e.bits, .int .i64 e.height, .string (B e.pkg), .string (B e.digest), .string (B e.question), .string (B e.scope), .string (B e.answer), .int .i64 e.till, vt, .int .i64 e.sg.i, vs, vh, vr]
theorem k0x (x : Bs) (w : World) (hx : x.length ≤ maxLen) : Calls Tryz.prog 203 #[.string (B x), .int .i64 1, .int .i64 128, .int .u8 33] w fun e w' => e = .returned (.bool (Rv.textB x 1 128 33)) ∧ w' = w :=
 kjy (B x) 1 128 33 w hx (by decide) (by decide)
theorem k1b (x : Bs) (w : World) (hx : x.length ≤ maxLen) : Calls Tryz.prog 203 #[.string (B x), .int .i64 0, .int .i64 128, .int .u8 33] w fun e w' => e = .returned (.bool (Rv.textB x 0 128 33)) ∧ w' = w :=
 kjy (B x) 0 128 33 w hx (by decide) (by decide)
theorem k03 (x : Bs) (w : World) (hx : x.length ≤ maxLen) : Calls Tryz.prog 203 #[.string (B x), .int .i64 0, .int .i64 200, .int .u8 32] w fun e w' => e = .returned (.bool (Rv.textB x 0 200 32)) ∧ w' = w :=
 kjy (B x) 0 200 32 w hx (by decide) (by decide)
theorem k2u (x : Bs) (w : World) (hx : x.length ≤ maxLen) : Calls Tryz.prog 91 #[.string (B x)] w fun e w' => e = .returned (.bool (Rv.nameB x)) ∧ w' = w := kxi (B x) w hx
theorem kpi (e : Rv.Ev) (vn vt vs vh vr : Value) (w : World) (h1 : e.question.length ≤ maxLen) (h2 : e.scope.length ≤ maxLen) (h3 : e.answer.length ≤ maxLen) :
 Calls Tryz.prog 161 #[evV e vn vt vs vh vr] w fun en w' => en = .returned (.bool (Rv.decidesB e)) ∧ Below w.heap.size w w' := by
 obtain ⟨kind, author, number, names, root, bits, height, pkg, digest, question, scope, answer, till, targets, sg⟩ := e
 dsimp only at h1 h2 h3
 have q1 := fun W => k0x question W h1
 have q2 := fun W => k1b scope W h2
 have q3 := fun W => k03 answer W h3
 have q4 := fun W => kb7 digest W
 have hr : Rv.decidesB ⟨kind, author, number, names, root, bits, height, pkg, digest, question, scope, answer, till, targets, sg⟩ = (Rv.textB question 1 128 33 && Rv.textB scope 0 128 33 && Rv.textB answer 0 200 32 && Rv.digB digest && decide (0 ≤ till) && decide (till ≤ 1000)) := rfl
 rw [hr]
 generalize Rv.textB question 1 128 33 = R1 at *
 generalize Rv.textB scope 0 128 33 = R2 at *
 generalize Rv.textB answer 0 200 32 = R3 at *
 generalize Rv.digB digest = R4 at *
 clear hr
 have HB := hdd ((Below.refl w.heap.size w).alloc (Nat.le_refl _) (.cells #[.int .i64 kind, .string (B author), .int .i64 number, vn, .string (B root), .int .i64 bits, .int .i64 height, .string (B pkg), .string (B digest), .string (B question), .string (B scope), .string (B answer), .int .i64 till, vt, .int .i64 sg.i, vs, vh, vr] 45))
 cases R1
 rotate_left
 cases R2
 rotate_left
 cases R3
 rotate_left
 cases R4
 rotate_left
 by_cases c5 : 0 ≤ till
 · have d5 : decide (0 ≤ till) = true := decide_eq_true c5
   have C5 := hdd c5
   clear c5
   go_enter Tryz.func161, Tryz.ntmps161
   go_wp2_with (first | (go_at_call 160; (with_reducible refine (q4 _).mono ?_); rintro e w' ⟨rfl, rfl⟩) | (go_at_call 203; (with_reducible refine (q1 _).mono ?_); rintro e w' ⟨rfl, rfl⟩) | (go_at_call 203; (with_reducible refine (q2 _).mono ?_); rintro e w' ⟨rfl, rfl⟩) | (go_at_call 203; (with_reducible refine (q3 _).mono ?_); rintro e w' ⟨rfl, rfl⟩))
   go_ret
   exact ⟨kb3 (by simp [C5.out]), HB.out⟩
 · have d5 : decide (0 ≤ till) = false := decide_eq_false c5
   have C5 := hdd c5
   clear c5
   go_enter Tryz.func161, Tryz.ntmps161
   go_wp2_with (first | (go_at_call 160; (with_reducible refine (q4 _).mono ?_); rintro e w' ⟨rfl, rfl⟩) | (go_at_call 203; (with_reducible refine (q1 _).mono ?_); rintro e w' ⟨rfl, rfl⟩) | (go_at_call 203; (with_reducible refine (q2 _).mono ?_); rintro e w' ⟨rfl, rfl⟩) | (go_at_call 203; (with_reducible refine (q3 _).mono ?_); rintro e w' ⟨rfl, rfl⟩))
   go_ret
   exact ⟨kb3 (by rw [decide_eq_false (by have := C5.out; omega)]; simp), HB.out⟩
 all_goals
  go_enter Tryz.func161, Tryz.ntmps161
  go_wp2_with (first | (go_at_call 160; (with_reducible refine (q4 _).mono ?_); rintro e w' ⟨rfl, rfl⟩) | (go_at_call 203; (with_reducible refine (q1 _).mono ?_); rintro e w' ⟨rfl, rfl⟩) | (go_at_call 203; (with_reducible refine (q2 _).mono ?_); rintro e w' ⟨rfl, rfl⟩) | (go_at_call 203; (with_reducible refine (q3 _).mono ?_); rintro e w' ⟨rfl, rfl⟩))
  go_ret
  exact ⟨kb3 (by simp), HB.out⟩
end Go.Proofs.YtknpbekoenbphaaGreatDoor
namespace Go.Proofs.YtknpbekoenbphaaGreatDoor
open Go Go.RowKit Licit Licit.Sha
theorem kut (x : W64) (n : Nat) (w : World) (h : n < 64) :
 Calls Tryz.prog 234 #[.int .u64 (x.toNat : Int), .int .i64 (n : Int)] w fun e w' => e = .returned (vW (rot x n)) ∧ w = w' := by
 have h1 := k2x x
 have hb := k22 x n
 have HB := hdd hb
 clear hb
 go_enter Tryz.func234, Tryz.ntmps234
 go_wp2
 go_ret
 exact ⟨congrArg (fun v => Ending.returned (.int .u64 v)) HB.out, rfl⟩
theorem kg1 (x : W64) (n : Nat) (w : World) (h : n < 64) :
 Calls Tryz.prog 255 #[.int .u64 (x.toNat : Int), .int .i64 (n : Int)] w fun e w' => e = .returned (vW (rot x n)) ∧ w = w' := by
 have h1 := k2x x
 have hb := k22 x n
 have HB := hdd hb
 clear hb
 have ha := k1z n h
 go_enter Tryz.func255, Tryz.ntmps255
 go_wp2
 go_ret
 exact ⟨congrArg (fun v => Ending.returned (.int .u64 v)) HB.out, rfl⟩
def kl5 : List Value := [Value.int .i64 0, Value.int .i64 1, Value.int .i64 62, Value.int .i64 28, Value.int .i64 27, Value.int .i64 36, Value.int .i64 44, Value.int .i64 6, Value.int .i64 55, Value.int .i64 20, Value.int .i64 3, Value.int .i64 10, Value.int .i64 43, Value.int .i64 25, Value.int .i64 39, Value.int .i64 41, Value.int .i64 45, Value.int .i64 15, Value.int .i64 21, Value.int .i64 8, Value.int .i64 18, Value.int .i64 2, Value.int .i64 61, Value.int .i64 56, Value.int .i64 14]
def kus : List Value := [Value.int .u64 1, Value.int .u64 32898, Value.int .u64 9223372036854808714, Value.int .u64 9223372039002292224, Value.int .u64 32907, Value.int .u64 2147483649, Value.int .u64 9223372039002292353, Value.int .u64 9223372036854808585, Value.int .u64 138, Value.int .u64 136, Value.int .u64 2147516425, Value.int .u64 2147483658, Value.int .u64 2147516555, Value.int .u64 9223372036854775947, Value.int .u64 9223372036854808713, Value.int .u64 9223372036854808579, Value.int .u64 9223372036854808578, Value.int .u64 9223372036854775936, Value.int .u64 32778, Value.int .u64 9223372039002259466, Value.int .u64 9223372039002292353, Value.int .u64 9223372036854808704, Value.int .u64 2147483649, Value.int .u64 9223372039002292232]
theorem kxu : kl5 = k2a.map (fun n : Nat => Value.int .i64 (n : Int)) := rfl
theorem kv3 : kus = cons.map (fun n => vW (BitVec.ofNat 64 n)) := by kernel_rfl
theorem kys {α β : Type} (f : α → β) (l : List α) (d : α) (i : Nat) (h : i < l.length) : (l.map f)[i]? = some (f (l.getD i d)) := by
 rw [List.getElem?_map, List.getD_eq_getElem?_getD, List.getElem?_eq_getElem h]
 rfl
theorem kq3 (i : Nat) (h : i < 25) : kl5[i]? = some (.int .i64 (off i : Int)) := by
 rw [kxu]
 exact kys _ k2a 0 i h
theorem kqs (i : Nat) (h : i < 24) : kus[i]? = some (vW (con i)) := by
 rw [kv3]
 exact kys _ cons 0 i h
theorem kro (x y : Nat) (w : World) (hx : x < 5) (hy : y < 5) :
 Calls Tryz.prog 235 #[.int .i64 (x : Int), .int .i64 (y : Int)] w fun e w' => e = .returned (.int .i64 (off (x + 5 * y) : Int)) ∧ Below w.heap.size w w' := by
 have hL := kq3 (x + 5 * y) (by omega)
 unfold kl5 at hL
 go_enter Tryz.func235, Tryz.ntmps235
 go_wp2
 go_ret
 exact ⟨rfl, (Below.refl _ _).alloc (Nat.le_refl _) _⟩
theorem knq (i : Nat) (w : World) (h : i < 24) :
 Calls Tryz.prog 206 #[.int .i64 (i : Int)] w fun e w' => e = .returned (vW (con i)) ∧ Below w.heap.size w w' := by
 have hL := kqs i h
 obtain ⟨_, hL⟩ := List.getElem?_eq_some_iff.1 hL
 have HL := hdd hL
 clear hL
 go_enter Tryz.func206, Tryz.ntmps206
 go_wp2
 go_ret
 exact ⟨congrArg Ending.returned HL.out, (Below.refl _ _).alloc (Nat.le_refl _) _⟩
theorem ko1 (w : World) :
 Calls Tryz.prog 245 #[] w fun e w' => e = .returned (.agg kl5.toArray) ∧ Below w.heap.size w w' := by
 go_enter Tryz.func245, Tryz.ntmps245
 go_wp2_with (refine kbb rfl 278 _ _ rfl _ rfl kl5.toArray rfl _ _ (kak w _) (by kernel_rfl) rfl (by kernel_rfl) ?_)
 refine kcr rfl _ 278 _ (0, 0) _ rfl (kg0 (kak w _)) rfl rfl (by kernel_rfl) rfl ?_
 exact ⟨rfl, Below.setRow' ((Below.refl _ _).alloc (Nat.le_refl _) _) (Nat.le_refl _) _⟩
theorem kl1 (w : World) :
 Calls Tryz.prog 246 #[] w fun e w' => e = .returned (.agg kus.toArray) ∧ Below w.heap.size w w' := by
 go_enter Tryz.func246, Tryz.ntmps246
 go_wp2_with (refine kbb rfl 280 _ _ rfl _ rfl kus.toArray rfl _ _ (kak w _) (by kernel_rfl) rfl (by kernel_rfl) ?_)
 refine kcr rfl _ 280 _ (0, 0) _ rfl (kg0 (kak w _)) rfl rfl (by kernel_rfl) rfl ?_
 exact ⟨rfl, Below.setRow' ((Below.refl _ _).alloc (Nat.le_refl _) _) (Nat.le_refl _) _⟩
theorem kti (s : Sha.St) (c : W64) (w : World) :
 Calls Tryz.prog 247 #[.agg (wA 25 s), .agg kl5.toArray, .int .u64 (c.toNat : Int)] w fun e w' => e = .returned (.agg (wA 25 (rnd s c))) ∧ Below w.heap.size w w' := by
 obtain ⟨A, hA⟩ : ∃ A, wA 25 s = A := ⟨_, rfl⟩
 obtain ⟨O, hO⟩ : ∃ O, kl5.toArray = O := ⟨_, rfl⟩
 rw [hA, hO]
 have HA := hdd hA
 have HO := hdd hO
 clear hA hO
 have hsA : A.size = 25 := by rw [← HA.out]; exact kaw _ _
 have HsA := hdd hsA
 clear hsA
 go_enter Tryz.func247, Tryz.ntmps247
 go_wp2_with (refine wpList_load_row rfl 210 _ rfl w.heap.size rfl 210 A (0, 0) _ (kaq (kaq (kaq (kak w _)))) rfl rfl (by rw [HsA.out]; kernel_rfl) ?_)
 go_loopw [18] (fun i wr => ∃ k : Nat, k ≤ 25 ∧ i = .int .i64 k ∧ wr.heap[w.heap.size]? = some (.cells A 210) ∧ wr.heap[w.heap.size + 1]? = some (.cells O 278) ∧ wr.heap[w.heap.size + 2]? = some (.cells (wA 25 fun _ => 0) 210) ∧ wr.heap[w.heap.size + 3]? = some (.cells (wA 5 (cK s k)) 267) ∧ Below w.heap.size w wr) (fun i _ => 25 - (intOf i).toNat)
 case atStart =>
  refine ⟨0, by omega, rfl, kaq (kaq (kaq (kak w _))), ?_, ?_, ?_, ?_⟩
  · exact kaq (kaq (kaj (by simp) rfl))
  · exact kaq (kaj (by simp) rfl)
  · exact kaj (by simp) rfl
  · exact (((((Below.refl _ _).alloc (Nat.le_refl _) _).alloc (by simp) _).alloc (by simp; omega) _).alloc (by simp; omega) _)
 case round =>
  obtain ⟨k, hk, rfl, h0, h1, h2, h3, hB⟩ := hrel
  by_cases hlt : k < 25
  · have hAk : A[k]? = some (vW (s k)) := by rw [← HA.out]; exact kcv s hlt
    have hidx := kfs (P := Tryz.prog) (t := 210) rfl Tryz.isAgg209 Tryz.sizeOf209 hlt hAk
    clear hAk
    have hc : wr.cell? ⟨w.heap.size + 1 + 1 + 1, k % 5, none⟩ = some (vW (cK s k (k % 5))) := by rw [kab h3]; exact kcv _ (by omega)
    have hf := kai h3 (k % 5)
    have hm : (k : Int).tmod 5 = ((k % 5 : Nat) : Int) := rfl
    have hx := kog (cK s k (k % 5)) (s k)
    obtain ⟨V, hV⟩ : ∃ V, cK s k (k % 5) ^^^ s k = V := ⟨_, rfl⟩
    rw [hV] at hx
    have HV := hdd hV
    clear hV
    have H0 := hdd h0
    have H1 := hdd h1
    have H2 := hdd h2
    have H3 := hdd h3
    have HB := hdd hB
    clear h0 h1 h2 h3 hB
    go_wp2
    go_roundw
    case rel =>
     refine ⟨k + 1, by omega, rfl, ka0 H0.out (by simp; omega), ka0 H1.out (by simp), ka0 H2.out (by simp), ?_, ?_⟩
     · have h := kfo H3.out (k % 5) V
       rw [← HV.out] at h
       rw [← HV.out]
       exact h
     · exact HB.out.setCell (by simp; omega) _
    case measure => simp [intOf]; omega
  · obtain ⟨w1, rfl⟩ : ∃ w1, w1 = wr := ⟨_, rfl⟩
    obtain rfl : k = 25 := by omega
    have hn4 := kac h3
    have h3 := kfl h3 (k1o s)
    have H0 := hdd h0
    have H1 := hdd h1
    have H2 := hdd h2
    have H3 := hdd h3
    have HB := hdd hB
    clear h0 h1 h2 h3 hB
    go_wp2_with (refine wpList_load_row rfl 210 _ rfl w.heap.size rfl 210 A (0, 0) _ (kaq H0.out) rfl rfl (by rw [HsA.out]; kernel_rfl) ?_)
    go_loopw [31] (fun i wx => ∃ k : Nat, k ≤ 25 ∧ i = .int .i64 k ∧ wx.heap[w.heap.size]? = some (.cells A 210) ∧ wx.heap[w.heap.size + 1]? = some (.cells O 278) ∧ wx.heap[w.heap.size + 2]? = some (.cells (wA 25 fun _ => 0) 210) ∧ wx.heap[w.heap.size + 3]? = some (.cells (wA 5 (kit s)) 267) ∧ wx.heap[w1.heap.size]? = some (.cells (wA 25 (mK s k)) 210) ∧ Below w.heap.size w wx) (fun i _ => 25 - (intOf i).toNat)
    case atStart =>
     exact ⟨0, by omega, rfl, kaq H0.out, kaq H1.out, kaq H2.out, kaq H3.out, by rw [kzm]; exact kaj rfl rfl, HB.out.alloc (by omega) _⟩
    case round =>
     obtain ⟨k, hk, rfl, h0, h1, h2, h3, h4, hB⟩ := hrel
     by_cases hlt : k < 25
     · have hAk : A[k]? = some (vW (s k)) := by rw [← HA.out]; exact kcv s hlt
       have hidx := kfs (P := Tryz.prog) (t := 210) rfl Tryz.isAgg209 Tryz.sizeOf209 hlt hAk
       clear hAk
       obtain ⟨X, hX⟩ : ∃ X, k % 5 = X := ⟨_, rfl⟩
       obtain ⟨Y, hY⟩ : ∃ Y, k / 5 = Y := ⟨_, rfl⟩
       obtain ⟨X4, hX4⟩ : ∃ X4, (X + 4) % 5 = X4 := ⟨_, rfl⟩
       obtain ⟨X1, hX1⟩ : ∃ X1, (X + 1) % 5 = X1 := ⟨_, rfl⟩
       have hm : (k : Int).tmod 5 = (X : Int) := by rw [← hX]; rfl
       have hq : (k : Int).tdiv 5 = (Y : Int) := by rw [← hY]; rfl
       have hXl : X < 5 := by omega
       have hYl : Y < 5 := by omega
       have hs1 : IntKind.i64.wrap ((X : Int) + 4) = ((X + 4 : Nat) : Int) := by rw [IntKind.wrap_i64]; omega
       have hs2 : IntKind.i64.wrap ((X : Int) + 1) = ((X + 1 : Nat) : Int) := by rw [IntKind.wrap_i64]; omega
       have hm1 : (IntKind.i64.wrap ((X : Int) + 4)).tmod 5 = (X4 : Int) := by rw [hs1, ← hX4]; rfl
       have hm2 : (IntKind.i64.wrap ((X : Int) + 1)).tmod 5 = (X1 : Int) := by rw [hs2, ← hX1]; rfl
       have hX4l : X4 < 5 := by omega
       have hX1l : X1 < 5 := by omega
       clear hs1 hs2
       have hX4i : (X4 : Int) < 5 := by omega
       have hX1i : (X1 : Int) < 5 := by omega
       have hc1 : wr.cell? ⟨w.heap.size + 1 + 1 + 1, X4, none⟩ = some (vW (kit s X4)) := by rw [kab h3]; exact kcv _ hX4l
       have hc2 : wr.cell? ⟨w.heap.size + 1 + 1 + 1, X1, none⟩ = some (vW (kit s X1)) := by rw [kab h3]; exact kcv _ hX1l
       have ho : wr.cell? ⟨w.heap.size + 1, k, none⟩ = some (.int .i64 (off k : Int)) := by rw [kab h1, ← HO.out]; simpa using kq3 k hlt
       have hf := kai h4 (dst k)
       obtain ⟨R, hR⟩ : ∃ R, rot (kit s X1) 1 = R := ⟨_, rfl⟩
       obtain ⟨D, hD⟩ : ∃ D, kit s X4 ^^^ R = D := ⟨_, rfl⟩
       obtain ⟨E, hE⟩ : ∃ E, s k ^^^ D = E := ⟨_, rfl⟩
       have hx1 := kog (kit s X4) R
       rw [hD] at hx1
       have hx2 := kog (s k) D
       rw [hE] at hx2
       have hV : ksn s k = rot E (off k) := by unfold ksn dif; rw [hX, hX4, hX1, hR, hD, hE]
       have HV := hdd hV
       have HR := hdd hR
       obtain ⟨Z, hZ⟩ : ∃ Z, (2 * X + 3 * Y) % 5 = Z := ⟨_, rfl⟩
       have hZl : Z < 5 := by omega
       have hm3 : (2 * (X : Int) + 3 * (Y : Int)).tmod 5 = (Z : Int) := by rw [← hZ]; rfl
       have hP : (Y : Int) + 5 * (Z : Int) < 25 := by omega
       have hdst : dst k = Y + 5 * Z := by unfold dst; rw [hX, hY, hZ]
       rw [hdst] at hf
       have hc4 : wr.cell? ⟨w1.heap.size, Y + 5 * Z, none⟩ = some (vW (mK s k (Y + 5 * Z))) := by rw [kab h4]; exact kcv _ (by omega)
       have HDST := hdd hdst
       clear hV hD hE hR hX hY hX4 hX1 hdst hZ
       have H0 := hdd h0
       have H1 := hdd h1
       have H2 := hdd h2
       have H3 := hdd h3
       have H4 := hdd h4
       have HB := hdd hB
       clear h0 h1 h2 h3 h4 hB
       have HROT : ∀ wy, Calls Tryz.prog 255 #[.int .u64 ((kit s X1).toNat : Int), .int .i64 1] wy fun e w' => e = .returned (vW R) ∧ w' = wy := fun wy =>
        (kg1 _ 1 _ (by omega)).mono (fun _ _ h => ⟨by rw [h.1, HR.out], h.2.symm⟩)
       have HROT2 : ∀ wy, Calls Tryz.prog 255 #[.int .u64 (E.toNat : Int), .int .i64 (off k : Int)] wy fun e w' => e = .returned (vW (ksn s k)) ∧ w' = wy := fun wy =>
        (kg1 _ _ _ (ky1 k)).mono (fun _ _ h => ⟨by rw [h.1, HV.out], h.2.symm⟩)
       have HQ := hdd HROT
       have HQ2 := hdd HROT2
       clear HROT HROT2
       go_wp2
       go_quiet ((go_at_call 255; exact Calls.quiet_of_same (HQ.out _)))
       go_wp2_with (go_at_call 255; refine (HQ2.out _).mono ?_; rintro e w2 ⟨rfl, rfl⟩)
       go_roundw
       case rel =>
        have hs4 : w1.heap.size ≠ w.heap.size ∧ w1.heap.size ≠ w.heap.size + 1 ∧ w1.heap.size ≠ w.heap.size + 2 ∧ w1.heap.size ≠ w.heap.size + 3 := by omega
        refine ⟨k + 1, by omega, rfl, ka0 H0.out (by show _ ≠ w1.heap.size; omega), ka0 H1.out (by show _ ≠ w1.heap.size; omega), ka0 H2.out (by show _ ≠ w1.heap.size; omega), ka0 H3.out (by show _ ≠ w1.heap.size; omega), ?_, ?_⟩
        · refine kfl (kfo H4.out (Y + 5 * Z) (ksn s k)) ?_
          rw [← HDST.out]
          exact kzz s k hlt
        · have hBq : Below w.heap.size w (wr.drewN nq) := ⟨HB.out.os, HB.out.tape, HB.out.output, HB.out.size, HB.out.block⟩
          refine hBq.setCell ?_ _
          show w.heap.size ≤ w1.heap.size
          omega
       case measure => simp [intOf]; omega
     · obtain ⟨w2, rfl⟩ : ∃ w2, w2 = wr := ⟨_, rfl⟩
       obtain rfl : k = 25 := by omega
       have hn4' := kac h4
       have h4 := kfl h4 (fun p _ => k0y s p)
       rw [← HA.out, ← ky5 (mv s) s] at h0
       have H0 := hdd h0
       have H2 := hdd h2
       have H4 := hdd h4
       have HB := hdd hB
       clear h0 h1 h2 h3 h4 hB
       go_wp2
       go_loopw [69] (fun i wx => ∃ k : Nat, k ≤ 25 ∧ i = .int .i64 k ∧ wx.heap[w.heap.size]? = some (.cells (wA 25 (oK (mv s) s k)) 210) ∧ wx.heap[w.heap.size + 2]? = some (.cells (wA 25 fun _ => 0) 210) ∧ wx.heap[w1.heap.size]? = some (.cells (wA 25 (mv s)) 210) ∧ Below w.heap.size w wx) (fun i _ => 25 - (intOf i).toNat)
       case atStart => exact ⟨0, by omega, rfl, H0.out, H2.out, H4.out, HB.out⟩
       case round =>
        obtain ⟨k, hk, rfl, h0, h2, h4, hB⟩ := hrel
        by_cases hlt : k < 25
        · obtain ⟨X, hX⟩ : ∃ X, k % 5 = X := ⟨_, rfl⟩
          obtain ⟨X2, hX2⟩ : ∃ X2, (k + 2) % 5 = X2 := ⟨_, rfl⟩
          obtain ⟨X1, hX1⟩ : ∃ X1, (k + 1) % 5 = X1 := ⟨_, rfl⟩
          have hXl : X < 5 := by omega
          have hX2l : X2 < 5 := by omega
          have hX1l : X1 < 5 := by omega
          have hm : (k : Int).tmod 5 = (X : Int) := by rw [← hX]; rfl
          have hs1 : IntKind.i64.wrap ((k : Int) + 1) = ((k + 1 : Nat) : Int) := by rw [IntKind.wrap_i64]; omega
          have hs2 : IntKind.i64.wrap ((k : Int) + 2) = ((k + 2 : Nat) : Int) := by rw [IntKind.wrap_i64]; omega
          have hm1 : (IntKind.i64.wrap ((k : Int) + 1)).tmod 5 = (X1 : Int) := by rw [hs1, ← hX1]; rfl
          have hm2 : (IntKind.i64.wrap ((k : Int) + 2)).tmod 5 = (X2 : Int) := by rw [hs2, ← hX2]; rfl
          clear hs1 hs2
          obtain ⟨r, hr⟩ : ∃ r, k - X = r := ⟨_, rfl⟩
          have hrr : (k : Int) - (X : Int) = (r : Int) := by omega
          have hrl : r < 21 := by omega
          have hr1 : IntKind.i64.wrap ((r : Int) + (X1 : Int)) = ((r + X1 : Nat) : Int) := by rw [IntKind.wrap_i64]; omega
          have hr2 : IntKind.i64.wrap ((r : Int) + (X2 : Int)) = ((r + X2 : Nat) : Int) := by rw [IntKind.wrap_i64]; omega
          obtain ⟨P1, hP1⟩ : ∃ P1, r + X1 = P1 := ⟨_, rfl⟩
          obtain ⟨P2, hP2⟩ : ∃ P2, r + X2 = P2 := ⟨_, rfl⟩
          rw [hP1] at hr1
          rw [hP2] at hr2
          have hkl : (k : Int) < 25 := by omega
          have hP1l : (P1 : Int) < 25 := by omega
          have hP2l : (P2 : Int) < 25 := by omega
          have hc0 : wr.cell? ⟨w1.heap.size, k, none⟩ = some (vW (mv s k)) := by rw [kab h4]; exact kcv _ hlt
          have hc1 : wr.cell? ⟨w1.heap.size, P1, none⟩ = some (vW (mv s P1)) := by rw [kab h4]; exact kcv _ (by omega)
          have hc2 : wr.cell? ⟨w1.heap.size, P2, none⟩ = some (vW (mv s P2)) := by rw [kab h4]; exact kcv _ (by omega)
          have hc3 : wr.cell? ⟨w.heap.size, k, none⟩ = some (vW (oK (mv s) s k k)) := by rw [kab h0]; exact kcv _ hlt
          have hf := kai h0 k
          obtain ⟨N1, hN1⟩ : ∃ N1, ~~~ mv s P1 = N1 := ⟨_, rfl⟩
          obtain ⟨D, hD⟩ : ∃ D, N1 &&& mv s P2 = D := ⟨_, rfl⟩
          obtain ⟨V, hV⟩ : ∃ V, mv s k ^^^ D = V := ⟨_, rfl⟩
          have hx1 := k2y (mv s P1)
          rw [hN1] at hx1
          have hx2 := k24 N1 (mv s P2)
          rw [hD] at hx2
          have hx3 := kog (mv s k) D
          rw [hV] at hx3
          have hVV : chi (mv s) k = V := by
           have e1 : (k + 1) % 5 = X1 := hX1
           have e2 : (k + 2) % 5 = X2 := hX2
           unfold chi
           rw [hX, e1, e2, hr, hP1, hP2, hN1, hD, hV]
          have HV := hdd hVV
          clear hN1 hD hV hVV
          have H0 := hdd h0
          have H2 := hdd h2
          have H4 := hdd h4
          have HB := hdd hB
          have HX := hdd hX
          have HX1 := hdd hX1
          have HX2 := hdd hX2
          have HP1 := hdd hP1
          have HP2 := hdd hP2
          have Hr := hdd hr
          clear h0 h2 h4 hB hX hX1 hX2 hP1 hP2 hr
          go_wp2
          go_still_tail 22, (by kernel_rfl)
          change wpList _ _ _ _ _ wr.drew
          go_wp2
          go_roundw
          case rel =>
           have hBq : Below w.heap.size w (wr.setCell ⟨w.heap.size, k, none⟩ (vW V)) := HB.out.setCell (Nat.le_refl _) _
           refine ⟨_, _, _, ⟨k + 1, by omega, rfl, ?_, ?_, ?_, ?_⟩, rfl, rfl, rfl⟩
           · have h := kfo H0.out k V
             rw [← HV.out, k0c] at h
             rw [← HV.out]
             exact h
           · exact ka0 (p := ⟨w.heap.size, k, none⟩) H2.out (by show _ ≠ w.heap.size; omega)
           · exact ka0 (p := ⟨w.heap.size, k, none⟩) H4.out (by show _ ≠ w.heap.size; omega)
           · exact ⟨hBq.os, hBq.tape, hBq.output, hBq.size, hBq.block⟩
          case measure => simp [intOf]; omega
        · obtain ⟨w3, rfl⟩ : ∃ w3, w3 = wr := ⟨_, rfl⟩
          obtain rfl : k = 25 := by omega
          have hc0 : w3.cell? ⟨w.heap.size, 0, none⟩ = some (vW (oK (mv s) s 25 0)) := by rw [kab h0]; exact kcv _ (by omega)
          have hf := kai h0 0
          have hx := kog (oK (mv s) s 25 0) c
          have hr := kfo h0 0 (oK (mv s) s 25 0 ^^^ c)
          have hr := kfl hr (kze s s c)
          have hr2 := ka0 (p := ⟨w.heap.size, 0, none⟩) (v := vW (oK (mv s) s 25 0 ^^^ c)) h2 (by show _ ≠ w.heap.size; omega)
          have hBq : Below w.heap.size w (w3.setCell ⟨w.heap.size, 0, none⟩ (vW (oK (mv s) s 25 0 ^^^ c))) := hB.setCell (Nat.le_refl _) _
          have HR := hdd hr
          have HR2 := hdd hr2
          have HB := hdd hBq
          clear h0 h2 h4 hB hr hr2 hBq
          go_wp2_with (first
           | (refine wpList_load_row rfl 210 _ rfl w.heap.size rfl 210 (wA 25 (rnd s c)) (0, 0) _ HR.out rfl rfl (by rw [kaw]; kernel_rfl) ?_)
           | (refine kbb rfl 210 _ _ rfl (w.heap.size + 2) rfl (wA 25 (rnd s c)) rfl 210 _ HR2.out (by rw [kaw]; kernel_rfl) (by rw [kaw, kaw]) (ke3 _ _) ?_))
          refine kcr rfl (w.heap.size + 2) 210 _ (0, 0) _ rfl (kg0 HR2.out) rfl rfl (by rw [kaw]; kernel_rfl) rfl ?_
          exact ⟨rfl, Below.setRow' HB.out (by omega) _⟩
theorem kuy : kl5.toArray.all (·.oneCell') = true := by kernel_rfl
theorem koi (s : Sha.St) (w : World) :
 Calls Tryz.prog 233 #[.agg (wA 25 s)] w fun e w' => e = .returned (.agg (wA 25 (kzf s))) ∧ Below w.heap.size w w' := by
 obtain ⟨A, hA⟩ : ∃ A, wA 25 s = A := ⟨_, rfl⟩
 obtain ⟨C, hC⟩ : ∃ C, kus.toArray = C := ⟨_, rfl⟩
 obtain ⟨O, hO⟩ : ∃ O, kl5.toArray = O := ⟨_, rfl⟩
 have HOff := hdd (fun w => ko1 w)
 have HCon := hdd (fun w => kl1 w)
 rw [hC] at HCon
 rw [hO] at HOff
 have hOs : (Tryz.prog.info? 278).map (·.size) = some O.size := by rw [← hO]; kernel_rfl
 have hO1 : O.all (·.oneCell') = true := by rw [← hO]; exact kuy
 have hO2 : O.size = 25 := by rw [← hO]; rfl
 rw [hA]
 have HA := hdd hA
 have HC := hdd hC
 have HO := hdd hO
 have HOs := hdd hOs
 have HO1 := hdd hO1
 have HO2 := hdd hO2
 have hsA : A.size = 25 := by rw [← HA.out]; exact kaw _ _
 have HsA := hdd hsA
 clear hA hC hO hsA hOs hO1 hO2
 go_enter Tryz.func233, Tryz.ntmps233
 go_wp2_with fail
 go_at_call 245
 refine (HOff.out _).mono ?_
 rintro e w1 ⟨rfl, hb⟩
 have h0 := kad hb (k := w.heap.size) (by simp; omega) (kaq (kak w (.cells A 210)))
 have h1 := kad hb (k := w.heap.size + 1) (o := .cells (wA 25 fun _ => 0) 210) (by simp) (kaj (by simp) rfl)
 have hB := (((Below.refl w.heap.size w).alloc (Nat.le_refl _) (.cells A 210)).alloc (by simp) _).trans (hb.mono (by simp; omega))
 have hz : w.heap.size + 1 < w1.heap.size := kac h1
 have H0 := hdd h0
 have H1 := hdd h1
 have HB := hdd hB
 clear h0 h1 hB hb
 go_wp2_with (first
  | (go_at_call 246; refine (HCon.out _).mono ?_; rintro e w2 ⟨rfl, hb2⟩; have Hb2 := hdd hb2; clear hb2)
  | (refine kbb rfl 278 _ _ rfl w1.heap.size rfl O rfl 278 _ (kaj rfl rfl) HOs.out (by rw [HO2.out]; kernel_rfl) HO1.out ?_))
 have H0 := hdd ((kad Hb2.out (k := w.heap.size) (by simp; omega) (kht (kaq H0.out) (by omega))))
 have H1 := hdd ((kad Hb2.out (k := w.heap.size + 1) (by simp; omega) (kht (kaq H1.out) (by omega))))
 have H3 := hdd ((kad Hb2.out (k := w1.heap.size) (by simp) (kg0 (kak _ _))))
 have HB2 := hdd (((HB.out.alloc (by omega) _).setRow' (by omega) O).trans (Hb2.out.mono (by simp; omega)))
 clear Hb2
 go_loopw [8] (fun i wr => ∃ k : Nat, k ≤ 24 ∧ i = .int .i64 k ∧ wr.heap[w.heap.size]? = some (.cells (wA 25 (koh s k)) 210) ∧ wr.heap[w.heap.size + 1]? = some (.cells (wA 25 fun _ => 0) 210) ∧ wr.heap[w1.heap.size]? = some (.cells O 278) ∧ Below w.heap.size w wr) (fun i _ => 24 - (intOf i).toNat)
 case atStart => exact ⟨0, by omega, rfl, by rw [show koh s 0 = s from rfl, HA.out]; exact H0.out, H1.out, H3.out, HB2.out⟩
 case round =>
  obtain ⟨k, hk, rfl, h0, h1, h3, hB⟩ := hrel
  have G0 := hdd h0
  have G1 := hdd h1
  have G3 := hdd h3
  have GB := hdd hB
  clear h0 h1 h3 hB
  by_cases hlt : k < 24
  · have hCk : C[k]? = some (vW (con k)) := by rw [← HC.out]; simpa using kqs k hlt
    have hidx := kfs (P := Tryz.prog) (t := 280) rfl Tryz.isAgg209 Tryz.sizeOf209 hlt hCk
    clear hCk
    have HR := hdd (fun w => kti (koh s k) (con k) w)
    rw [HO.out] at HR
    go_wp2_with (first
     | (refine wpList_load_row rfl 210 _ rfl w.heap.size rfl 210 _ (0, 0) _ G0.out rfl rfl (by rw [kaw]; kernel_rfl) ?_)
     | (refine wpList_load_row rfl 278 _ rfl w1.heap.size rfl 278 O (0, 0) _ G3.out rfl rfl HOs.out ?_)
     | (go_at_call 247; refine (HR.out _).mono ?_; rintro e w3 ⟨rfl, hb3⟩; have Hb3 := hdd hb3; clear hb3)
     | (refine kbb rfl 210 _ _ rfl w.heap.size rfl _ rfl 210 _ (kad Hb3.out (kac G0.out) G0.out) (by rw [kaw]; kernel_rfl) (by rw [kaw, kaw]) (ke3 _ _) ?_))
    go_roundw
    case rel =>
     refine ⟨k + 1, by omega, by go_num, kg0 (kad Hb3.out (kac G0.out) G0.out), kht (kad Hb3.out (kac G1.out) G1.out) (by omega), kht (kad Hb3.out (kac G3.out) G3.out) (by omega), ?_⟩
     exact (GB.out.trans (Hb3.out.mono GB.out.size)).setRow' (Nat.le_refl _) _
    case measure => simp [intOf]; omega
  · obtain rfl : k = 24 := by omega
    go_wp2_with (first
     | (refine wpList_load_row rfl 210 _ rfl w.heap.size rfl 210 _ (0, 0) _ G0.out rfl rfl (by rw [kaw]; kernel_rfl) ?_)
     | (refine kbb rfl 210 _ _ rfl (w.heap.size + 1) rfl _ rfl 210 _ G1.out (by rw [kaw]; kernel_rfl) (by rw [kaw, kaw]) (ke3 _ _) ?_))
    refine kcr rfl (w.heap.size + 1) 210 _ (0, 0) _ rfl (kg0 G1.out) rfl rfl (by rw [kaw]; kernel_rfl) rfl ?_
    exact ⟨rfl, Below.setRow' GB.out (by omega) _⟩
end Go.Proofs.YtknpbekoenbphaaGreatDoor
