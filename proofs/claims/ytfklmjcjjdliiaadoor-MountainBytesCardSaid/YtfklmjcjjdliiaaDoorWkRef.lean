/- The reference reader of layer 2: Count, fail, Close, Number and Text do what the plain functions say; for a reader that lies in a block of its own. -/
import Derived.Test.YtfklmjcjjdliiaaDoorRd
import Derived.Test.YtfklmjcjjdliiaaDoorProg
namespace Go.Proofs.YtfklmjcjjdliiaaDoor
open Go Go.RowKit Licit

abbrev RRdr := Rd 77
abbrev RRdrTo := RdTo 77
abbrev RRdrToL := RdToL 77

def rcntV : (Int × Nat) ⊕ Bool → Value
  | .inl (n, i) => .tuple #[.int .i64 n, .int .i64 i, .bool false]
  | .inr b => .tuple #[.int .i64 0, .int .i64 (-1), .bool b]

set_option maxHeartbeats 400000 in
theorem rcount_any (s : ByteArray) (most e : Int) (w : World) (hs : s.size ≤ maxLen) (hm0 : 0 ≤ most) (hm1 : most ≤ 281474976710656) (he0 : 0 ≤ e) (he1 : e ≤ 255) :
    Calls Tryd.prog 89 #[.string s, .int .i64 most, .int .u8 e] w fun e' w' => e' = .returned (rcntV (cnt most e 0 0 s.data.toList)) ∧ w = w' := by
  unfold maxLen at hs
  go_enter Tryd.func89, Tryd.ntmps89
  go_wp2
  go_loop [9, 10] (fun n i => ∃ (k : Nat) (v : Int), k ≤ s.size ∧ i = .int .i64 k ∧ n = .int .i64 v ∧ 0 ≤ v ∧ v ≤ most ∧ (k = 0 → v = 0) ∧ (2 ≤ k → 1 ≤ v) ∧ Hid (cnt most e k v (s.data.toList.drop k) = cnt most e 0 0 s.data.toList)) (fun _ i => s.size - (intOf i).toNat)
  case atStart => exact ⟨0, 0, Nat.zero_le _, rfl, rfl, by omega, by omega, by omega, by omega, rfl⟩
  case round =>
    obtain ⟨k, v, hk, rfl, rfl, hv0, hv1, hv2, hv3, H⟩ := hrel
    by_cases hlt : k < s.size
    · go_wp2
      all_goals try simp only [beq_iff_eq, beq_eq_false_iff_ne, ne_eq] at *
      all_goals first
        | (go_ret3; have R := cnt_found hlt H.out (by omega) (by omega); exact ⟨by rw [R]; rfl, rfl⟩)
        | (go_ret3; have R := cnt_bad hlt H.out (by omega) (by omega); exact ⟨by rw [R]; rfl, rfl⟩)
        | (go_round
           case rel =>
             have R := cnt_go hlt H.out (by omega) (by omega) (by omega)
             exact ⟨k + 1, 10 * v + ((s[k].toNat : Int) - 48), by omega, congrArg (Value.int .i64) (by omega), congrArg (Value.int .i64) (by omega), by omega, by omega, by omega, by omega, R⟩
           case measure => simp [intOf]; omega)
    · have HA := cnt_end most e s k v (by omega)
      rw [H.out] at HA
      have HA' := Lib.hid HA
      clear H HA
      obtain rfl : k = s.size := by omega
      go_wp2
      go_ret3
      exact ⟨by rw [HA'.out]; rfl, rfl⟩

theorem rcount_is {s : ByteArray} {most e : Int} {v : Value} (w : World) (hs : s.size ≤ maxLen) (hm0 : 0 ≤ most) (hm1 : most ≤ 281474976710656) (he0 : 0 ≤ e) (he1 : e ≤ 255) (hv : rcntV (cnt most e 0 0 s.data.toList) = v) :
    Calls Tryd.prog 89 #[.string s, .int .i64 most, .int .u8 e] w fun e' w' => e' = .returned v ∧ w = w' := by
  subst hv; exact rcount_any s most e w hs hm0 hm1 he0 he1

theorem rfail_any (r : Nat) (s : ByteArray) (E0 E : Int) (w : World) (h : RRdr r s E0 w) :
    Calls Tryd.prog 90 #[.pointer (some ⟨r, 0, none⟩), .int .i64 E] w fun e w' => e = .returned (.tuple #[]) ∧ RRdr r (B []) E w' ∧ Kept (One r) w w' := by
  have c0 := h.c0
  have f0 := h.f 0
  have hA := h.put0 (B [])
  have hA0 : (w.setCell ⟨r, 0, none⟩ (.string ⟨#[]⟩)).cell? ⟨r, 1, none⟩ = some (.int .i64 E0) := hA.c1
  have hA1 : (w.setCell ⟨r, 0, none⟩ (.string ⟨#[]⟩)).frozen? ⟨r, 1, none⟩ = false := hA.f 1
  have c1 := h.c1
  have f1 := h.f 1
  have HA := Lib.hid hA
  clear h hA
  go_enter Tryd.func90, Tryd.ntmps90
  go_wp2
  go_end0
  exact ⟨rfl, HA.out.put1 _, ((Kept.refl (One r) _).setCell (p := ⟨r, 0, none⟩) (.inr rfl) _).setCell (p := ⟨r, 1, none⟩) (.inr rfl) _⟩

theorem rclose_any (r : Nat) (s : ByteArray) (E : Int) (w : World) (h : RRdr r s E w) :
    Calls Tryd.prog 71 #[.pointer (some ⟨r, 0, none⟩)] w fun e w' => e = .returned (.int .i64 (rdClose (s.data.toList, E))) ∧ w = w' := by
  have c0 := h.c0
  have c1 := h.c1
  clear h
  by_cases h0 : E = 0
  · subst h0
    by_cases hs : s.data.toList = []
    · have hs' : (!s.toList.isEmpty) = false := by rw [ByteArray.toList_eq, hs]; rfl
      have R : rdClose (s.data.toList, 0) = 0 := by rw [hs]; rfl
      have R' := Lib.hid R
      clear R hs
      go_enter Tryd.func71, Tryd.ntmps71
      go_wp2
      go_ret
      exact ⟨by rw [R'.out]; rfl, rfl⟩
    · have hs' : (!s.toList.isEmpty) = true := by rw [ByteArray.toList_eq]; simpa using hs
      have R : rdClose (s.data.toList, 0) = 17 := by simp [rdClose, hs]
      have R' := Lib.hid R
      clear R hs
      go_enter Tryd.func71, Tryd.ntmps71
      go_wp2
      go_ret
      exact ⟨by rw [R'.out]; rfl, rfl⟩
  · have h0' : (E == 0) = false := by simpa using h0
    have R : rdClose (s.data.toList, E) = E := by simp [rdClose, h0]
    have R' := Lib.hid R
    clear R h0
    go_enter Tryd.func71, Tryd.ntmps71
    go_wp2
    go_ret
    exact ⟨by rw [R'.out]; rfl, rfl⟩

set_option maxRecDepth 100000 in
set_option maxHeartbeats 400000 in
theorem rnumber_any (r : Nat) (s : ByteArray) (E low high : Int) (w : World) (h : RRdr r s E w) (hs : s.size ≤ maxLen) :
    Calls Tryd.prog 69 #[.pointer (some ⟨r, 0, none⟩), .int .i64 low, .int .i64 high] w (RRdrTo r w (.int .i64 (rdNum low high (s.data.toList, E)).1) (rdNum low high (s.data.toList, E)).2) := by
  have c0 := h.c0
  have c1 := h.c1
  have f0 := h.f 0
  have H := Lib.hid h
  have Hs := Lib.hid hs
  clear h hs
  by_cases hE : E = 0
  · subst hE
    cases hc : cnt 281474976710656 59 0 0 s.data.toList with
    | inl p =>
      obtain ⟨n, i⟩ := p
      obtain ⟨b0, b1, _, b2, b3⟩ := cnt_bounds _ _ _ (by omega) (by omega) hc
      have hsz : s.data.toList.length = s.size := rfl
      rw [hsz] at b3
      have hmx := Hs.out
      unfold maxLen at hmx
      have HC := Lib.hid (show rcntV (cnt 281474976710656 59 0 0 s.data.toList) = .tuple #[.int .i64 n, .int .i64 i, .bool false] by rw [hc]; rfl)
      by_cases hr : n < low ∨ high < n
      · have R : rdNum low high (s.data.toList, 0) = (0, ([], 3)) := by simp [rdNum, hc, hr]
        have HR := Lib.hid R
        clear R hc hsz
        go_enter Tryd.func69, Tryd.ntmps69
        go_wp2_with (first
          | (go_at_call 89; refine (rcount_is _ Hs.out (by decide) (by decide) (by decide) (by decide) HC.out).mono ?_; rintro e w' ⟨rfl, rfl⟩)
          | (go_at_call 90; refine (rfail_any r s _ _ _ H.out).mono ?_; rintro e w' ⟨rfl, hA, hK⟩))
        all_goals go_ret
        all_goals (refine ⟨?_, ?_, hK⟩ <;> rw [HR.out])
        all_goals first | rfl | exact hA
      · have R : rdNum low high (s.data.toList, 0) = (n, (s.data.toList.drop (i + 1), 0)) := by simp [rdNum, hc, hr]
        have HR := Lib.hid R
        clear R hc hsz
        go_enter Tryd.func69, Tryd.ntmps69
        go_wp2_with (first
          | (go_at_call 89; refine (rcount_is _ Hs.out (by decide) (by decide) (by decide) (by decide) HC.out).mono ?_; rintro e w' ⟨rfl, rfl⟩))
        go_ret
        refine ⟨?_, ?_, (Kept.refl (One r) _).setCell (p := ⟨r, 0, none⟩) (.inr rfl) _⟩
        · rw [HR.out]; rfl
        · rw [HR.out]
          rw [extract_end]
          exact H.out.put0 _
    | inr b =>
      have R : rdNum low high (s.data.toList, 0) = (0, ([], if b then 13 else 17)) := by simp [rdNum, hc]
      have HR := Lib.hid R
      have HC := Lib.hid (show rcntV (cnt 281474976710656 59 0 0 s.data.toList) = .tuple #[.int .i64 0, .int .i64 (-1), .bool b] by rw [hc]; rfl)
      clear R hc
      cases b
      all_goals
        go_enter Tryd.func69, Tryd.ntmps69
        go_wp2_with (first
          | (go_at_call 89; refine (rcount_is _ Hs.out (by decide) (by decide) (by decide) (by decide) HC.out).mono ?_; rintro e w' ⟨rfl, rfl⟩)
          | (go_at_call 90; refine (rfail_any r s _ _ _ H.out).mono ?_; rintro e w' ⟨rfl, hA, hK⟩))
        go_ret
        refine ⟨?_, ?_, hK⟩
        · rw [HR.out]; rfl
        · rw [HR.out]; exact hA
  · have R : rdNum low high (s.data.toList, E) = (0, (s.data.toList, E)) := by simp [rdNum, hE]
    have HR := Lib.hid R
    have hE1 : (E == 0) = false := by simpa using hE
    clear R hE
    go_enter Tryd.func69, Tryd.ntmps69
    go_wp2
    go_ret
    refine ⟨?_, ?_, Kept.refl _ _⟩
    · rw [HR.out]; rfl
    · rw [HR.out]; exact H.out

set_option maxRecDepth 100000 in
set_option maxHeartbeats 800000 in
theorem rtext_any (r : Nat) (s : ByteArray) (E most : Int) (w : World) (h : RRdr r s E w) (hs : s.size ≤ 281474976710656) :
    Calls Tryd.prog 91 #[.pointer (some ⟨r, 0, none⟩), .int .i64 most] w (RRdrTo r w (.string (B (rdText most (s.data.toList, E)).1)) (rdText most (s.data.toList, E)).2) := by
  have c0 := h.c0
  have c1 := h.c1
  have f0 := h.f 0
  have H := Lib.hid h
  have hs' : s.size ≤ maxLen := by unfold maxLen; omega
  have Hs := Lib.hid hs'
  clear h hs'
  by_cases hE : E = 0
  · subst hE
    cases hc : cnt 65536 58 0 0 s.data.toList with
    | inl p =>
      obtain ⟨n, i⟩ := p
      obtain ⟨b0, b1, _, b2, b3⟩ := cnt_bounds _ _ _ (by omega) (by omega) hc
      obtain ⟨m, rfl⟩ := Int.eq_ofNat_of_zero_le b0
      have hsz : s.data.toList.length = s.size := rfl
      rw [hsz] at b3
      have HC := Lib.hid (show rcntV (cnt 65536 58 0 0 s.data.toList) = .tuple #[.int .i64 m, .int .i64 i, .bool false] by rw [hc]; rfl)
      have hb0 : s.extract (i + 1) s.size = B (s.data.toList.drop (i + 1)) := extract_end _ _
      have hbs : (B (s.data.toList.drop (i + 1))).size = s.size - (i + 1) := by rw [B_size, List.length_drop, hsz]
      by_cases h1 : s.size ≤ i + 1 + m
      · have R : rdText most (s.data.toList, 0) = ([], ([], 13)) := by simp [rdText, hc, h1]
        have HR := Lib.hid R
        clear R hc hsz hb0 hbs
        go_enter Tryd.func91, Tryd.ntmps91
        go_wp2_with (first
          | (go_at_call 89; refine (rcount_is _ Hs.out (by decide) (by decide) (by decide) (by decide) HC.out).mono ?_; rintro e w' ⟨rfl, rfl⟩)
          | (go_at_call 90; refine (rfail_any r s _ _ _ H.out).mono ?_; rintro e w' ⟨rfl, hA, hK⟩))
        all_goals go_ret
        all_goals (refine ⟨?_, ?_, hK⟩ <;> rw [HR.out])
        all_goals first | rfl | exact hA
      · have hlt : i + 1 + m < s.size := by omega
        have hgt : s.data.toList[i + 1 + m]? = some s[i + 1 + m] := by
          rw [List.getElem?_eq_getElem (by rw [hsz]; exact hlt)]; rfl
        have hgi : ∀ (hh : m < (s.extract (i + 1) s.size).size), (s.extract (i + 1) s.size)[m] = s[i + 1 + m] := fun hh => by rw [ByteArray.getElem_extract]
        by_cases h2 : s[i + 1 + m] = 44
        · have h2' : (s[i + 1 + m].toNat : Int) = 44 := by rw [h2]; rfl
          have H2 := Lib.hid h2
          clear h2
          by_cases h3 : most < (m : Int)
          · have R : rdText most (s.data.toList, 0) = ([], ([], 10)) := by simp [rdText, hc, h1, hgt, H2.out, h3]
            have HR := Lib.hid R
            clear R hc hsz hgt hb0 hbs
            go_enter Tryd.func91, Tryd.ntmps91
            go_wp2_with (first
              | (go_at_call 89; refine (rcount_is _ Hs.out (by decide) (by decide) (by decide) (by decide) HC.out).mono ?_; rintro e w' ⟨rfl, rfl⟩)
              | (go_at_call 90; refine (rfail_any r s _ _ _ H.out).mono ?_; rintro e w' ⟨rfl, hA, hK⟩))
            go_ret
            refine ⟨?_, ?_, hK⟩
            · rw [HR.out]; rfl
            · rw [HR.out]; exact hA
          · have R : rdText most (s.data.toList, 0) = ((s.data.toList.drop (i + 1)).take m, (s.data.toList.drop (i + 1 + m + 1), 0)) := by simp [rdText, hc, h1, hgt, H2.out, h3]
            have HR := Lib.hid R
            clear R hc hsz hgt hb0 hbs
            go_enter Tryd.func91, Tryd.ntmps91
            go_wp2_with (first
              | (go_at_call 89; refine (rcount_is _ Hs.out (by decide) (by decide) (by decide) (by decide) HC.out).mono ?_; rintro e w' ⟨rfl, rfl⟩))
            go_ret
            refine ⟨?_, ?_, (Kept.refl (One r) _).setCell (p := ⟨r, 0, none⟩) (.inr rfl) _⟩
            · rw [HR.out]
              show Ending.returned (Value.string _) = Ending.returned (Value.string _)
              rw [extract_end, extract_B, B_list, Nat.sub_zero, List.drop_zero]
            · rw [HR.out]
              have he : (s.extract (i + 1) s.size).extract (m + 1) (s.size - (i + 1)) = B (s.data.toList.drop (i + 1 + m + 1)) := by
                rw [extract_end, extract_B, B_list, List.drop_drop, List.take_of_length_le (by rw [List.length_drop, size_list]; omega), show i + 1 + (m + 1) = i + 1 + m + 1 by omega]
              rw [he]
              exact H.out.put0 _
        · have R : rdText most (s.data.toList, 0) = ([], ([], 17)) := by simp [rdText, hc, h1, hgt, h2]
          have HR := Lib.hid R
          have h2' : ((s[i + 1 + m].toNat : Int) == 44) = false := by
            rw [beq_eq_false_iff_ne]
            intro e
            exact h2 (UInt8.toNat_inj.1 (by have : ((44 : UInt8).toNat : Int) = 44 := rfl; omega))
          have h2'' : ((s[i + 1 + m].toNat : Int) != 44) = true := by rw [bne, h2']; rfl
          clear R hc hsz hgt h2 hb0 hbs
          go_enter Tryd.func91, Tryd.ntmps91
          go_wp2_with (first
            | (go_at_call 89; refine (rcount_is _ Hs.out (by decide) (by decide) (by decide) (by decide) HC.out).mono ?_; rintro e w' ⟨rfl, rfl⟩)
            | (go_at_call 90; refine (rfail_any r s _ _ _ H.out).mono ?_; rintro e w' ⟨rfl, hA, hK⟩))
          go_ret
          refine ⟨?_, ?_, hK⟩
          · rw [HR.out]; rfl
          · rw [HR.out]; exact hA
    | inr b =>
      have R : rdText most (s.data.toList, 0) = ([], ([], if b then 13 else 17)) := by simp [rdText, hc]
      have HR := Lib.hid R
      have HC := Lib.hid (show rcntV (cnt 65536 58 0 0 s.data.toList) = .tuple #[.int .i64 0, .int .i64 (-1), .bool b] by rw [hc]; rfl)
      clear R hc
      cases b
      all_goals
        go_enter Tryd.func91, Tryd.ntmps91
        go_wp2_with (first
          | (go_at_call 89; refine (rcount_is _ Hs.out (by decide) (by decide) (by decide) (by decide) HC.out).mono ?_; rintro e w' ⟨rfl, rfl⟩)
          | (go_at_call 90; refine (rfail_any r s _ _ _ H.out).mono ?_; rintro e w' ⟨rfl, hA, hK⟩))
        go_ret
        refine ⟨?_, ?_, hK⟩
        · rw [HR.out]; rfl
        · rw [HR.out]; exact hA
  · have R : rdText most (s.data.toList, E) = ([], (s.data.toList, E)) := by simp [rdText, hE]
    have HR := Lib.hid R
    have hE1 : (E == 0) = false := by simpa using hE
    clear R hE
    go_enter Tryd.func91, Tryd.ntmps91
    go_wp2
    go_ret
    refine ⟨?_, ?_, Kept.refl _ _⟩
    · rw [HR.out]; rfl
    · rw [HR.out]; exact H.out

end Go.Proofs.YtfklmjcjjdliiaaDoor
