/- The readers methods NewReader, Err, Left, Close, fail, Number and Text of package codec do what the plain functions say; for a reader that lies in a block of its own. -/
import Derived.Test.YtfklmjcjjdliiaaDoorShelf
import Derived.Test.YtfklmjcjjdliiaaDoorRd
import Derived.Test.YtfklmjcjjdliiaaDoorWkCount
namespace Go.Proofs.YtfklmjcjjdliiaaDoor
open Go Go.RowKit Licit

abbrev Rdr := Rd 87
abbrev RdrTo := RdTo 87
abbrev RdrToL := RdToL 87

theorem newReader_any (s : ByteArray) (w : World) :
    Calls Tryd.prog 65 #[.string s] w fun e w' => e = .returned (.pointer (some ⟨w.heap.size, 0, none⟩)) ∧ w' = w.alloc (.cells #[.string s, .int .i64 0] 87) := by
  go_enter Tryd.func65, Tryd.ntmps65
  go_wp2
  go_ret
  exact ⟨rfl, rfl⟩

theorem close_any (r : Nat) (s : ByteArray) (E : Int) (w : World) (h : Rdr r s E w) :
    Calls Tryd.prog 68 #[.pointer (some ⟨r, 0, none⟩)] w fun e w' => e = .returned (.int .i64 (rdClose (s.data.toList, E))) ∧ w = w' := by
  have c0 := h.c0
  have c1 := h.c1
  clear h
  by_cases h0 : E = 0
  · subst h0
    by_cases hs : s.data.toList = []
    · have hs' : (!s.toList.isEmpty) = false := by rw [ByteArray.toList_eq, hs]; rfl
      have R : rdClose (s.data.toList, 0) = 0 := by rw [hs]; rfl
      have R' := Lib.hid R
      clear R hs
      go_enter Tryd.func68, Tryd.ntmps68
      go_wp2
      go_ret
      exact ⟨by rw [R'.out]; rfl, rfl⟩
    · have hs' : (!s.toList.isEmpty) = true := by rw [ByteArray.toList_eq]; simpa using hs
      have R : rdClose (s.data.toList, 0) = 17 := by simp [rdClose, hs]
      have R' := Lib.hid R
      clear R hs
      go_enter Tryd.func68, Tryd.ntmps68
      go_wp2
      go_ret
      exact ⟨by rw [R'.out]; rfl, rfl⟩
  · have h0' : (E == 0) = false := by simpa using h0
    have R : rdClose (s.data.toList, E) = E := by simp [rdClose, h0]
    have R' := Lib.hid R
    clear R h0
    go_enter Tryd.func68, Tryd.ntmps68
    go_wp2
    go_ret
    exact ⟨by rw [R'.out]; rfl, rfl⟩

theorem fail_any (r : Nat) (s : ByteArray) (E : Int) (w : World) (h : Rdr r s 0 w) :
    Calls Tryd.prog 85 #[.pointer (some ⟨r, 0, none⟩), .int .i64 E] w fun e w' => e = .returned (.tuple #[]) ∧ Rdr r (B []) E w' ∧ Kept (One r) w w' := by
  have c0 := h.c0
  have c1 := h.c1
  have f0 := h.f 0
  have f1 := h.f 1
  have hA := h.put1 E
  have hA0 := hA.c0
  have hA1 := hA.f 0
  have HA := Lib.hid hA
  clear h hA
  go_enter Tryd.func85, Tryd.ntmps85
  go_wp2
  go_end0
  exact ⟨rfl, HA.out.put0 _, ((Kept.refl (One r) _).setCell (p := ⟨r, 1, none⟩) (.inr rfl) _).setCell (p := ⟨r, 0, none⟩) (.inr rfl) _⟩

theorem clone_any (s : ByteArray) (w : World) (hs : s.size ≤ 281474976710656) :
    Calls Tryd.prog 105 #[.string s] w fun e w' => e = .returned (.string s) ∧ Below w.heap.size w w' := by
  go_enter Tryd.func105, Tryd.ntmps105
  go_wp2_with (go_at_call 113; refine (Tryd.stringslite_Clone s _ hs).mono ?_; rintro e w' ⟨rfl, hb⟩)
  go_ret
  exact ⟨rfl, hb⟩

theorem number_any (r : Nat) (s : ByteArray) (E low high : Int) (w : World) (h : Rdr r s E w) (hs : s.size ≤ maxLen) :
    Calls Tryd.prog 66 #[.pointer (some ⟨r, 0, none⟩), .int .i64 low, .int .i64 high] w (RdrTo r w (.int .i64 (rdNum low high (s.data.toList, E)).1) (rdNum low high (s.data.toList, E)).2) := by
  have c0 := h.c0
  have c1 := h.c1
  have f0 := h.f 0
  have H := Lib.hid h
  have Hs := Lib.hid hs
  clear h hs
  by_cases hE : E = 0
  · subst hE
    cases hc : cnt 281474976710656 59 0 0 s.data.toList with
    | inl p =>
      obtain ⟨n, i⟩ := p
      obtain ⟨b0, b1, _, b2, b3⟩ := cnt_bounds _ _ _ (by omega) (by omega) hc
      have hsz : s.data.toList.length = s.size := rfl
      rw [hsz] at b3
      have hmx := Hs.out
      unfold maxLen at hmx
      have HC := Lib.hid hc
      by_cases hr : n < low ∨ high < n
      · have R : rdNum low high (s.data.toList, 0) = (0, ([], 3)) := by simp [rdNum, hc, hr]
        have HR := Lib.hid R
        clear R hc hsz
        go_enter Tryd.func66, Tryd.ntmps66
        go_wp2_with (first
          | (go_at_call 84; refine (count_ok r s _ _ _ c0 Hs.out (by decide) (by decide) (by decide) (by decide) HC.out).mono ?_; rintro e w' ⟨rfl, rfl⟩)
          | (go_at_call 85; refine (fail_any r s _ _ H.out).mono ?_; rintro e w' ⟨rfl, hA, hK⟩))
        all_goals go_ret
        all_goals (refine ⟨?_, ?_, hK⟩ <;> rw [HR.out])
        all_goals first | rfl | exact hA
      · have R : rdNum low high (s.data.toList, 0) = (n, (s.data.toList.drop (i + 1), 0)) := by simp [rdNum, hc, hr]
        have HR := Lib.hid R
        clear R hc hsz
        go_enter Tryd.func66, Tryd.ntmps66
        go_wp2_with (first
          | (go_at_call 84; refine (count_ok r s _ _ _ c0 Hs.out (by decide) (by decide) (by decide) (by decide) HC.out).mono ?_; rintro e w' ⟨rfl, rfl⟩))
        go_ret
        refine ⟨?_, ?_, (Kept.refl (One r) _).setCell (p := ⟨r, 0, none⟩) (.inr rfl) _⟩
        · rw [HR.out]; rfl
        · rw [HR.out]
          rw [extract_end]
          exact H.out.put0 _
    | inr b =>
      have R : rdNum low high (s.data.toList, 0) = (0, ([], if b then 13 else 17)) := by simp [rdNum, hc]
      have HR := Lib.hid R
      have HC := Lib.hid hc
      clear R hc
      go_enter Tryd.func66, Tryd.ntmps66
      go_wp2_with (first
        | (go_at_call 84; refine (count_no r s _ _ _ c0 Hs.out (by decide) (by decide) (by decide) (by decide) HC.out).mono ?_; rintro e w' ⟨E, hE, hE0, rfl, rfl⟩; have HE := Lib.hid hE; clear hE; have hE1 : (E == 0) = false := by simpa using hE0)
        | (go_at_call 85; refine (fail_any r s _ _ H.out).mono ?_; rintro e w' ⟨rfl, hA, hK⟩))
      go_ret
      refine ⟨?_, ?_, hK⟩
      · rw [HR.out]; rfl
      · rw [HR.out, ← HE.out]; exact hA
  · have R : rdNum low high (s.data.toList, E) = (0, (s.data.toList, E)) := by simp [rdNum, hE]
    have HR := Lib.hid R
    have hE1 : (E == 0) = false := by simpa using hE
    clear R hE
    go_enter Tryd.func66, Tryd.ntmps66
    go_wp2
    go_ret
    refine ⟨?_, ?_, Kept.refl _ _⟩
    · rw [HR.out]; rfl
    · rw [HR.out]; exact H.out

set_option maxRecDepth 100000 in
set_option maxHeartbeats 400000 in
theorem text_any (r : Nat) (s : ByteArray) (E most : Int) (w : World) (h : Rdr r s E w) (hs : s.size ≤ 281474976710656) :
    Calls Tryd.prog 88 #[.pointer (some ⟨r, 0, none⟩), .int .i64 most] w (RdrTo r w (.string (B (rdText most (s.data.toList, E)).1)) (rdText most (s.data.toList, E)).2) := by
  have c0 := h.c0
  have c1 := h.c1
  have f0 := h.f 0
  have H := Lib.hid h
  have hs' : s.size ≤ maxLen := by unfold maxLen; omega
  have Hs := Lib.hid hs'
  clear h hs'
  by_cases hE : E = 0
  · subst hE
    cases hc : cnt 65536 58 0 0 s.data.toList with
    | inl p =>
      obtain ⟨n, i⟩ := p
      obtain ⟨b0, b1, _, b2, b3⟩ := cnt_bounds _ _ _ (by omega) (by omega) hc
      obtain ⟨m, rfl⟩ := Int.eq_ofNat_of_zero_le b0
      have hsz : s.data.toList.length = s.size := rfl
      rw [hsz] at b3
      have HC := Lib.hid hc
      by_cases h1 : s.size ≤ i + 1 + m
      · have R : rdText most (s.data.toList, 0) = ([], ([], 13)) := by simp [rdText, hc, h1]
        have HR := Lib.hid R
        clear R hc hsz
        go_enter Tryd.func88, Tryd.ntmps88
        go_wp2_with (first
          | (go_at_call 84; refine (count_ok r s _ _ _ c0 Hs.out (by decide) (by decide) (by decide) (by decide) HC.out).mono ?_; rintro e w' ⟨rfl, rfl⟩)
          | (go_at_call 85; refine (fail_any r s _ _ H.out).mono ?_; rintro e w' ⟨rfl, hA, hK⟩))
        all_goals go_ret
        all_goals (refine ⟨?_, ?_, hK⟩ <;> rw [HR.out])
        all_goals first | rfl | exact hA
      · have hlt : i + 1 + m < s.size := by omega
        have hgt : s.data.toList[i + 1 + m]? = some s[i + 1 + m] := by
          rw [List.getElem?_eq_getElem (by rw [hsz]; exact hlt)]; rfl
        by_cases h2 : s[i + 1 + m] = 44
        · have h2' : (s[i + 1 + m].toNat : Int) = 44 := by rw [h2]; rfl
          have H2 := Lib.hid h2
          clear h2
          by_cases h3 : most < (m : Int)
          · have R : rdText most (s.data.toList, 0) = ([], ([], 10)) := by simp [rdText, hc, h1, hgt, H2.out, h3]
            have HR := Lib.hid R
            clear R hc hsz hgt
            go_enter Tryd.func88, Tryd.ntmps88
            go_wp2_with (first
              | (go_at_call 84; refine (count_ok r s _ _ _ c0 Hs.out (by decide) (by decide) (by decide) (by decide) HC.out).mono ?_; rintro e w' ⟨rfl, rfl⟩)
              | (go_at_call 85; refine (fail_any r s _ _ H.out).mono ?_; rintro e w' ⟨rfl, hA, hK⟩))
            all_goals go_ret
            all_goals (refine ⟨?_, ?_, hK⟩ <;> rw [HR.out])
            all_goals first | rfl | exact hA
          · have R : rdText most (s.data.toList, 0) = ((s.data.toList.drop (i + 1)).take m, (s.data.toList.drop (i + 1 + m + 1), 0)) := by simp [rdText, hc, h1, hgt, H2.out, h3]
            have HR := Lib.hid R
            clear R hc hsz hgt
            have hcl : (s.extract (i + 1) (i + 1 + m)).size ≤ 281474976710656 := by rw [ByteArray.size_extract]; omega
            go_enter Tryd.func88, Tryd.ntmps88
            go_wp2_with (first
              | (go_at_call 84; refine (count_ok r s _ _ _ c0 Hs.out (by decide) (by decide) (by decide) (by decide) HC.out).mono ?_; rintro e w' ⟨rfl, rfl⟩)
              | (go_at_call 105; refine (clone_any _ _ hcl).mono ?_; rintro e w1 ⟨rfl, hb⟩; have hA := H.out.below hb; have d0 := hA.c0; have g0 := hA.f 0; have HA := Lib.hid hA; clear hA))

            go_ret
            refine ⟨?_, ?_, (Kept.of_below (S := One r) hb).setCell (p := ⟨r, 0, none⟩) (.inr rfl) _⟩
            · rw [HR.out, extract_B]
              simp only [Nat.add_sub_cancel_left]
              rfl
            · rw [HR.out, extract_end]
              exact HA.out.put0 _
        · have R : rdText most (s.data.toList, 0) = ([], ([], 17)) := by simp [rdText, hc, h1, hgt, h2]
          have HR := Lib.hid R
          have h2' : ((s[i + 1 + m].toNat : Int) == 44) = false := by
            rw [beq_eq_false_iff_ne]
            intro e
            exact h2 (UInt8.toNat_inj.1 (by have : ((44 : UInt8).toNat : Int) = 44 := rfl; omega))
          have h2'' : ((s[i + 1 + m].toNat : Int) != 44) = true := by rw [bne, h2']; rfl
          clear R hc hsz hgt h2
          go_enter Tryd.func88, Tryd.ntmps88
          go_wp2_with (first
            | (go_at_call 84; refine (count_ok r s _ _ _ c0 Hs.out (by decide) (by decide) (by decide) (by decide) HC.out).mono ?_; rintro e w' ⟨rfl, rfl⟩)
            | (go_at_call 85; refine (fail_any r s _ _ H.out).mono ?_; rintro e w' ⟨rfl, hA, hK⟩))
          all_goals go_ret
          all_goals (refine ⟨?_, ?_, hK⟩ <;> rw [HR.out])
          all_goals first | rfl | exact hA
    | inr b =>
      have R : rdText most (s.data.toList, 0) = ([], ([], if b then 13 else 17)) := by simp [rdText, hc]
      have HR := Lib.hid R
      have HC := Lib.hid hc
      clear R hc
      go_enter Tryd.func88, Tryd.ntmps88
      go_wp2_with (first
        | (go_at_call 84; refine (count_no r s _ _ _ c0 Hs.out (by decide) (by decide) (by decide) (by decide) HC.out).mono ?_; rintro e w' ⟨E, hE, hE0, rfl, rfl⟩; have HE := Lib.hid hE; clear hE; have hE1 : (E == 0) = false := by simpa using hE0)
        | (go_at_call 85; refine (fail_any r s _ _ H.out).mono ?_; rintro e w' ⟨rfl, hA, hK⟩))
      go_ret
      refine ⟨?_, ?_, hK⟩
      · rw [HR.out]; rfl
      · rw [HR.out, ← HE.out]; exact hA
  · have R : rdText most (s.data.toList, E) = ([], (s.data.toList, E)) := by simp [rdText, hE]
    have HR := Lib.hid R
    have hE1 : (E == 0) = false := by simpa using hE
    clear R hE
    go_enter Tryd.func88, Tryd.ntmps88
    go_wp2
    go_ret
    refine ⟨?_, ?_, Kept.refl _ _⟩
    · rw [HR.out]; rfl
    · rw [HR.out]; exact H.out

end Go.Proofs.YtfklmjcjjdliiaaDoor
