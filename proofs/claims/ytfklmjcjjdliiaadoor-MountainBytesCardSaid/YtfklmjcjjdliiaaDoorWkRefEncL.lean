/- Numbers and Texts of the reference of layer 2 return the bytes that the plain functions say; for lists that can be read. -/
import Derived.Test.YtfklmjcjjdliiaaDoorWkRefEnc
namespace Go.Proofs.YtfklmjcjjdliiaaDoor
open Go Go.RowKit Licit

theorem reAll_at {α : Type} (one : α → Bs × Int) (xs : List α) (acc : Bs) (k : Nat) (hk : k < xs.length) :
    eAll one (xs.drop k) acc = if (one xs[k]).2 ≠ 0 then ([], (one xs[k]).2) else eAll one (xs.drop (k + 1)) (acc ++ (one xs[k]).1) := by
  rw [List.drop_eq_getElem_cons hk]; rfl
theorem reNum_len (n : Int) (h : n ≤ 9223372036854775807) : (eNum n).1.length ≤ 65600 := by
  unfold eNum
  split
  · simp
  · have := dec_size' (n := n) (by omega) h
    rw [B_size] at this
    simp; omega
theorem reText_len (s : Bs) : (eText s).1.length ≤ 65600 := by
  unfold eText
  split
  · simp
  · have := dec_size' (n := (s.length : Int)) (by omega) (by omega)
    rw [B_size, Int.toNat_natCast] at this
    simp; omega

set_option maxRecDepth 100000 in
set_option maxHeartbeats 1600000 in
theorem rencTexts_any (v : Value) (xs : List Bs) (w : World) (h : IsSl v (xs.map vS) w) (hl : ∀ x ∈ xs, x.length ≤ maxLen) :
    Calls Tryd.prog 73 #[v] w fun e w' => e = .returned (.tuple #[.string (B (eList eText xs).1), .int .i64 (eList eText xs).2]) ∧ Below w.heap.size w w' := by
  obtain ⟨hm, h⟩ := h
  rw [List.length_map] at hm
  unfold maxLen at hm
  have hd0 := dec_size' (n := (xs.length : Int)) (by omega) (by omega)
  rw [Int.toNat_natCast] at hd0
  have HD := fun w => decimal_any (xs.length + 1) (xs.length : Int) w (by omega) (by omega) (by omega)
  rw [Int.toNat_natCast] at HD
  have HD := Lib.hid HD
  rcases h with ⟨a, cap, rfl, h⟩ | ⟨b, off, cap, rfl, h0, hc⟩
  · obtain rfl : xs = [] := by simpa using h
    have R : eList eText ([] : List Bs) = (Lib.decDigits 0 ++ [59], 0) := rfl
    have HR := Lib.hid R
    have hd0' : (B (Lib.decDigits 0)).size ≤ 21 := hd0
    have HD' := Lib.hid (fun w => (show Calls Tryd.prog 94 #[.int .i64 0] w fun e w' => e = .returned (.string (B (Lib.decDigits 0))) ∧ Below w.heap.size w w' from HD.out w))
    clear R h hd0
    go_enter Tryd.func73, Tryd.ntmps73
    go_wp2_with (first
      | (go_at_call 94; refine (HD'.out _).mono ?_; rintro e w1 ⟨rfl, hb⟩))
    refine wp_loop_rounds 1 ?_
    rw [rounds_succ]
    go_wp2
    go_ret2
    exact ⟨by rw [HR.out, ← B_append]; rfl, hb⟩
  · rw [List.length_map] at h0 hc
    by_cases hbig : 1024 < xs.length
    · have R : eList eText xs = ([], 10) := by simp [eList, hbig]
      have HR := Lib.hid R
      clear R hc
      go_enter Tryd.func73, Tryd.ntmps73
      rw [List.length_map]
      go_wp2
      go_ret2
      exact ⟨by rw [HR.out]; rfl, Below.refl _ _⟩
    · have HR := Lib.hid (show eList eText xs = eAll eText xs (Lib.decDigits xs.length ++ [59]) by simp [eList, hbig])
      have hbw : b < w.heap.size := by
        have := hc 0 (by omega)
        exact World.block_lt_of_cell? w _ (this.trans (List.getElem?_eq_getElem (by simpa using h0)))
      have HC := Lib.hid hc
      clear hc
      go_enter Tryd.func73, Tryd.ntmps73
      rw [List.length_map]
      go_wp2_with (first
        | (go_at_call 94; refine (HD.out _).mono ?_; rintro e w1 ⟨rfl, hb⟩))
      have Hb := Lib.hid hb
      clear hb
      go_loopw [4, 18] (fun o i wr => ∃ (k : Nat) (acc : Bs), k ≤ xs.length ∧ i = .int .i64 k ∧ o = .string (B acc) ∧ acc.length ≤ 22 + k * 65600 ∧ Below w.heap.size w wr ∧ Hid (eAll eText (xs.drop k) acc = eList eText xs)) (fun _ i _ => xs.length - (intOf i).toNat)
      case atStart => exact ⟨0, Lib.decDigits xs.length ++ [59], Nat.zero_le _, rfl, by rw [← B_append]; rfl, by rw [B_size] at hd0; simp; omega, Hb.out, HR.out.symm⟩
      case round =>
        obtain ⟨k, acc, hk, rfl, rfl, hal, hbr, H⟩ := hrel
        have Hbr := Lib.hid hbr
        have hszr := hbr.size
        by_cases hlt : k < xs.length
        · have hcell : wr.cell? ⟨b, off + k, none⟩ = some (vS xs[k]) := by
            rw [hbr.cell (p := ⟨b, off + k, none⟩) hbw, HC.out k hlt]; simp [hlt]
          have hx := hl xs[k] (List.getElem_mem hlt)
          have HA := Lib.hid (reAll_at eText xs acc k hlt)
          clear hbr
          unfold vS at hcell
          by_cases hone : (eText xs[k]).2 = 0
          · have hone' : ((eText xs[k]).2 == 0) = true := by simp [hone]
            have hone'' : ((eText xs[k]).2 != 0) = false := by simp [hone]
            have HO := Lib.hid hone
            have hln := reText_len xs[k]
            have hs1 : (B acc).size = acc.length := rfl
            have hs2 : (B (eText xs[k]).1).size = (eText xs[k]).1.length := rfl
            clear hone
            go_wp2_with (first
              | (go_at_call 95; refine (rencText_any xs[k] _ hx).mono ?_; rintro e w3 ⟨rfl, hb3⟩; have Hb3 := Lib.hid hb3; have hs3 := hb3.size; clear hb3))
            go_roundw
            case rel =>
              refine ⟨k + 1, acc ++ (eText xs[k]).1, by omega, by go_num, by rw [← B_append], by rw [List.length_append]; omega, ?_, ?_⟩
              · exact Hbr.out.trans (Hb3.out.mono (by omega))
              · have := HA.out
                rw [if_neg (by simp [HO.out])] at this
                exact this.symm.trans H.out
            case measure => simp [intOf]; omega
          · have hone' : ((eText xs[k]).2 == 0) = false := by simpa using hone
            have hone'' : ((eText xs[k]).2 != 0) = true := by simpa using hone
            have hfin := H.out
            have HF : Hid (eList eText xs = ([], (eText xs[k]).2)) := by show _ = _; rw [← hfin, HA.out, if_pos hone]
            clear hone hfin
            go_wp2_with (first
              | (go_at_call 95; refine (rencText_any xs[k] _ hx).mono ?_; rintro e w3 ⟨rfl, hb3⟩; have Hb3 := Lib.hid hb3; have hs3 := hb3.size; clear hb3))
            go_ret2
            exact ⟨by rw [HF.out]; rfl, Hbr.out.trans (Hb3.out.mono (by omega))⟩
        · obtain rfl : k = xs.length := by omega
          have HF : Hid (eList eText xs = (acc, 0)) := by
            show _ = _
            have hfin := H.out
            rw [← hfin, List.drop_length]; rfl
          clear hbr
          go_wp2
          go_ret2
          exact ⟨by rw [HF.out]; rfl, Hbr.out⟩

end Go.Proofs.YtfklmjcjjdliiaaDoor
