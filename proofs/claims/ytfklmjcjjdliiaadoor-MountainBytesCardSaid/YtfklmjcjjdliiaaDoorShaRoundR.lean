/- The reference's round is the plain round. -/
import Derived.Test.YtfklmjcjjdliiaaDoorProg
import Derived.Test.YtfklmjcjjdliiaaDoorShaRot
import Derived.Test.YtfklmjcjjdliiaaDoorShaTab
import Derived.Test.YtfklmjcjjdliiaaDoorPlainShaAll
import Derived.Deep.QuietTactic
import Derived.BigQuiet
import Derived.BigRegion
import Derived.StillTailTactics
import Derived.Deep.RegionHeld3
namespace Go.Proofs.YtfklmjcjjdliiaaDoor
open Go Go.RowKit Licit Licit.Sha

set_option maxHeartbeats 2000000 in
set_option maxRecDepth 100000 in
theorem RoundR_any (s : Sha.St) (c : W64) (w : World) :
    Calls Tryd.prog 108 #[.agg (wA 25 s), .int .u64 (c.toNat : Int)] w fun e w' => e = .returned (.agg (wA 25 (rnd s c))) ∧ Below w.heap.size w w' := by
  obtain ⟨A, hA⟩ : ∃ A, wA 25 s = A := ⟨_, rfl⟩
  rw [hA]
  have HA := Lib.hid hA
  clear hA
  have hsA : A.size = 25 := by rw [← HA.out]; exact wA_size _ _
  have HsA := Lib.hid hsA
  clear hsA
  go_enter Tryd.func108, Tryd.ntmps108
  go_wp2
  go_loopw [6] (fun i wr => ∃ k : Nat, k ≤ 5 ∧ i = .int .i64 k ∧ wr.heap[w.heap.size]? = some (.cells A 99) ∧ wr.heap[w.heap.size + 1]? = some (.cells (wA 25 fun _ => 0) 99) ∧ wr.heap[w.heap.size + 2]? = some (.cells (wA 5 (sK s k)) 119) ∧ Below w.heap.size w wr) (fun i _ => 5 - (intOf i).toNat)
  case atStart =>
    refine ⟨0, by omega, rfl, old_of (old_of (new_of w _)), ?_, ?_, ?_⟩
    · exact old_of (new_at (by simp) rfl)
    · exact new_at (by simp) rfl
    · exact ((((Below.refl _ _).alloc (Nat.le_refl _) _).alloc (by simp) _).alloc (by simp; omega) _)
  case round =>
    obtain ⟨k, hk, rfl, h0, h1, h2, hB⟩ := hrel
    by_cases hlt : k < 5
    · have hat : ∀ i, i < 25 → wr.cell? ⟨w.heap.size, i, none⟩ = some (vW (s i)) := fun i hi => by rw [cell_of h0, ← HA.out]; exact wA_at s hi
      obtain ⟨P5, hP5⟩ : ∃ P5, k + 5 = P5 := ⟨_, rfl⟩
      obtain ⟨P10, hP10⟩ : ∃ P10, k + 10 = P10 := ⟨_, rfl⟩
      obtain ⟨P15, hP15⟩ : ∃ P15, k + 15 = P15 := ⟨_, rfl⟩
      obtain ⟨P20, hP20⟩ : ∃ P20, k + 20 = P20 := ⟨_, rfl⟩
      have hw5 : IntKind.i64.wrap ((k : Int) + 5) = (P5 : Int) := by rw [IntKind.wrap_i64]; omega
      have hw10 : IntKind.i64.wrap ((k : Int) + 10) = (P10 : Int) := by rw [IntKind.wrap_i64]; omega
      have hw15 : IntKind.i64.wrap ((k : Int) + 15) = (P15 : Int) := by rw [IntKind.wrap_i64]; omega
      have hw20 : IntKind.i64.wrap ((k : Int) + 20) = (P20 : Int) := by rw [IntKind.wrap_i64]; omega
      have hki : (k : Int) < 5 := by omega
      have hki25 : (k : Int) < 25 := by omega
      have hi5 : (P5 : Int) < 25 := by omega
      have hi10 : (P10 : Int) < 25 := by omega
      have hi15 : (P15 : Int) < 25 := by omega
      have hi20 : (P20 : Int) < 25 := by omega
      have hc0 := hat k (by omega)
      have hc5 := hat P5 (by omega)
      have hc10 := hat P10 (by omega)
      have hc15 := hat P15 (by omega)
      have hc20 := hat P20 (by omega)
      have hcs : wr.cell? ⟨w.heap.size + 1 + 1, k, none⟩ = some (vW (sK s k k)) := by rw [cell_of h2]; exact wA_at _ hlt
      have hf := free_of h2 k
      have hx5 := bxor (s k) (s P5)
      obtain ⟨T1, hT1⟩ : ∃ T, s k ^^^ s P5 = T := ⟨_, rfl⟩
      rw [hT1] at hx5
      have hx10 := bxor T1 (s P10)
      obtain ⟨T2, hT2⟩ : ∃ T, T1 ^^^ s P10 = T := ⟨_, rfl⟩
      rw [hT2] at hx10
      have hx15 := bxor T2 (s P15)
      obtain ⟨T3, hT3⟩ : ∃ T, T2 ^^^ s P15 = T := ⟨_, rfl⟩
      rw [hT3] at hx15
      have hx20 := bxor T3 (s P20)
      obtain ⟨T4, hT4⟩ : ∃ T, T3 ^^^ s P20 = T := ⟨_, rfl⟩
      rw [hT4] at hx20
      have hsum : sum5 s k = T4 := by unfold sum5; rw [hP5, hP10, hP15, hP20, hT1, hT2, hT3, hT4]
      have HSum := Lib.hid hsum
      have H0 := Lib.hid h0
      have H1 := Lib.hid h1
      have H2 := Lib.hid h2
      have HB := Lib.hid hB
      clear hat hP5 hP10 hP15 hP20 hT1 hT2 hT3 hT4 hsum h0 h1 h2 hB
      go_wp2
      go_still_tail 25, (by kernel_rfl)
      change wpList _ _ _ _ _ wr.drew
      go_wp2
      go_roundw
      case rel =>
        have hBq : Below w.heap.size w wr.drew := ⟨HB.out.os, HB.out.tape, HB.out.output, HB.out.size, HB.out.block⟩
        refine ⟨k + 1, by omega, by go_num, ?_, ?_, ?_, ?_⟩
        · exact set_other (p := ⟨w.heap.size + 1 + 1, k, none⟩) H0.out (by show _ ≠ w.heap.size + 2; omega)
        · exact set_other (p := ⟨w.heap.size + 1 + 1, k, none⟩) H1.out (by show _ ≠ w.heap.size + 2; omega)
        · have h := set_row H2.out k T4
          rw [← HSum.out, sK_step] at h
          rw [← HSum.out]
          exact h
        · exact hBq.setCell (p := ⟨w.heap.size + 1 + 1, k, none⟩) (by show _ ≤ w.heap.size + 2; omega) _
      case measure => simp [intOf]; omega
    · obtain ⟨w1, rfl⟩ : ∃ w1, w1 = wr := ⟨_, rfl⟩
      obtain rfl : k = 5 := by omega
      have hn3 := lt_of h2
      have h2 := row_ext h2 (sK_end s)
      have H0 := Lib.hid h0
      have H1 := Lib.hid h1
      have H2 := Lib.hid h2
      have HB := Lib.hid hB
      clear h0 h1 h2 hB
      go_wp2
      go_loopw [8] (fun i wx => ∃ k : Nat, k ≤ 5 ∧ i = .int .i64 k ∧ wx.heap[w.heap.size]? = some (.cells A 99) ∧ wx.heap[w.heap.size + 1]? = some (.cells (wA 25 fun _ => 0) 99) ∧ wx.heap[w.heap.size + 2]? = some (.cells (wA 5 (sum5 s)) 119) ∧ wx.heap[w1.heap.size]? = some (.cells (wA 25 (mR s (5 * k + 0))) 99) ∧ Below w.heap.size w wx) (fun i _ => 5 - (intOf i).toNat)
      case atStart =>
        exact ⟨0, by omega, rfl, old_of H0.out, old_of H1.out, old_of H2.out, by rw [mR_zero]; exact new_at rfl rfl, HB.out.alloc (by omega) _⟩
      case round =>
        obtain ⟨w2, rfl⟩ : ∃ w2, w2 = wr := ⟨_, rfl⟩
        obtain ⟨X, hk, rfl, h0, h1, h2, h3, hB⟩ := hrel
        by_cases hlt : X < 5
        · obtain ⟨X4, hX4⟩ : ∃ X4, (X + 4) % 5 = X4 := ⟨_, rfl⟩
          obtain ⟨X1, hX1⟩ : ∃ X1, (X + 1) % 5 = X1 := ⟨_, rfl⟩
          have hs1 : IntKind.i64.wrap ((X : Int) + 4) = ((X + 4 : Nat) : Int) := by rw [IntKind.wrap_i64]; omega
          have hs2 : IntKind.i64.wrap ((X : Int) + 1) = ((X + 1 : Nat) : Int) := by rw [IntKind.wrap_i64]; omega
          have hm1 : (IntKind.i64.wrap ((X : Int) + 4)).tmod 5 = (X4 : Int) := by rw [hs1, ← hX4]; rfl
          have hm2 : (IntKind.i64.wrap ((X : Int) + 1)).tmod 5 = (X1 : Int) := by rw [hs2, ← hX1]; rfl
          clear hs1 hs2
          have hX4l : X4 < 5 := by omega
          have hX1l : X1 < 5 := by omega
          have hX4i : (X4 : Int) < 5 := by omega
          have hX1i : (X1 : Int) < 5 := by omega
          have hw4 : IntKind.i64.wrap (X4 : Int) = (X4 : Int) := by rw [IntKind.wrap_i64]; omega
          have hw1 : IntKind.i64.wrap (X1 : Int) = (X1 : Int) := by rw [IntKind.wrap_i64]; omega
          have hc1 : w2.cell? ⟨w.heap.size + 1 + 1, X4, none⟩ = some (vW (sum5 s X4)) := by rw [cell_of h2]; exact wA_at _ hX4l
          have hc2 : w2.cell? ⟨w.heap.size + 1 + 1, X1, none⟩ = some (vW (sum5 s X1)) := by rw [cell_of h2]; exact wA_at _ hX1l
          obtain ⟨R, hR⟩ : ∃ R, rot (sum5 s X1) 1 = R := ⟨_, rfl⟩
          obtain ⟨D, hD⟩ : ∃ D, sum5 s X4 ^^^ R = D := ⟨_, rfl⟩
          have hx1 := bxor (sum5 s X4) R
          rw [hD] at hx1
          have hdif : dif s X = D := by unfold dif; rw [hX4, hX1, hR, hD]
          have HDif := Lib.hid hdif
          have HR := Lib.hid hR
          have HROT : ∀ wy, Calls Tryd.prog 115 #[.int .u64 ((sum5 s X1).toNat : Int), .int .i64 1] wy fun e w' => e = .returned (vW R) ∧ w' = wy := fun wy =>
            (Rot_any _ 1 _ (by omega)).mono (fun _ _ h => ⟨by rw [h.1, HR.out], h.2.symm⟩)
          have HQ := Lib.hid HROT
          have H0 := Lib.hid h0
          have H1 := Lib.hid h1
          have H2 := Lib.hid h2
          have H3 := Lib.hid h3
          have HB := Lib.hid hB
          clear HROT hR hD hdif hX4 hX1 h0 h1 h2 h3 hB
          go_wp2
          go_quiet ((go_at_call 115; exact Calls.quiet_of_same (HQ.out _)))
          go_wp2
          have hBq : Below w.heap.size w (w2.drewN nq) := ⟨HB.out.os, HB.out.tape, HB.out.output, HB.out.size, HB.out.block⟩
          have HBq := Lib.hid hBq
          clear hBq
          go_loopw [10] (fun i wx => ∃ k : Nat, k ≤ 5 ∧ i = .int .i64 k ∧ wx.heap[w.heap.size]? = some (.cells A 99) ∧ wx.heap[w.heap.size + 1]? = some (.cells (wA 25 fun _ => 0) 99) ∧ wx.heap[w.heap.size + 2]? = some (.cells (wA 5 (sum5 s)) 119) ∧ wx.heap[w1.heap.size]? = some (.cells (wA 25 (mR s (5 * X + k))) 99) ∧ Below w.heap.size w wx) (fun i _ => 5 - (intOf i).toNat)
          case atStart => exact ⟨0, by omega, rfl, H0.out, H1.out, H2.out, H3.out, HBq.out⟩
          case round =>
            obtain ⟨Y, hk, rfl, h0, h1, h2, h3, hB⟩ := hrel
            by_cases hly : Y < 5
            · obtain ⟨X2, hX2⟩ : ∃ n, 2 * X = n := ⟨_, rfl⟩
              obtain ⟨Y3, hY3⟩ : ∃ n, 3 * Y = n := ⟨_, rfl⟩
              obtain ⟨S, hS⟩ : ∃ n, X2 + Y3 = n := ⟨_, rfl⟩
              obtain ⟨Z, hZ⟩ : ∃ n, S % 5 = n := ⟨_, rfl⟩
              obtain ⟨Z5, hZ5⟩ : ∃ n, 5 * Z = n := ⟨_, rfl⟩
              obtain ⟨P, hP⟩ : ∃ n, Y + Z5 = n := ⟨_, rfl⟩
              obtain ⟨Y5, hY5⟩ : ∃ n, 5 * Y = n := ⟨_, rfl⟩
              obtain ⟨N, hN⟩ : ∃ n, X + Y5 = n := ⟨_, rfl⟩
              have e1 : IntKind.i64.wrap (2 * (X : Int)) = (X2 : Int) := by rw [IntKind.wrap_i64]; omega
              have e2 : IntKind.i64.wrap (3 * (Y : Int)) = (Y3 : Int) := by rw [IntKind.wrap_i64]; omega
              have e3 : IntKind.i64.wrap ((X2 : Int) + (Y3 : Int)) = (S : Int) := by rw [IntKind.wrap_i64]; omega
              have e4 : (S : Int).tmod 5 = (Z : Int) := by rw [← hZ]; rfl
              have e4' : IntKind.i64.wrap (Z : Int) = (Z : Int) := by rw [IntKind.wrap_i64]; omega
              have e5 : IntKind.i64.wrap (5 * (Z : Int)) = (Z5 : Int) := by rw [IntKind.wrap_i64]; omega
              have e6 : IntKind.i64.wrap ((Y : Int) + (Z5 : Int)) = (P : Int) := by rw [IntKind.wrap_i64]; omega
              have e7 : IntKind.i64.wrap (5 * (Y : Int)) = (Y5 : Int) := by rw [IntKind.wrap_i64]; omega
              have e8 : IntKind.i64.wrap ((X : Int) + (Y5 : Int)) = (N : Int) := by rw [IntKind.wrap_i64]; omega
              have hPl : P < 25 := by omega
              have hNl : N < 25 := by omega
              have hPi : (P : Int) < 25 := by omega
              have hNi : (N : Int) < 25 := by omega
              have hlyi : (Y : Int) < 5 := by omega
              have hcs : wr.cell? ⟨w.heap.size, N, none⟩ = some (vW (s N)) := by rw [cell_of h0, ← HA.out]; exact wA_at s hNl
              have hw1l : w1.heap.size < wr.heap.size := lt_of h3
              obtain ⟨E, hE⟩ : ∃ E, s N ^^^ D = E := ⟨_, rfl⟩
              have hx2 := bxor (s N) D
              rw [hE] at hx2
              have hN5 : X + 5 * Y = N := by omega
              have hV : mvAt s N = rot E (off N) := by rw [← hN5, mvAt_at _ _ _ hlt, HDif.out, hN5, hE]
              have hdst : dst N = P := by rw [← hN5, dst_at _ _ hlt]; omega
              have hstep := mR_step s X Y hlt hly
              rw [hN5, hdst] at hstep
              have hOff : ∀ wy, Calls Tryd.prog 116 #[.int .i64 (X : Int), .int .i64 (Y : Int)] wy fun e w' => e = .returned (.int .i64 (off N : Int)) ∧ Below wy.heap.size wy w' := by
                intro wy
                have := offset_any X Y wy hlt hly
                rw [hN5] at this
                exact this
              have HV := Lib.hid hV
              have HROT2 : ∀ wy, Calls Tryd.prog 115 #[.int .u64 (E.toNat : Int), .int .i64 (off N : Int)] wy fun e w' => e = .returned (vW (mvAt s N)) ∧ wy = w' := fun wy =>
                (Rot_any _ _ _ (off_lt N)).mono (fun _ _ h => ⟨by rw [h.1, HV.out], h.2⟩)
              have HQ2 := Lib.hid HROT2
              have HO2 := Lib.hid hOff
              have HST := Lib.hid hstep
              have hn4 : w.heap.size < wr.heap.size := lt_of h0
              have hne1 : ¬ w1.heap.size = w.heap.size := by omega
              have hne2 : ¬ w.heap.size = w1.heap.size := by omega
              have H0 := Lib.hid h0
              have H1 := Lib.hid h1
              have H2 := Lib.hid h2
              have H3 := Lib.hid h3
              have HB := Lib.hid hB
              clear hX2 hY3 hS hZ hZ5 hP hY5 hN hE hN5 hV hdst hstep hOff HROT2 h0 h1 h2 h3 hB
              go_wp2
              go_region_held3 (fun W => W.cell? ⟨w.heap.size, N, none⟩ = some (vW (s N)))
                (first | go_keep)
                (first
                  | (go_at_call 116; refine (HO2.out _).mono ?_; rintro e wa ⟨rfl, hbA⟩; have hcA := (hbA.cell (p := ⟨w.heap.size, N, none⟩) hn4).trans hcs; have hG3 := below_heap hbA hw1l H3.out; have hcM : wa.cell? ⟨w1.heap.size, P, none⟩ = some (vW (mR s (5 * X + Y) P)) := (by rw [cell_of hG3]; exact wA_at _ hPl); have hfM := free_of hG3 P; have HBA := Lib.hid hbA; have HG3 := Lib.hid hG3; clear hbA hG3)
                  | (go_at_call 115; refine (HQ2.out _).mono ?_; rintro e wB ⟨rfl, rfl⟩))
              all_goals
                go_wp2
                go_roundw
                case rel =>
                  have hdr : Below w.heap.size w wr.drew := ⟨HB.out.os, HB.out.tape, HB.out.output, HB.out.size, HB.out.block⟩
                  have hba : Below w.heap.size w wa := hdr.trans (HBA.out.mono (Nat.le_of_lt hn4))
                  refine ⟨Y + 1, by omega, by go_num, ?_, ?_, ?_, ?_, ?_⟩
                  · exact set_other (p := ⟨w1.heap.size, P, none⟩) (below_heap HBA.out hn4 H0.out) hne2
                  · exact set_other (p := ⟨w1.heap.size, P, none⟩) (below_heap HBA.out (lt_of H1.out) H1.out) (by show _ ≠ w1.heap.size; omega)
                  · exact set_other (p := ⟨w1.heap.size, P, none⟩) (below_heap HBA.out (lt_of H2.out) H2.out) (by show _ ≠ w1.heap.size; omega)
                  · exact row_ext (set_row HG3.out P (mvAt s N)) HST.out
                  · exact hba.setCell (p := ⟨w1.heap.size, P, none⟩) (by show _ ≤ w1.heap.size; omega) _
                case measure => simp [intOf]; omega
            · obtain rfl : Y = 5 := by omega
              have H0 := Lib.hid h0
              have H1 := Lib.hid h1
              have H2 := Lib.hid h2
              have H3 := Lib.hid h3
              have HB := Lib.hid hB
              clear h0 h1 h2 h3 hB
              go_wp2
              go_roundw
              case rel => first | exact ⟨X + 1, by omega, by go_num, H0.out, H1.out, H2.out, H3.out, HB.out⟩ | ((repeat apply Exists.intro); exact ⟨⟨X + 1, by omega, by go_num, H0.out, H1.out, H2.out, H3.out, HB.out⟩, rfl⟩) | ((repeat apply Exists.intro); exact ⟨⟨X + 1, by omega, by go_num, H0.out, H1.out, H2.out, H3.out, HB.out⟩, rfl, rfl⟩) | ((repeat apply Exists.intro); exact ⟨⟨X + 1, by omega, by go_num, H0.out, H1.out, H2.out, H3.out, HB.out⟩, rfl, rfl, rfl⟩)
              case measure => simp [intOf]; omega
        · obtain rfl : X = 5 := by omega
          have hn3' := lt_of h3
          have h3 := row_ext h3 (fun p _ => mR_end s p)
          have H1 := Lib.hid h1
          have H3 := Lib.hid h3
          have HB := Lib.hid hB
          clear h0 h1 h2 h3 hB
          go_wp2
          go_loopw [12] (fun i wx => ∃ k : Nat, k ≤ 5 ∧ i = .int .i64 k ∧ wx.heap[w.heap.size + 1]? = some (.cells (wA 25 fun _ => 0) 99) ∧ wx.heap[w1.heap.size]? = some (.cells (wA 25 (mv s)) 99) ∧ wx.heap[w2.heap.size]? = some (.cells (wA 25 (oR (mv s) (5 * k + 0))) 99) ∧ Below w.heap.size w wx) (fun i _ => 5 - (intOf i).toNat)
          case atStart => exact ⟨0, by omega, rfl, old_of H1.out, old_of H3.out, by rw [oR_zero]; exact new_at rfl rfl, HB.out.alloc (by omega) _⟩
          case round =>
            obtain ⟨X, hk, rfl, h1, h3, h4, hB⟩ := hrel
            by_cases hlt : X < 5
            · have H1 := Lib.hid h1
              have H3 := Lib.hid h3
              have H4 := Lib.hid h4
              have HB := Lib.hid hB
              clear h1 h3 h4 hB
              go_wp2
              go_loopw [13] (fun i wx => ∃ k : Nat, k ≤ 5 ∧ i = .int .i64 k ∧ wx.heap[w.heap.size + 1]? = some (.cells (wA 25 fun _ => 0) 99) ∧ wx.heap[w1.heap.size]? = some (.cells (wA 25 (mv s)) 99) ∧ wx.heap[w2.heap.size]? = some (.cells (wA 25 (oR (mv s) (5 * X + k))) 99) ∧ Below w.heap.size w wx) (fun i _ => 5 - (intOf i).toNat)
              case atStart => exact ⟨0, by omega, rfl, H1.out, H3.out, H4.out, HB.out⟩
              case round =>
                obtain ⟨Y, hk, rfl, h1, h3, h4, hB⟩ := hrel
                by_cases hly : Y < 5
                · obtain ⟨Y5, hY5⟩ : ∃ n, 5 * Y = n := ⟨_, rfl⟩
                  obtain ⟨N, hN⟩ : ∃ n, X + Y5 = n := ⟨_, rfl⟩
                  obtain ⟨X1, hX1⟩ : ∃ n, (X + 1) % 5 = n := ⟨_, rfl⟩
                  obtain ⟨X2, hX2⟩ : ∃ n, (X + 2) % 5 = n := ⟨_, rfl⟩
                  obtain ⟨P1, hP1⟩ : ∃ n, X1 + Y5 = n := ⟨_, rfl⟩
                  obtain ⟨P2, hP2⟩ : ∃ n, X2 + Y5 = n := ⟨_, rfl⟩
                  have e7 : IntKind.i64.wrap (5 * (Y : Int)) = (Y5 : Int) := by rw [IntKind.wrap_i64]; omega
                  have e8 : IntKind.i64.wrap ((X : Int) + (Y5 : Int)) = (N : Int) := by rw [IntKind.wrap_i64]; omega
                  have hs1 : IntKind.i64.wrap ((X : Int) + 1) = ((X + 1 : Nat) : Int) := by rw [IntKind.wrap_i64]; omega
                  have hs2 : IntKind.i64.wrap ((X : Int) + 2) = ((X + 2 : Nat) : Int) := by rw [IntKind.wrap_i64]; omega
                  have hm1 : (IntKind.i64.wrap ((X : Int) + 1)).tmod 5 = (X1 : Int) := by rw [hs1, ← hX1]; rfl
                  have hm2 : (IntKind.i64.wrap ((X : Int) + 2)).tmod 5 = (X2 : Int) := by rw [hs2, ← hX2]; rfl
                  clear hs1 hs2
                  have hw1 : IntKind.i64.wrap (X1 : Int) = (X1 : Int) := by rw [IntKind.wrap_i64]; omega
                  have hw2 : IntKind.i64.wrap (X2 : Int) = (X2 : Int) := by rw [IntKind.wrap_i64]; omega
                  have e9 : IntKind.i64.wrap ((X1 : Int) + (Y5 : Int)) = (P1 : Int) := by rw [IntKind.wrap_i64]; omega
                  have e10 : IntKind.i64.wrap ((X2 : Int) + (Y5 : Int)) = (P2 : Int) := by rw [IntKind.wrap_i64]; omega
                  have hNl : N < 25 := by omega
                  have hNi : (N : Int) < 25 := by omega
                  have hP1i : (P1 : Int) < 25 := by omega
                  have hP2i : (P2 : Int) < 25 := by omega
                  have hc0 : wr.cell? ⟨w1.heap.size, N, none⟩ = some (vW (mv s N)) := by rw [cell_of h3]; exact wA_at _ hNl
                  have hc1 : wr.cell? ⟨w1.heap.size, P1, none⟩ = some (vW (mv s P1)) := by rw [cell_of h3]; exact wA_at _ (by omega)
                  have hc2 : wr.cell? ⟨w1.heap.size, P2, none⟩ = some (vW (mv s P2)) := by rw [cell_of h3]; exact wA_at _ (by omega)
                  have hc3 : wr.cell? ⟨w2.heap.size, N, none⟩ = some (vW (oR (mv s) (5 * X + Y) N)) := by rw [cell_of h4]; exact wA_at _ hNl
                  have hf := free_of h4 N
                  obtain ⟨N1, hN1⟩ : ∃ N1, ~~~ mv s P1 = N1 := ⟨_, rfl⟩
                  obtain ⟨D, hD⟩ : ∃ D, N1 &&& mv s P2 = D := ⟨_, rfl⟩
                  obtain ⟨V, hV⟩ : ∃ V, mv s N ^^^ D = V := ⟨_, rfl⟩
                  have hx1 := bnot (mv s P1)
                  rw [hN1] at hx1
                  have hx2 := band N1 (mv s P2)
                  rw [hD] at hx2
                  have hx3 := bxor (mv s N) D
                  rw [hV] at hx3
                  have hN5 : X + 5 * Y = N := by omega
                  have hVV : chi (mv s) N = V := by rw [← hN5, chi_at _ _ _ hlt, hX1, hX2, show X1 + 5 * Y = P1 by omega, show X2 + 5 * Y = P2 by omega, hN5, hN1, hD, hV]
                  have hstep := oR_step (mv s) X Y hlt hly
                  rw [hN5, hVV] at hstep
                  have HST := Lib.hid hstep
                  have H1 := Lib.hid h1
                  have H3 := Lib.hid h3
                  have H4 := Lib.hid h4
                  have HB := Lib.hid hB
                  clear hY5 hN hX1 hX2 hP1 hP2 hN1 hD hV hN5 hVV hstep h1 h3 h4 hB
                  go_wp2
                  go_still_tail 30, (by kernel_rfl)
                  change wpList _ _ _ _ _ wr.drew
                  go_wp2
                  go_roundw
                  case rel =>
                    have hdr : Below w.heap.size w wr.drew := ⟨HB.out.os, HB.out.tape, HB.out.output, HB.out.size, HB.out.block⟩
                    refine ⟨Y + 1, by omega, by go_num, ?_, ?_, ?_, ?_⟩
                    · exact set_other (p := ⟨w2.heap.size, N, none⟩) H1.out (by show _ ≠ w2.heap.size; omega)
                    · exact set_other (p := ⟨w2.heap.size, N, none⟩) H3.out (by show _ ≠ w2.heap.size; omega)
                    · exact row_ext (set_row H4.out N V) HST.out
                    · exact hdr.setCell (p := ⟨w2.heap.size, N, none⟩) (by show _ ≤ w2.heap.size; omega) _
                  case measure => simp [intOf]; omega
                · obtain rfl : Y = 5 := by omega
                  have H1 := Lib.hid h1
                  have H3 := Lib.hid h3
                  have H4 := Lib.hid h4
                  have HB := Lib.hid hB
                  clear h1 h3 h4 hB
                  go_wp2
                  go_roundw
                  case rel => exact ⟨X + 1, by omega, by go_num, H1.out, H3.out, H4.out, HB.out⟩
                  case measure => simp [intOf]; omega
            · obtain ⟨w3, rfl⟩ : ∃ w3, w3 = wr := ⟨_, rfl⟩
              obtain rfl : X = 5 := by omega
              have hc0 : w3.cell? ⟨w2.heap.size, 0, none⟩ = some (vW (oR (mv s) 25 0)) := by rw [cell_of h4]; exact wA_at _ (by omega)
              have hf := free_of h4 0
              have hx := bxor (oR (mv s) 25 0) c
              have hr := row_ext (set_row h4 0 (oR (mv s) 25 0 ^^^ c)) (rndR_end s c)
              have hr2 := set_other (p := ⟨w2.heap.size, 0, none⟩) (v := vW (oR (mv s) 25 0 ^^^ c)) h1 (by show _ ≠ w2.heap.size; omega)
              have hBq : Below w.heap.size w (w3.setCell ⟨w2.heap.size, 0, none⟩ (vW (oR (mv s) 25 0 ^^^ c))) := hB.setCell (p := ⟨w2.heap.size, 0, none⟩) (by show _ ≤ w2.heap.size; omega) _
              have HR := Lib.hid hr
              have HR2 := Lib.hid hr2
              have HB := Lib.hid hBq
              clear h1 h3 h4 hB hr hr2 hBq
              go_wp2_with (first
                | (refine wpList_load_row rfl 99 _ rfl w2.heap.size rfl 99 (wA 25 (rnd s c)) (0, 0) _ HR.out rfl rfl (by rw [wA_size]; kernel_rfl) ?_)
                | (refine wpList_store_whole rfl 99 _ _ rfl (w.heap.size + 1) rfl (wA 25 (rnd s c)) rfl 99 _ HR2.out (by rw [wA_size]; kernel_rfl) (by rw [wA_size, wA_size]) (wA_one _ _) ?_))
              refine ret_whole rfl (w.heap.size + 1) 99 _ (0, 0) _ rfl (row_of HR2.out) rfl rfl (by rw [wA_size]; kernel_rfl) rfl ?_
              exact ⟨rfl, Below.setRow' HB.out (by omega) _⟩

end Go.Proofs.YtfklmjcjjdliiaaDoor
