/- The program's round is the plain round. -/
import Derived.Test.YtfklmjcjjdliiaaDoorProg
import Derived.Test.YtfklmjcjjdliiaaDoorShaRot
import Derived.Test.YtfklmjcjjdliiaaDoorShaTab
import Derived.Test.YtfklmjcjjdliiaaDoorPlainShaAll
import Derived.Deep.QuietTactic
import Derived.BigQuiet
import Derived.BigRegion
import Derived.StillTailTactics
namespace Go.Proofs.YtfklmjcjjdliiaaDoor
open Go Go.RowKit Licit Licit.Sha

set_option maxHeartbeats 2000000 in
set_option maxRecDepth 100000 in
theorem round_any (s : St) (c : W64) (w : World) :
    Calls Tryd.prog 122 #[.agg (wA 25 s), .agg vOffs.toArray, .int .u64 (c.toNat : Int)] w fun e w' => e = .returned (.agg (wA 25 (rnd s c))) ∧ Below w.heap.size w w' := by
  obtain ⟨A, hA⟩ : ∃ A, wA 25 s = A := ⟨_, rfl⟩
  obtain ⟨O, hO⟩ : ∃ O, vOffs.toArray = O := ⟨_, rfl⟩
  rw [hA, hO]
  have HA := Lib.hid hA
  have HO := Lib.hid hO
  clear hA hO
  have hsA : A.size = 25 := by rw [← HA.out]; exact wA_size _ _
  have HsA := Lib.hid hsA
  clear hsA
  go_enter Tryd.func122, Tryd.ntmps122
  go_wp2_with (refine wpList_load_row rfl 99 _ rfl w.heap.size rfl 99 A (0, 0) _ (old_of (old_of (old_of (new_of w _)))) rfl rfl (by rw [HsA.out]; kernel_rfl) ?_)
  go_loopw [18] (fun i wr => ∃ k : Nat, k ≤ 25 ∧ i = .int .i64 k ∧ wr.heap[w.heap.size]? = some (.cells A 99) ∧ wr.heap[w.heap.size + 1]? = some (.cells O 125) ∧ wr.heap[w.heap.size + 2]? = some (.cells (wA 25 fun _ => 0) 99) ∧ wr.heap[w.heap.size + 3]? = some (.cells (wA 5 (cK s k)) 119) ∧ Below w.heap.size w wr) (fun i _ => 25 - (intOf i).toNat)
  case atStart =>
    refine ⟨0, by omega, rfl, old_of (old_of (old_of (new_of w _))), ?_, ?_, ?_, ?_⟩
    · exact old_of (old_of (new_at (by simp) rfl))
    · exact old_of (new_at (by simp) rfl)
    · exact new_at (by simp) rfl
    · exact (((((Below.refl _ _).alloc (Nat.le_refl _) _).alloc (by simp) _).alloc (by simp; omega) _).alloc (by simp; omega) _)
  case round =>
    obtain ⟨k, hk, rfl, h0, h1, h2, h3, hB⟩ := hrel
    by_cases hlt : k < 25
    · have hAk : A[k]? = some (vW (s k)) := by rw [← HA.out]; exact wA_at s hlt
      have hidx := run_index_one (P := Tryd.prog) (t := 99) rfl Tryd.isAgg84 Tryd.sizeOf84 hlt hAk
      clear hAk
      have hc : wr.cell? ⟨w.heap.size + 1 + 1 + 1, k % 5, none⟩ = some (vW (cK s k (k % 5))) := by rw [cell_of h3]; exact wA_at _ (by omega)
      have hf := free_of h3 (k % 5)
      have hm : (k : Int).tmod 5 = ((k % 5 : Nat) : Int) := rfl
      have hx := bxor (cK s k (k % 5)) (s k)
      obtain ⟨V, hV⟩ : ∃ V, cK s k (k % 5) ^^^ s k = V := ⟨_, rfl⟩
      rw [hV] at hx
      have HV := Lib.hid hV
      clear hV
      have H0 := Lib.hid h0
      have H1 := Lib.hid h1
      have H2 := Lib.hid h2
      have H3 := Lib.hid h3
      have HB := Lib.hid hB
      clear h0 h1 h2 h3 hB
      go_wp2
      go_roundw
      case rel =>
        refine ⟨k + 1, by omega, rfl, set_other H0.out (by simp; omega), set_other H1.out (by simp), set_other H2.out (by simp), ?_, ?_⟩
        · have h := set_row H3.out (k % 5) V
          rw [← HV.out] at h
          rw [← HV.out]
          exact h
        · exact HB.out.setCell (by simp; omega) _
      case measure => simp [intOf]; omega
    · obtain ⟨w1, rfl⟩ : ∃ w1, w1 = wr := ⟨_, rfl⟩
      obtain rfl : k = 25 := by omega
      have hn4 := lt_of h3
      have h3 := row_ext h3 (cK_end s)
      have H0 := Lib.hid h0
      have H1 := Lib.hid h1
      have H2 := Lib.hid h2
      have H3 := Lib.hid h3
      have HB := Lib.hid hB
      clear h0 h1 h2 h3 hB
      go_wp2_with (refine wpList_load_row rfl 99 _ rfl w.heap.size rfl 99 A (0, 0) _ (old_of H0.out) rfl rfl (by rw [HsA.out]; kernel_rfl) ?_)
      go_loopw [31] (fun i wx => ∃ k : Nat, k ≤ 25 ∧ i = .int .i64 k ∧ wx.heap[w.heap.size]? = some (.cells A 99) ∧ wx.heap[w.heap.size + 1]? = some (.cells O 125) ∧ wx.heap[w.heap.size + 2]? = some (.cells (wA 25 fun _ => 0) 99) ∧ wx.heap[w.heap.size + 3]? = some (.cells (wA 5 (sum5 s)) 119) ∧ wx.heap[w1.heap.size]? = some (.cells (wA 25 (mK s k)) 99) ∧ Below w.heap.size w wx) (fun i _ => 25 - (intOf i).toNat)
      case atStart =>
        exact ⟨0, by omega, rfl, old_of H0.out, old_of H1.out, old_of H2.out, old_of H3.out, by rw [mK_zero]; exact new_at rfl rfl, HB.out.alloc (by omega) _⟩
      case round =>
        obtain ⟨k, hk, rfl, h0, h1, h2, h3, h4, hB⟩ := hrel
        by_cases hlt : k < 25
        · have hAk : A[k]? = some (vW (s k)) := by rw [← HA.out]; exact wA_at s hlt
          have hidx := run_index_one (P := Tryd.prog) (t := 99) rfl Tryd.isAgg84 Tryd.sizeOf84 hlt hAk
          clear hAk
          obtain ⟨X, hX⟩ : ∃ X, k % 5 = X := ⟨_, rfl⟩
          obtain ⟨Y, hY⟩ : ∃ Y, k / 5 = Y := ⟨_, rfl⟩
          obtain ⟨X4, hX4⟩ : ∃ X4, (X + 4) % 5 = X4 := ⟨_, rfl⟩
          obtain ⟨X1, hX1⟩ : ∃ X1, (X + 1) % 5 = X1 := ⟨_, rfl⟩
          have hm : (k : Int).tmod 5 = (X : Int) := by rw [← hX]; rfl
          have hq : (k : Int).tdiv 5 = (Y : Int) := by rw [← hY]; rfl
          have hXl : X < 5 := by omega
          have hYl : Y < 5 := by omega
          have hs1 : IntKind.i64.wrap ((X : Int) + 4) = ((X + 4 : Nat) : Int) := by rw [IntKind.wrap_i64]; omega
          have hs2 : IntKind.i64.wrap ((X : Int) + 1) = ((X + 1 : Nat) : Int) := by rw [IntKind.wrap_i64]; omega
          have hm1 : (IntKind.i64.wrap ((X : Int) + 4)).tmod 5 = (X4 : Int) := by rw [hs1, ← hX4]; rfl
          have hm2 : (IntKind.i64.wrap ((X : Int) + 1)).tmod 5 = (X1 : Int) := by rw [hs2, ← hX1]; rfl
          have hX4l : X4 < 5 := by omega
          have hX1l : X1 < 5 := by omega
          clear hs1 hs2
          have hX4i : (X4 : Int) < 5 := by omega
          have hX1i : (X1 : Int) < 5 := by omega
          have hc1 : wr.cell? ⟨w.heap.size + 1 + 1 + 1, X4, none⟩ = some (vW (sum5 s X4)) := by rw [cell_of h3]; exact wA_at _ hX4l
          have hc2 : wr.cell? ⟨w.heap.size + 1 + 1 + 1, X1, none⟩ = some (vW (sum5 s X1)) := by rw [cell_of h3]; exact wA_at _ hX1l
          have ho : wr.cell? ⟨w.heap.size + 1, k, none⟩ = some (.int .i64 (off k : Int)) := by rw [cell_of h1, ← HO.out]; simpa using vOffs_at k hlt
          have hf := free_of h4 (dst k)
          obtain ⟨R, hR⟩ : ∃ R, rot (sum5 s X1) 1 = R := ⟨_, rfl⟩
          obtain ⟨D, hD⟩ : ∃ D, sum5 s X4 ^^^ R = D := ⟨_, rfl⟩
          obtain ⟨E, hE⟩ : ∃ E, s k ^^^ D = E := ⟨_, rfl⟩
          have hx1 := bxor (sum5 s X4) R
          rw [hD] at hx1
          have hx2 := bxor (s k) D
          rw [hE] at hx2
          have hV : mvAt s k = rot E (off k) := by unfold mvAt dif; rw [hX, hX4, hX1, hR, hD, hE]
          have HV := Lib.hid hV
          have HR := Lib.hid hR
          obtain ⟨Z, hZ⟩ : ∃ Z, (2 * X + 3 * Y) % 5 = Z := ⟨_, rfl⟩
          have hZl : Z < 5 := by omega
          have hm3 : (2 * (X : Int) + 3 * (Y : Int)).tmod 5 = (Z : Int) := by rw [← hZ]; rfl
          have hP : (Y : Int) + 5 * (Z : Int) < 25 := by omega
          have hdst : dst k = Y + 5 * Z := by unfold dst; rw [hX, hY, hZ]
          rw [hdst] at hf
          have hc4 : wr.cell? ⟨w1.heap.size, Y + 5 * Z, none⟩ = some (vW (mK s k (Y + 5 * Z))) := by rw [cell_of h4]; exact wA_at _ (by omega)
          have HDST := Lib.hid hdst
          clear hV hD hE hR hX hY hX4 hX1 hdst hZ
          have H0 := Lib.hid h0
          have H1 := Lib.hid h1
          have H2 := Lib.hid h2
          have H3 := Lib.hid h3
          have H4 := Lib.hid h4
          have HB := Lib.hid hB
          clear h0 h1 h2 h3 h4 hB
          have HROT : ∀ wy, Calls Tryd.prog 127 #[.int .u64 ((sum5 s X1).toNat : Int), .int .i64 1] wy fun e w' => e = .returned (vW R) ∧ w' = wy := fun wy =>
            (RotateLeft_any _ 1 _ (by omega)).mono (fun _ _ h => ⟨by rw [h.1, HR.out], h.2.symm⟩)
          have HROT2 : ∀ wy, Calls Tryd.prog 127 #[.int .u64 (E.toNat : Int), .int .i64 (off k : Int)] wy fun e w' => e = .returned (vW (mvAt s k)) ∧ w' = wy := fun wy =>
            (RotateLeft_any _ _ _ (off_lt k)).mono (fun _ _ h => ⟨by rw [h.1, HV.out], h.2.symm⟩)
          have HQ := Lib.hid HROT
          have HQ2 := Lib.hid HROT2
          clear HROT HROT2
          go_wp2
          go_quiet ((go_at_call 127; exact Calls.quiet_of_same (HQ.out _)))
          go_wp2_with (go_at_call 127; refine (HQ2.out _).mono ?_; rintro e w2 ⟨rfl, rfl⟩)
          go_roundw
          case rel =>
            have hs4 : w1.heap.size ≠ w.heap.size ∧ w1.heap.size ≠ w.heap.size + 1 ∧ w1.heap.size ≠ w.heap.size + 2 ∧ w1.heap.size ≠ w.heap.size + 3 := by omega
            refine ⟨k + 1, by omega, rfl, set_other H0.out (by show _ ≠ w1.heap.size; omega), set_other H1.out (by show _ ≠ w1.heap.size; omega), set_other H2.out (by show _ ≠ w1.heap.size; omega), set_other H3.out (by show _ ≠ w1.heap.size; omega), ?_, ?_⟩
            · refine row_ext (set_row H4.out (Y + 5 * Z) (mvAt s k)) ?_
              rw [← HDST.out]
              exact mK_step s k hlt
            · have hBq : Below w.heap.size w (wr.drewN nq) := ⟨HB.out.os, HB.out.tape, HB.out.output, HB.out.size, HB.out.block⟩
              refine hBq.setCell ?_ _
              show w.heap.size ≤ w1.heap.size
              omega
          case measure => simp [intOf]; omega
        · obtain ⟨w2, rfl⟩ : ∃ w2, w2 = wr := ⟨_, rfl⟩
          obtain rfl : k = 25 := by omega
          have hn4' := lt_of h4
          have h4 := row_ext h4 (fun p _ => mK_end s p)
          rw [← HA.out, ← oK_zero (mv s) s] at h0
          have H0 := Lib.hid h0
          have H2 := Lib.hid h2
          have H4 := Lib.hid h4
          have HB := Lib.hid hB
          clear h0 h1 h2 h3 h4 hB
          go_wp2
          go_loopw [69] (fun i wx => ∃ k : Nat, k ≤ 25 ∧ i = .int .i64 k ∧ wx.heap[w.heap.size]? = some (.cells (wA 25 (oK (mv s) s k)) 99) ∧ wx.heap[w.heap.size + 2]? = some (.cells (wA 25 fun _ => 0) 99) ∧ wx.heap[w1.heap.size]? = some (.cells (wA 25 (mv s)) 99) ∧ Below w.heap.size w wx) (fun i _ => 25 - (intOf i).toNat)
          case atStart => exact ⟨0, by omega, rfl, H0.out, H2.out, H4.out, HB.out⟩
          case round =>
            obtain ⟨k, hk, rfl, h0, h2, h4, hB⟩ := hrel
            by_cases hlt : k < 25
            · obtain ⟨X, hX⟩ : ∃ X, k % 5 = X := ⟨_, rfl⟩
              obtain ⟨X2, hX2⟩ : ∃ X2, (k + 2) % 5 = X2 := ⟨_, rfl⟩
              obtain ⟨X1, hX1⟩ : ∃ X1, (k + 1) % 5 = X1 := ⟨_, rfl⟩
              have hXl : X < 5 := by omega
              have hX2l : X2 < 5 := by omega
              have hX1l : X1 < 5 := by omega
              have hm : (k : Int).tmod 5 = (X : Int) := by rw [← hX]; rfl
              have hs1 : IntKind.i64.wrap ((k : Int) + 1) = ((k + 1 : Nat) : Int) := by rw [IntKind.wrap_i64]; omega
              have hs2 : IntKind.i64.wrap ((k : Int) + 2) = ((k + 2 : Nat) : Int) := by rw [IntKind.wrap_i64]; omega
              have hm1 : (IntKind.i64.wrap ((k : Int) + 1)).tmod 5 = (X1 : Int) := by rw [hs1, ← hX1]; rfl
              have hm2 : (IntKind.i64.wrap ((k : Int) + 2)).tmod 5 = (X2 : Int) := by rw [hs2, ← hX2]; rfl
              clear hs1 hs2
              obtain ⟨r, hr⟩ : ∃ r, k - X = r := ⟨_, rfl⟩
              have hrr : (k : Int) - (X : Int) = (r : Int) := by omega
              have hrl : r < 21 := by omega
              have hr1 : IntKind.i64.wrap ((r : Int) + (X1 : Int)) = ((r + X1 : Nat) : Int) := by rw [IntKind.wrap_i64]; omega
              have hr2 : IntKind.i64.wrap ((r : Int) + (X2 : Int)) = ((r + X2 : Nat) : Int) := by rw [IntKind.wrap_i64]; omega
              obtain ⟨P1, hP1⟩ : ∃ P1, r + X1 = P1 := ⟨_, rfl⟩
              obtain ⟨P2, hP2⟩ : ∃ P2, r + X2 = P2 := ⟨_, rfl⟩
              rw [hP1] at hr1
              rw [hP2] at hr2
              have hkl : (k : Int) < 25 := by omega
              have hP1l : (P1 : Int) < 25 := by omega
              have hP2l : (P2 : Int) < 25 := by omega
              have hc0 : wr.cell? ⟨w1.heap.size, k, none⟩ = some (vW (mv s k)) := by rw [cell_of h4]; exact wA_at _ hlt
              have hc1 : wr.cell? ⟨w1.heap.size, P1, none⟩ = some (vW (mv s P1)) := by rw [cell_of h4]; exact wA_at _ (by omega)
              have hc2 : wr.cell? ⟨w1.heap.size, P2, none⟩ = some (vW (mv s P2)) := by rw [cell_of h4]; exact wA_at _ (by omega)
              have hc3 : wr.cell? ⟨w.heap.size, k, none⟩ = some (vW (oK (mv s) s k k)) := by rw [cell_of h0]; exact wA_at _ hlt
              have hf := free_of h0 k
              obtain ⟨N1, hN1⟩ : ∃ N1, ~~~ mv s P1 = N1 := ⟨_, rfl⟩
              obtain ⟨D, hD⟩ : ∃ D, N1 &&& mv s P2 = D := ⟨_, rfl⟩
              obtain ⟨V, hV⟩ : ∃ V, mv s k ^^^ D = V := ⟨_, rfl⟩
              have hx1 := bnot (mv s P1)
              rw [hN1] at hx1
              have hx2 := band N1 (mv s P2)
              rw [hD] at hx2
              have hx3 := bxor (mv s k) D
              rw [hV] at hx3
              have hVV : chi (mv s) k = V := by
                have e1 : (k + 1) % 5 = X1 := hX1
                have e2 : (k + 2) % 5 = X2 := hX2
                unfold chi
                rw [hX, e1, e2, hr, hP1, hP2, hN1, hD, hV]
              have HV := Lib.hid hVV
              clear hN1 hD hV hVV
              have H0 := Lib.hid h0
              have H2 := Lib.hid h2
              have H4 := Lib.hid h4
              have HB := Lib.hid hB
              have HX := Lib.hid hX
              have HX1 := Lib.hid hX1
              have HX2 := Lib.hid hX2
              have HP1 := Lib.hid hP1
              have HP2 := Lib.hid hP2
              have Hr := Lib.hid hr
              clear h0 h2 h4 hB hX hX1 hX2 hP1 hP2 hr
              go_wp2
              go_still_tail 22, (by kernel_rfl)
              change wpList _ _ _ _ _ wr.drew
              go_wp2
              go_roundw
              case rel =>
                have hBq : Below w.heap.size w (wr.setCell ⟨w.heap.size, k, none⟩ (vW V)) := HB.out.setCell (Nat.le_refl _) _
                refine ⟨_, _, _, ⟨k + 1, by omega, rfl, ?_, ?_, ?_, ?_⟩, rfl, rfl, rfl⟩
                · have h := set_row H0.out k V
                  rw [← HV.out, oK_step] at h
                  rw [← HV.out]
                  exact h
                · exact set_other (p := ⟨w.heap.size, k, none⟩) H2.out (by show _ ≠ w.heap.size; omega)
                · exact set_other (p := ⟨w.heap.size, k, none⟩) H4.out (by show _ ≠ w.heap.size; omega)
                · exact ⟨hBq.os, hBq.tape, hBq.output, hBq.size, hBq.block⟩
              case measure => simp [intOf]; omega
            · obtain ⟨w3, rfl⟩ : ∃ w3, w3 = wr := ⟨_, rfl⟩
              obtain rfl : k = 25 := by omega
              have hc0 : w3.cell? ⟨w.heap.size, 0, none⟩ = some (vW (oK (mv s) s 25 0)) := by rw [cell_of h0]; exact wA_at _ (by omega)
              have hf := free_of h0 0
              have hx := bxor (oK (mv s) s 25 0) c
              have hr := set_row h0 0 (oK (mv s) s 25 0 ^^^ c)
              have hr := row_ext hr (rnd_end s s c)
              have hr2 := set_other (p := ⟨w.heap.size, 0, none⟩) (v := vW (oK (mv s) s 25 0 ^^^ c)) h2 (by show _ ≠ w.heap.size; omega)
              have hBq : Below w.heap.size w (w3.setCell ⟨w.heap.size, 0, none⟩ (vW (oK (mv s) s 25 0 ^^^ c))) := hB.setCell (Nat.le_refl _) _
              have HR := Lib.hid hr
              have HR2 := Lib.hid hr2
              have HB := Lib.hid hBq
              clear h0 h2 h4 hB hr hr2 hBq
              go_wp2_with (first
                | (refine wpList_load_row rfl 99 _ rfl w.heap.size rfl 99 (wA 25 (rnd s c)) (0, 0) _ HR.out rfl rfl (by rw [wA_size]; kernel_rfl) ?_)
                | (refine wpList_store_whole rfl 99 _ _ rfl (w.heap.size + 2) rfl (wA 25 (rnd s c)) rfl 99 _ HR2.out (by rw [wA_size]; kernel_rfl) (by rw [wA_size, wA_size]) (wA_one _ _) ?_))
              refine ret_whole rfl (w.heap.size + 2) 99 _ (0, 0) _ rfl (row_of HR2.out) rfl rfl (by rw [wA_size]; kernel_rfl) rfl ?_
              exact ⟨rfl, Below.setRow' HB.out (by omega) _⟩

end Go.Proofs.YtfklmjcjjdliiaaDoor
