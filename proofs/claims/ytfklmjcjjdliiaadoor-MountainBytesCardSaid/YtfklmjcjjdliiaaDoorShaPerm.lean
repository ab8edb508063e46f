/- The program's permutation is the plain one. -/
import Derived.Test.YtfklmjcjjdliiaaDoorShaRound
namespace Go.Proofs.YtfklmjcjjdliiaaDoor
open Go Go.RowKit Licit Licit.Sha

theorem vOffs_one : vOffs.toArray.all (·.oneCell') = true := by kernel_rfl

set_option maxHeartbeats 2000000 in
set_option maxRecDepth 100000 in
theorem Permute_any (s : Sha.St) (w : World) :
    Calls Tryd.prog 117 #[.agg (wA 25 s)] w fun e w' => e = .returned (.agg (wA 25 (perm s))) ∧ Below w.heap.size w w' := by
  obtain ⟨A, hA⟩ : ∃ A, wA 25 s = A := ⟨_, rfl⟩
  obtain ⟨C, hC⟩ : ∃ C, vCons.toArray = C := ⟨_, rfl⟩
  obtain ⟨O, hO⟩ : ∃ O, vOffs.toArray = O := ⟨_, rfl⟩
  have HOff := Lib.hid (fun w => offsets_any w)
  have HCon := Lib.hid (fun w => constants_any w)
  rw [hC] at HCon
  rw [hO] at HOff
  have hOs : (Tryd.prog.info? 125).map (·.size) = some O.size := by rw [← hO]; kernel_rfl
  have hO1 : O.all (·.oneCell') = true := by rw [← hO]; exact vOffs_one
  have hO2 : O.size = 25 := by rw [← hO]; rfl
  rw [hA]
  have HA := Lib.hid hA
  have HC := Lib.hid hC
  have HO := Lib.hid hO
  have HOs := Lib.hid hOs
  have HO1 := Lib.hid hO1
  have HO2 := Lib.hid hO2
  have hsA : A.size = 25 := by rw [← HA.out]; exact wA_size _ _
  have HsA := Lib.hid hsA
  clear hA hC hO hsA hOs hO1 hO2
  go_enter Tryd.func117, Tryd.ntmps117
  go_wp2_with fail
  go_at_call 120
  refine (HOff.out _).mono ?_
  rintro e w1 ⟨rfl, hb⟩
  have h0 := below_heap hb (k := w.heap.size) (by simp; omega) (old_of (new_of w (.cells A 99)))
  have h1 := below_heap hb (k := w.heap.size + 1) (o := .cells (wA 25 fun _ => 0) 99) (by simp) (new_at (by simp) rfl)
  have hB := (((Below.refl w.heap.size w).alloc (Nat.le_refl _) (.cells A 99)).alloc (by simp) _).trans (hb.mono (by simp; omega))
  have hz : w.heap.size + 1 < w1.heap.size := lt_of h1
  have H0 := Lib.hid h0
  have H1 := Lib.hid h1
  have HB := Lib.hid hB
  clear h0 h1 hB hb
  go_wp2_with (first
    | (go_at_call 121; refine (HCon.out _).mono ?_; rintro e w2 ⟨rfl, hb2⟩; have Hb2 := Lib.hid hb2; clear hb2)
    | (refine wpList_store_whole rfl 125 _ _ rfl w1.heap.size rfl O rfl 125 _ (new_at rfl rfl) HOs.out (by rw [HO2.out]; kernel_rfl) HO1.out ?_))
  have H0 := Lib.hid ((below_heap Hb2.out (k := w.heap.size) (by simp; omega) (row_other (old_of H0.out) (by omega))))
  have H1 := Lib.hid ((below_heap Hb2.out (k := w.heap.size + 1) (by simp; omega) (row_other (old_of H1.out) (by omega))))
  have H3 := Lib.hid ((below_heap Hb2.out (k := w1.heap.size) (by simp) (row_of (new_of _ _))))
  have HB2 := Lib.hid (((HB.out.alloc (by omega) _).setRow' (by omega) O).trans (Hb2.out.mono (by simp; omega)))
  clear Hb2
  go_loopw [8] (fun i wr => ∃ k : Nat, k ≤ 24 ∧ i = .int .i64 k ∧ wr.heap[w.heap.size]? = some (.cells (wA 25 (rnds s k)) 99) ∧ wr.heap[w.heap.size + 1]? = some (.cells (wA 25 fun _ => 0) 99) ∧ wr.heap[w1.heap.size]? = some (.cells O 125) ∧ Below w.heap.size w wr) (fun i _ => 24 - (intOf i).toNat)
  case atStart => exact ⟨0, by omega, rfl, by rw [show rnds s 0 = s from rfl, HA.out]; exact H0.out, H1.out, H3.out, HB2.out⟩
  case round =>
    obtain ⟨k, hk, rfl, h0, h1, h3, hB⟩ := hrel
    have G0 := Lib.hid h0
    have G1 := Lib.hid h1
    have G3 := Lib.hid h3
    have GB := Lib.hid hB
    clear h0 h1 h3 hB
    by_cases hlt : k < 24
    · have hCk : C[k]? = some (vW (con k)) := by rw [← HC.out]; simpa using vCons_at k hlt
      have hidx := run_index_one (P := Tryd.prog) (t := 127) rfl Tryd.isAgg84 Tryd.sizeOf84 hlt hCk
      clear hCk
      have HR := Lib.hid (fun w => round_any (rnds s k) (con k) w)
      rw [HO.out] at HR
      go_wp2_with (first
        | (refine wpList_load_row rfl 99 _ rfl w.heap.size rfl 99 _ (0, 0) _ G0.out rfl rfl (by rw [wA_size]; kernel_rfl) ?_)
        | (refine wpList_load_row rfl 125 _ rfl w1.heap.size rfl 125 O (0, 0) _ G3.out rfl rfl HOs.out ?_)
        | (go_at_call 122; refine (HR.out _).mono ?_; rintro e w3 ⟨rfl, hb3⟩; have Hb3 := Lib.hid hb3; clear hb3)
        | (refine wpList_store_whole rfl 99 _ _ rfl w.heap.size rfl _ rfl 99 _ (below_heap Hb3.out (lt_of G0.out) G0.out) (by rw [wA_size]; kernel_rfl) (by rw [wA_size, wA_size]) (wA_one _ _) ?_))
      go_roundw
      case rel =>
        refine ⟨k + 1, by omega, by go_num, row_of (below_heap Hb3.out (lt_of G0.out) G0.out), row_other (below_heap Hb3.out (lt_of G1.out) G1.out) (by omega), row_other (below_heap Hb3.out (lt_of G3.out) G3.out) (by omega), ?_⟩
        exact (GB.out.trans (Hb3.out.mono GB.out.size)).setRow' (Nat.le_refl _) _
      case measure => simp [intOf]; omega
    · obtain rfl : k = 24 := by omega
      go_wp2_with (first
        | (refine wpList_load_row rfl 99 _ rfl w.heap.size rfl 99 _ (0, 0) _ G0.out rfl rfl (by rw [wA_size]; kernel_rfl) ?_)
        | (refine wpList_store_whole rfl 99 _ _ rfl (w.heap.size + 1) rfl _ rfl 99 _ G1.out (by rw [wA_size]; kernel_rfl) (by rw [wA_size, wA_size]) (wA_one _ _) ?_))
      refine ret_whole rfl (w.heap.size + 1) 99 _ (0, 0) _ rfl (row_of G1.out) rfl rfl (by rw [wA_size]; kernel_rfl) rfl ?_
      exact ⟨rfl, Below.setRow' GB.out (by omega) _⟩

end Go.Proofs.YtfklmjcjjdliiaaDoor
