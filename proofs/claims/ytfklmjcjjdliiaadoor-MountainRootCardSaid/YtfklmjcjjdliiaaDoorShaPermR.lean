/- The reference's permutation is the plain one. -/
import Derived.Test.YtfklmjcjjdliiaaDoorShaRoundR
import Derived.Deep.RegionLaw
namespace Go.Proofs.YtfklmjcjjdliiaaDoor
open Go Go.RowKit Licit Licit.Sha

set_option maxHeartbeats 2000000 in
set_option maxRecDepth 100000 in
theorem PermuteR_any (s : Sha.St) (w : World) :
    Calls Tryd.prog 96 #[.agg (wA 25 s)] w fun e w' => e = .returned (.agg (wA 25 (perm s))) ∧ Below w.heap.size w w' := by
  obtain ⟨A, hA⟩ : ∃ A, wA 25 s = A := ⟨_, rfl⟩
  rw [hA]
  have HA := Lib.hid hA
  clear hA
  go_enter Tryd.func96, Tryd.ntmps96
  go_wp2
  go_loopw [3] (fun i wr => ∃ k : Nat, k ≤ 24 ∧ i = .int .i64 k ∧ wr.heap[w.heap.size]? = some (.cells (wA 25 (rnds s k)) 99) ∧ wr.heap[w.heap.size + 1]? = some (.cells (wA 25 fun _ => 0) 99) ∧ Below w.heap.size w wr) (fun i _ => 24 - (intOf i).toNat)
  case atStart => exact ⟨0, by omega, rfl, by rw [show rnds s 0 = s from rfl, HA.out]; exact old_of (new_of _ _), new_at (by simp) rfl, ((Below.refl _ _).alloc (Nat.le_refl _) _).alloc (by simp) _⟩
  case round =>
    obtain ⟨k, hk, rfl, h0, h1, hB⟩ := hrel
    have G0 := Lib.hid h0
    have G1 := Lib.hid h1
    have GB := Lib.hid hB
    clear h0 h1 hB
    by_cases hlt : k < 24
    · have HC := Lib.hid (fun w => constant_any k w hlt)
      have HR := Lib.hid (fun w => RoundR_any (rnds s k) (con k) w)
      go_wp2
      refine wp_region_any (by kernel_rfl) ?_
      change wpAny _ _ _ _ _ _ _ (World.drew _)
      refine wpAny_take (i := 1) (v := .int .i64 (k : Int)) rfl (by kernel_rfl) (by kernel_rfl) (by kernel_rfl) (fun _ _ _ h => h) (Or.inl ⟨by rfl, fun w => by go_simp⟩) ?_
      simp only [Act.put, List.setIfInBounds_toArray, List.set_cons_zero, List.set_cons_succ, List.getElem_toArray, List.getElem_cons_zero, List.getElem_cons_succ]
      refine wpAny_ready (rs := [0, 2]) (by kernel_rfl) (by simp) ?_
      refine AllReady.cons rfl (fun K hK => ?_) ?_
      · refine step_load_whole rfl 99 _ rfl w.heap.size rfl 99 _ (0, 0) _ G0.out rfl rfl (by rw [wA_size]; kernel_rfl) ?_
        refine hK _ _ ?_
        clear hK K
        refine wpAny_ready (rs := [2]) (by kernel_rfl) (by simp) ?_
        refine AllReady.cons rfl (fun K hK => ?_) AllReady.nil
        go_simp
        refine (HC.out _).mono ?_
        rintro e w2 ⟨rfl, hb2⟩
        have hB2 := GB.out.trans ((show Below wr.heap.size wr w2 from ⟨hb2.os, hb2.tape, hb2.output, hb2.size, hb2.block⟩).mono GB.out.size)
        have h20 : w2.heap[w.heap.size]? = some (.cells (wA 25 (rnds s k)) 99) := below_heap hb2 (lt_of G0.out) G0.out
        have h21 : w2.heap[w.heap.size + 1]? = some (.cells (wA 25 fun _ => 0) 99) := below_heap hb2 (lt_of G1.out) G1.out
        have H20 := Lib.hid h20
        have H21 := Lib.hid h21
        have HB2 := Lib.hid hB2
        clear hb2 h20 h21 hB2
        refine hK _ _ ?_
        clear hK K
        refine wpAny_ready (rs := [3]) (by kernel_rfl) (by simp) ?_
        refine AllReady.cons rfl (fun K hK => ?_) AllReady.nil
        go_simp
        refine (HR.out _).mono ?_
        rintro e w3 ⟨rfl, hb3⟩
        refine hK _ _ ?_
        clear hK K
        refine wpAny_ready (rs := [4]) (by kernel_rfl) (by simp) ?_
        refine AllReady.cons rfl (fun K hK => ?_) AllReady.nil
        refine step_store_new rfl 99 _ _ rfl w.heap.size rfl (wA 25 (rnd (rnds s k) (con k))) rfl 99 _ (below_heap hb3 (lt_of H20.out) H20.out) (by rw [wA_size]; kernel_rfl) (by rw [wA_size, wA_size]) (wA_one _ _) ?_
        intro w4 h40 hk4
        refine hK _ _ ?_
        clear hK K
        refine wpAny_done (by kernel_rfl) ?_ _
        have h41 := (hk4.block _ (lt_of (below_heap hb3 (lt_of H21.out) H21.out)) (fun e => by have : w.heap.size + 1 = w.heap.size := e; omega)).trans (below_heap hb3 (lt_of H21.out) H21.out)
        have hB4 : Below w.heap.size w w4 := (HB2.out.trans (hb3.mono HB2.out.size)).trans (hk4.below (by have := HB2.out.size; have := hb3.size; omega) (fun k hk e => by have : k = w.heap.size := e; omega))
        have H40 := Lib.hid h40
        have H41 := Lib.hid h41
        have HB4 := Lib.hid hB4
        clear h40 h41 hB4 hk4 hb3
        simp only [Act.put, List.getElem_toArray, List.getElem_cons_zero, List.getElem_cons_succ]
        go_wp2
        go_roundw
        case rel => exact ⟨k + 1, by omega, by go_num, H40.out, H41.out, HB4.out⟩
        case measure => simp [intOf]; omega
      refine AllReady.cons rfl (fun K hK => ?_) AllReady.nil
      · go_simp
        refine (HC.out _).mono ?_
        rintro e w2 ⟨rfl, hb2⟩
        have hB2 := GB.out.trans ((show Below wr.heap.size wr w2 from ⟨hb2.os, hb2.tape, hb2.output, hb2.size, hb2.block⟩).mono GB.out.size)
        have h20 : w2.heap[w.heap.size]? = some (.cells (wA 25 (rnds s k)) 99) := below_heap hb2 (lt_of G0.out) G0.out
        have h21 : w2.heap[w.heap.size + 1]? = some (.cells (wA 25 fun _ => 0) 99) := below_heap hb2 (lt_of G1.out) G1.out
        have H20 := Lib.hid h20
        have H21 := Lib.hid h21
        have HB2 := Lib.hid hB2
        clear hb2 h20 h21 hB2
        refine hK _ _ ?_
        clear hK K
        refine wpAny_ready (rs := [0]) (by kernel_rfl) (by simp) ?_
        refine AllReady.cons rfl (fun K hK => ?_) AllReady.nil
        refine step_load_whole rfl 99 _ rfl w.heap.size rfl 99 _ (0, 0) _ H20.out rfl rfl (by rw [wA_size]; kernel_rfl) ?_
        refine hK _ _ ?_
        clear hK K
        refine wpAny_ready (rs := [3]) (by kernel_rfl) (by simp) ?_
        refine AllReady.cons rfl (fun K hK => ?_) AllReady.nil
        go_simp
        refine (HR.out _).mono ?_
        rintro e w3 ⟨rfl, hb3⟩
        refine hK _ _ ?_
        clear hK K
        refine wpAny_ready (rs := [4]) (by kernel_rfl) (by simp) ?_
        refine AllReady.cons rfl (fun K hK => ?_) AllReady.nil
        refine step_store_new rfl 99 _ _ rfl w.heap.size rfl (wA 25 (rnd (rnds s k) (con k))) rfl 99 _ (below_heap hb3 (lt_of H20.out) H20.out) (by rw [wA_size]; kernel_rfl) (by rw [wA_size, wA_size]) (wA_one _ _) ?_
        intro w4 h40 hk4
        refine hK _ _ ?_
        clear hK K
        refine wpAny_done (by kernel_rfl) ?_ _
        have h41 := (hk4.block _ (lt_of (below_heap hb3 (lt_of H21.out) H21.out)) (fun e => by have : w.heap.size + 1 = w.heap.size := e; omega)).trans (below_heap hb3 (lt_of H21.out) H21.out)
        have hB4 : Below w.heap.size w w4 := (HB2.out.trans (hb3.mono HB2.out.size)).trans (hk4.below (by have := HB2.out.size; have := hb3.size; omega) (fun k hk e => by have : k = w.heap.size := e; omega))
        have H40 := Lib.hid h40
        have H41 := Lib.hid h41
        have HB4 := Lib.hid hB4
        clear h40 h41 hB4 hk4 hb3
        simp only [Act.put, List.getElem_toArray, List.getElem_cons_zero, List.getElem_cons_succ]
        go_wp2
        go_roundw
        case rel => exact ⟨k + 1, by omega, by go_num, H40.out, H41.out, HB4.out⟩
        case measure => simp [intOf]; omega
    · obtain rfl : k = 24 := by omega
      go_wp2_with (first
        | (refine wpList_load_row rfl 99 _ rfl w.heap.size rfl 99 _ (0, 0) _ G0.out rfl rfl (by rw [wA_size]; kernel_rfl) ?_)
        | (refine wpList_store_whole rfl 99 _ _ rfl (w.heap.size + 1) rfl _ rfl 99 _ G1.out (by rw [wA_size]; kernel_rfl) (by rw [wA_size, wA_size]) (wA_one _ _) ?_))
      refine ret_whole rfl (w.heap.size + 1) 99 _ (0, 0) _ rfl (row_of G1.out) rfl rfl (by rw [wA_size]; kernel_rfl) rfl ?_
      exact ⟨rfl, Below.setRow' GB.out (by omega) _⟩

end Go.Proofs.YtfklmjcjjdliiaaDoor
