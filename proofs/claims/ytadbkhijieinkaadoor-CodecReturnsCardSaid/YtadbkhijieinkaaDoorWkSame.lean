/- SameInts and SameStrings of the reference of layer 2 compare two lists; for lists that can be read. -/
import Derived.Test.YtadbkhijieinkaaDoorRd
import Derived.Test.YtadbkhijieinkaaDoorProg
import Derived.Deep.QuietTactic
import Derived.BigQuiet
namespace Go.Proofs.YtadbkhijieinkaaDoor
open Go Go.RowKit Licit

theorem beqB_ne {x y : Bs} (h : ¬ x = y) : ((B x).toList == (B y).toList) = false := by
  rw [ByteArray.toList_eq, ByteArray.toList_eq, B_list, B_list]; simpa using h
theorem beqB_eq (x : Bs) : ((B x).toList == (B x).toList) = true := by simp
set_option maxRecDepth 100000 in
set_option maxHeartbeats 1600000 in
theorem sameI_any (v u : Value) (xs ys : List Int) (w : World) (h : IsSl v (xs.map vI) w) (h' : IsSl u (ys.map vI) w) :
    Calls Tryd.prog 24 #[v, u] w fun e w' => e = .returned (.bool (decide (xs = ys))) ∧ Below w.heap.size w w' := by
  obtain ⟨hm, h⟩ := h
  obtain ⟨hm', h'⟩ := h'
  have hv : ∃ a cap, v = .slice a xs.length cap := by
    rcases h with ⟨a, cap, rfl, h⟩ | ⟨b, off, cap, rfl, _⟩
    · exact ⟨a, cap, by rw [show xs = [] by simpa using h]; rfl⟩
    · exact ⟨_, cap, by rw [List.length_map]⟩
  have hu : ∃ a cap, u = .slice a ys.length cap := by
    rcases h' with ⟨a, cap, rfl, h'⟩ | ⟨b, off, cap, rfl, _⟩
    · exact ⟨a, cap, by rw [show ys = [] by simpa using h']; rfl⟩
    · exact ⟨_, cap, by rw [List.length_map]⟩
  rw [List.length_map] at hm hm'
  unfold maxLen at hm hm'
  by_cases hlen : xs.length = ys.length
  · by_cases h0 : xs.length = 0
    · obtain rfl : xs = [] := List.eq_nil_of_length_eq_zero h0
      obtain rfl : ys = [] := List.eq_nil_of_length_eq_zero (by omega)
      obtain ⟨a, cap, rfl⟩ := hv
      obtain ⟨a', cap', rfl⟩ := hu
      have HR := Lib.hid (show decide (([] : List Int) = []) = true by decide)
      clear h h' hlen h0
      simp only [List.length_nil]
      go_enter Tryd.func24, Tryd.ntmps24
      go_wp2
      refine wp_loop_rounds 1 ?_
      rw [rounds_succ]
      go_wp2
      go_ret
      exact ⟨by rw [HR.out]; rfl, Below.refl _ _⟩
    · rcases h with ⟨a, cap, rfl, h⟩ | ⟨b, off, cap, rfl, _, hc⟩
      · exact (h0 (by rw [show xs = [] by simpa using h]; rfl)).elim
      · rcases h' with ⟨a, cap', rfl, h'⟩ | ⟨b', off', cap', rfl, _, hc'⟩
        · exact (h0 (by rw [hlen, show ys = [] by simpa using h']; rfl)).elim
        · rw [List.length_map] at hc hc'
          have hbw : b < w.heap.size := World.block_lt_of_cell? w _ ((hc 0 (by omega)).trans (List.getElem?_eq_getElem (by rw [List.length_map]; omega)))
          have hbw' : b' < w.heap.size := World.block_lt_of_cell? w _ ((hc' 0 (by omega)).trans (List.getElem?_eq_getElem (by rw [List.length_map]; omega)))
          have HC := Lib.hid hc
          have HC' := Lib.hid hc'
          have hlt' : xs.length ≤ ys.length := by omega
          have HL := Lib.hid hlen
          obtain ⟨n, hn⟩ : ∃ n, n = xs.length := ⟨_, rfl⟩
          have hn' : n = ys.length := by omega
          simp only [List.length_map, ← hn, ← hn']
          rw [← hn] at h0 hm
          have HN := Lib.hid hn
          have HN' := Lib.hid hn'
          clear hc hc' hv hu hlen hlt' hm' hn hn'
          go_enter Tryd.func24, Tryd.ntmps24
          go_wp2
          go_loopw [13] (fun i wr => ∃ k : Nat, k ≤ n ∧ i = .int .i64 k ∧ Hid (xs.take k = ys.take k) ∧ Below w.heap.size w wr) (fun i _ => n - (intOf i).toNat)
          case atStart => exact ⟨0, Nat.zero_le _, rfl, rfl, Below.refl _ _⟩
          case round =>
            obtain ⟨k, hk, rfl, H, hbr⟩ := hrel
            have Hbr := Lib.hid hbr
            by_cases hlt : k < n
            · have hx1 : k < xs.length := by have := HN.out; omega
              have hy1 : k < ys.length := by have := HN'.out; omega
              have hcell : wr.cell? ⟨b, off + k, none⟩ = some (vI xs[k]) := by
                rw [hbr.cell (p := ⟨b, off + k, none⟩) hbw, HC.out k hx1]; simp [hx1]
              have hcell' : wr.cell? ⟨b', off' + k, none⟩ = some (vI ys[k]) := by
                rw [hbr.cell (p := ⟨b', off' + k, none⟩) hbw', HC'.out k hy1]; simp [hy1]
              unfold vI at hcell hcell'
              have i0 : (0 : Int) ≤ (k : Int) := by omega
              have i1 : (k : Int) < (n : Int) := by omega
              obtain ⟨x, hx⟩ : ∃ x, x = xs[k] := ⟨_, rfl⟩
              obtain ⟨y, hy⟩ : ∃ y, y = ys[k] := ⟨_, rfl⟩
              rw [← hx] at hcell
              rw [← hy] at hcell'
              have Hx1 := Lib.hid hx1
              have Hy1 := Lib.hid hy1
              have HX : Hid (xs[k]'Hx1.out = x) := hx.symm
              have HY : Hid (ys[k]'Hy1.out = y) := hy.symm
              clear hbr hx hy
              by_cases hxy : x = y
              · have HXY := Lib.hid hxy
                subst hxy
                clear hcell'
                have hcell' : wr.cell? ⟨b', off' + k, none⟩ = some (vI x) := by
                  have := Hbr.out
                  rw [this.cell (p := ⟨b', off' + k, none⟩) hbw', HC'.out k Hy1.out]; simp [Hy1.out, HY.out]
                unfold vI at hcell'
                go_wp2_with fail
                go_quiet (fail)
                go_wp2
                go_roundw
                case rel =>
                  refine ⟨k + 1, by omega, by go_num, ?_, Hbr.out.trans (below_drewN (Below.refl _ _) _)⟩
                  show _ = _
                  rw [List.take_succ_eq_append_getElem Hx1.out, List.take_succ_eq_append_getElem Hy1.out, H.out, HX.out, HY.out]
                case measure => simp [intOf]; omega
              · have hq : (x != y) = true := by simpa using hxy
                have HQ := Lib.hid hxy
                clear hxy
                go_wp2_with fail
                go_quiet (fail)
                go_wp2
                go_ret
                refine ⟨?_, Hbr.out.trans (below_drewN (Below.refl _ _) _)⟩
                rw [decide_eq_false (fun e => HQ.out (by rw [← HX.out, ← HY.out]; subst e; rfl))]
                rfl
            · have HR := Lib.hid (show decide (xs = ys) = true from decide_eq_true (by
                have := H.out
                have h1 := HN.out
                have h2 := HN'.out
                rwa [List.take_of_length_le (by omega), List.take_of_length_le (by omega)] at this))
              clear hbr
              go_wp2
              go_ret
              exact ⟨by rw [HR.out]; rfl, Hbr.out⟩
  · have HR := Lib.hid (show decide (xs = ys) = false from decide_eq_false (fun e => hlen (by rw [e])))
    obtain ⟨a, cap, rfl⟩ := hv
    obtain ⟨a', cap', rfl⟩ := hu
    have hq : ((xs.length : Int) != (ys.length : Int)) = true := by
      rw [bne_iff_ne]
      omega
    clear h h' hlen
    go_enter Tryd.func24, Tryd.ntmps24
    go_wp2
    go_ret
    exact ⟨by rw [HR.out]; rfl, Below.refl _ _⟩
set_option maxRecDepth 100000 in
set_option maxHeartbeats 1600000 in
theorem sameS_any (v u : Value) (xs ys : List Bs) (w : World) (h : IsSl v (xs.map vS) w) (h' : IsSl u (ys.map vS) w) :
    Calls Tryd.prog 27 #[v, u] w fun e w' => e = .returned (.bool (decide (xs = ys))) ∧ Below w.heap.size w w' := by
  obtain ⟨hm, h⟩ := h
  obtain ⟨hm', h'⟩ := h'
  have hv : ∃ a cap, v = .slice a xs.length cap := by
    rcases h with ⟨a, cap, rfl, h⟩ | ⟨b, off, cap, rfl, _⟩
    · exact ⟨a, cap, by rw [show xs = [] by simpa using h]; rfl⟩
    · exact ⟨_, cap, by rw [List.length_map]⟩
  have hu : ∃ a cap, u = .slice a ys.length cap := by
    rcases h' with ⟨a, cap, rfl, h'⟩ | ⟨b, off, cap, rfl, _⟩
    · exact ⟨a, cap, by rw [show ys = [] by simpa using h']; rfl⟩
    · exact ⟨_, cap, by rw [List.length_map]⟩
  rw [List.length_map] at hm hm'
  unfold maxLen at hm hm'
  by_cases hlen : xs.length = ys.length
  · by_cases h0 : xs.length = 0
    · obtain rfl : xs = [] := List.eq_nil_of_length_eq_zero h0
      obtain rfl : ys = [] := List.eq_nil_of_length_eq_zero (by omega)
      obtain ⟨a, cap, rfl⟩ := hv
      obtain ⟨a', cap', rfl⟩ := hu
      have HR := Lib.hid (show decide (([] : List Bs) = []) = true by decide)
      clear h h' hlen h0
      simp only [List.length_nil]
      go_enter Tryd.func27, Tryd.ntmps27
      go_wp2
      refine wp_loop_rounds 1 ?_
      rw [rounds_succ]
      go_wp2
      go_ret
      exact ⟨by rw [HR.out]; rfl, Below.refl _ _⟩
    · rcases h with ⟨a, cap, rfl, h⟩ | ⟨b, off, cap, rfl, _, hc⟩
      · exact (h0 (by rw [show xs = [] by simpa using h]; rfl)).elim
      · rcases h' with ⟨a, cap', rfl, h'⟩ | ⟨b', off', cap', rfl, _, hc'⟩
        · exact (h0 (by rw [hlen, show ys = [] by simpa using h']; rfl)).elim
        · rw [List.length_map] at hc hc'
          have hbw : b < w.heap.size := World.block_lt_of_cell? w _ ((hc 0 (by omega)).trans (List.getElem?_eq_getElem (by rw [List.length_map]; omega)))
          have hbw' : b' < w.heap.size := World.block_lt_of_cell? w _ ((hc' 0 (by omega)).trans (List.getElem?_eq_getElem (by rw [List.length_map]; omega)))
          have HC := Lib.hid hc
          have HC' := Lib.hid hc'
          have hlt' : xs.length ≤ ys.length := by omega
          have HL := Lib.hid hlen
          obtain ⟨n, hn⟩ : ∃ n, n = xs.length := ⟨_, rfl⟩
          have hn' : n = ys.length := by omega
          simp only [List.length_map, ← hn, ← hn']
          rw [← hn] at h0 hm
          have HN := Lib.hid hn
          have HN' := Lib.hid hn'
          clear hc hc' hv hu hlen hlt' hm' hn hn'
          go_enter Tryd.func27, Tryd.ntmps27
          go_wp2
          go_loopw [13] (fun i wr => ∃ k : Nat, k ≤ n ∧ i = .int .i64 k ∧ Hid (xs.take k = ys.take k) ∧ Below w.heap.size w wr) (fun i _ => n - (intOf i).toNat)
          case atStart => exact ⟨0, Nat.zero_le _, rfl, rfl, Below.refl _ _⟩
          case round =>
            obtain ⟨k, hk, rfl, H, hbr⟩ := hrel
            have Hbr := Lib.hid hbr
            by_cases hlt : k < n
            · have hx1 : k < xs.length := by have := HN.out; omega
              have hy1 : k < ys.length := by have := HN'.out; omega
              have hcell : wr.cell? ⟨b, off + k, none⟩ = some (vS xs[k]) := by
                rw [hbr.cell (p := ⟨b, off + k, none⟩) hbw, HC.out k hx1]; simp [hx1]
              have hcell' : wr.cell? ⟨b', off' + k, none⟩ = some (vS ys[k]) := by
                rw [hbr.cell (p := ⟨b', off' + k, none⟩) hbw', HC'.out k hy1]; simp [hy1]
              unfold vS at hcell hcell'
              have i0 : (0 : Int) ≤ (k : Int) := by omega
              have i1 : (k : Int) < (n : Int) := by omega
              obtain ⟨x, hx⟩ : ∃ x, x = xs[k] := ⟨_, rfl⟩
              obtain ⟨y, hy⟩ : ∃ y, y = ys[k] := ⟨_, rfl⟩
              rw [← hx] at hcell
              rw [← hy] at hcell'
              have Hx1 := Lib.hid hx1
              have Hy1 := Lib.hid hy1
              have HX : Hid (xs[k]'Hx1.out = x) := hx.symm
              have HY : Hid (ys[k]'Hy1.out = y) := hy.symm
              clear hbr hx hy
              by_cases hxy : x = y
              · have HXY := Lib.hid hxy
                subst hxy
                clear hcell'
                have hcell' : wr.cell? ⟨b', off' + k, none⟩ = some (vS x) := by
                  have := Hbr.out
                  rw [this.cell (p := ⟨b', off' + k, none⟩) hbw', HC'.out k Hy1.out]; simp [Hy1.out, HY.out]
                unfold vS at hcell'
                go_wp2_with fail
                go_quiet (fail)
                go_wp2
                go_roundw
                case rel =>
                  refine ⟨k + 1, by omega, by go_num, ?_, Hbr.out.trans (below_drewN (Below.refl _ _) _)⟩
                  show _ = _
                  rw [List.take_succ_eq_append_getElem Hx1.out, List.take_succ_eq_append_getElem Hy1.out, H.out, HX.out, HY.out]
                case measure => simp [intOf]; omega
              · have hq : ((B x).toList == (B y).toList) = false := beqB_ne hxy
                have HQ := Lib.hid hxy
                clear hxy
                go_wp2_with fail
                go_quiet (fail)
                go_wp2
                go_ret
                refine ⟨?_, Hbr.out.trans (below_drewN (Below.refl _ _) _)⟩
                rw [decide_eq_false (fun e => HQ.out (by rw [← HX.out, ← HY.out]; subst e; rfl))]
                rfl
            · have HR := Lib.hid (show decide (xs = ys) = true from decide_eq_true (by
                have := H.out
                have h1 := HN.out
                have h2 := HN'.out
                rwa [List.take_of_length_le (by omega), List.take_of_length_le (by omega)] at this))
              clear hbr
              go_wp2
              go_ret
              exact ⟨by rw [HR.out]; rfl, Hbr.out⟩
  · have HR := Lib.hid (show decide (xs = ys) = false from decide_eq_false (fun e => hlen (by rw [e])))
    obtain ⟨a, cap, rfl⟩ := hv
    obtain ⟨a', cap', rfl⟩ := hu
    have hq : ((xs.length : Int) != (ys.length : Int)) = true := by
      rw [bne_iff_ne]
      omega
    clear h h' hlen
    go_enter Tryd.func27, Tryd.ntmps27
    go_wp2
    go_ret
    exact ⟨by rw [HR.out]; rfl, Below.refl _ _⟩
end Go.Proofs.YtadbkhijieinkaaDoor
