/- formed of package lamport, and slices.ContainsFunc at lists of texts with a function that asks whether a text has not 32 bytes. -/
import Derived.Test.YtdkjehagkmkokaaDoorWkRefSig
import Derived.Shelf.Abstract
namespace Go.Proofs.YtdkjehagkmkokaaDoor
open Go Go.RowKit Licit

theorem clos_any (x : Bs) (w : World) : Calls Tryd.prog 68 #[.string (B x)] w fun e w' => e = .returned (.bool (!(decide (x.length = 32)))) ∧ w' = w := by
  have hs : (B x).size = x.length := rfl
  by_cases h : x.length = 32
  · have hq : (((B x).size : Int) == 32) = true := by simp; omega
    go_enter Tryd.func68, Tryd.ntmps68
    go_wp2
    go_ret
    refine ⟨?_, rfl⟩
    simp [h]
  · have hq : (((B x).size : Int) == 32) = false := by simp; omega
    go_enter Tryd.func68, Tryd.ntmps68
    go_wp2
    go_ret
    refine ⟨?_, rfl⟩
    rw [decide_eq_false h]
    simp
    exact fun e => h (by exact_mod_cast e)

theorem IndexF_any (g : Nat) (eg : ∀ args w, (callFunc g args).run Tryd.prog w = .ok (.enter g args) w) (hg : ∀ (x : Bs) (W : World), Calls Tryd.prog g #[.string (B x)] W fun e w' => e = .returned (.bool (!(decide (x.length = 32)))) ∧ w' = W)
    (v : Value) (xs : List Bs) (w : World) (h : IsSl v (xs.map vS) w) :
    Calls Tryd.prog 90 #[v, .func (.func g) #[] #[]] w fun e w' => (∃ r : Int, e = .returned (.int .i64 r) ∧ decide (r < 0) = all32 xs) ∧ w' = w := by
  obtain ⟨a, cap, rfl⟩ := h.formMap
  have hmx := h.1
  rw [List.length_map] at hmx
  unfold maxLen at hmx
  have H := Lib.hid h
  clear h
  go_enter Tryd.func90, Tryd.ntmps90
  go_wp2
  go_loopw [5, 8] (fun _ n wr => wr = w ∧ ∃ k : Nat, k ≤ xs.length ∧ n = .int .i64 k ∧ all32 (xs.take k) = true) (fun _ n _ => xs.length - (intOf n).toNat)
  case atStart => exact ⟨rfl, 0, by omega, rfl, by simp [all32]⟩
  case round =>
    obtain ⟨rfl, k, hk, rfl, hA⟩ := hrel
    have HA := Lib.hid hA
    clear hA
    by_cases hlt : k < xs.length
    · have h2 := H.out
      obtain ⟨b, off, cap', hv, hb, hc⟩ := h2.text rfl hlt
      simp only [Value.slice.injEq, true_and] at hv
      obtain ⟨rfl, rfl⟩ := hv
      obtain ⟨x, hx⟩ : ∃ x, xs.getD k [] = x := ⟨_, rfl⟩
      rw [hx] at hc
      have Hx := Lib.hid hx
      have hcall := hg x
      clear hx h2
      by_cases h32 : x.length = 32
      · rw [decide_eq_true h32, Bool.not_true] at hcall
        have H32 := Lib.hid h32
        clear hg h32
        go_wp2_with (go_at_fn g; refine (hcall _).mono ?_; rintro e w' ⟨rfl, rfl⟩)
        go_roundw
        case rel => exact ⟨trivial, k + 1, by omega, by go_num, by rw [all32_take xs k hlt HA.out, Hx.out]; simpa using H32.out⟩
        case measure => simp [intOf]; omega
      · rw [decide_eq_false h32, Bool.not_false] at hcall
        have H32 := Lib.hid h32
        clear hg h32
        go_wp2_with (go_at_fn g; refine (hcall _).mono ?_; rintro e w' ⟨rfl, rfl⟩)
        go_ret
        rw [all32_no xs k hlt (by rw [Hx.out]; exact H32.out)]
        exact ⟨⟨_, rfl, by simp⟩, rfl⟩
    · obtain rfl : k = xs.length := by omega
      have hA := HA.out
      rw [List.take_length] at hA
      have HA := Lib.hid hA
      clear hA
      go_wp2
      go_ret
      rw [HA.out]
      exact ⟨⟨_, rfl, by simp⟩, rfl⟩

theorem Contains_any (g : Nat) (eg : ∀ args w, (callFunc g args).run Tryd.prog w = .ok (.enter g args) w) (hg : ∀ (x : Bs) (W : World), Calls Tryd.prog g #[.string (B x)] W fun e w' => e = .returned (.bool (!(decide (x.length = 32)))) ∧ w' = W)
    (v : Value) (xs : List Bs) (w : World) (h : IsSl v (xs.map vS) w) :
    Calls Tryd.prog 67 #[v, .func (.func g) #[] #[]] w fun e w' => e = .returned (.bool (!(all32 xs))) ∧ w' = w := by
  have HI := Lib.hid (IndexF_any g eg hg v xs w h)
  clear h hg
  go_enter Tryd.func67, Tryd.ntmps67
  go_wp2_with (go_at_call 90; refine HI.out.mono ?_; rintro e w' ⟨⟨r, rfl, hr⟩, rfl⟩)
  go_ret
  refine ⟨?_, rfl⟩
  rw [← hr]
  by_cases h0 : r < 0 <;> simp [h0] <;> omega

set_option maxHeartbeats 1000000 in
set_option maxRecDepth 100000 in
theorem Formed_any (v : Value) (i : Int) (S H R : List Bs) (w : World) (h : SigIs v i S H R w) :
    Calls Tryd.prog 42 #[v] w fun e w' => e = .returned (.bool (sigOk i S H R)) ∧ Below w.heap.size w w' := by
  obtain ⟨vs, vh, vr, rfl, hS, hH, hR⟩ := h
  have hB1 : Below w.heap.size w (w.alloc (.cells #[.int .i64 i, vs, vh, vr] 34)) := (Below.refl _ _).alloc (Nat.le_refl _) _
  have hB2 : Below w.heap.size w ((w.alloc (.cells #[.int .i64 i, vs, vh, vr] 34)).alloc (.cells #[vs, vh, vr] 32)) := hB1.alloc (by simp) _
  have HS := Lib.hid (hS.below hB2)
  have HH := Lib.hid (hH.below hB2)
  have HR := Lib.hid (hR.below hB2)
  have hSl := hS.1
  have hHl := hH.1
  have hRl := hR.1
  rw [List.length_map] at hSl hHl hRl
  unfold maxLen at hSl hHl hRl
  obtain ⟨sa, sc, rfl⟩ := hS.formMap
  obtain ⟨ha, hc, rfl⟩ := hH.formMap
  obtain ⟨ra, rc, rfl⟩ := hR.formMap
  have HB1 := Lib.hid hB1
  have HB2 := Lib.hid hB2
  clear hS hH hR hB1 hB2
  by_cases c1 : i < 0
  · have d1 : decide (i < 0) = true := by simpa using c1
    have hq : sigOk i S H R = false := by unfold sigOk; rw [decide_eq_false (by omega)]; simp
    rw [hq]
    clear hq
    go_enter Tryd.func42, Tryd.ntmps42
    go_wp2
    go_ret
    exact ⟨rfl, HB1.out⟩
  have d1 : decide (i < 0) = false := by simpa using c1
  by_cases c2 : 64 ≤ i
  · have d2 : decide (64 ≤ i) = true := by simpa using c2
    have hq : sigOk i S H R = false := by unfold sigOk; rw [decide_eq_false (p := i < 64) (by omega)]; simp
    rw [hq]
    clear hq
    go_enter Tryd.func42, Tryd.ntmps42
    go_wp2
    go_ret
    exact ⟨rfl, HB1.out⟩
  have d2 : decide (64 ≤ i) = false := by simpa using c2
  by_cases c3 : S.length = H.length
  rotate_left
  · have d3 : ((S.length : Int) == (H.length : Int)) = false := by simp; omega
    have hq : sigOk i S H R = false := by unfold sigOk; rw [decide_eq_false c3]; simp
    rw [hq]
    clear hq
    go_enter Tryd.func42, Tryd.ntmps42
    go_wp2
    go_ret
    exact ⟨rfl, HB1.out⟩
  have d3 : (S.length : Int) = (H.length : Int) := by omega
  have C3 := Lib.hid c3
  clear c3
  by_cases c4 : 256 < S.length
  · have d4 : decide (256 < (H.length : Int)) = true := by have := C3.out; simp; omega
    have hq : sigOk i S H R = false := by unfold sigOk; rw [decide_eq_false (p := S.length ≤ 256) (by omega)]; simp
    rw [hq]
    clear hq
    go_enter Tryd.func42, Tryd.ntmps42
    go_wp2
    go_ret
    exact ⟨rfl, HB1.out⟩
  have d4 : decide (256 < (H.length : Int)) = false := by have := C3.out; simp; omega
  by_cases c5 : 6 < R.length
  · have d5 : decide (6 < (R.length : Int)) = true := by simp; omega
    have hq : sigOk i S H R = false := by unfold sigOk; rw [decide_eq_false (p := R.length ≤ 6) (by omega)]; simp
    rw [hq]
    clear hq
    go_enter Tryd.func42, Tryd.ntmps42
    go_wp2
    go_ret
    exact ⟨rfl, HB1.out⟩
  have d5 : decide (6 < (R.length : Int)) = false := by simp; omega
  have hq : sigOk i S H R = (all32 S && all32 H && all32 R) := by
    unfold sigOk
    rw [decide_eq_true (p := 0 ≤ i) (by omega), decide_eq_true (p := i < 64) (by omega), decide_eq_true C3.out, decide_eq_true (p := S.length ≤ 256) (by omega), decide_eq_true (p := R.length ≤ 6) (by omega)]
    simp
  rw [hq]
  obtain ⟨w2, hw2⟩ : ∃ w2, (w.alloc (.cells #[.int .i64 i, .slice sa S.length sc, .slice ha H.length hc, .slice ra R.length rc] 34)).alloc (.cells #[.slice sa S.length sc, .slice ha H.length hc, .slice ra R.length rc] 32) = w2 := ⟨_, rfl⟩
  have hr : w2.heap[w.heap.size + 1]? = some (.cells #[.slice sa S.length sc, .slice ha H.length hc, .slice ra R.length rc] 32) := by rw [← hw2]; exact new_at (by simp) rfl
  have hc0 : w2.cell? ⟨w.heap.size + 1, 0, none⟩ = some (.slice sa S.length sc) := cell_of hr 0
  have hc1 : w2.cell? ⟨w.heap.size + 1, 1, none⟩ = some (.slice ha H.length hc) := cell_of hr 1
  have hc2 : w2.cell? ⟨w.heap.size + 1, 2, none⟩ = some (.slice ra R.length rc) := cell_of hr 2
  have hCS := Contains_any 68 (enters_of Tryd.func68 (by kernel_rfl) rfl) clos_any _ _ _ HS.out
  have hCH := Contains_any 68 (enters_of Tryd.func68 (by kernel_rfl) rfl) clos_any _ _ _ HH.out
  have hCR := Contains_any 68 (enters_of Tryd.func68 (by kernel_rfl) rfl) clos_any _ _ _ HR.out
  rw [hw2] at hCS hCH hCR HB2
  have HCS := Lib.hid hCS
  have HCH := Lib.hid hCH
  have HCR := Lib.hid hCR
  clear HS HH HR hCS hCH hCR hq hr HB1 c1 c2 c4 c5
  go_enter Tryd.func42, Tryd.ntmps42
  go_wp2
  clear hw2
  go_loopw [4, 42] (fun _ n wr => wr = w2 ∧ ∃ k : Nat, k ≤ 3 ∧ n = .int .i64 k ∧ (1 ≤ k → all32 S = true) ∧ (2 ≤ k → all32 H = true) ∧ (3 ≤ k → all32 R = true)) (fun _ n _ => 3 - (intOf n).toNat)
  case atStart => exact ⟨rfl, 0, by omega, rfl, by omega, by omega, by omega⟩
  case round =>
    obtain ⟨rfl, k, hk, rfl, h1, h2, h3⟩ := hrel
    have H1 := Lib.hid h1
    have H2 := Lib.hid h2
    have H3 := Lib.hid h3
    clear h1 h2 h3
    have hk4 : k = 0 ∨ k = 1 ∨ k = 2 ∨ k = 3 := by omega
    rcases hk4 with rfl | rfl | rfl | rfl
    · cases hA : all32 S with
      | true =>
        rw [hA] at HCS
        go_wp2_with (go_at_call 67; refine HCS.out.mono ?_; rintro e w' ⟨rfl, rfl⟩)
        go_roundw
        case rel => exact ⟨trivial, 1, by omega, rfl, fun _ => by first | exact hA | trivial, by omega, by omega⟩
        case measure => simp [intOf]
      | false =>
        rw [hA] at HCS
        go_wp2_with (go_at_call 67; refine HCS.out.mono ?_; rintro e w' ⟨rfl, rfl⟩)
        go_ret
        exact ⟨by first | rfl | (rw [hA]; rfl), HB2.out⟩
    · have hS := H1.out (by omega)
      cases hA : all32 H with
      | true =>
        rw [hA] at HCH
        go_wp2_with (go_at_call 67; refine HCH.out.mono ?_; rintro e w' ⟨rfl, rfl⟩)
        go_roundw
        case rel => exact ⟨trivial, 2, by omega, rfl, fun _ => hS, fun _ => by first | exact hA | trivial, by omega⟩
        case measure => simp [intOf]
      | false =>
        rw [hA] at HCH
        go_wp2_with (go_at_call 67; refine HCH.out.mono ?_; rintro e w' ⟨rfl, rfl⟩)
        go_ret
        exact ⟨by first | (rw [hS]; rfl) | (rw [hS, hA]; rfl), HB2.out⟩
    · have hS := H1.out (by omega)
      have hH := H2.out (by omega)
      cases hA : all32 R with
      | true =>
        rw [hA] at HCR
        go_wp2_with (go_at_call 67; refine HCR.out.mono ?_; rintro e w' ⟨rfl, rfl⟩)
        go_roundw
        case rel => exact ⟨trivial, 3, by omega, rfl, fun _ => hS, fun _ => hH, fun _ => by first | exact hA | trivial⟩
        case measure => simp [intOf]
      | false =>
        rw [hA] at HCR
        go_wp2_with (go_at_call 67; refine HCR.out.mono ?_; rintro e w' ⟨rfl, rfl⟩)
        go_ret
        exact ⟨by first | (rw [hS, hH]; rfl) | (rw [hS, hH, hA]; rfl), HB2.out⟩
    · have hS := H1.out (by omega)
      have hH := H2.out (by omega)
      have hR := H3.out (by omega)
      have HA := Lib.hid (show (all32 S && all32 H && all32 R) = true by rw [hS, hH, hR]; rfl)
      clear hS hH hR
      go_wp2
      go_ret
      rw [HA.out]
      exact ⟨rfl, HB2.out⟩

end Go.Proofs.YtdkjehagkmkokaaDoor
