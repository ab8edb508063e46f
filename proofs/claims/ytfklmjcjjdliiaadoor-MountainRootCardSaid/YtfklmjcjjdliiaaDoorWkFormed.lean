/- formed of package lamport, and slices.ContainsFunc at lists of texts with a function that asks whether a text has not 32 bytes. -/
import Derived.Test.YtfklmjcjjdliiaaDoorWkRefSig
import Derived.Shelf.Abstract
namespace Go.Proofs.YtfklmjcjjdliiaaDoor
open Go Go.RowKit Licit

theorem clos_any (x : Bs) (w : World) : Calls Tryd.prog 50 #[.string (B x)] w fun e w' => e = .returned (.bool (!(decide (x.length = 32)))) ∧ w' = w := by
  have hs : (B x).size = x.length := rfl
  by_cases h : x.length = 32
  · have hq : (((B x).size : Int) == 32) = true := by simp; omega
    go_enter Tryd.func50, Tryd.ntmps50
    go_wp2
    go_ret
    refine ⟨?_, rfl⟩
    simp [h]
  · have hq : (((B x).size : Int) == 32) = false := by simp; omega
    go_enter Tryd.func50, Tryd.ntmps50
    go_wp2
    go_ret
    refine ⟨?_, rfl⟩
    rw [decide_eq_false h]
    simp
    exact fun e => h (by exact_mod_cast e)

theorem IndexF_any (g : Nat) (eg : ∀ args w, (callFunc g args).run Tryd.prog w = .ok (.enter g args) w) (hg : ∀ (x : Bs) (W : World), Calls Tryd.prog g #[.string (B x)] W fun e w' => e = .returned (.bool (!(decide (x.length = 32)))) ∧ w' = W)
    (v : Value) (xs : List Bs) (w : World) (h : IsSl v (xs.map vS) w) :
    Calls Tryd.prog 76 #[v, .func (.func g) #[] #[]] w fun e w' => (∃ r : Int, e = .returned (.int .i64 r) ∧ decide (r < 0) = all32 xs) ∧ w' = w := by
  obtain ⟨a, cap, rfl⟩ := h.formMap
  have hmx := h.1
  rw [List.length_map] at hmx
  unfold maxLen at hmx
  have H := Lib.hid h
  clear h
  go_enter Tryd.func76, Tryd.ntmps76
  go_wp2
  go_loopw [5, 8] (fun _ n wr => wr = w ∧ ∃ k : Nat, k ≤ xs.length ∧ n = .int .i64 k ∧ all32 (xs.take k) = true) (fun _ n _ => xs.length - (intOf n).toNat)
  case atStart => exact ⟨rfl, 0, by omega, rfl, by simp [all32]⟩
  case round =>
    obtain ⟨rfl, k, hk, rfl, hA⟩ := hrel
    have HA := Lib.hid hA
    clear hA
    by_cases hlt : k < xs.length
    · have h2 := H.out
      obtain ⟨b, off, cap', hv, hb, hc⟩ := h2.text rfl hlt
      simp only [Value.slice.injEq, true_and] at hv
      obtain ⟨rfl, rfl⟩ := hv
      obtain ⟨x, hx⟩ : ∃ x, xs.getD k [] = x := ⟨_, rfl⟩
      rw [hx] at hc
      have Hx := Lib.hid hx
      have hcall := hg x
      clear hx h2
      by_cases h32 : x.length = 32
      · rw [decide_eq_true h32, Bool.not_true] at hcall
        have H32 := Lib.hid h32
        clear hg h32
        go_wp2_with (go_at_fn g; refine (hcall _).mono ?_; rintro e w' ⟨rfl, rfl⟩)
        go_roundw
        case rel => exact ⟨trivial, k + 1, by omega, by go_num, by rw [all32_take xs k hlt HA.out, Hx.out]; simpa using H32.out⟩
        case measure => simp [intOf]; omega
      · rw [decide_eq_false h32, Bool.not_false] at hcall
        have H32 := Lib.hid h32
        clear hg h32
        go_wp2_with (go_at_fn g; refine (hcall _).mono ?_; rintro e w' ⟨rfl, rfl⟩)
        go_ret
        rw [all32_no xs k hlt (by rw [Hx.out]; exact H32.out)]
        exact ⟨⟨_, rfl, by simp⟩, rfl⟩
    · obtain rfl : k = xs.length := by omega
      have hA := HA.out
      rw [List.take_length] at hA
      have HA := Lib.hid hA
      clear hA
      go_wp2
      go_ret
      rw [HA.out]
      exact ⟨⟨_, rfl, by simp⟩, rfl⟩

theorem Contains_any (g : Nat) (eg : ∀ args w, (callFunc g args).run Tryd.prog w = .ok (.enter g args) w) (hg : ∀ (x : Bs) (W : World), Calls Tryd.prog g #[.string (B x)] W fun e w' => e = .returned (.bool (!(decide (x.length = 32)))) ∧ w' = W)
    (v : Value) (xs : List Bs) (w : World) (h : IsSl v (xs.map vS) w) :
    Calls Tryd.prog 51 #[v, .func (.func g) #[] #[]] w fun e w' => e = .returned (.bool (!(all32 xs))) ∧ w' = w := by
  have HI := Lib.hid (IndexF_any g eg hg v xs w h)
  clear h hg
  go_enter Tryd.func51, Tryd.ntmps51
  go_wp2_with (go_at_call 76; refine HI.out.mono ?_; rintro e w' ⟨⟨r, rfl, hr⟩, rfl⟩)
  go_ret
  refine ⟨?_, rfl⟩
  rw [← hr]
  by_cases h0 : r < 0 <;> simp [h0] <;> omega


end Go.Proofs.YtfklmjcjjdliiaaDoor
