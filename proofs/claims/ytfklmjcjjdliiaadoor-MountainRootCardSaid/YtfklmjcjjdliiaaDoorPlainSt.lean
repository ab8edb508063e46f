/- The heights of the steps of growth as package bits reckons them; plain numbers. -/
import Derived.Test.YtfklmjcjjdliiaaDoorPlainMt
import Derived.Lib.TrailingZeros
import Derived.Lib.BitFns
namespace Licit
open Go

theorem bitLen_all : ∀ f x, x < 2 ^ f → f ≤ 64 → Lib.bitLen x ≤ f ∧ x < 2 ^ Lib.bitLen x ∧ (0 < x → 1 ≤ Lib.bitLen x ∧ 2 ^ (Lib.bitLen x - 1) ≤ x) := by
  intro f
  induction f with
  | zero =>
    intro x hx _
    obtain rfl : x = 0 := by simpa using hx
    exact ⟨by decide, by decide, fun h => absurd h (by decide)⟩
  | succ f ih =>
    intro x hx hf
    by_cases h0 : x = 0
    · subst h0
      have h1 : Lib.bitLen 0 = 0 := by decide
      rw [h1]
      exact ⟨Nat.zero_le _, by decide, fun h => absurd h (by decide)⟩
    · rw [Lib.bitLen_half x h0 (Nat.lt_of_lt_of_le hx (Nat.pow_le_pow_right (by decide) hf))]
      obtain ⟨a, b, c⟩ := ih (x / 2) (by rw [Nat.pow_succ] at hx; omega) (by omega)
      refine ⟨by omega, ?_, fun _ => ⟨by omega, ?_⟩⟩
      · rw [Nat.add_comm, Nat.pow_succ]
        omega
      · rw [Nat.add_sub_cancel_left]
        by_cases hx2 : x / 2 = 0
        · rw [hx2]
          have h1 : Lib.bitLen 0 = 0 := by decide
          rw [h1]
          omega
        · obtain ⟨d, e⟩ := c (by omega)
          have h3 : 2 ^ Lib.bitLen (x / 2) = 2 ^ (Lib.bitLen (x / 2) - 1) * 2 := by rw [← Nat.pow_succ]; congr 1; omega
          omega

theorem step_zero {b : Nat} (h0 : 0 < b) (hb : b ≤ 1048576) : hStep 0 b = Lib.bitLen b - 1 := by
  obtain ⟨h1, h2, h3⟩ := bitLen_all 21 b (by omega) (by decide)
  obtain ⟨h4, h5⟩ := h3 h0
  refine hStep_is h0 (by omega) (by simp) (by omega) (fun h => ?_)
  rw [show Lib.bitLen b - 1 + 1 = Lib.bitLen b by omega] at h
  omega
theorem step_pos {a b : Nat} (h0 : 0 < a) (hab : a < b) (hb : b ≤ 1048576) : hStep a b = min (Lib.bitLen (b - a) - 1) (Lib.ctz 64 a) := by
  obtain ⟨h1, h2, h3⟩ := bitLen_all 21 (b - a) (by omega) (by decide)
  obtain ⟨h4, h5⟩ := h3 (by omega)
  obtain ⟨m, hm, hT⟩ := Lib.ctzFrom_spec 64 a h0 (by omega)
  have hc : Lib.ctz 64 a = Lib.ctzFrom 64 a := by unfold Lib.ctz; rw [if_neg (by omega)]
  rw [hc]
  obtain ⟨T, hTT⟩ : ∃ T, Lib.ctzFrom 64 a = T := ⟨_, rfl⟩
  obtain ⟨q, hq⟩ : ∃ q, Lib.bitLen (b - a) - 1 = q := ⟨_, rfl⟩
  rw [hTT] at hm ⊢
  rw [hq] at h5 ⊢
  rw [show Lib.bitLen (b - a) = q + 1 by omega] at h2
  have hd : 2 ^ T ∣ a := ⟨_, hm⟩
  refine hStep_is hab (by omega) ?_ ?_ (fun h => ?_)
  · exact Nat.mod_eq_zero_of_dvd (Nat.dvd_trans (Nat.pow_dvd_pow 2 (Nat.min_le_right _ _)) hd)
  · have : 2 ^ min q T ≤ 2 ^ q := Nat.pow_le_pow_right (by decide) (Nat.min_le_left _ _)
    omega
  · rcases Nat.le_total q T with c | c
    · rw [Nat.min_eq_left c] at h
      omega
    · rw [Nat.min_eq_right c] at h
      have h6 := h.1
      rw [hm, Nat.pow_succ, Nat.mul_mod_mul_left] at h6
      have h7 : (2 * m + 1) % 2 = 1 := by omega
      rw [h7, Nat.mul_one] at h6
      have := Nat.two_pow_pos T
      omega

/-- The first leaves and the heights of the steps. -/
def pairsL : Nat → List Nat → List (Nat × Nat)
  | _, [] => []
  | s, h :: hs => (s, h) :: pairsL (s + 2 ^ h) hs
theorem pairsL_len : ∀ (s : Nat) (hs : List Nat), (pairsL s hs).length = hs.length
  | _, [] => rfl
  | s, h :: hs => by simp [pairsL, pairsL_len (s + 2 ^ h) hs]
theorem hStep_20 {a b : Nat} (hab : a < b) (hb : b ≤ 1048576) : hStep a b ≤ 20 ∧ a + 2 ^ hStep a b ≤ b := by
  have h := (hStep_ok hab).2
  refine ⟨?_, h⟩
  rcases Nat.lt_or_ge 20 (hStep a b) with c | c
  · have := Nat.pow_le_pow_right (n := 2) (by decide) c
    omega
  · exact c
end Licit
