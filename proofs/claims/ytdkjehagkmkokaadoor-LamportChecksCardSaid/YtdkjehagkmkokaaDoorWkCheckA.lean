/- Check of package lamport answers what the plain function says, for every key and signature. -/
import Derived.Test.YtdkjehagkmkokaaDoorWkCheckM
namespace Go.Proofs.YtdkjehagkmkokaaDoor
open Go Go.RowKit Licit

theorem checkB_fit {root m : Bs} {b h i : Nat} {S H R : List Bs} (hk : keyOk (b : Int) (h : Int) = true) (hf : fitsB b h (i : Int) S H R = true) :
    checkB root (b : Int) (h : Int) m (i : Int) S H R = if climbN i R (leafB (partsOf (Sha.sha m) S H b)) h = root then 0 else 18 := by
  have hf' := hf
  unfold fitsB at hf'
  simp only [Bool.and_eq_true, decide_eq_true_eq] at hf'
  obtain ⟨⟨⟨h1, h2⟩, h3⟩, h4⟩ := hf'
  unfold checkB
  rw [hk, if_neg (by decide), if_neg, Int.toNat_natCast, h2, h3]
  rw [h1, decide_eq_true (p := (S.length : Int) = (b : Int)) (by omega), decide_eq_true (p := (R.length : Int) = (h : Int)) (by omega), Int.toNat_natCast, decide_eq_true h4]
  decide
theorem checkB_unfit {root m : Bs} {b h : Nat} {i : Int} {S H R : List Bs} (hk : keyOk (b : Int) (h : Int) = true) (hf : fitsB b h i S H R = false) :
    checkB root (b : Int) (h : Int) m i S H R = 1 := by
  unfold checkB
  rw [hk, if_neg (by decide), if_pos]
  rw [Int.toNat_natCast]
  have e1 : decide ((S.length : Int) = (b : Int)) = decide (S.length = b) := by simp only [Int.natCast_inj]
  have e2 : decide ((R.length : Int) = (h : Int)) = decide (R.length = h) := by simp only [Int.natCast_inj]
  rw [e1, e2]
  exact hf

theorem Check_any (root m : Bs) (b h : Int) (v : Value) (i : Int) (S H R : List Bs) (w : World) (hm : m.length ≤ 1000000000000) (hsig : SigIs v i S H R w) (ht : Tab w) :
    Gives 19 #[.string (B root), .agg #[.int .i64 b, .int .i64 h], .string (B m), v] w (.int .i64 (checkB root b h m i S H R)) := by
  cases hk : keyOk b h with
  | false =>
    have e : checkB root b h m i S H R = 3 := by unfold checkB; rw [if_pos hk]
    rw [e]
    exact Check_no root m b h v i S H R w hk hsig
  | true =>
    have hk' : 8 ≤ b ∧ b ≤ 256 ∧ 0 ≤ h ∧ h ≤ 6 := by simpa [keyOk] using hk
    obtain ⟨b, rfl⟩ : ∃ n : Nat, b = (n : Int) := ⟨b.toNat, by omega⟩
    obtain ⟨h, rfl⟩ : ∃ n : Nat, h = (n : Int) := ⟨h.toNat, by omega⟩
    cases hf : fitsB b h i S H R with
    | false =>
      rw [checkB_unfit hk hf]
      exact Check_unfit root m b h v i S H R w hk hsig hf
    | true =>
      obtain ⟨_, _, _, _, h0, _⟩ := fits_parts hf
      obtain ⟨i, rfl⟩ : ∃ n : Nat, i = (n : Int) := ⟨i.toNat, by omega⟩
      rw [checkB_fit hk hf]
      exact Check_fit root m b h i v S H R w hm hk hsig hf ht
end Go.Proofs.YtdkjehagkmkokaaDoor
