/- The method count of the reader: which number stands at the head of the rest; for a rest of at most maxLen bytes and bounds as the callers give them. -/
import Derived.Test.YtfklmjcjjdliiaaDoorProg
import Derived.Test.YtfklmjcjjdliiaaDoorPlainAll
import Derived.WalkKit
import Derived.WalkLawsBesides
import Derived.Lib.Hide
namespace Go.Proofs.YtfklmjcjjdliiaaDoor
open Go Go.RowKit Licit

def cntV : (Int × Nat) ⊕ Bool → Value
  | .inl (n, i) => .tuple #[.int .i64 n, .int .i64 (i + 1), .int .i64 0]
  | .inr true => .tuple #[.int .i64 0, .int .i64 0, .int .i64 13]
  | .inr false => .tuple #[.int .i64 0, .int .i64 0, .int .i64 17]

set_option maxHeartbeats 400000 in
theorem count_any (r : Nat) (s : ByteArray) (most e : Int) (w : World) (h : w.cell? ⟨r, 0, none⟩ = some (.string s)) (hs : s.size ≤ maxLen) (hm0 : 0 ≤ most) (hm1 : most ≤ 281474976710656) (he0 : 0 ≤ e) (he1 : e ≤ 255) :
    Calls Tryd.prog 84 #[.pointer (some ⟨r, 0, none⟩), .int .i64 most, .int .u8 e] w fun e' w' => e' = .returned (cntV (cnt most e 0 0 s.data.toList)) ∧ w = w' := by
  unfold maxLen at hs
  go_enter Tryd.func84, Tryd.ntmps84
  go_wp2
  go_step3; go_wp2; (try go_step3); go_wp2
  go_loop [9, 10] (fun n i => ∃ (k : Nat) (v : Int), k ≤ s.size ∧ i = .int .i64 k ∧ n = .int .i64 v ∧ 0 ≤ v ∧ v ≤ most ∧ (k = 0 → v = 0) ∧ (2 ≤ k → 1 ≤ v) ∧ Hid (cnt most e k v (s.data.toList.drop k) = cnt most e 0 0 s.data.toList)) (fun _ i => s.size - (intOf i).toNat)
  case atStart => exact ⟨0, 0, Nat.zero_le _, rfl, rfl, by omega, by omega, by omega, by omega, rfl⟩
  case round =>
    obtain ⟨k, v, hk, rfl, rfl, hv0, hv1, hv2, hv3, H⟩ := hrel
    by_cases hlt : k < s.size
    · go_wp2
      all_goals try simp only [beq_iff_eq, beq_eq_false_iff_ne, ne_eq] at *
      all_goals first
        | (go_ret3; have R := cnt_found hlt H.out (by omega) (by omega); exact ⟨by rw [R]; rfl, rfl⟩)
        | (go_ret3; have R := cnt_bad hlt H.out (by omega) (by omega); exact ⟨by rw [R]; rfl, rfl⟩)
        | (go_round
           case rel =>
             have R := cnt_go hlt H.out (by omega) (by omega) (by omega)
             exact ⟨k + 1, 10 * v + ((s[k].toNat : Int) - 48), by omega, congrArg (Value.int .i64) (by omega), congrArg (Value.int .i64) (by omega), by omega, by omega, by omega, by omega, R⟩
           case measure => simp [intOf]; omega)
    · have HA := cnt_end most e s k v (by omega)
      rw [H.out] at HA
      have HA' := Lib.hid HA
      clear H HA
      obtain rfl : k = s.size := by omega
      go_wp2
      go_ret3
      exact ⟨by rw [HA'.out]; rfl, rfl⟩

theorem count_ok (r : Nat) (s : ByteArray) (most e : Int) (w : World) (h : w.cell? ⟨r, 0, none⟩ = some (.string s)) (hs : s.size ≤ maxLen) (hm0 : 0 ≤ most) (hm1 : most ≤ 281474976710656) (he0 : 0 ≤ e) (he1 : e ≤ 255)
    {n : Int} {i : Nat} (hc : cnt most e 0 0 s.data.toList = .inl (n, i)) :
    Calls Tryd.prog 84 #[.pointer (some ⟨r, 0, none⟩), .int .i64 most, .int .u8 e] w fun e' w' => e' = .returned (.tuple #[.int .i64 n, .int .i64 (i + 1), .int .i64 0]) ∧ w = w' := by
  refine (count_any r s most e w h hs hm0 hm1 he0 he1).mono ?_
  rw [hc]
  exact fun _ _ h => h

theorem count_no (r : Nat) (s : ByteArray) (most e : Int) (w : World) (h : w.cell? ⟨r, 0, none⟩ = some (.string s)) (hs : s.size ≤ maxLen) (hm0 : 0 ≤ most) (hm1 : most ≤ 281474976710656) (he0 : 0 ≤ e) (he1 : e ≤ 255)
    {b : Bool} (hc : cnt most e 0 0 s.data.toList = .inr b) :
    Calls Tryd.prog 84 #[.pointer (some ⟨r, 0, none⟩), .int .i64 most, .int .u8 e] w fun e' w' => ∃ E : Int, E = (if b then 13 else 17) ∧ E ≠ 0 ∧ e' = .returned (.tuple #[.int .i64 0, .int .i64 0, .int .i64 E]) ∧ w = w' := by
  refine (count_any r s most e w h hs hm0 hm1 he0 he1).mono ?_
  rw [hc]
  rintro _ _ ⟨rfl, rfl⟩
  cases b
  · exact ⟨17, rfl, by decide, rfl, rfl⟩
  · exact ⟨13, rfl, by decide, rfl, rfl⟩

end Go.Proofs.YtfklmjcjjdliiaaDoor
