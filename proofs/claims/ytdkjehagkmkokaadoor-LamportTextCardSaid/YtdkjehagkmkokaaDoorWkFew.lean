/- few and Few of the reference of lamport: whether lists are short, with short texts. -/
import Derived.Test.YtdkjehagkmkokaaDoorWkFormed
import Derived.Test.YtdkjehagkmkokaaDoorWkRefSig2
import Derived.Test.YtdkjehagkmkokaaDoorWkRefBits
namespace Go.Proofs.YtdkjehagkmkokaaDoor
open Go Go.RowKit Licit

def allLe (q : Nat) (xs : List Bs) : Bool := xs.all fun x => decide (x.length ≤ q)
def fewB (m : Nat) (xs : List Bs) : Bool := decide (xs.length ≤ m) && allLe 40 xs
theorem allLe_take (q : Nat) (xs : List Bs) (k : Nat) (hk : k < xs.length) (h : allLe q (xs.take k) = true) : allLe q (xs.take (k + 1)) = decide ((xs.getD k []).length ≤ q) := by
  unfold allLe at *
  rw [List.take_add_one, List.all_append, h, List.getElem?_eq_getElem hk, List.getD_eq_getElem?_getD, List.getElem?_eq_getElem hk]
  simp
theorem allLe_no (q : Nat) (xs : List Bs) (k : Nat) (hk : k < xs.length) (h : ¬ (xs.getD k []).length ≤ q) : allLe q xs = false := by
  unfold allLe
  rw [List.all_eq_false]
  refine ⟨xs.getD k [], ?_, by simpa using h⟩
  rw [List.getD_eq_getElem?_getD, List.getElem?_eq_getElem hk]
  exact List.getElem_mem _
theorem fewB_iff {m : Nat} {xs : List Bs} (h : fewB m xs = true) : xs.length ≤ m ∧ ∀ x ∈ xs, x.length ≤ 40 := by
  unfold fewB allLe at h
  simp only [Bool.and_eq_true, decide_eq_true_eq, List.all_eq_true] at h
  exact h

theorem few_any (v : Value) (xs : List Bs) (w : World) (h : IsSl v (xs.map vS) w) : Calls Tryd.prog 51 #[v] w fun e w' => e = .returned (.bool (fewB 260 xs)) ∧ w' = w := by
  obtain ⟨a, cap, rfl⟩ := h.formMap
  have hmx := h.1
  rw [List.length_map] at hmx
  unfold maxLen at hmx
  have H := Lib.hid h
  clear h
  unfold fewB
  by_cases hm : 260 < xs.length
  · have d1 : decide (260 < (xs.length : Int)) = true := by simp; omega
    rw [decide_eq_false (show ¬ xs.length ≤ 260 by omega)]
    go_enter Tryd.func51, Tryd.ntmps51
    go_wp2
    go_ret
    exact ⟨rfl, rfl⟩
  have d1 : decide (260 < (xs.length : Int)) = false := by simp; omega
  rw [decide_eq_true (show xs.length ≤ 260 by omega), Bool.true_and]
  go_enter Tryd.func51, Tryd.ntmps51
  go_wp2
  go_loopw [3] (fun n wr => wr = w ∧ ∃ k : Nat, k ≤ xs.length ∧ n = .int .i64 k ∧ allLe 40 (xs.take k) = true) (fun n _ => xs.length - (intOf n).toNat)
  case atStart => exact ⟨rfl, 0, by omega, rfl, by simp [allLe]⟩
  case round =>
    obtain ⟨rfl, k, hk, rfl, hA⟩ := hrel
    have HA := Lib.hid hA
    clear hA
    by_cases hlt : k < xs.length
    · have h2 := H.out
      obtain ⟨b, off, cap', hv, hb, hc⟩ := h2.text rfl hlt
      simp only [Value.slice.injEq, true_and] at hv
      obtain ⟨rfl, rfl⟩ := hv
      obtain ⟨x, hx⟩ : ∃ x, xs.getD k [] = x := ⟨_, rfl⟩
      rw [hx] at hc
      obtain ⟨m, hm⟩ : ∃ m : Nat, (B x).size = m := ⟨_, rfl⟩
      have hml : m = (xs.getD k []).length := by rw [hx, ← hm]; rfl
      have Hm := Lib.hid hml
      have Hx := Lib.hid hx
      clear hx hml h2
      by_cases h40 : 40 < m
      · have hq : decide (40 < (m : Int)) = true := by simp; omega
        go_wp2
        go_ret
        rw [allLe_no 40 xs k hlt (by rw [← Hm.out]; omega)]
        exact ⟨rfl, rfl⟩
      · have hq : decide (40 < (m : Int)) = false := by simp; omega
        go_wp2
        go_roundw
        case rel => exact ⟨trivial, k + 1, by omega, by go_num, by rw [allLe_take 40 xs k hlt HA.out, ← Hm.out]; simpa using h40⟩
        case measure => simp [intOf]; omega
    · obtain rfl : k = xs.length := by omega
      have hA := HA.out
      rw [List.take_length] at hA
      go_wp2
      go_ret
      rw [hA]
      exact ⟨rfl, rfl⟩

set_option maxHeartbeats 2000000 in
theorem Few_any (v : Value) (i : Int) (S H R : List Bs) (w : World) (h : SigIs v i S H R w) :
    Calls Tryd.prog 30 #[v] w fun e w' => e = .returned (.bool (fewB 260 S && fewB 260 H && fewB 260 R)) ∧ Below w.heap.size w w' := by
  obtain ⟨vs, vh, vr, rfl, hS, hH, hR⟩ := h
  have hB1 : Below w.heap.size w (w.alloc (.cells #[.int .i64 i, vs, vh, vr] 34)) := (Below.refl _ _).alloc (Nat.le_refl _) _
  have F1 := Lib.hid (fun W (hb : Below w.heap.size w W) => few_any vs S W (hS.below hb))
  have F2 := Lib.hid (fun W (hb : Below w.heap.size w W) => few_any vh H W (hH.below hb))
  have F3 := Lib.hid (fun W (hb : Below w.heap.size w W) => few_any vr R W (hR.below hb))
  obtain ⟨sa, sc, rfl⟩ := hS.formMap
  obtain ⟨ha, hc, rfl⟩ := hH.formMap
  obtain ⟨ra, rc, rfl⟩ := hR.formMap
  have HB1 := Lib.hid hB1
  obtain ⟨c0, c1, c2, c3⟩ := sigC (new_of w (.cells #[.int .i64 i, .slice sa S.length sc, .slice ha H.length hc, .slice ra R.length rc] 34))
  obtain ⟨b1, e1⟩ : ∃ b, fewB 260 S = b := ⟨_, rfl⟩
  obtain ⟨b2, e2⟩ : ∃ b, fewB 260 H = b := ⟨_, rfl⟩
  obtain ⟨b3, e3⟩ : ∃ b, fewB 260 R = b := ⟨_, rfl⟩
  rw [e1] at F1
  rw [e2] at F2
  rw [e3] at F3
  rw [e1, e2, e3]
  clear e1 e2 e3 hB1 hS hH hR
  cases b1 with
  | false =>
    go_enter Tryd.func30, Tryd.ntmps30
    go_wp2_with fail
    refine (F1.out _ HB1.out).mono ?_
    rintro e w1 ⟨rfl, rfl⟩
    go_wp2
    go_ret
    exact ⟨rfl, HB1.out⟩
  | true =>
    go_enter Tryd.func30, Tryd.ntmps30
    go_wp2_with fail
    refine (F1.out _ HB1.out).mono ?_
    rintro e w1 ⟨rfl, rfl⟩
    go_wp2_with fail
    refine (F2.out _ HB1.out).mono ?_
    rintro e w1 ⟨rfl, rfl⟩
    cases b2 with
    | false =>
      go_wp2
      go_ret
      exact ⟨rfl, HB1.out⟩
    | true =>
      go_wp2_with fail
      refine (F3.out _ HB1.out).mono ?_
      rintro e w1 ⟨rfl, rfl⟩
      go_wp2
      go_ret
      exact ⟨rfl, HB1.out⟩
end Go.Proofs.YtdkjehagkmkokaaDoor
