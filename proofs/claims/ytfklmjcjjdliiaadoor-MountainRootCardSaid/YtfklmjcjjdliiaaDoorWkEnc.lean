/- Number and Text of package codec return the bytes that the plain functions say; where the table of strconv lies as laid. -/
import Derived.Test.YtfklmjcjjdliiaaDoorShelf
import Derived.Test.YtfklmjcjjdliiaaDoorRd
import Derived.Lib.ItoaLen
namespace Go.Proofs.YtfklmjcjjdliiaaDoor
open Go Go.RowKit Licit

/-- The table of strconv lies as the program's text lays it. -/
def Tab (w : World) : Prop := Lib.TabIs Tryd.prog w "internal/strconv.uint64pow10" .u64 Lib.pow10Tab ∧ 2 < w.heap.size

theorem gPow10 : Tryd.prog.globalNamed "internal/strconv.uint64pow10" = some 2 := by kernel_rfl
theorem Tab.below {B : Nat} {w w' : World} (h : Tab w) (hb : Below B w w') (hB : 2 < B) : Tab w' := ⟨var?_below hb gPow10 hB h.1, Nat.lt_of_lt_of_le h.2 hb.size⟩
theorem Tab.kept {S : Nat → Prop} {w w' : World} (h : Tab w) (hk : Kept S w w') (hS : ¬ S 2) : Tab w' := by
  refine ⟨?_, Nat.lt_of_lt_of_le h.2 hk.size⟩
  have hv := h.1
  unfold Lib.TabIs World.var? at hv ⊢
  simp only [gPow10, Option.bind_some] at hv ⊢
  rw [hk.block _ h.2 hS]
  exact hv
theorem Tab.same {w w' : World} (h : Tab w) (hb : Below w.heap.size w w') : Tab w' := h.below hb h.2

theorem below_grow (w : World) (k : Nat) (os : Array Obj) : Below w.heap.size w (Go.Sort.grow (w.drewN k) os) :=
  ⟨rfl, rfl, rfl, by simp [Go.Sort.grow], fun i hi => by
    show (w.heap ++ os)[i]? = _
    rw [Array.getElem?_append_left hi]⟩

theorem itoa_any (n : Int) (h0 : -9223372036854775808 ≤ n) (h1 : n ≤ 9223372036854775807) (w : World) (ht : Tab w) :
    Calls Tryd.prog 104 #[.int .i64 n] w fun e w' => e = .returned (.string (B (Lib.itoa n))) ∧ Below w.heap.size w w' := by
  refine (Tryd.strconv_Itoa n h0 h1 w ht.1).mono ?_
  rintro e w' ⟨rfl, k, os, rfl⟩
  exact ⟨rfl, below_grow _ _ _⟩

theorem dec_size {n : Int} (h0 : 0 ≤ n) (h1 : n ≤ 9223372036854775807) : (B (Lib.decDigits n.toNat)).size ≤ 21 := by
  have := Lib.itoa_length_le n (by omega) h1
  unfold Lib.itoa at this
  rw [if_neg (by omega)] at this
  exact this

theorem encNumber_any (n : Int) (w : World) (ht : Tab w) :
    Calls Tryd.prog 83 #[.int .i64 n] w fun e w' => e = .returned (.tuple #[.string (B (eNum n).1), .int .i64 (eNum n).2]) ∧ Below w.heap.size w w' := by
  by_cases hn : n < 0 ∨ 281474976710656 < n
  · have R : eNum n = ([], 3) := by simp [eNum, hn]
    have HR := Lib.hid R
    clear R
    go_enter Tryd.func83, Tryd.ntmps83
    go_wp2_with fail
    all_goals go_ret2
    all_goals exact ⟨by rw [HR.out]; rfl, Below.refl _ _⟩
  · have R : eNum n = (Lib.decDigits n.toNat ++ [59], 0) := by simp [eNum, hn]
    have HR := Lib.hid R
    clear R
    have b0 : 0 ≤ n := by omega
    have b1 : n ≤ 281474976710656 := by omega
    have hsz := dec_size b0 (by omega)
    have HI := Lib.hid (show Lib.itoa n = Lib.decDigits n.toNat by unfold Lib.itoa; rw [if_neg (by omega)])
    clear hn
    go_enter Tryd.func83, Tryd.ntmps83
    go_wp2_with (go_at_call 104; refine (itoa_any n (by omega) (by omega) _ ht).mono ?_; rw [HI.out]; rintro e w' ⟨rfl, hb⟩)
    go_ret2
    exact ⟨by rw [HR.out, ← B_append]; rfl, hb⟩

theorem encText_any (s : Bs) (w : World) (hs : s.length ≤ maxLen) (ht : Tab w) :
    Calls Tryd.prog 93 #[.string (B s)] w fun e w' => e = .returned (.tuple #[.string (B (eText s).1), .int .i64 (eText s).2]) ∧ Below w.heap.size w w' := by
  have hss : (B s).size = s.length := rfl
  unfold maxLen at hs
  by_cases hn : 65536 < s.length
  · have R : eText s = ([], 10) := by simp [eText, hn]
    have HR := Lib.hid R
    clear R
    go_enter Tryd.func93, Tryd.ntmps93
    go_wp2_with fail
    all_goals go_ret2
    all_goals exact ⟨by rw [HR.out]; rfl, Below.refl _ _⟩
  · have R : eText s = (Lib.decDigits s.length ++ [58] ++ s ++ [44], 0) := by simp [eText, hn]
    have HR := Lib.hid R
    clear R
    have hsz := dec_size (n := (s.length : Int)) (by omega) (by omega)
    rw [Int.toNat_natCast] at hsz
    have HI := Lib.hid (show Lib.itoa (s.length : Int) = Lib.decDigits s.length by unfold Lib.itoa; rw [if_neg (by omega), Int.toNat_natCast])
    go_enter Tryd.func93, Tryd.ntmps93
    go_wp2_with (go_at_call 104; refine (itoa_any _ (by omega) (by omega) _ ht).mono ?_; rw [HI.out]; rintro e w' ⟨rfl, hb⟩)
    go_ret2
    exact ⟨by rw [HR.out, ← B_append, ← B_append, ← B_append]; rfl, hb⟩

end Go.Proofs.YtfklmjcjjdliiaaDoor
