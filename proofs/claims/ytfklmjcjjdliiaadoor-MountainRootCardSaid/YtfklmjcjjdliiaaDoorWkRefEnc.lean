/- Decimal, Number and Text of the reference of layer 2 return the bytes that the plain functions say; no condition on memory. -/
import Derived.Test.YtfklmjcjjdliiaaDoorRd
import Derived.Test.YtfklmjcjjdliiaaDoorProg
import Derived.Deep.RegionWith
import Derived.Lib.ItoaLen
namespace Go.Proofs.YtfklmjcjjdliiaaDoor
open Go Go.RowKit Licit

/-- One byte as a string. -/
theorem conv1 (W : World) (g cap : Nat) (m : Int) (h : W.cell? ⟨g, 0, none⟩ = some (.int .u8 m)) (h0 : 0 ≤ m) (h1 : m ≤ 255) :
    (convert 98 9 (.slice (some ⟨g, 0, none⟩) 1 cap)).run Tryd.prog W = .ok (.string (B [UInt8.ofNat m.toNat])) W := by
  refine run_convert_bytes_back (P := Tryd.prog) W 98 9 5 ⟨g, 0, none⟩ cap [UInt8.ofNat m.toNat] Tryd.underlying98 Tryd.underlying5 Tryd.underlying9 (fun j hj => ?_)
  obtain rfl : j = 0 := by simpa using hj
  have hm : ((UInt8.ofNat m.toNat).toNat : Int) = m := by
    rw [UInt8.toNat_ofNat']
    omega
  show W.cell? ⟨g, 0, none⟩ = _
  rw [h, List.getElem_cons_zero, hm]

theorem dec_size' {n : Int} (h0 : 0 ≤ n) (h1 : n ≤ 9223372036854775807) : (B (Lib.decDigits n.toNat)).size ≤ 21 := by
  have := Lib.itoa_length_le n (by omega) h1
  unfold Lib.itoa at this
  rw [if_neg (by omega)] at this
  exact this

theorem bcell {W w1 : World} (hb : Below W.heap.size W w1) : (∀ b o, b < W.heap.size → w1.cell? ⟨b, o, none⟩ = W.cell? ⟨b, o, none⟩) ∧ (∀ b o, b < W.heap.size → w1.frozen? ⟨b, o, none⟩ = W.frozen? ⟨b, o, none⟩) :=
  ⟨fun b o h => hb.cell (p := ⟨b, o, none⟩) h, fun b o h => hb.frozen (p := ⟨b, o, none⟩) h⟩

theorem dec_small {n : Int} (h0 : 0 ≤ n) (h : n < 10) : Lib.decDigits n.toNat = [UInt8.ofNat (48 + n).toNat] := by
  rw [Lib.decDigits_one (by omega), show (48 + n).toNat = 48 + n.toNat by omega]
theorem dec_big {n : Int} (h : ¬ n < 10) : Lib.decDigits n.toNat = Lib.decDigits (n / 10).toNat ++ [UInt8.ofNat (48 + n % 10).toNat] := by
  rw [Lib.decDigits, dif_neg (by omega), show (n / 10).toNat = n.toNat / 10 by omega, show (48 + n % 10).toNat = 48 + n.toNat % 10 by omega]

set_option maxHeartbeats 1600000 in
theorem decimal_any (k : Nat) : ∀ (n : Int) (w : World), 0 ≤ n → n < k → n ≤ 9223372036854775807 →
    Calls Tryd.prog 94 #[.int .i64 n] w fun e w' => e = .returned (.string (B (Lib.decDigits n.toNat))) ∧ Below w.heap.size w w' := by
  induction k with
  | zero => intro n w h0 h1; omega
  | succ k ih =>
    intro n w h0 hk h1
    have HI := Lib.hid ih
    clear ih
    by_cases hlt : n < 10
    · have HR := Lib.hid (dec_small h0 hlt)
      have kc := conv1 ((w.alloc (.cells #[.int .u8 (48 + n)] 5))) w.heap.size 1 (48 + n) (cell1a _ _) (by omega) (by omega)
      go_enter Tryd.func94, Tryd.ntmps94
      go_wp2
      go_ret
      exact ⟨by rw [HR.out]; rfl, (Below.refl _ _).alloc (Nat.le_refl _) _⟩
    · have HR := Lib.hid (dec_big hlt)
      have hds := dec_size' (n := n / 10) (by omega) (by omega)
      have kc := fun (W : World) (g cap : Nat) (h : W.cell? ⟨g, 0, none⟩ = some (.int .u8 (48 + n % 10))) => conv1 W g cap (48 + n % 10) h (by omega) (by omega)
      have HW := Lib.hid (fun W => HI.out (n / 10) W (by omega) (by omega) (by omega))
      have HD := Lib.hid hds
      have r0 : 0 ≤ n % 10 := by omega
      have r1 : n % 10 < 10 := by omega
      have e1 : n.tdiv 10 = n / 10 := Int.tdiv_eq_ediv_of_nonneg h0
      have e2 : IntKind.i64.wrap (n / 10) = n / 10 := by rw [IntKind.wrap_i64]; omega
      have e3 : n.tmod 10 = n % 10 := Int.tmod_eq_emod_of_nonneg h0
      have e4 : IntKind.i64.wrap (n % 10) = n % 10 := by rw [IntKind.wrap_i64]; omega
      have e5 : IntKind.i64.wrap (48 + n % 10) = 48 + n % 10 := by rw [IntKind.wrap_i64]; omega
      have e6 : IntKind.u8.wrap (48 + n % 10) = 48 + n % 10 := by rw [IntKind.wrap_u8]; omega
      have hone : (B [UInt8.ofNat (48 + n % 10).toNat]).size = 1 := rfl
      clear hds
      go_enter Tryd.func94, Tryd.ntmps94
      go_wp2_with fail
      go_region_with (first
        | (go_at_call 94; refine (HW.out _).mono ?_; rintro e w' ⟨rfl, hb⟩; obtain ⟨hc, hf⟩ := bcell hb; have hsz := hb.size; have Hb := Lib.hid hb; have hd := HD.out; clear hb))
      all_goals go_wp2
      all_goals go_ret
      all_goals refine ⟨by rw [HR.out, ← B_append]; rfl, ?_⟩
      all_goals first
        | exact (((Below.refl _ w).drew).trans Hb.out).alloc (by have := Hb.out.size; simp at this; omega) _
        | exact (((Below.refl _ w).drew).alloc (by simp) _).trans (Hb.out.mono (by simp))

theorem rencNumber_any (n : Int) (w : World) :
    Calls Tryd.prog 77 #[.int .i64 n] w fun e w' => e = .returned (.tuple #[.string (B (eNum n).1), .int .i64 (eNum n).2]) ∧ Below w.heap.size w w' := by
  by_cases hn : n < 0 ∨ 281474976710656 < n
  · have R : eNum n = ([], 3) := by simp [eNum, hn]
    have HR := Lib.hid R
    clear R
    go_enter Tryd.func77, Tryd.ntmps77
    go_wp2_with fail
    all_goals go_ret2
    all_goals exact ⟨by rw [HR.out]; rfl, Below.refl _ _⟩
  · have R : eNum n = (Lib.decDigits n.toNat ++ [59], 0) := by simp [eNum, hn]
    have HR := Lib.hid R
    clear R
    have b0 : 0 ≤ n := by omega
    have b1 : n ≤ 281474976710656 := by omega
    have hsz := dec_size' b0 (by omega)
    have HD := Lib.hid (fun w => decimal_any (n.toNat + 1) n w b0 (by omega) (by omega))
    clear hn
    go_enter Tryd.func77, Tryd.ntmps77
    go_wp2_with (go_at_call 94; refine (HD.out _).mono ?_; rintro e w' ⟨rfl, hb⟩)
    go_ret2
    exact ⟨by rw [HR.out, ← B_append]; rfl, hb⟩

theorem rencText_any (s : Bs) (w : World) (hs : s.length ≤ maxLen) :
    Calls Tryd.prog 95 #[.string (B s)] w fun e w' => e = .returned (.tuple #[.string (B (eText s).1), .int .i64 (eText s).2]) ∧ Below w.heap.size w w' := by
  have hss : (B s).size = s.length := rfl
  unfold maxLen at hs
  by_cases hn : 65536 < s.length
  · have R : eText s = ([], 10) := by simp [eText, hn]
    have HR := Lib.hid R
    clear R
    go_enter Tryd.func95, Tryd.ntmps95
    go_wp2_with fail
    all_goals go_ret2
    all_goals exact ⟨by rw [HR.out]; rfl, Below.refl _ _⟩
  · have R : eText s = (Lib.decDigits s.length ++ [58] ++ s ++ [44], 0) := by simp [eText, hn]
    have HR := Lib.hid R
    clear R
    have hsz := dec_size' (n := (s.length : Int)) (by omega) (by omega)
    rw [Int.toNat_natCast] at hsz
    have HD := fun w => decimal_any (s.length + 1) (s.length : Int) w (by omega) (by omega) (by omega)
    rw [Int.toNat_natCast] at HD
    have HD := Lib.hid HD
    go_enter Tryd.func95, Tryd.ntmps95
    go_wp2_with (go_at_call 94; refine (HD.out _).mono ?_; rintro e w' ⟨rfl, hb⟩)
    go_ret2
    exact ⟨by rw [HR.out, ← B_append, ← B_append, ← B_append]; rfl, hb⟩

end Go.Proofs.YtfklmjcjjdliiaaDoor
