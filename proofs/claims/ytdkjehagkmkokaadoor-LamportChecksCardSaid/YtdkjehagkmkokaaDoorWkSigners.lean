/- Sign and New of package lamport. New, and Left, Next and Skip of a signer, of package lamport. Skip and Sign of a signer of package lamport. -/
import Derived.Test.YtdkjehagkmkokaaDoorWkSign
import Derived.Test.YtdkjehagkmkokaaDoorFrmAll
namespace Go.Proofs.YtdkjehagkmkokaaDoor
open Go Go.RowKit Licit

theorem SigIs.of_sig {base : Nat} {v : Value} {i : Int} {S H R : List Bs} {w : World} (h : IsSig base v i S H R w) (h1 : S.length ≤ maxLen) (h2 : H.length ≤ maxLen) (h3 : R.length ≤ maxLen) : SigIs v i S H R w := by
  obtain ⟨vs, vh, vr, rfl, a1, a2, a3⟩ := h
  exact ⟨vs, vh, vr, rfl, IsSl.of_owns (by rw [List.length_map]; exact a1) (by rw [List.length_map]; exact h1), IsSl.of_owns (by rw [List.length_map]; exact a2) (by rw [List.length_map]; exact h2), IsSl.of_owns (by rw [List.length_map]; exact a3) (by rw [List.length_map]; exact h3)⟩

set_option maxHeartbeats 1000000 in
set_option maxRecDepth 100000 in
theorem Sign_any (seed m : Bs) (b h i : Nat) (w : World) (hs : seed.length ≤ maxLen) (hm : m.length ≤ 1000000000000) (hk : keyOk (b : Int) (h : Int) = true) (hi : i < 2 ^ h) (ht : Tab w) :
    Calls Tryd.prog 28 #[.string (B seed), .agg #[.int .i64 (b : Int), .int .i64 (h : Int)], .int .i64 (i : Int), .string (B m)] w fun e w' =>
      ∃ v, e = .returned (.tuple #[v, .int .i64 0]) ∧ IsSig w.heap.size v (i : Int) (shownN seed (Sha.sha m) (i : Int) b) (hiddenN seed (Sha.sha m) (i : Int) b) (routeN seed b h i h) w' ∧ Below w.heap.size w w' := by
  have hk' : 8 ≤ (b : Int) ∧ (b : Int) ≤ 256 ∧ 0 ≤ (h : Int) ∧ (h : Int) ≤ 6 := by simpa [keyOk] using hk
  have hb : b ≤ 256 := by omega
  have hh : h ≤ 6 := by omega
  clear hk'
  have HV := Lib.hid (fun W => Valid_yes (b : Int) (h : Int) W hk)
  have HSg := Lib.hid (fun (tv : Value) (W : World) (hT : Tab W) hr => sign_any tv seed m b h i W hs hm hb hh hi hT hr)
  have HRw := Lib.hid (fun (W : World) (hT : Tab W) => rows_any seed b h W hs hb hh hT)
  obtain ⟨n, hn⟩ : ∃ n, 2 ^ h = n := ⟨_, rfl⟩
  have hpi : (1 : Int) * 2 ^ h = (n : Int) := by rw [← hn]; simp
  have hpi2 : (2 : Int) ^ h = (n : Int) := by rw [← hn]; simp
  have hn64 : n ≤ 64 := by rw [← hn]; exact Nat.le_trans (Nat.pow_le_pow_right (by decide) hh) (by decide)
  rw [hn] at hi
  have d1 : decide ((n : Int) ≤ (i : Int)) = false := by simp; omega
  have d2 : decide ((i : Int) < 0) = false := by simp
  clear hn hk
  go_enter Tryd.func28, Tryd.ntmps28
  go_wp2_with (first
    | (go_at_call 15; refine (HV.out _).mono ?_; rintro e w1 ⟨rfl, hb1⟩
       have hk1 : w1.heap[w.heap.size]? = some (.cells #[.int .i64 (b : Int), .int .i64 (h : Int)] 23) := (hb1.block _ (by simp; omega)).trans (old_of (new_of _ _))
       have hr1 : w1.heap[w.heap.size + 1]? = some (.cells #[.int .i64 0, .slice none 0 0, .slice none 0 0, .slice none 0 0] 34) := (hb1.block _ (by simp)).trans (new_at (by simp) rfl)
       have hc0 : w1.cell? ⟨w.heap.size, 0, none⟩ = some (.int .i64 (b : Int)) := cell_of hk1 0
       have hc1 : w1.cell? ⟨w.heap.size, 1, none⟩ = some (.int .i64 (h : Int)) := cell_of hk1 1
       have HB1 := Lib.hid ((((Below.refl _ _).alloc (Nat.le_refl _) _).alloc (by simp) _).next hb1)
       have HK1 := Lib.hid hk1
       have HR1 := Lib.hid hr1
       clear hb1 hk1 hr1))
  go_region_held3 (fun W => W.cell? ⟨w.heap.size, 0, none⟩ = some (.int .i64 (b : Int)) ∧ W.cell? ⟨w.heap.size, 1, none⟩ = some (.int .i64 (h : Int)))
    (first | go_keep)
    (first
      | (go_at_call 36; refine (HRw.out _ (ht.same HB1.out).drew).mono ?_; rintro e w2 ⟨v2, rfl, ho2, hb2⟩
         have hb2' := undrew hb2
         have hk2 := (hb2'.block _ (lt_of HK1.out)).trans HK1.out
         have hr2 := (hb2'.block _ (lt_of HR1.out)).trans HR1.out
         have hd0 : w2.cell? ⟨w.heap.size, 0, none⟩ = some (.int .i64 (b : Int)) := cell_of hk2 0
         have hd1 : w2.cell? ⟨w.heap.size, 1, none⟩ = some (.int .i64 (h : Int)) := cell_of hk2 1
         have HB2 := Lib.hid (HB1.out.next hb2')
         have HK2 := Lib.hid hk2
         have HR2 := Lib.hid hr2
         have HI2 := Lib.hid (rows_isRows hh ho2)
         clear ho2 hb2 hb2' hk2 hr2)
      | (go_at_call 48; refine (HSg.out _ _ (ht.same HB2.out) HI2.out).mono ?_; rintro e w3 ⟨v3, rfl, hs3, hb3⟩
         have hk3 := (hb3.block _ (lt_of HK2.out)).trans HK2.out
         have hr3 := (hb3.block _ (lt_of HR2.out)).trans HR2.out
         have he0 : w3.cell? ⟨w.heap.size, 0, none⟩ = some (.int .i64 (b : Int)) := cell_of hk3 0
         have he1 : w3.cell? ⟨w.heap.size, 1, none⟩ = some (.int .i64 (h : Int)) := cell_of hk3 1
         have HB3 := Lib.hid (HB2.out.next hb3)
         have HZ3 := Lib.hid (show w.heap.size + 2 ≤ w2.heap.size from lt_of HR2.out)
         have HR3 := Lib.hid hr3
         have HK3 := Lib.hid hk3
         obtain ⟨vs, vh, vr, rfl, o1, o2, o3⟩ := hs3
         obtain ⟨sa, sc, rfl⟩ := own_form o1
         obtain ⟨ha, hc, rfl⟩ := own_form o2
         obtain ⟨ra, rc, rfl⟩ := own_form o3
         have O1 := Lib.hid o1
         have O2 := Lib.hid o2
         have O3 := Lib.hid o3
         have hr30 : w3.cell? ⟨w.heap.size + 1, 0, none⟩ = some (.int .i64 0) := cell_of hr3 0
         have hr31 : w3.cell? ⟨w.heap.size + 1, 1, none⟩ = some (.slice none 0 0) := cell_of hr3 1
         have hr32 : w3.cell? ⟨w.heap.size + 1, 2, none⟩ = some (.slice none 0 0) := cell_of hr3 2
         have hr33 : w3.cell? ⟨w.heap.size + 1, 3, none⟩ = some (.slice none 0 0) := cell_of hr3 3
         have hf30 : w3.frozen? ⟨w.heap.size + 1, 0, none⟩ = false := free_of hr3 0
         have hf31 : w3.frozen? ⟨w.heap.size + 1, 1, none⟩ = false := free_of hr3 1
         have hf32 : w3.frozen? ⟨w.heap.size + 1, 2, none⟩ = false := free_of hr3 2
         have hf33 : w3.frozen? ⟨w.heap.size + 1, 3, none⟩ = false := free_of hr3 3
         clear o1 o2 o3 hb3 hk3 hr3))
  all_goals
    go_wp2
    have hK4 := ((((kept_set (w.heap.size + 1) 0 w3 (.int .i64 (i : Int))).trans (kept_set (w.heap.size + 1) 1 _ (.slice sa (shownN seed (Sha.sha m) (i : Int) b).length sc))).trans (kept_set (w.heap.size + 1) 2 _ (.slice ha (hiddenN seed (Sha.sha m) (i : Int) b).length hc))).trans (kept_set (w.heap.size + 1) 3 _ (.slice ra (routeN seed b h i h).length rc)))
    have HK4 := Lib.hid hK4
    clear hK4
    refine ret_whole2 (p := 8) (t' := 9) (ty := 34) rfl (w.heap.size + 1) 34 _ (0, 0) _ rfl (set_of (set_of (set_of (set_of HR3.out 0 _) 1 _) 2 _) 3 _) Tryd.underlying34 rfl (by kernel_rfl) rfl ?_
    have hne : ∀ q, w2.heap.size ≤ q → q < w3.heap.size → ¬ Licit.One (w.heap.size + 1) q := fun q hq _ e => by have : q = w.heap.size + 1 := e; have := HZ3.out; omega
    refine ⟨_, rfl, ⟨_, _, _, rfl, ?_, ?_, ?_⟩, HB3.out.trans (HK4.out.below HB3.out.size (fun q hq e => by have : q = w.heap.size + 1 := e; omega))⟩
    · exact ownsRow_base (ownsRow_block O1.out (fun q hq hl => HK4.out.block q hl (hne q hq hl))) (by have := HZ3.out; omega)
    · exact ownsRow_base (ownsRow_block O2.out (fun q hq hl => HK4.out.block q hl (hne q hq hl))) (by have := HZ3.out; omega)
    · exact ownsRow_base (ownsRow_block O3.out (fun q hq hl => HK4.out.block q hl (hne q hq hl))) (by have := HZ3.out; omega)
end Go.Proofs.YtdkjehagkmkokaaDoor
namespace Go.Proofs.YtdkjehagkmkokaaDoor
open Go Go.RowKit Licit

/-- A signer as it lies in memory. -/
def SignerIs (p : Nat) (seed : Bs) (b h : Nat) (tv : Value) (n : Nat) (w : World) : Prop := w.heap[p]? = some (.cells #[.string (B seed), .int .i64 (b : Int), .int .i64 (h : Int), tv, .int .i64 (n : Int)] 72)
/-- The rows that a signer has stay, whatever is written elsewhere. -/
def RowsStay (lo p : Nat) (tv : Value) (seed : Bs) (b h : Nat) (w : World) : Prop := ∀ (S : Nat → Prop) (w' : World), Kept S w w' → (∀ k, lo ≤ k → k < w.heap.size → k ≠ p → ¬ S k) → IsRows tv ((List.range (h + 1)).map (rowB seed b h)) w'

theorem ownRows_form {base : Nat} {v : Value} {rows : List (List Bs)} {w : World} (h : OwnRows base v rows w) : ∃ a n cap, v = .slice a n cap := by
  obtain ⟨vs, hl, ho, hv⟩ := h
  obtain ⟨a, cap, e⟩ := own_form ho
  exact ⟨a, _, cap, e⟩
set_option maxHeartbeats 1000000 in
set_option maxRecDepth 100000 in
theorem NewS_any (seed : Bs) (b h : Nat) (w : World) (hs : seed.length ≤ maxLen) (hk : keyOk (b : Int) (h : Int) = true) (ht : Tab w) :
    Calls Tryd.prog 21 #[.string (B seed), .agg #[.int .i64 (b : Int), .int .i64 (h : Int)]] w fun e w' =>
      ∃ p tv, e = .returned (.tuple #[.pointer (some ⟨p, 0, none⟩), .int .i64 0]) ∧ w.heap.size ≤ p ∧ SignerIs p seed b h tv 0 w' ∧ RowsStay w.heap.size p tv seed b h w' ∧ Below w.heap.size w w' := by
  have hk' : 8 ≤ (b : Int) ∧ (b : Int) ≤ 256 ∧ 0 ≤ (h : Int) ∧ (h : Int) ≤ 6 := by simpa [keyOk] using hk
  have hb : b ≤ 256 := by omega
  have hh : h ≤ 6 := by omega
  clear hk'
  have HV := Lib.hid (fun W => Valid_yes (b : Int) (h : Int) W hk)
  have HRw := Lib.hid (fun (W : World) (hT : Tab W) => rows_any seed b h W hs hb hh hT)
  go_enter Tryd.func21, Tryd.ntmps21
  go_wp2_with (first
    | (go_at_call 15; refine (HV.out _).mono ?_; rintro e w1 ⟨rfl, hb1⟩
       have hk1 : w1.heap[w.heap.size]? = some (.cells #[.int .i64 (b : Int), .int .i64 (h : Int)] 23) := (hb1.block _ (by simp)).trans (new_of _ _)
       have hc0 : w1.cell? ⟨w.heap.size, 0, none⟩ = some (.int .i64 (b : Int)) := cell_of hk1 0
       have hc1 : w1.cell? ⟨w.heap.size, 1, none⟩ = some (.int .i64 (h : Int)) := cell_of hk1 1
       have HB1 := Lib.hid (((Below.refl _ _).alloc (Nat.le_refl _) _).next hb1)
       have HK1 := Lib.hid hk1
       clear hb1 hk1))
  go_region_held3 (fun W => W.cell? ⟨w.heap.size, 0, none⟩ = some (.int .i64 (b : Int)) ∧ W.cell? ⟨w.heap.size, 1, none⟩ = some (.int .i64 (h : Int)))
    (first | go_keep)
    (first
      | (go_at_call 36; refine (HRw.out _ (ht.same HB1.out).drew).mono ?_; rintro e w2 ⟨v2, rfl, ho2, hb2⟩
         have hb2' := undrew hb2
         have hk2 := (hb2'.block _ (lt_of HK1.out)).trans HK1.out
         have hd0 : w2.cell? ⟨w.heap.size, 0, none⟩ = some (.int .i64 (b : Int)) := cell_of hk2 0
         have hd1 : w2.cell? ⟨w.heap.size, 1, none⟩ = some (.int .i64 (h : Int)) := cell_of hk2 1
         have HB2 := Lib.hid (HB1.out.next hb2')
         have HZ2 := Lib.hid (show w.heap.size ≤ w1.heap.size from HB1.out.size)
         have HO2 := Lib.hid (show OwnRows w1.heap.size v2 _ w2 from ho2)
         obtain ⟨ta, tn, tc, rfl⟩ := ownRows_form ho2
         clear ho2 hb2 hb2' hk2))
  all_goals
    go_wp2
    go_ret2
    refine ⟨w2.heap.size, .slice ta tn tc, rfl, HB2.out.size, new_of _ _, fun S w' hk hS => ?_, HB2.out.alloc HB2.out.size _⟩
    refine rows_isRows hh (HO2.out.kept (S := fun k => S k ∧ w2.heap.size ≤ k ∨ S k) (w' := w') ?_ ?_)
    · have hk' : Kept S w2 w' := ⟨hk.os, hk.tape, hk.output, Nat.le_trans (by simp) hk.size, fun k h1 h2 => (hk.block k (by simp; omega) h2).trans (Below.heap_alloc _ _ _ h1)⟩
      exact hk'.mono fun k _ h => .inr h
    · intro k h1 h2 h3
      have : S k := by rcases h3 with h | h; exact h.1; exact h
      exact hS k (by have := HZ2.out; omega) (by simp; omega) (by omega) this

theorem NewS_no (seed : Bs) (b h : Int) (w : World) (hk : keyOk b h = false) :
    Gives 21 #[.string (B seed), .agg #[.int .i64 b, .int .i64 h]] w (.tuple #[.pointer none, .int .i64 3]) := by
  have HV := Lib.hid (fun W => Valid_no b h W hk)
  clear hk
  go_enter Tryd.func21, Tryd.ntmps21
  go_wp2_with (first
    | (go_at_call 15; refine (HV.out _).mono ?_; rintro e w1 ⟨rfl, hb1⟩; have Hb1 := Lib.hid (((Below.refl w.heap.size w).alloc (Nat.le_refl _) _).next hb1); clear hb1))
  go_ret2
  exact ⟨rfl, Hb1.out⟩

theorem pow_facts {h : Nat} (hh : h ≤ 6) : ∃ n : Nat, 2 ^ h = n ∧ (1 : Int) * 2 ^ h = (n : Int) ∧ (2 : Int) ^ h = (n : Int) ∧ n ≤ 64 ∧ 1 ≤ n :=
  ⟨2 ^ h, rfl, by simp, by simp, Nat.le_trans (Nat.pow_le_pow_right (by decide) hh) (by decide), Nat.one_le_two_pow⟩

theorem SNext_any (p : Nat) (seed : Bs) (b h n : Nat) (tv : Value) (w : World) (hS : SignerIs p seed b h tv n w) :
    Calls Tryd.prog 26 #[.pointer (some ⟨p, 0, none⟩)] w fun e w' => e = .returned (.int .i64 (n : Int)) ∧ w' = w := by
  have hc := cell_of hS 4
  simp at hc
  clear hS
  go_enter Tryd.func26, Tryd.ntmps26
  go_wp2
  go_ret
  exact ⟨rfl, rfl⟩

theorem SLeft_any (p : Nat) (seed : Bs) (b h n : Nat) (tv : Value) (w : World) (hS : SignerIs p seed b h tv n w) (hh : h ≤ 6) (hn : n ≤ 2 ^ h) :
    Calls Tryd.prog 27 #[.pointer (some ⟨p, 0, none⟩)] w fun e w' => e = .returned (.int .i64 (((2 ^ h - n : Nat)) : Int)) ∧ ∃ q, w' = w.drewN q := by
  have hc := cell_of hS 4
  have hc2 := cell_of hS 2
  simp at hc hc2
  clear hS
  obtain ⟨N, hN, hp1, hp2, h64, _⟩ := pow_facts hh
  rw [hN] at hn ⊢
  have hw : IntKind.i64.wrap ((N : Int) - (n : Int)) = ((N - n : Nat) : Int) := by rw [IntKind.wrap_i64]; omega
  have hw2 : IntKind.i64.wrap (N : Int) = (N : Int) := by rw [IntKind.wrap_i64]; omega
  clear hN
  go_enter Tryd.func27, Tryd.ntmps27
  go_wp2
  go_quiet (fail)
  go_wp2
  go_ret
  exact ⟨rfl, _, rfl⟩
end Go.Proofs.YtdkjehagkmkokaaDoor
namespace Go.Proofs.YtdkjehagkmkokaaDoor
open Go Go.RowKit Licit

theorem Skip_bad (p : Nat) (seed : Bs) (b h n : Nat) (x : Int) (tv : Value) (w : World) (hS : SignerIs p seed b h tv n w) (hh : h ≤ 6) (hx : x < 0 ∨ ((2 ^ h : Nat) : Int) < x) :
    Calls Tryd.prog 23 #[.pointer (some ⟨p, 0, none⟩), .int .i64 x] w fun e w' => e = .returned (.int .i64 3) ∧ w' = w := by
  have hc := cell_of hS 4
  have hc2 := cell_of hS 2
  simp at hc hc2
  clear hS
  obtain ⟨N, hN, hp1, hp2, h64, _⟩ := pow_facts hh
  rw [hN] at hx
  have hw2 : IntKind.i64.wrap (N : Int) = (N : Int) := by rw [IntKind.wrap_i64]; omega
  clear hN
  by_cases c1 : x < 0
  · have d1 : decide (x < 0) = true := by simpa using c1
    clear hx
    go_enter Tryd.func23, Tryd.ntmps23
    go_wp2
    go_ret
    exact ⟨rfl, rfl⟩
  · have d1 : decide (x < 0) = false := by simpa using c1
    have d2 : decide ((N : Int) < x) = true := by simp; omega
    clear hx
    go_enter Tryd.func23, Tryd.ntmps23
    go_wp2
    go_ret
    exact ⟨rfl, rfl⟩
theorem Skip_back (p : Nat) (seed : Bs) (b h n x : Nat) (tv : Value) (w : World) (hS : SignerIs p seed b h tv n w) (hh : h ≤ 6) (hx : x ≤ 2 ^ h) (hn : x < n) :
    Calls Tryd.prog 23 #[.pointer (some ⟨p, 0, none⟩), .int .i64 (x : Int)] w fun e w' => e = .returned (.int .i64 14) ∧ w' = w := by
  have hc := cell_of hS 4
  have hc2 := cell_of hS 2
  simp at hc hc2
  clear hS
  obtain ⟨N, hN, hp1, hp2, h64, _⟩ := pow_facts hh
  rw [hN] at hx
  have hw2 : IntKind.i64.wrap (N : Int) = (N : Int) := by rw [IntKind.wrap_i64]; omega
  clear hN
  have d1 : decide ((x : Int) < 0) = false := by simp
  have d2 : decide ((N : Int) < (x : Int)) = false := by simp; omega
  have d3 : decide ((x : Int) < (n : Int)) = true := by simp; omega
  go_enter Tryd.func23, Tryd.ntmps23
  go_wp2
  go_ret
  exact ⟨rfl, rfl⟩
theorem Skip_ok (p : Nat) (seed : Bs) (b h n x : Nat) (tv : Value) (w : World) (hS : SignerIs p seed b h tv n w) (hh : h ≤ 6) (hx : x ≤ 2 ^ h) (hn : n ≤ x) :
    Calls Tryd.prog 23 #[.pointer (some ⟨p, 0, none⟩), .int .i64 (x : Int)] w fun e w' => e = .returned (.int .i64 0) ∧ SignerIs p seed b h tv x w' ∧ Kept (Licit.One p) w w' := by
  have hc := cell_of hS 4
  have hc2 := cell_of hS 2
  have hf := free_of hS 4
  simp at hc hc2
  have HS := Lib.hid hS
  clear hS
  obtain ⟨N, hN, hp1, hp2, h64, _⟩ := pow_facts hh
  rw [hN] at hx
  have hw2 : IntKind.i64.wrap (N : Int) = (N : Int) := by rw [IntKind.wrap_i64]; omega
  clear hN
  have d1 : decide ((x : Int) < 0) = false := by simp
  have d2 : decide ((N : Int) < (x : Int)) = false := by simp; omega
  have d3 : decide ((x : Int) < (n : Int)) = false := by simp; omega
  go_enter Tryd.func23, Tryd.ntmps23
  go_wp2
  go_ret
  exact ⟨rfl, set_of HS.out 4 _, kept_set p 4 w _⟩

theorem SSign_full (p : Nat) (seed m : Bs) (b h : Nat) (tv : Value) (w : World) (hS : SignerIs p seed b h tv (2 ^ h) w) (hh : h ≤ 6) :
    Calls Tryd.prog 24 #[.pointer (some ⟨p, 0, none⟩), .string (B m)] w fun e w' => e = .returned (.tuple #[.agg #[.int .i64 0, .slice none 0 0, .slice none 0 0, .slice none 0 0], .int .i64 15]) ∧ Below w.heap.size w w' := by
  have hp : p < w.heap.size := lt_of hS
  have hL := fun (W : World) (hb : Below w.heap.size w W) => SLeft_any p seed b h (2 ^ h) tv W ((hb.block p hp).trans hS) hh (Nat.le_refl _)
  rw [Nat.sub_self] at hL
  have HL := Lib.hid hL
  clear hL hS
  go_enter Tryd.func24, Tryd.ntmps24
  go_wp2_with (first
    | (go_at_call 27; refine (HL.out _ ((Below.refl _ _).alloc (Nat.le_refl _) _)).mono ?_; rintro e w1 ⟨rfl, q, hw1⟩
       have hb1 : Below w.heap.size w w1 := by rw [hw1]; exact ⟨rfl, rfl, rfl, by simp [World.drewN], fun k hk => Below.heap_alloc _ _ _ hk⟩
       have hr1 : w1.heap[w.heap.size]? = some (.cells #[.int .i64 0, .slice none 0 0, .slice none 0 0, .slice none 0 0] 34) := by rw [hw1]; exact new_of _ _
       have HB1 := Lib.hid hb1
       have HR1 := Lib.hid hr1
       have hr10 : w1.cell? ⟨w.heap.size, 0, none⟩ = some (.int .i64 0) := cell_of hr1 0
       have hr11 : w1.cell? ⟨w.heap.size, 1, none⟩ = some (.slice none 0 0) := cell_of hr1 1
       have hr12 : w1.cell? ⟨w.heap.size, 2, none⟩ = some (.slice none 0 0) := cell_of hr1 2
       have hr13 : w1.cell? ⟨w.heap.size, 3, none⟩ = some (.slice none 0 0) := cell_of hr1 3
       have hf10 : w1.frozen? ⟨w.heap.size, 0, none⟩ = false := free_of hr1 0
       have hf11 : w1.frozen? ⟨w.heap.size, 1, none⟩ = false := free_of hr1 1
       have hf12 : w1.frozen? ⟨w.heap.size, 2, none⟩ = false := free_of hr1 2
       have hf13 : w1.frozen? ⟨w.heap.size, 3, none⟩ = false := free_of hr1 3
       clear hb1 hr1 hw1))
  have hK4 := ((((kept_set w.heap.size 0 w1 (.int .i64 0)).trans (kept_set w.heap.size 1 _ (.slice none 0 0))).trans (kept_set w.heap.size 2 _ (.slice none 0 0))).trans (kept_set w.heap.size 3 _ (.slice none 0 0)))
  refine ret_whole2 (p := 4) (t' := 5) (ty := 34) rfl w.heap.size 34 _ (0, 0) _ rfl (set_of (set_of (set_of (set_of HR1.out 0 _) 1 _) 2 _) 3 _) Tryd.underlying34 rfl (by kernel_rfl) rfl ?_
  exact ⟨rfl, HB1.out.trans (hK4.below HB1.out.size (fun q hq e => by have : q = w.heap.size := e; omega))⟩

set_option maxHeartbeats 1000000 in
set_option maxRecDepth 100000 in
theorem SSign_next (p : Nat) (seed m : Bs) (b h n : Nat) (tv : Value) (w : World) (hS : SignerIs p seed b h tv n w) (hs : seed.length ≤ maxLen) (hm : m.length ≤ 1000000000000) (hb : b ≤ 256) (hh : h ≤ 6) (hn : n < 2 ^ h) (ht : ∀ w', Kept (Licit.One p) w w' → Tab w')
    (hr : ∀ w', Kept (Licit.One p) w w' → IsRows tv ((List.range (h + 1)).map (rowB seed b h)) w') (htv : ∃ a n cap, tv = .slice a n cap) :
    Calls Tryd.prog 24 #[.pointer (some ⟨p, 0, none⟩), .string (B m)] w fun e w' =>
      ∃ v, e = .returned (.tuple #[v, .int .i64 0]) ∧ IsSig w.heap.size v (n : Int) (shownN seed (Sha.sha m) (n : Int) b) (hiddenN seed (Sha.sha m) (n : Int) b) (routeN seed b h n h) w' ∧ SignerIs p seed b h tv (n + 1) w' ∧ Kept (Licit.One p) w w' := by
  obtain ⟨ta, tn, tc, rfl⟩ := htv
  have hp : p < w.heap.size := lt_of hS
  have HL := Lib.hid (fun (W : World) (hb : Below w.heap.size w W) => SLeft_any p seed b h n (.slice ta tn tc) W ((hb.block p hp).trans hS) hh (Nat.le_of_lt hn))
  have HSg := Lib.hid (fun (W : World) (hT : Tab W) hr => sign_any (.slice ta tn tc) seed m b h n W hs hm hb hh hn hT hr)
  obtain ⟨l, hl⟩ : ∃ l, 2 ^ h - n = l := ⟨_, rfl⟩
  have hl0 : ((l : Int) == 0) = false := by simp; omega
  have hn63 : n < 64 := Nat.lt_of_lt_of_le hn (Nat.le_trans (Nat.pow_le_pow_right (by decide) hh) (by decide : 2 ^ 6 ≤ 64))
  rw [hl] at HL
  obtain ⟨n1, hn1⟩ : ∃ n1, n + 1 = n1 := ⟨_, rfl⟩
  have hw1 : IntKind.i64.wrap ((n : Int) + 1) = (n1 : Int) := by rw [IntKind.wrap_i64]; omega
  have hw2 : IntKind.i64.wrap ((n1 : Int) - 1) = (n : Int) := by rw [IntKind.wrap_i64]; omega
  have hw3 : (n : Int) + 1 = (n1 : Int) := by omega
  have hw4 : (n1 : Int) - 1 = (n : Int) := by omega
  have hw5 : IntKind.i64.wrap (n : Int) = (n : Int) := by rw [IntKind.wrap_i64]; omega
  rw [hn1]
  have HS := Lib.hid hS
  have HT := Lib.hid ht
  have HR := Lib.hid hr
  clear hl hn1 hS ht hr
  go_enter Tryd.func24, Tryd.ntmps24
  go_wp2_with (first
    | (go_at_call 27; refine (HL.out _ ((Below.refl _ _).alloc (Nat.le_refl _) _)).mono ?_; rintro e w1 ⟨rfl, q, hw1'⟩
       have hk1 : Kept (Licit.One p) w w1 := by rw [hw1']; exact ⟨rfl, rfl, rfl, by simp [World.drewN], fun k hk _ => Below.heap_alloc _ _ _ hk⟩
       have hr1 : w1.heap[w.heap.size]? = some (.cells #[.int .i64 0, .slice none 0 0, .slice none 0 0, .slice none 0 0] 34) := by rw [hw1']; exact new_of _ _
       have hs1 : w1.heap[p]? = some (.cells #[.string (B seed), .int .i64 (b : Int), .int .i64 (h : Int), .slice ta tn tc, .int .i64 (n : Int)] 72) := by rw [hw1']; exact (Below.heap_alloc _ _ _ hp).trans HS.out
       have hc4 : w1.cell? ⟨p, 4, none⟩ = some (.int .i64 (n : Int)) := cell_of hs1 4
       have hf4 : w1.frozen? ⟨p, 4, none⟩ = false := free_of hs1 4
       have HK1 := Lib.hid hk1
       have HR1 := Lib.hid hr1
       have HS1 := Lib.hid hs1
       clear hk1 hr1 hs1 hw1'))
  obtain ⟨w2, h2⟩ : ∃ w2, w1.setCell ⟨p, 4, none⟩ (.int .i64 (n1 : Int)) = w2 := ⟨_, rfl⟩
  rw [h2]
  have hs2 : w2.heap[p]? = some (.cells #[.string (B seed), .int .i64 (b : Int), .int .i64 (h : Int), .slice ta tn tc, .int .i64 (n1 : Int)] 72) := h2 ▸ set_of HS1.out 4 _
  have hr2 : w2.heap[w.heap.size]? = some (.cells #[.int .i64 0, .slice none 0 0, .slice none 0 0, .slice none 0 0] 34) := h2 ▸ set_other (p := ⟨p, 4, none⟩) HR1.out (by show w.heap.size ≠ p; omega)
  have hk2 : Kept (Licit.One p) w w2 := HK1.out.trans (h2 ▸ (kept_set p 4 w1 _).mono (fun _ _ e => e))
  have e0 : w2.cell? ⟨p, 0, none⟩ = some (.string (B seed)) := cell_of hs2 0
  have e1 : w2.cell? ⟨p, 1, none⟩ = some (.int .i64 (b : Int)) := cell_of hs2 1
  have e2 : w2.cell? ⟨p, 2, none⟩ = some (.int .i64 (h : Int)) := cell_of hs2 2
  have e3 : w2.cell? ⟨p, 3, none⟩ = some (.slice ta tn tc) := cell_of hs2 3
  have e4 : w2.cell? ⟨p, 4, none⟩ = some (.int .i64 (n1 : Int)) := cell_of hs2 4
  have HS2 := Lib.hid hs2
  have HR2 := Lib.hid hr2
  have HK2 := Lib.hid hk2
  have ht2 : Tab w2 := HT.out _ HK2.out
  have HI2 := Lib.hid (HR.out _ HK2.out)
  clear h2 hs2 hr2 hk2 hc4 hf4
  have HI2 := Lib.hid (show IsRows (.slice ta tn tc) ((List.range (h + 1)).map (rowB seed b h)) w2.drew from HI2.out)
  go_region_held3 (fun W => W.cell? ⟨p, 0, none⟩ = some (.string (B seed)) ∧ W.cell? ⟨p, 1, none⟩ = some (.int .i64 (b : Int)) ∧ W.cell? ⟨p, 2, none⟩ = some (.int .i64 (h : Int)) ∧ W.cell? ⟨p, 3, none⟩ = some (.slice ta tn tc) ∧ W.cell? ⟨p, 4, none⟩ = some (.int .i64 (n1 : Int)))
    (first | go_keep | (exact HS4.out _ _ _ _))
    (first
      | (go_at_call 48; refine (HSg.out _ ht2.drew HI2.out).mono ?_; rintro e w3 ⟨v3, rfl, hs3', hb3'⟩
         have hb3 : Below w2.heap.size w2 w3 := undrew hb3'
         have hs3 : IsSig w2.heap.size v3 (n : Int) _ _ _ w3 := hs3'
         have hk3 := (hb3.block _ (lt_of HS2.out)).trans HS2.out
         have hr3 := (hb3.block _ (lt_of HR2.out)).trans HR2.out
         have i0 : w3.cell? ⟨p, 0, none⟩ = some (.string (B seed)) := cell_of hk3 0
         have i1 : w3.cell? ⟨p, 1, none⟩ = some (.int .i64 (b : Int)) := cell_of hk3 1
         have i2 : w3.cell? ⟨p, 2, none⟩ = some (.int .i64 (h : Int)) := cell_of hk3 2
         have i3 : w3.cell? ⟨p, 3, none⟩ = some (.slice ta tn tc) := cell_of hk3 3
         have i4 : w3.cell? ⟨p, 4, none⟩ = some (.int .i64 (n1 : Int)) := cell_of hk3 4
         have HK3 := Lib.hid hk3
         have HR3 := Lib.hid hr3
         have HB3 := Lib.hid hb3
         obtain ⟨vs, vh, vr, rfl, o1, o2, o3⟩ := hs3
         obtain ⟨sa, sc, rfl⟩ := own_form o1
         obtain ⟨ha, hc, rfl⟩ := own_form o2
         obtain ⟨ra, rc, rfl⟩ := own_form o3
         have O1 := Lib.hid o1
         have O2 := Lib.hid o2
         have O3 := Lib.hid o3
         have hr30 : w3.cell? ⟨w.heap.size, 0, none⟩ = some (.int .i64 0) := cell_of hr3 0
         have hr31 : w3.cell? ⟨w.heap.size, 1, none⟩ = some (.slice none 0 0) := cell_of hr3 1
         have hr32 : w3.cell? ⟨w.heap.size, 2, none⟩ = some (.slice none 0 0) := cell_of hr3 2
         have hr33 : w3.cell? ⟨w.heap.size, 3, none⟩ = some (.slice none 0 0) := cell_of hr3 3
         have hf30 : w3.frozen? ⟨w.heap.size, 0, none⟩ = false := free_of hr3 0
         have hf31 : w3.frozen? ⟨w.heap.size, 1, none⟩ = false := free_of hr3 1
         have hf32 : w3.frozen? ⟨w.heap.size, 2, none⟩ = false := free_of hr3 2
         have hf33 : w3.frozen? ⟨w.heap.size, 3, none⟩ = false := free_of hr3 3
         have hpw : p < w.heap.size := hp
         have HS4 := Lib.hid (show ∀ x0 x1 x2 x3 : Value, (fun W : World => W.cell? ⟨p, 0, none⟩ = some (.string (B seed)) ∧ W.cell? ⟨p, 1, none⟩ = some (.int .i64 (b : Int)) ∧ W.cell? ⟨p, 2, none⟩ = some (.int .i64 (h : Int)) ∧ W.cell? ⟨p, 3, none⟩ = some (.slice ta tn tc) ∧ W.cell? ⟨p, 4, none⟩ = some (.int .i64 (n1 : Int))) ((((w3.setCell ⟨w.heap.size, 0, none⟩ x0).setCell ⟨w.heap.size, 1, none⟩ x1).setCell ⟨w.heap.size, 2, none⟩ x2).setCell ⟨w.heap.size, 3, none⟩ x3) by
           intro x0 x1 x2 x3
           have hne : ∀ o : Nat, p ≠ (⟨w.heap.size, o, none⟩ : Addr).block := fun o => by show p ≠ w.heap.size; omega
           have hb := set_other (p := ⟨w.heap.size, 3, none⟩) (v := x3) (set_other (p := ⟨w.heap.size, 2, none⟩) (v := x2) (set_other (p := ⟨w.heap.size, 1, none⟩) (v := x1) (set_other (p := ⟨w.heap.size, 0, none⟩) (v := x0) hk3 (hne 0)) (hne 1)) (hne 2)) (hne 3)
           exact ⟨cell_of hb 0, cell_of hb 1, cell_of hb 2, cell_of hb 3, cell_of hb 4⟩)
         clear o1 o2 o3 hb3 hk3 hr3 hb3' hs3'))
  all_goals
    go_wp2
    have hK4 := ((((kept_set w.heap.size 0 w3 (.int .i64 (n : Int))).trans (kept_set w.heap.size 1 _ (.slice sa (shownN seed (Sha.sha m) (n : Int) b).length sc))).trans (kept_set w.heap.size 2 _ (.slice ha (hiddenN seed (Sha.sha m) (n : Int) b).length hc))).trans (kept_set w.heap.size 3 _ (.slice ra (routeN seed b h n h).length rc)))
    have HK4 := Lib.hid hK4
    clear hK4
    have hz1 : w.heap.size < w2.heap.size := lt_of HR2.out
    have hz2 : w2.heap.size ≤ w3.heap.size := HB3.out.size
    refine ret_whole2 (p := 4) (t' := 5) (ty := 34) rfl w.heap.size 34 _ (0, 0) _ rfl (set_of (set_of (set_of (set_of HR3.out 0 _) 1 _) 2 _) 3 _) Tryd.underlying34 rfl (by kernel_rfl) rfl ?_
    have hne : ∀ q, w2.heap.size ≤ q → q < w3.heap.size → ¬ Licit.One w.heap.size q := fun q hq _ e => by have : q = w.heap.size := e; omega
    refine ⟨_, rfl, ⟨_, _, _, rfl, ?_, ?_, ?_⟩, ?_, ?_⟩
    · exact ownsRow_base (ownsRow_block O1.out (fun q hq hl => HK4.out.block q hl (hne q hq hl))) (by omega)
    · exact ownsRow_base (ownsRow_block O2.out (fun q hq hl => HK4.out.block q hl (hne q hq hl))) (by omega)
    · exact ownsRow_base (ownsRow_block O3.out (fun q hq hl => HK4.out.block q hl (hne q hq hl))) (by omega)
    · exact (HK4.out.block p (by omega) (fun e => by have : p = w.heap.size := e; omega)).trans HK3.out
    · have k5 : Kept (Licit.One p) w2 w3 := Kept.of_below HB3.out
      exact ⟨HK4.out.os.trans (k5.os.trans HK2.out.os), HK4.out.tape.trans (k5.tape.trans HK2.out.tape), HK4.out.output.trans (k5.output.trans HK2.out.output), Nat.le_trans HK2.out.size (Nat.le_trans k5.size HK4.out.size),
        fun q hq hne => (HK4.out.block q (by omega) (fun e => by have : q = w.heap.size := e; omega)).trans ((k5.block q (by omega) hne).trans (HK2.out.block q hq hne))⟩
end Go.Proofs.YtdkjehagkmkokaaDoor
