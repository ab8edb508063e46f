/- Sign of package lamport and of its reference, for every key and index. -/
import Derived.Test.YtdkjehagkmkokaaDoorWkRefSign
namespace Go.Proofs.YtdkjehagkmkokaaDoor
open Go Go.RowKit Licit

abbrev sig0 : Value := .agg #[.int .i64 0, .slice none 0 0, .slice none 0 0, .slice none 0 0]
def signOk (b h i : Int) : Bool := keyOk b h && decide (0 ≤ i) && decide (i < ((2 ^ h.toNat : Nat) : Int))
def signE (b h i : Int) : Int := if signOk b h i = true then 0 else 3
def sigI (b h i : Int) : Int := if signOk b h i = true then i else 0
def sigS (seed m : Bs) (b h i : Int) : List Bs := if signOk b h i = true then shownN seed (Sha.sha m) i b.toNat else []
def sigH (seed m : Bs) (b h i : Int) : List Bs := if signOk b h i = true then hiddenN seed (Sha.sha m) i b.toNat else []
def sigR (seed : Bs) (b h i : Int) : List Bs := if signOk b h i = true then routeN seed b.toNat h.toNat i.toNat h.toNat else []
theorem sig0_is (w : World) : SigIs sig0 0 [] [] [] w := ⟨_, _, _, rfl, ⟨by simp, .inl ⟨none, 0, rfl, rfl⟩⟩, ⟨by simp, .inl ⟨none, 0, rfl, rfl⟩⟩, ⟨by simp, .inl ⟨none, 0, rfl, rfl⟩⟩⟩

theorem sign_cases {b h i : Int} (hf : signOk b h i = false) : keyOk b h = false ∨ (keyOk b h = true ∧ i < 0) ∨ (keyOk b h = true ∧ 0 ≤ i ∧ ((2 ^ h.toNat : Nat) : Int) ≤ i) := by
  unfold signOk at hf
  cases hk : keyOk b h with
  | false => exact .inl rfl
  | true =>
    rw [hk, Bool.true_and] at hf
    by_cases h0 : i < 0
    · exact .inr (.inl ⟨rfl, h0⟩)
    · have h1 : 0 ≤ i := by omega
      rw [decide_eq_true h1, Bool.true_and, decide_eq_false_iff_not] at hf
      exact .inr (.inr ⟨rfl, h1, by omega⟩)

set_option maxHeartbeats 2000000 in
set_option maxRecDepth 100000 in
theorem Sign_no (seed m : Bs) (b h i : Int) (w : World) (hf : signOk b h i = false) :
    Calls Tryd.prog 28 #[.string (B seed), .agg #[.int .i64 b, .int .i64 h], .int .i64 i, .string (B m)] w fun e w' => e = .returned (.tuple #[sig0, .int .i64 3]) ∧ Below w.heap.size w w' := by
  rcases sign_cases hf with hk | ⟨hk, h0⟩ | ⟨hk, h0, h1⟩
  · have HV := Lib.hid (fun W => Valid_no b h W hk)
    clear hk hf
    go_enter Tryd.func28, Tryd.ntmps28
    go_wp2_with (first
      | (go_at_call 15; refine (HV.out _).mono ?_; rintro e w1 ⟨rfl, hb1⟩
         have hr1 : w1.heap[w.heap.size + 1]? = some (.cells #[.int .i64 0, .slice none 0 0, .slice none 0 0, .slice none 0 0] 34) := (hb1.block _ (by simp)).trans (new_at (by simp) rfl)
         obtain ⟨r0, r1, r2, r3⟩ := sigC hr1
         have f0 : w1.frozen? ⟨w.heap.size + 1, 0, none⟩ = false := free_of hr1 _
         have f1 : w1.frozen? ⟨w.heap.size + 1, 1, none⟩ = false := free_of hr1 _
         have f2 : w1.frozen? ⟨w.heap.size + 1, 2, none⟩ = false := free_of hr1 _
         have f3 : w1.frozen? ⟨w.heap.size + 1, 3, none⟩ = false := free_of hr1 _
         have HR1 := Lib.hid hr1
         have HB1 := Lib.hid ((((Below.refl w.heap.size w).alloc (Nat.le_refl _) _).alloc (by simp) _).next hb1)
         clear hb1 hr1))
    have hKe := ((((kept_set (w.heap.size + 1) 0 w1 (.int .i64 0)).trans (kept_set (w.heap.size + 1) 1 _ (.slice none 0 0))).trans (kept_set (w.heap.size + 1) 2 _ (.slice none 0 0))).trans (kept_set (w.heap.size + 1) 3 _ (.slice none 0 0)))
    refine ret_whole2 (p := 8) (t' := 9) (ty := 34) rfl (w.heap.size + 1) 34 _ (0, 0) _ rfl (set_of (set_of (set_of (set_of HR1.out 0 _) 1 _) 2 _) 3 _) Tryd.underlying34 rfl (by kernel_rfl) rfl ?_
    exact ⟨rfl, HB1.out.trans (hKe.below HB1.out.size (fun q hq e => by have : q = w.heap.size + 1 := e; omega))⟩
  · have HV := Lib.hid (fun W => Valid_yes b h W hk)
    clear hk hf
    have d2 : decide (i < 0) = true := by simpa using h0
    go_enter Tryd.func28, Tryd.ntmps28
    go_wp2_with (first
      | (go_at_call 15; refine (HV.out _).mono ?_; rintro e w1 ⟨rfl, hb1⟩
         have hr1 : w1.heap[w.heap.size + 1]? = some (.cells #[.int .i64 0, .slice none 0 0, .slice none 0 0, .slice none 0 0] 34) := (hb1.block _ (by simp)).trans (new_at (by simp) rfl)
         obtain ⟨r0, r1, r2, r3⟩ := sigC hr1
         have f0 : w1.frozen? ⟨w.heap.size + 1, 0, none⟩ = false := free_of hr1 _
         have f1 : w1.frozen? ⟨w.heap.size + 1, 1, none⟩ = false := free_of hr1 _
         have f2 : w1.frozen? ⟨w.heap.size + 1, 2, none⟩ = false := free_of hr1 _
         have f3 : w1.frozen? ⟨w.heap.size + 1, 3, none⟩ = false := free_of hr1 _
         have HR1 := Lib.hid hr1
         have HB1 := Lib.hid ((((Below.refl w.heap.size w).alloc (Nat.le_refl _) _).alloc (by simp) _).next hb1)
         clear hb1 hr1))
    have hKe := ((((kept_set (w.heap.size + 1) 0 w1 (.int .i64 0)).trans (kept_set (w.heap.size + 1) 1 _ (.slice none 0 0))).trans (kept_set (w.heap.size + 1) 2 _ (.slice none 0 0))).trans (kept_set (w.heap.size + 1) 3 _ (.slice none 0 0)))
    refine ret_whole2 (p := 8) (t' := 9) (ty := 34) rfl (w.heap.size + 1) 34 _ (0, 0) _ rfl (set_of (set_of (set_of (set_of HR1.out 0 _) 1 _) 2 _) 3 _) Tryd.underlying34 rfl (by kernel_rfl) rfl ?_
    exact ⟨rfl, HB1.out.trans (hKe.below HB1.out.size (fun q hq e => by have : q = w.heap.size + 1 := e; omega))⟩
  · have hk' : 8 ≤ b ∧ b ≤ 256 ∧ 0 ≤ h ∧ h ≤ 6 := by simpa [keyOk] using hk
    obtain ⟨h, rfl⟩ : ∃ n : Nat, h = (n : Int) := ⟨h.toNat, by omega⟩
    have hh : h ≤ 6 := by omega
    have HV := Lib.hid (fun W => Valid_yes b (h : Int) W hk)
    have HCnt := Lib.hid (fun W => RCount_any b h W hh)
    obtain ⟨N, hN, hp1, hp2, h64, _⟩ := pow_facts hh
    rw [Int.toNat_natCast, hN] at h1
    rw [hN] at HCnt
    clear hk hf hk' hN
    have d2 : decide (i < 0) = false := by simp; omega
    have d3 : decide ((N : Int) ≤ i) = true := by simp; omega
    go_enter Tryd.func28, Tryd.ntmps28
    go_wp2_with (first
      | (go_at_call 15; refine (HV.out _).mono ?_; rintro e w1 ⟨rfl, hb1⟩
         have hr1 : w1.heap[w.heap.size + 1]? = some (.cells #[.int .i64 0, .slice none 0 0, .slice none 0 0, .slice none 0 0] 34) := (hb1.block _ (by simp)).trans (new_at (by simp) rfl)
         obtain ⟨r0, r1, r2, r3⟩ := sigC hr1
         have f0 : w1.frozen? ⟨w.heap.size + 1, 0, none⟩ = false := free_of hr1 _
         have f1 : w1.frozen? ⟨w.heap.size + 1, 1, none⟩ = false := free_of hr1 _
         have f2 : w1.frozen? ⟨w.heap.size + 1, 2, none⟩ = false := free_of hr1 _
         have f3 : w1.frozen? ⟨w.heap.size + 1, 3, none⟩ = false := free_of hr1 _
         have HR1 := Lib.hid hr1
         have hk1 : w1.heap[w.heap.size]? = some (.cells #[.int .i64 b, .int .i64 (h : Int)] 23) := (hb1.block _ (by simp; omega)).trans (old_of (new_of _ _))
         obtain ⟨k0, k1⟩ := keyC hk1
         have HB1 := Lib.hid ((((Below.refl w.heap.size w).alloc (Nat.le_refl _) _).alloc (by simp) _).next hb1)
         clear hb1 hr1 hk1))
    have hKe := ((((kept_set (w.heap.size + 1) 0 w1 (.int .i64 0)).trans (kept_set (w.heap.size + 1) 1 _ (.slice none 0 0))).trans (kept_set (w.heap.size + 1) 2 _ (.slice none 0 0))).trans (kept_set (w.heap.size + 1) 3 _ (.slice none 0 0)))
    refine ret_whole2 (p := 8) (t' := 9) (ty := 34) rfl (w.heap.size + 1) 34 _ (0, 0) _ rfl (set_of (set_of (set_of (set_of HR1.out 0 _) 1 _) 2 _) 3 _) Tryd.underlying34 rfl (by kernel_rfl) rfl ?_
    exact ⟨rfl, HB1.out.trans (hKe.below HB1.out.size (fun q hq e => by have : q = w.heap.size + 1 := e; omega))⟩

set_option maxHeartbeats 2000000 in
set_option maxRecDepth 100000 in
theorem RSign_no (seed m : Bs) (b h i : Int) (w : World) (hf : signOk b h i = false) :
    Calls Tryd.prog 17 #[.string (B seed), .agg #[.int .i64 b, .int .i64 h], .int .i64 i, .string (B m)] w fun e w' => e = .returned (.tuple #[sig0, .int .i64 3]) ∧ Below w.heap.size w w' := by
  rcases sign_cases hf with hk | ⟨hk, h0⟩ | ⟨hk, h0, h1⟩
  · have HV := Lib.hid (fun W => RValid_no b h W hk)
    clear hk hf
    go_enter Tryd.func17, Tryd.ntmps17
    go_wp2_with (first
      | (go_at_call 16; refine (HV.out _).mono ?_; rintro e w1 ⟨rfl, hb1⟩
         have hr1 : w1.heap[w.heap.size + 1]? = some (.cells #[.int .i64 0, .slice none 0 0, .slice none 0 0, .slice none 0 0] 34) := (hb1.block _ (by simp)).trans (new_at (by simp) rfl)
         obtain ⟨r0, r1, r2, r3⟩ := sigC hr1
         have f0 : w1.frozen? ⟨w.heap.size + 1, 0, none⟩ = false := free_of hr1 _
         have f1 : w1.frozen? ⟨w.heap.size + 1, 1, none⟩ = false := free_of hr1 _
         have f2 : w1.frozen? ⟨w.heap.size + 1, 2, none⟩ = false := free_of hr1 _
         have f3 : w1.frozen? ⟨w.heap.size + 1, 3, none⟩ = false := free_of hr1 _
         have HR1 := Lib.hid hr1
         have HB1 := Lib.hid ((((Below.refl w.heap.size w).alloc (Nat.le_refl _) _).alloc (by simp) _).next hb1)
         clear hb1 hr1))
    have hKe := ((((kept_set (w.heap.size + 1) 0 w1 (.int .i64 0)).trans (kept_set (w.heap.size + 1) 1 _ (.slice none 0 0))).trans (kept_set (w.heap.size + 1) 2 _ (.slice none 0 0))).trans (kept_set (w.heap.size + 1) 3 _ (.slice none 0 0)))
    refine ret_whole2 (p := 8) (t' := 9) (ty := 34) rfl (w.heap.size + 1) 34 _ (0, 0) _ rfl (set_of (set_of (set_of (set_of HR1.out 0 _) 1 _) 2 _) 3 _) Tryd.underlying34 rfl (by kernel_rfl) rfl ?_
    exact ⟨rfl, HB1.out.trans (hKe.below HB1.out.size (fun q hq e => by have : q = w.heap.size + 1 := e; omega))⟩
  · have HV := Lib.hid (fun W => RValid_yes b h W hk)
    clear hk hf
    have d2 : decide (i < 0) = true := by simpa using h0
    go_enter Tryd.func17, Tryd.ntmps17
    go_wp2_with (first
      | (go_at_call 16; refine (HV.out _).mono ?_; rintro e w1 ⟨rfl, hb1⟩
         have hr1 : w1.heap[w.heap.size + 1]? = some (.cells #[.int .i64 0, .slice none 0 0, .slice none 0 0, .slice none 0 0] 34) := (hb1.block _ (by simp)).trans (new_at (by simp) rfl)
         obtain ⟨r0, r1, r2, r3⟩ := sigC hr1
         have f0 : w1.frozen? ⟨w.heap.size + 1, 0, none⟩ = false := free_of hr1 _
         have f1 : w1.frozen? ⟨w.heap.size + 1, 1, none⟩ = false := free_of hr1 _
         have f2 : w1.frozen? ⟨w.heap.size + 1, 2, none⟩ = false := free_of hr1 _
         have f3 : w1.frozen? ⟨w.heap.size + 1, 3, none⟩ = false := free_of hr1 _
         have HR1 := Lib.hid hr1
         have HB1 := Lib.hid ((((Below.refl w.heap.size w).alloc (Nat.le_refl _) _).alloc (by simp) _).next hb1)
         clear hb1 hr1))
    have hKe := ((((kept_set (w.heap.size + 1) 0 w1 (.int .i64 0)).trans (kept_set (w.heap.size + 1) 1 _ (.slice none 0 0))).trans (kept_set (w.heap.size + 1) 2 _ (.slice none 0 0))).trans (kept_set (w.heap.size + 1) 3 _ (.slice none 0 0)))
    refine ret_whole2 (p := 8) (t' := 9) (ty := 34) rfl (w.heap.size + 1) 34 _ (0, 0) _ rfl (set_of (set_of (set_of (set_of HR1.out 0 _) 1 _) 2 _) 3 _) Tryd.underlying34 rfl (by kernel_rfl) rfl ?_
    exact ⟨rfl, HB1.out.trans (hKe.below HB1.out.size (fun q hq e => by have : q = w.heap.size + 1 := e; omega))⟩
  · have hk' : 8 ≤ b ∧ b ≤ 256 ∧ 0 ≤ h ∧ h ≤ 6 := by simpa [keyOk] using hk
    obtain ⟨h, rfl⟩ : ∃ n : Nat, h = (n : Int) := ⟨h.toNat, by omega⟩
    have hh : h ≤ 6 := by omega
    have HV := Lib.hid (fun W => RValid_yes b (h : Int) W hk)
    have HCnt := Lib.hid (fun W => RCount_any b h W hh)
    obtain ⟨N, hN, hp1, hp2, h64, _⟩ := pow_facts hh
    rw [Int.toNat_natCast, hN] at h1
    rw [hN] at HCnt
    clear hk hf hk' hN
    have d2 : decide (i < 0) = false := by simp; omega
    have d3 : decide ((N : Int) ≤ i) = true := by simp; omega
    go_enter Tryd.func17, Tryd.ntmps17
    go_wp2_with (first
      | (go_at_call 16; refine (HV.out _).mono ?_; rintro e w1 ⟨rfl, hb1⟩
         have hr1 : w1.heap[w.heap.size + 1]? = some (.cells #[.int .i64 0, .slice none 0 0, .slice none 0 0, .slice none 0 0] 34) := (hb1.block _ (by simp)).trans (new_at (by simp) rfl)
         have HR1 := Lib.hid hr1
         have hk1 : w1.heap[w.heap.size]? = some (.cells #[.int .i64 b, .int .i64 (h : Int)] 23) := (hb1.block _ (by simp; omega)).trans (old_of (new_of _ _))
         obtain ⟨k0, k1⟩ := keyC hk1
         have HB1 := Lib.hid ((((Below.refl w.heap.size w).alloc (Nat.le_refl _) _).alloc (by simp) _).next hb1)
         clear hb1 hr1 hk1)
      | (go_at_call 22; refine (HCnt.out _).mono ?_; rintro e w2 ⟨rfl, hb2⟩
         have hr2 : w2.heap[w.heap.size + 1]? = some (.cells #[.int .i64 0, .slice none 0 0, .slice none 0 0, .slice none 0 0] 34) := (hb2.block _ (lt_of HR1.out)).trans HR1.out
         obtain ⟨r0, r1, r2, r3⟩ := sigC hr2
         have f0 : w2.frozen? ⟨w.heap.size + 1, 0, none⟩ = false := free_of hr2 _
         have f1 : w2.frozen? ⟨w.heap.size + 1, 1, none⟩ = false := free_of hr2 _
         have f2 : w2.frozen? ⟨w.heap.size + 1, 2, none⟩ = false := free_of hr2 _
         have f3 : w2.frozen? ⟨w.heap.size + 1, 3, none⟩ = false := free_of hr2 _
         have HR2 := Lib.hid hr2
         have HB2 := Lib.hid (HB1.out.next hb2)
         clear hb2 hr2))
    have hKe := ((((kept_set (w.heap.size + 1) 0 w2 (.int .i64 0)).trans (kept_set (w.heap.size + 1) 1 _ (.slice none 0 0))).trans (kept_set (w.heap.size + 1) 2 _ (.slice none 0 0))).trans (kept_set (w.heap.size + 1) 3 _ (.slice none 0 0)))
    refine ret_whole2 (p := 8) (t' := 9) (ty := 34) rfl (w.heap.size + 1) 34 _ (0, 0) _ rfl (set_of (set_of (set_of (set_of HR2.out 0 _) 1 _) 2 _) 3 _) Tryd.underlying34 rfl (by kernel_rfl) rfl ?_
    exact ⟨rfl, HB2.out.trans (hKe.below HB2.out.size (fun q hq e => by have : q = w.heap.size + 1 := e; omega))⟩

theorem SigIs.own {base : Nat} {v : Value} {i : Int} {S H R : List Bs} {w : World} (h : IsSig base v i S H R w) (h1 : S.length ≤ maxLen) (h2 : H.length ≤ maxLen) (h3 : R.length ≤ maxLen) : SigIs v i S H R w := SigIs.of_sig h h1 h2 h3
theorem sign_both (seed m : Bs) (b h i : Int) (w : World) (hs : seed.length ≤ maxLen) (hm : m.length ≤ 1000000000000) (ht : Tab w) :
    Calls Tryd.prog 28 #[.string (B seed), .agg #[.int .i64 b, .int .i64 h], .int .i64 i, .string (B m)] w fun e w' => ∃ v, e = .returned (.tuple #[v, .int .i64 (signE b h i)]) ∧ SigIs v (sigI b h i) (sigS seed m b h i) (sigH seed m b h i) (sigR seed b h i) w' ∧ Below w.heap.size w w' := by
  unfold signE sigI sigS sigH sigR
  cases hf : signOk b h i with
  | false => exact (Sign_no seed m b h i w hf).mono fun e w' ⟨h1, h2⟩ => ⟨_, h1, sig0_is w', h2⟩
  | true =>
    have hf' := hf
    unfold signOk at hf'
    simp only [Bool.and_eq_true, decide_eq_true_eq] at hf'
    obtain ⟨⟨hk, h0⟩, h1⟩ := hf'
    have hk' : 8 ≤ b ∧ b ≤ 256 ∧ 0 ≤ h ∧ h ≤ 6 := by simpa [keyOk] using hk
    obtain ⟨b, rfl⟩ : ∃ n : Nat, b = (n : Int) := ⟨b.toNat, by omega⟩
    obtain ⟨h, rfl⟩ : ∃ n : Nat, h = (n : Int) := ⟨h.toNat, by omega⟩
    obtain ⟨i, rfl⟩ : ∃ n : Nat, i = (n : Int) := ⟨i.toNat, by omega⟩
    simp only [if_true, Int.toNat_natCast] at h1 ⊢
    refine (Sign_any seed m b h i w hs hm hk (by omega) ht).mono fun e w' ⟨v, e1, e2, e3⟩ => ⟨v, e1, SigIs.of_sig e2 ?_ ?_ ?_, e3⟩
    · rw [shownN_len]; unfold maxLen; omega
    · rw [hiddenN_len]; unfold maxLen; omega
    · rw [routeN_len]; unfold maxLen; omega
theorem rsign_both (seed m : Bs) (b h i : Int) (w : World) (hs : seed.length ≤ maxLen) (hm : m.length ≤ 1000000000000) :
    Calls Tryd.prog 17 #[.string (B seed), .agg #[.int .i64 b, .int .i64 h], .int .i64 i, .string (B m)] w fun e w' => ∃ v, e = .returned (.tuple #[v, .int .i64 (signE b h i)]) ∧ SigIs v (sigI b h i) (sigS seed m b h i) (sigH seed m b h i) (sigR seed b h i) w' ∧ Below w.heap.size w w' := by
  unfold signE sigI sigS sigH sigR
  cases hf : signOk b h i with
  | false => exact (RSign_no seed m b h i w hf).mono fun e w' ⟨h1, h2⟩ => ⟨_, h1, sig0_is w', h2⟩
  | true =>
    have hf' := hf
    unfold signOk at hf'
    simp only [Bool.and_eq_true, decide_eq_true_eq] at hf'
    obtain ⟨⟨hk, h0⟩, h1⟩ := hf'
    have hk' : 8 ≤ b ∧ b ≤ 256 ∧ 0 ≤ h ∧ h ≤ 6 := by simpa [keyOk] using hk
    obtain ⟨b, rfl⟩ : ∃ n : Nat, b = (n : Int) := ⟨b.toNat, by omega⟩
    obtain ⟨h, rfl⟩ : ∃ n : Nat, h = (n : Int) := ⟨h.toNat, by omega⟩
    obtain ⟨i, rfl⟩ : ∃ n : Nat, i = (n : Int) := ⟨i.toNat, by omega⟩
    simp only [if_true, Int.toNat_natCast] at h1 ⊢
    refine (RSign_any seed m b h i w hs hm hk (by omega)).mono fun e w' ⟨v, e1, e2, e3⟩ => ⟨v, e1, SigIs.of_sig e2 ?_ ?_ ?_, e3⟩
    · rw [shownN_len]; unfold maxLen; omega
    · rw [hiddenN_len]; unfold maxLen; omega
    · rw [routeN_len]; unfold maxLen; omega
end Go.Proofs.YtdkjehagkmkokaaDoor
