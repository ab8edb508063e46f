/- The card of LamportChecks is proved: for every job, message and key the law returns true; the conditions are those of the given row. -/
import Derived.Test.YtdkjehagkmkokaaDoorLawKit48
import Derived.Test.YtdkjehagkmkokaaDoorWkAwake48
import Derived.Test.YtdkjehagkmkokaaDoorWkSignAll
import Derived.Test.YtdkjehagkmkokaaDoorWkCheckA
import Derived.Test.YtdkjehagkmkokaaDoorWkBend
namespace Go.Proofs.YtdkjehagkmkokaaDoor.lawChecks
open Go Go.RowKit Licit
open Go.ChangeShapes Go.WideShapes Go.ChangeAt

theorem job_cells {w : World} {r : Nat} {x0 x1 x2 x3 x4 x5 x6 : Value} {T : TypeId} (h : w.heap[r]? = some (.cells #[x0, x1, x2, x3, x4, x5, x6] T)) :
    w.cell? ⟨r, 0, none⟩ = some x0 ∧ w.cell? ⟨r, 1, none⟩ = some x1 ∧ w.cell? ⟨r, 2, none⟩ = some x2 ∧ w.cell? ⟨r, 3, none⟩ = some x3 ∧ w.cell? ⟨r, 4, none⟩ = some x4 ∧ w.cell? ⟨r, 5, none⟩ = some x5 ∧ w.cell? ⟨r, 6, none⟩ = some x6 := ⟨cell_of h 0, cell_of h 1, cell_of h 2, cell_of h 3, cell_of h 4, cell_of h 5, cell_of h 6⟩
def rootR (seed : Bs) (b h : Int) : Bs := if keyOk b h = true then rootB seed b.toNat h.toNat else []
def validR (b h : Int) : Int := if keyOk b h = true then 0 else 3
theorem rroot_both (seed : Bs) (b h : Int) (w : World) (hs : seed.length ≤ maxLen) :
    Gives 14 #[.string (B seed), .agg #[.int .i64 b, .int .i64 h]] w (.tuple #[.string (B (rootR seed b h)), .int .i64 (validR b h)]) := by
  unfold rootR validR
  cases hk : keyOk b h with
  | false => exact RRoot_no seed b h w hk
  | true =>
    have hk' : 8 ≤ b ∧ b ≤ 256 ∧ 0 ≤ h ∧ h ≤ 6 := by simpa [keyOk] using hk
    obtain ⟨b, rfl⟩ : ∃ n : Nat, b = (n : Int) := ⟨b.toNat, by omega⟩
    obtain ⟨h, rfl⟩ : ∃ n : Nat, h = (n : Int) := ⟨h.toNat, by omega⟩
    exact RRoot_any seed b h w hs hk
theorem shown32 (seed d : Bs) (i : Int) (n : Nat) : ∀ x ∈ shownN seed d i n, x.length = 32 := by
  intro x hx
  unfold shownN at hx
  obtain ⟨k, _, rfl⟩ := List.mem_map.1 hx
  exact secretB_len _ _ _ _

set_option maxHeartbeats 8000000 in
set_option maxRecDepth 100000 in
theorem walk (seed m other : Bs) (b h i kb kh : Int) (how at_ : Nat) (w : World) (hs : seed.length ≤ maxLen) (hhow : how < 256) (hat : at_ < 256) (ht : Tab w) :
    Calls Tryd.prog 4 #[jobV seed m b h i how at_, .string (B other), .agg #[.int .i64 kb, .int .i64 kh]] w fun e w' => e = .returned (.bool true) ∧ Below w.heap.size w w' := by
  have HL := Lib.hid (fun W => Light_any seed b h W)
  have HA := Lib.hid (fun W (hT : Tab W) => awake_any48 W hT)
  obtain ⟨l, hl⟩ : ∃ l, lightB seed b h = l := ⟨_, rfl⟩
  rw [hl] at HL
  have hmz : ((B m).size : Int) = (m.length : Int) := rfl
  have hoz : ((B other).size : Int) = (other.length : Int) := rfl
  clear hl
  go_enter Tryd.func4, Tryd.ntmps4
  go_wp2_with fail
  refine (HA.out _ (ht.same (((Below.refl _ _).alloc (Nat.le_refl _) _).alloc (by simp) _))).mono ?_
  rintro e w1 ⟨rfl, hb⟩
  have hk1 : w1.heap[w.heap.size]? = some (.cells #[.string (B seed), .string (B m), .int .i64 b, .int .i64 h, .int .i64 i, .int .u8 (how : Int), .int .u8 (at_ : Int)] 31) := (hb.block _ (by simp; omega)).trans (old_of (new_of _ _))
  have hq1 : w1.heap[w.heap.size + 1]? = some (.cells #[.int .i64 kb, .int .i64 kh] 23) := (hb.block _ (by simp)).trans (new_at (k := w.heap.size + 1) (by simp) rfl)
  have hb1 := (((Below.refl w.heap.size w).alloc (Nat.le_refl _) _).alloc (by simp) _).next hb
  have Hk1 := Lib.hid hk1
  have Hq1 := Lib.hid hq1
  have Hb1 := Lib.hid hb1
  obtain ⟨k0, k1, k2, k3, k4, k5, k6⟩ := job_cells hk1
  clear hb hb1 hk1 hq1
  go_wp2_with fail
  refine (HL.out _).mono ?_
  rintro e w2 ⟨rfl, hb⟩
  have hk2 := (hb.block _ (lt_of Hk1.out)).trans Hk1.out
  have Hk2 := Lib.hid hk2
  have Hq2 := Lib.hid ((hb.block _ (lt_of Hq1.out)).trans Hq1.out)
  have hb2 := Hb1.out.next hb
  have ht2 := ht.same hb2
  have Hb2 := Lib.hid hb2
  clear k0 k1 k2 k3 k4 k5 k6
  obtain ⟨k0, k1, k2, k3, k4, k5, k6⟩ := job_cells hk2
  clear hb hb2 hk2
  cases l with
  | false =>
    go_wp2_with fail
    refine (HA.out _ ht2).mono ?_
    rintro e w3 ⟨rfl, hb⟩
    have Hb3 := Lib.hid (Hb2.out.next hb)
    clear hb
    go_wp2
    go_ret
    exact ⟨rfl, Hb3.out⟩
  | true =>
    by_cases hm : 200 < m.length
    · have d1 : decide (200 < (m.length : Int)) = true := by simp; omega
      go_wp2_with fail
      refine (HA.out _ ht2).mono ?_
      rintro e w3 ⟨rfl, hb⟩
      have Hb3 := Lib.hid (Hb2.out.next hb)
      clear hb
      go_wp2
      go_ret
      exact ⟨rfl, Hb3.out⟩
    have d1 : decide (200 < (m.length : Int)) = false := by simp; omega
    by_cases hm' : 200 < other.length
    · have d1 : decide (200 < (other.length : Int)) = true := by simp; omega
      go_wp2_with fail
      refine (HA.out _ ht2).mono ?_
      rintro e w3 ⟨rfl, hb⟩
      have Hb3 := Lib.hid (Hb2.out.next hb)
      clear hb
      go_wp2
      go_ret
      exact ⟨rfl, Hb3.out⟩
    have d2 : decide (200 < (other.length : Int)) = false := by simp; omega
    have HSg := Lib.hid (fun W => rsign_both seed m b h i W hs (by omega))
    have HRt := Lib.hid (fun W => rroot_both seed b h W hs)
    obtain ⟨RR0, hRR0⟩ : ∃ x, rootR seed b h = x := ⟨_, rfl⟩
    obtain ⟨EV, hEV⟩ : ∃ x, validR b h = x := ⟨_, rfl⟩
    obtain ⟨EE, hEE⟩ : ∃ x, signE b h i = x := ⟨_, rfl⟩
    obtain ⟨I, hI⟩ : ∃ x, sigI b h i = x := ⟨_, rfl⟩
    obtain ⟨SS, hSS⟩ : ∃ x, sigS seed m b h i = x := ⟨_, rfl⟩
    obtain ⟨HH, hHH⟩ : ∃ x, sigH seed m b h i = x := ⟨_, rfl⟩
    obtain ⟨RR, hRR⟩ : ∃ x, sigR seed b h i = x := ⟨_, rfl⟩
    rw [hEE, hI, hSS, hHH, hRR] at HSg
    rw [hRR0, hEV] at HRt
    have hcase : EE ≠ 0 ∨ (EE = 0 ∧ EV = 0 ∧ ∃ i0 n : Nat, I = (i0 : Int) ∧ i0 < 64 ∧ 8 ≤ n ∧ n ≤ 256 ∧ SS.length = n ∧ HH.length = n ∧ RR.length ≤ 6 ∧ ∀ x ∈ SS, x.length = 32) := by
      rw [← hEE, ← hEV, ← hI, ← hSS, ← hHH, ← hRR]
      unfold signE sigI sigS sigH sigR
      cases hok : signOk b h i with
      | false => exact .inl (by decide)
      | true =>
        refine .inr ?_
        unfold signOk at hok
        simp only [Bool.and_eq_true, decide_eq_true_eq] at hok
        obtain ⟨⟨hk, h0⟩, h1⟩ := hok
        have hk' : 8 ≤ b ∧ b ≤ 256 ∧ 0 ≤ h ∧ h ≤ 6 := by simpa [keyOk] using hk
        have h2 : 2 ^ h.toNat ≤ 2 ^ 6 := Nat.pow_le_pow_right (by decide) (by omega)
        refine ⟨rfl, by unfold validR; rw [if_pos hk], i.toNat, b.toNat, by simp; omega, by omega, by omega, by omega, ?_, ?_, ?_, ?_⟩
        · simp [shownN_len]
        · simp [hiddenN_len]
        · simp [routeN_len]; omega
        · simp only [if_true]; exact shown32 _ _ _ _
    clear hRR0 hEV hEE hI hSS hHH hRR
    go_wp2_with fail
    refine (HSg.out _).mono ?_
    rintro e w3 ⟨v, rfl, hv, hb⟩
    have Hk3 := Lib.hid ((hb.block _ (lt_of Hk2.out)).trans Hk2.out)
    have Hq3 := Lib.hid ((hb.block _ (lt_of Hq2.out)).trans Hq2.out)
    have Hb3 := Lib.hid (Hb2.out.next hb)
    have ht3 := ht2.same hb
    have HV3 := Lib.hid hv
    obtain ⟨vs, vh, vr, rfl, o1, o2, o3⟩ := hv
    obtain ⟨sa, sc, rfl⟩ := o1.formMap
    obtain ⟨ha, hc, rfl⟩ := o2.formMap
    obtain ⟨ra, rc, rfl⟩ := o3.formMap
    clear hb o1 o2 o3 k0 k1 k2 k3 k4 k5 k6
    obtain ⟨k0, k1, k2, k3, k4, k5, k6⟩ := job_cells Hk3.out
    have hwz3 : w.heap.size < w3.heap.size := lt_of Hk3.out
    go_wp2_with fail
    refine (HRt.out _).mono ?_
    rintro e w4 ⟨rfl, hb⟩
    have hbA : Below w3.heap.size w3 w4 := ((Below.refl _ _).alloc (Nat.le_refl _) _).next hb
    have Hk4 := Lib.hid ((hbA.block _ (lt_of Hk3.out)).trans Hk3.out)
    have Hq4 := Lib.hid ((hbA.block _ (lt_of Hq3.out)).trans Hq3.out)
    have Hb4 := Lib.hid (Hb3.out.next hbA)
    have ht4 := ht3.same hbA
    have HV4 := Lib.hid (HV3.out.below hbA)
    have HX4 := Lib.hid ((hb.block w3.heap.size (by simp)).trans (new_of w3 (.cells #[.int .i64 I, .slice sa SS.length sc, .slice ha HH.length hc, .slice ra RR.length rc] 34)))
    clear hb hbA k0 k1 k2 k3 k4 k5 k6
    rcases hcase with hne | ⟨rfl, rfl, i0, n, rfl, hi0, hn8, hn, hSl, hHl, hRl, h32⟩
    · go_wp2
      go_ret
      exact ⟨rfl, Hb4.out⟩
    obtain ⟨k0, k1, k2, k3, k4, k5, k6⟩ := job_cells Hk4.out
    obtain ⟨x0, x1, x2, x3⟩ := sigC HX4.out
    have hwz4 : w3.heap.size < w4.heap.size := lt_of HX4.out
    have hmod : (how : Int).tmod 12 = ((how % 12 : Nat) : Int) := by rw [Int.tmod_eq_emod_of_nonneg (by omega)]; simp
    have hmod2 : (how : Int) % 12 = ((how % 12 : Nat) : Int) := by simp
    obtain ⟨hw12, hhw⟩ : ∃ q, how % 12 = q := ⟨_, rfl⟩
    have hwl : hw12 < 12 := by omega
    rw [hhw] at hmod hmod2
    have hv4 := HV4.out
    rw [hSl, hHl] at hv4
    have HBd := Lib.hid (Bend_any _ i0 n hw12 at_ SS HH RR w4 hv4 hSl hHl hn8 hn hRl hi0 hwl hat h32)
    clear hv4
    clear hhw
    go_wp2_with fail
    refine HBd.out.mono ?_
    rintro e w5 ⟨v', i', S', H', R', rfl, hv', hb⟩
    have Hk5 := Lib.hid ((hb.block _ (lt_of Hk4.out)).trans Hk4.out)
    have Hq5 := Lib.hid ((hb.block _ (lt_of Hq4.out)).trans Hq4.out)
    have Hb5 := Lib.hid (Hb4.out.next hb)
    have HV5 := Lib.hid hv'
    obtain ⟨vs', vh', vr', rfl, o1, o2, o3⟩ := hv'
    obtain ⟨sa', sc', rfl⟩ := o1.formMap
    obtain ⟨ha', hc', rfl⟩ := o2.formMap
    obtain ⟨ra', rc', rfl⟩ := o3.formMap
    clear hb o1 o2 o3 k0 k1 k2 k3 k4 k5 k6 x0 x1 x2 x3 hmod hmod2 h32
    obtain ⟨k0, k1, k2, k3, k4, k5, k6⟩ := job_cells Hk5.out
    have hwz5 : w.heap.size < w5.heap.size := lt_of Hk5.out
    by_cases hbig : 240 ≤ how
    · have d3 : decide ((240 : Int) ≤ (how : Int)) = true := by simp; omega
      go_wp2
      have HC1 := Lib.hid (fun W (hT : Tab W) (hs : SigIs _ i' S' H' R' W) => Check_any m m b h (.agg #[.int .i64 i', .slice sa' S'.length sc', .slice ha' H'.length hc', .slice ra' R'.length rc']) i' S' H' R' W (by omega) hs hT)
      have HR1 := Lib.hid (fun W (hs : SigIs _ i' S' H' R' W) => RCheck_any m m b h (.agg #[.int .i64 i', .slice sa' S'.length sc', .slice ha' H'.length hc', .slice ra' R'.length rc']) i' S' H' R' W (by omega) hs)
      have HC2 := Lib.hid (fun W (hT : Tab W) (hs : SigIs _ i' S' H' R' W) => Check_any m other b h (.agg #[.int .i64 i', .slice sa' S'.length sc', .slice ha' H'.length hc', .slice ra' R'.length rc']) i' S' H' R' W (by omega) hs hT)
      have HR2 := Lib.hid (fun W (hs : SigIs _ i' S' H' R' W) => RCheck_any m other b h (.agg #[.int .i64 i', .slice sa' S'.length sc', .slice ha' H'.length hc', .slice ra' R'.length rc']) i' S' H' R' W (by omega) hs)
      have HC3 := Lib.hid (fun W (hT : Tab W) (hs : SigIs _ i' S' H' R' W) => Check_any m m kb kh (.agg #[.int .i64 i', .slice sa' S'.length sc', .slice ha' H'.length hc', .slice ra' R'.length rc']) i' S' H' R' W (by omega) hs hT)
      have HR3 := Lib.hid (fun W (hs : SigIs _ i' S' H' R' W) => RCheck_any m m kb kh (.agg #[.int .i64 i', .slice sa' S'.length sc', .slice ha' H'.length hc', .slice ra' R'.length rc']) i' S' H' R' W (by omega) hs)
      obtain ⟨C1, e1⟩ : ∃ x, checkB m b h m i' S' H' R' = x := ⟨_, rfl⟩
      obtain ⟨C2, e2⟩ : ∃ x, checkB m b h other i' S' H' R' = x := ⟨_, rfl⟩
      obtain ⟨C3, e3⟩ : ∃ x, checkB m kb kh m i' S' H' R' = x := ⟨_, rfl⟩
      rw [e1] at HC1 HR1
      rw [e2] at HC2 HR2
      rw [e3] at HC3 HR3
      clear e1 e2 e3
      obtain ⟨W, hW⟩ : ∃ W, w5.alloc (.cells #[.int .i64 i', .slice sa' S'.length sc', .slice ha' H'.length hc', .slice ra' R'.length rc'] 34) = W := ⟨_, rfl⟩
      obtain ⟨X, hX⟩ : ∃ X, w5.heap.size = X := ⟨_, rfl⟩
      have Hk6 := Lib.hid (show W.heap[w.heap.size]? = some (.cells #[.string (B seed), .string (B m), .int .i64 b, .int .i64 h, .int .i64 i, .int .u8 (how : Int), .int .u8 (at_ : Int)] 31) by rw [← hW]; exact old_of Hk5.out)
      have Hq6 := Lib.hid (show W.heap[w.heap.size + 1]? = some (.cells #[.int .i64 kb, .int .i64 kh] 23) by rw [← hW]; exact old_of Hq5.out)
      have HX6 := Lib.hid (show W.heap[X]? = some (.cells #[.int .i64 i', .slice sa' S'.length sc', .slice ha' H'.length hc', .slice ra' R'.length rc'] 34) by rw [← hW, ← hX]; exact new_of _ _)
      have HV6 := Lib.hid (show SigIs (.agg #[.int .i64 i', .slice sa' S'.length sc', .slice ha' H'.length hc', .slice ra' R'.length rc']) i' S' H' R' W by rw [← hW]; exact HV5.out.below ((Below.refl _ _).alloc (Nat.le_refl _) _))
      have Hb6 := Lib.hid (show Below w.heap.size w W by rw [← hW]; exact Hb5.out.alloc Hb5.out.size _)
      rw [hW, hX]
      clear hW hX k0 k1 k2 k3 k4 k5 k6
      refine wp_region_held_drew (S := (fun W : World => (W.cell? ⟨w.heap.size, 0, none⟩ = some (.string (B seed)) ∧ W.cell? ⟨w.heap.size, 1, none⟩ = some (.string (B m)) ∧ W.cell? ⟨w.heap.size, 2, none⟩ = some (.int .i64 b) ∧ W.cell? ⟨w.heap.size, 3, none⟩ = some (.int .i64 h) ∧ W.cell? ⟨w.heap.size, 4, none⟩ = some (.int .i64 i) ∧ W.cell? ⟨w.heap.size, 5, none⟩ = some (.int .u8 (how : Int)) ∧ W.cell? ⟨w.heap.size, 6, none⟩ = some (.int .u8 (at_ : Int))) ∧ (W.cell? ⟨w.heap.size + 1, 0, none⟩ = some (.int .i64 kb) ∧ W.cell? ⟨w.heap.size + 1, 1, none⟩ = some (.int .i64 kh)) ∧ W.cell? ⟨X, 0, none⟩ = some (.int .i64 i') ∧ W.cell? ⟨X, 1, none⟩ = some (.slice sa' S'.length sc') ∧ W.cell? ⟨X, 2, none⟩ = some (.slice ha' H'.length hc') ∧ W.cell? ⟨X, 3, none⟩ = some (.slice ra' R'.length rc'))) (by kernel_rfl) ⟨job_cells (w := W) Hk6.out, ⟨cell_of (w := W) Hq6.out 0, cell_of (w := W) Hq6.out 1⟩, sigC (w := W) HX6.out⟩ (fun hHeld => ?_)
      refine take_at 0 74 (oi := ?o1) (v := ?v1) ?hi1 ?hd1 (by kernel_rfl) (by kernel_rfl) (by kernel_rfl) ?hQ1 ?hw1 ?hy1 (by assumption) ?rest1
      case hi1 => simp only [List.getElem?_toArray, List.getElem?_cons_zero]; rfl
      case hd1 => rfl
      case hw1 => kernel_rfl
      case hy1 => intro W hW; (try dsimp only at hW); go_simp <;> with_reducible rfl
      case hQ1 => exact fun _ _ _ h => h
      try simp only [Act.put, List.setIfInBounds_toArray, List.set_cons_zero, List.set_cons_succ]
      refine take_at 1 75 (oi := ?o2) (v := ?v2) ?hi2 ?hd2 (by kernel_rfl) (by kernel_rfl) (by kernel_rfl) ?hQ2 ?hw2 ?hy2 (by assumption) ?rest2
      case hi2 => simp only [List.getElem?_toArray, List.getElem?_cons_succ, List.getElem?_cons_zero]; rfl
      case hd2 => rfl
      case hw2 => kernel_rfl
      case hy2 => intro W hW; (try dsimp only at hW); go_simp <;> with_reducible rfl
      case hQ2 => exact fun _ _ _ h => h
      try simp only [Act.put, List.setIfInBounds_toArray, List.set_cons_zero, List.set_cons_succ]
      refine take_at 2 76 (oi := ?o3) (v := ?v3) ?hi3 ?hd3 (by kernel_rfl) (by kernel_rfl) (by kernel_rfl) ?hQ3 ?hw3 ?hy3 (by assumption) ?rest3
      case hi3 => simp only [List.getElem?_toArray, List.getElem?_cons_succ, List.getElem?_cons_zero]; rfl
      case hd3 => rfl
      case hw3 => kernel_rfl
      case hy3 => intro W hW; (try dsimp only at hW); go_simp <;> with_reducible rfl
      case hQ3 => exact fun _ _ _ h => h
      try simp only [Act.put, List.setIfInBounds_toArray, List.set_cons_zero, List.set_cons_succ]
      refine take_at 3 77 (oi := ?o4) (v := ?v4) ?hi4 ?hd4 (by kernel_rfl) (by kernel_rfl) (by kernel_rfl) ?hQ4 ?hw4 ?hy4 (by assumption) ?rest4
      case hi4 => simp only [List.getElem?_toArray, List.getElem?_cons_succ, List.getElem?_cons_zero]; rfl
      case hd4 => rfl
      case hw4 => kernel_rfl
      case hy4 => intro W hW; (try dsimp only at hW); go_simp <;> with_reducible rfl
      case hQ4 => exact fun _ _ _ h => h
      try simp only [Act.put, List.setIfInBounds_toArray, List.set_cons_zero, List.set_cons_succ]
      refine take_at 4 78 (oi := ?o5) (v := ?v5) ?hi5 ?hd5 (by kernel_rfl) (by kernel_rfl) (by kernel_rfl) ?hQ5 ?hw5 ?hy5 (by assumption) ?rest5
      case hi5 => simp only [List.getElem?_toArray, List.getElem?_cons_succ, List.getElem?_cons_zero]; rfl
      case hd5 => rfl
      case hw5 => kernel_rfl
      case hy5 => intro W hW; (try dsimp only at hW); go_simp <;> with_reducible rfl
      case hQ5 => exact fun _ _ _ h => h
      try simp only [Act.put, List.setIfInBounds_toArray, List.set_cons_zero, List.set_cons_succ]
      refine take_at 5 79 (oi := ?o6) (v := ?v6) ?hi6 ?hd6 (by kernel_rfl) (by kernel_rfl) (by kernel_rfl) ?hQ6 ?hw6 ?hy6 (by assumption) ?rest6
      case hi6 => simp only [List.getElem?_toArray, List.getElem?_cons_succ, List.getElem?_cons_zero]; rfl
      case hd6 => rfl
      case hw6 => kernel_rfl
      case hy6 => intro W hW; (try dsimp only at hW); go_simp <;> with_reducible rfl
      case hQ6 => exact fun _ _ _ h => h
      try simp only [Act.put, List.setIfInBounds_toArray, List.set_cons_zero, List.set_cons_succ]
      refine take_at 7 81 (oi := ?o7) (v := ?v7) ?hi7 ?hd7 (by kernel_rfl) (by kernel_rfl) (by kernel_rfl) ?hQ7 ?hw7 ?hy7 (by assumption) ?rest7
      case hi7 => simp only [List.getElem?_toArray, List.getElem?_cons_succ, List.getElem?_cons_zero]; rfl
      case hd7 => rfl
      case hw7 => kernel_rfl
      case hy7 => intro W hW; (try dsimp only at hW); go_simp <;> with_reducible rfl
      case hQ7 => exact fun _ _ _ h => h
      try simp only [Act.put, List.setIfInBounds_toArray, List.set_cons_zero, List.set_cons_succ]
      refine take_at 8 82 (oi := ?o8) (v := ?v8) ?hi8 ?hd8 (by kernel_rfl) (by kernel_rfl) (by kernel_rfl) ?hQ8 ?hw8 ?hy8 (by assumption) ?rest8
      case hi8 => simp only [List.getElem?_toArray, List.getElem?_cons_succ, List.getElem?_cons_zero]; rfl
      case hd8 => rfl
      case hw8 => kernel_rfl
      case hy8 => intro W hW; (try dsimp only at hW); go_simp <;> with_reducible rfl
      case hQ8 => exact fun _ _ _ h => h
      try simp only [Act.put, List.setIfInBounds_toArray, List.set_cons_zero, List.set_cons_succ]
      refine take_at 9 83 (oi := ?o9) (v := ?v9) ?hi9 ?hd9 (by kernel_rfl) (by kernel_rfl) (by kernel_rfl) ?hQ9 ?hw9 ?hy9 (by assumption) ?rest9
      case hi9 => simp only [List.getElem?_toArray, List.getElem?_cons_succ, List.getElem?_cons_zero]; rfl
      case hd9 => rfl
      case hw9 => kernel_rfl
      case hy9 => intro W hW; (try dsimp only at hW); go_simp <;> with_reducible rfl
      case hQ9 => exact fun _ _ _ h => h
      try simp only [Act.put, List.setIfInBounds_toArray, List.set_cons_zero, List.set_cons_succ]
      refine take_at 10 84 (oi := ?o10) (v := ?v10) ?hi10 ?hd10 (by kernel_rfl) (by kernel_rfl) (by kernel_rfl) ?hQ10 ?hw10 ?hy10 (by assumption) ?rest10
      case hi10 => simp only [List.getElem?_toArray, List.getElem?_cons_succ, List.getElem?_cons_zero]; rfl
      case hd10 => rfl
      case hw10 => kernel_rfl
      case hy10 => intro W hW; (try dsimp only at hW); go_simp <;> with_reducible rfl
      case hQ10 => exact fun _ _ _ h => h
      try simp only [Act.put, List.setIfInBounds_toArray, List.set_cons_zero, List.set_cons_succ]
      refine take_at 11 85 (oi := ?o11) (v := ?v11) ?hi11 ?hd11 (by kernel_rfl) (by kernel_rfl) (by kernel_rfl) ?hQ11 ?hw11 ?hy11 (by assumption) ?rest11
      case hi11 => simp only [List.getElem?_toArray, List.getElem?_cons_succ, List.getElem?_cons_zero]; rfl
      case hd11 => rfl
      case hw11 => kernel_rfl
      case hy11 => intro W hW; (try dsimp only at hW); go_simp <;> with_reducible rfl
      case hQ11 => exact fun _ _ _ h => h
      try simp only [Act.put, List.setIfInBounds_toArray, List.set_cons_zero, List.set_cons_succ]
      refine take_at 12 86 (oi := ?o12) (v := ?v12) ?hi12 ?hd12 (by kernel_rfl) (by kernel_rfl) (by kernel_rfl) ?hQ12 ?hw12 ?hy12 (by assumption) ?rest12
      case hi12 => simp only [List.getElem?_toArray, List.getElem?_cons_succ, List.getElem?_cons_zero]; rfl
      case hd12 => rfl
      case hw12 => kernel_rfl
      case hy12 => intro W hW; (try dsimp only at hW); go_simp <;> with_reducible rfl
      case hQ12 => exact fun _ _ _ h => h
      try simp only [Act.put, List.setIfInBounds_toArray, List.set_cons_zero, List.set_cons_succ]
      refine wpAnyH_ready (rs := [6]) (by kernel_rfl) (by simp) ?_
      refine AllReadyH.cons rfl (fun K hK => ?_) AllReadyH.nil
      go_simp
      refine (HC1.out _ (ht.same (dr Hb6.out)) (HV6.out.below (dr (Below.refl _ _)))).mono ?_
      rintro e w7 ⟨rfl, hb'⟩
      have hb : Below W.heap.size W w7 := ⟨hb'.os, hb'.tape, hb'.output, hb'.size, hb'.block⟩
      have Hk7 := Lib.hid ((hb.block _ (lt_of Hk6.out)).trans Hk6.out)
      have Hq7 := Lib.hid ((hb.block _ (lt_of Hq6.out)).trans Hq6.out)
      have HX7 := Lib.hid ((hb.block _ (lt_of HX6.out)).trans HX6.out)
      have HV7 := Lib.hid (HV6.out.below hb)
      have Hb7 := Lib.hid (Hb6.out.next hb)
      clear hb hb' hHeld
      go_wp2_with fail
      refine hK.out _ _ ⟨job_cells (w := w7) Hk7.out, ⟨cell_of (w := w7) Hq7.out 0, cell_of (w := w7) Hq7.out 1⟩, sigC (w := w7) HX7.out⟩ (fun hHeld => ?_)
      clear hK K
      try simp only [Act.put, List.setIfInBounds_toArray, List.set_cons_zero, List.set_cons_succ]
      refine wpAnyH_ready (rs := [13]) (by kernel_rfl) (by simp) ?_
      refine AllReadyH.cons rfl (fun K hK => ?_) AllReadyH.nil
      go_simp
      refine (HR1.out _ (HV7.out)).mono ?_
      rintro e w8 ⟨rfl, hb'⟩
      have hb : Below w7.heap.size w7 w8 := ⟨hb'.os, hb'.tape, hb'.output, hb'.size, hb'.block⟩
      have Hk8 := Lib.hid ((hb.block _ (lt_of Hk7.out)).trans Hk7.out)
      have Hq8 := Lib.hid ((hb.block _ (lt_of Hq7.out)).trans Hq7.out)
      have HX8 := Lib.hid ((hb.block _ (lt_of HX7.out)).trans HX7.out)
      have HV8 := Lib.hid (HV7.out.below hb)
      have Hb8 := Lib.hid (Hb7.out.next hb)
      clear hb hb' hHeld
      go_wp2_with fail
      refine hK.out _ _ ⟨job_cells (w := w8) Hk8.out, ⟨cell_of (w := w8) Hq8.out 0, cell_of (w := w8) Hq8.out 1⟩, sigC (w := w8) HX8.out⟩ (fun hHeld => ?_)
      clear hK K
      try simp only [Act.put, List.setIfInBounds_toArray, List.set_cons_zero, List.set_cons_succ]
      refine take_at 14 88 (oi := ?o13) (v := ?v13) ?hi13 ?hd13 (by kernel_rfl) (by kernel_rfl) (by kernel_rfl) ?hQ13 ?hw13 ?hy13 (by assumption) ?rest13
      case hi13 => simp only [List.getElem?_toArray, List.getElem?_cons_succ, List.getElem?_cons_zero]; rfl
      case hd13 => rfl
      case hw13 => kernel_rfl
      case hy13 => intro W hW; (try dsimp only at hW); go_simp <;> with_reducible rfl
      case hQ13 => exact fun _ _ _ h => h
      try simp only [Act.put, List.setIfInBounds_toArray, List.set_cons_zero, List.set_cons_succ]
      refine take_at 15 89 (oi := ?o14) (v := ?v14) ?hi14 ?hd14 (by kernel_rfl) (by kernel_rfl) (by kernel_rfl) ?hQ14 ?hw14 ?hy14 (by assumption) ?rest14
      case hi14 => simp only [List.getElem?_toArray, List.getElem?_cons_succ, List.getElem?_cons_zero]; rfl
      case hd14 => rfl
      case hw14 => kernel_rfl
      case hy14 => intro W hW; (try dsimp only at hW); go_simp <;> with_reducible rfl
      case hQ14 => exact fun _ _ _ h => h
      try simp only [Act.put, List.setIfInBounds_toArray, List.set_cons_zero, List.set_cons_succ]
      refine take_at 16 90 (oi := ?o15) (v := ?v15) ?hi15 ?hd15 (by kernel_rfl) (by kernel_rfl) (by kernel_rfl) ?hQ15 ?hw15 ?hy15 (by assumption) ?rest15
      case hi15 => simp only [List.getElem?_toArray, List.getElem?_cons_succ, List.getElem?_cons_zero]; rfl
      case hd15 => rfl
      case hw15 => kernel_rfl
      case hy15 => intro W hW; (try dsimp only at hW); go_simp <;> with_reducible rfl
      case hQ15 => exact fun _ _ _ h => h
      try simp only [Act.put, List.setIfInBounds_toArray, List.set_cons_zero, List.set_cons_succ]
      refine take_at 17 91 (oi := ?o16) (v := ?v16) ?hi16 ?hd16 (by kernel_rfl) (by kernel_rfl) (by kernel_rfl) ?hQ16 ?hw16 ?hy16 (by assumption) ?rest16
      case hi16 => simp only [List.getElem?_toArray, List.getElem?_cons_succ, List.getElem?_cons_zero]; rfl
      case hd16 => rfl
      case hw16 => kernel_rfl
      case hy16 => intro W hW; (try dsimp only at hW); go_simp <;> with_reducible rfl
      case hQ16 => exact fun _ _ _ h => h
      try simp only [Act.put, List.setIfInBounds_toArray, List.set_cons_zero, List.set_cons_succ]
      refine take_at 18 92 (oi := ?o17) (v := ?v17) ?hi17 ?hd17 (by kernel_rfl) (by kernel_rfl) (by kernel_rfl) ?hQ17 ?hw17 ?hy17 (by assumption) ?rest17
      case hi17 => simp only [List.getElem?_toArray, List.getElem?_cons_succ, List.getElem?_cons_zero]; rfl
      case hd17 => rfl
      case hw17 => kernel_rfl
      case hy17 => intro W hW; (try dsimp only at hW); go_simp <;> with_reducible rfl
      case hQ17 => exact fun _ _ _ h => h
      try simp only [Act.put, List.setIfInBounds_toArray, List.set_cons_zero, List.set_cons_succ]
      refine take_at 19 93 (oi := ?o18) (v := ?v18) ?hi18 ?hd18 (by kernel_rfl) (by kernel_rfl) (by kernel_rfl) ?hQ18 ?hw18 ?hy18 (by assumption) ?rest18
      case hi18 => simp only [List.getElem?_toArray, List.getElem?_cons_succ, List.getElem?_cons_zero]; rfl
      case hd18 => rfl
      case hw18 => kernel_rfl
      case hy18 => intro W hW; (try dsimp only at hW); go_simp <;> with_reducible rfl
      case hQ18 => exact fun _ _ _ h => h
      try simp only [Act.put, List.setIfInBounds_toArray, List.set_cons_zero, List.set_cons_succ]
      refine take_at 20 94 (oi := ?o19) (v := ?v19) ?hi19 ?hd19 (by kernel_rfl) (by kernel_rfl) (by kernel_rfl) ?hQ19 ?hw19 ?hy19 (by assumption) ?rest19
      case hi19 => simp only [List.getElem?_toArray, List.getElem?_cons_succ, List.getElem?_cons_zero]; rfl
      case hd19 => rfl
      case hw19 => kernel_rfl
      case hy19 => intro W hW; (try dsimp only at hW); go_simp <;> with_reducible rfl
      case hQ19 => exact fun _ _ _ h => h
      try simp only [Act.put, List.setIfInBounds_toArray, List.set_cons_zero, List.set_cons_succ]
      refine take_at 22 96 (oi := ?o20) (v := ?v20) ?hi20 ?hd20 (by kernel_rfl) (by kernel_rfl) (by kernel_rfl) ?hQ20 ?hw20 ?hy20 (by assumption) ?rest20
      case hi20 => simp only [List.getElem?_toArray, List.getElem?_cons_succ, List.getElem?_cons_zero]; rfl
      case hd20 => rfl
      case hw20 => kernel_rfl
      case hy20 => intro W hW; (try dsimp only at hW); go_simp <;> with_reducible rfl
      case hQ20 => exact fun _ _ _ h => h
      try simp only [Act.put, List.setIfInBounds_toArray, List.set_cons_zero, List.set_cons_succ]
      refine take_at 23 97 (oi := ?o21) (v := ?v21) ?hi21 ?hd21 (by kernel_rfl) (by kernel_rfl) (by kernel_rfl) ?hQ21 ?hw21 ?hy21 (by assumption) ?rest21
      case hi21 => simp only [List.getElem?_toArray, List.getElem?_cons_succ, List.getElem?_cons_zero]; rfl
      case hd21 => rfl
      case hw21 => kernel_rfl
      case hy21 => intro W hW; (try dsimp only at hW); go_simp <;> with_reducible rfl
      case hQ21 => exact fun _ _ _ h => h
      try simp only [Act.put, List.setIfInBounds_toArray, List.set_cons_zero, List.set_cons_succ]
      refine take_at 24 98 (oi := ?o22) (v := ?v22) ?hi22 ?hd22 (by kernel_rfl) (by kernel_rfl) (by kernel_rfl) ?hQ22 ?hw22 ?hy22 (by assumption) ?rest22
      case hi22 => simp only [List.getElem?_toArray, List.getElem?_cons_succ, List.getElem?_cons_zero]; rfl
      case hd22 => rfl
      case hw22 => kernel_rfl
      case hy22 => intro W hW; (try dsimp only at hW); go_simp <;> with_reducible rfl
      case hQ22 => exact fun _ _ _ h => h
      try simp only [Act.put, List.setIfInBounds_toArray, List.set_cons_zero, List.set_cons_succ]
      refine take_at 25 99 (oi := ?o23) (v := ?v23) ?hi23 ?hd23 (by kernel_rfl) (by kernel_rfl) (by kernel_rfl) ?hQ23 ?hw23 ?hy23 (by assumption) ?rest23
      case hi23 => simp only [List.getElem?_toArray, List.getElem?_cons_succ, List.getElem?_cons_zero]; rfl
      case hd23 => rfl
      case hw23 => kernel_rfl
      case hy23 => intro W hW; (try dsimp only at hW); go_simp <;> with_reducible rfl
      case hQ23 => exact fun _ _ _ h => h
      try simp only [Act.put, List.setIfInBounds_toArray, List.set_cons_zero, List.set_cons_succ]
      refine take_at 26 100 (oi := ?o24) (v := ?v24) ?hi24 ?hd24 (by kernel_rfl) (by kernel_rfl) (by kernel_rfl) ?hQ24 ?hw24 ?hy24 (by assumption) ?rest24
      case hi24 => simp only [List.getElem?_toArray, List.getElem?_cons_succ, List.getElem?_cons_zero]; rfl
      case hd24 => rfl
      case hw24 => kernel_rfl
      case hy24 => intro W hW; (try dsimp only at hW); go_simp <;> with_reducible rfl
      case hQ24 => exact fun _ _ _ h => h
      try simp only [Act.put, List.setIfInBounds_toArray, List.set_cons_zero, List.set_cons_succ]
      refine wpAnyH_ready (rs := [21]) (by kernel_rfl) (by simp) ?_
      refine AllReadyH.cons rfl (fun K hK => ?_) AllReadyH.nil
      go_simp
      refine (HC2.out _ (ht.same (Hb8.out)) (HV8.out)).mono ?_
      rintro e w9 ⟨rfl, hb'⟩
      have hb : Below w8.heap.size w8 w9 := ⟨hb'.os, hb'.tape, hb'.output, hb'.size, hb'.block⟩
      have Hk9 := Lib.hid ((hb.block _ (lt_of Hk8.out)).trans Hk8.out)
      have Hq9 := Lib.hid ((hb.block _ (lt_of Hq8.out)).trans Hq8.out)
      have HX9 := Lib.hid ((hb.block _ (lt_of HX8.out)).trans HX8.out)
      have HV9 := Lib.hid (HV8.out.below hb)
      have Hb9 := Lib.hid (Hb8.out.next hb)
      clear hb hb' hHeld
      go_wp2_with fail
      refine hK.out _ _ ⟨job_cells (w := w9) Hk9.out, ⟨cell_of (w := w9) Hq9.out 0, cell_of (w := w9) Hq9.out 1⟩, sigC (w := w9) HX9.out⟩ (fun hHeld => ?_)
      clear hK K
      try simp only [Act.put, List.setIfInBounds_toArray, List.set_cons_zero, List.set_cons_succ]
      refine wpAnyH_ready (rs := [27]) (by kernel_rfl) (by simp) ?_
      refine AllReadyH.cons rfl (fun K hK => ?_) AllReadyH.nil
      go_simp
      refine (HR2.out _ (HV9.out)).mono ?_
      rintro e w10 ⟨rfl, hb'⟩
      have hb : Below w9.heap.size w9 w10 := ⟨hb'.os, hb'.tape, hb'.output, hb'.size, hb'.block⟩
      have Hk10 := Lib.hid ((hb.block _ (lt_of Hk9.out)).trans Hk9.out)
      have Hq10 := Lib.hid ((hb.block _ (lt_of Hq9.out)).trans Hq9.out)
      have HX10 := Lib.hid ((hb.block _ (lt_of HX9.out)).trans HX9.out)
      have HV10 := Lib.hid (HV9.out.below hb)
      have Hb10 := Lib.hid (Hb9.out.next hb)
      clear hb hb' hHeld
      go_wp2_with fail
      refine hK.out _ _ ⟨job_cells (w := w10) Hk10.out, ⟨cell_of (w := w10) Hq10.out 0, cell_of (w := w10) Hq10.out 1⟩, sigC (w := w10) HX10.out⟩ (fun hHeld => ?_)
      clear hK K
      try simp only [Act.put, List.setIfInBounds_toArray, List.set_cons_zero, List.set_cons_succ]
      refine take_at 28 102 (oi := ?o25) (v := ?v25) ?hi25 ?hd25 (by kernel_rfl) (by kernel_rfl) (by kernel_rfl) ?hQ25 ?hw25 ?hy25 (by assumption) ?rest25
      case hi25 => simp only [List.getElem?_toArray, List.getElem?_cons_succ, List.getElem?_cons_zero]; rfl
      case hd25 => rfl
      case hw25 => kernel_rfl
      case hy25 => intro W hW; (try dsimp only at hW); go_simp <;> with_reducible rfl
      case hQ25 => exact fun _ _ _ h => h
      try simp only [Act.put, List.setIfInBounds_toArray, List.set_cons_zero, List.set_cons_succ]
      refine take_at 29 103 (oi := ?o26) (v := ?v26) ?hi26 ?hd26 (by kernel_rfl) (by kernel_rfl) (by kernel_rfl) ?hQ26 ?hw26 ?hy26 (by assumption) ?rest26
      case hi26 => simp only [List.getElem?_toArray, List.getElem?_cons_succ, List.getElem?_cons_zero]; rfl
      case hd26 => rfl
      case hw26 => kernel_rfl
      case hy26 => intro W hW; (try dsimp only at hW); go_simp <;> with_reducible rfl
      case hQ26 => exact fun _ _ _ h => h
      try simp only [Act.put, List.setIfInBounds_toArray, List.set_cons_zero, List.set_cons_succ]
      refine take_at 30 104 (oi := ?o27) (v := ?v27) ?hi27 ?hd27 (by kernel_rfl) (by kernel_rfl) (by kernel_rfl) ?hQ27 ?hw27 ?hy27 (by assumption) ?rest27
      case hi27 => simp only [List.getElem?_toArray, List.getElem?_cons_succ, List.getElem?_cons_zero]; rfl
      case hd27 => rfl
      case hw27 => kernel_rfl
      case hy27 => intro W hW; (try dsimp only at hW); go_simp <;> with_reducible rfl
      case hQ27 => exact fun _ _ _ h => h
      try simp only [Act.put, List.setIfInBounds_toArray, List.set_cons_zero, List.set_cons_succ]
      refine take_at 31 105 (oi := ?o28) (v := ?v28) ?hi28 ?hd28 (by kernel_rfl) (by kernel_rfl) (by kernel_rfl) ?hQ28 ?hw28 ?hy28 (by assumption) ?rest28
      case hi28 => simp only [List.getElem?_toArray, List.getElem?_cons_succ, List.getElem?_cons_zero]; rfl
      case hd28 => rfl
      case hw28 => kernel_rfl
      case hy28 => intro W hW; (try dsimp only at hW); go_simp <;> with_reducible rfl
      case hQ28 => exact fun _ _ _ h => h
      try simp only [Act.put, List.setIfInBounds_toArray, List.set_cons_zero, List.set_cons_succ]
      refine take_at 32 106 (oi := ?o29) (v := ?v29) ?hi29 ?hd29 (by kernel_rfl) (by kernel_rfl) (by kernel_rfl) ?hQ29 ?hw29 ?hy29 (by assumption) ?rest29
      case hi29 => simp only [List.getElem?_toArray, List.getElem?_cons_succ, List.getElem?_cons_zero]; rfl
      case hd29 => rfl
      case hw29 => kernel_rfl
      case hy29 => intro W hW; (try dsimp only at hW); go_simp <;> with_reducible rfl
      case hQ29 => exact fun _ _ _ h => h
      try simp only [Act.put, List.setIfInBounds_toArray, List.set_cons_zero, List.set_cons_succ]
      refine take_at 33 107 (oi := ?o30) (v := ?v30) ?hi30 ?hd30 (by kernel_rfl) (by kernel_rfl) (by kernel_rfl) ?hQ30 ?hw30 ?hy30 (by assumption) ?rest30
      case hi30 => simp only [List.getElem?_toArray, List.getElem?_cons_succ, List.getElem?_cons_zero]; rfl
      case hd30 => rfl
      case hw30 => kernel_rfl
      case hy30 => intro W hW; (try dsimp only at hW); go_simp <;> with_reducible rfl
      case hQ30 => exact fun _ _ _ h => h
      try simp only [Act.put, List.setIfInBounds_toArray, List.set_cons_zero, List.set_cons_succ]
      refine take_at 34 108 (oi := ?o31) (v := ?v31) ?hi31 ?hd31 (by kernel_rfl) (by kernel_rfl) (by kernel_rfl) ?hQ31 ?hw31 ?hy31 (by assumption) ?rest31
      case hi31 => simp only [List.getElem?_toArray, List.getElem?_cons_succ, List.getElem?_cons_zero]; rfl
      case hd31 => rfl
      case hw31 => kernel_rfl
      case hy31 => intro W hW; (try dsimp only at hW); go_simp <;> with_reducible rfl
      case hQ31 => exact fun _ _ _ h => h
      try simp only [Act.put, List.setIfInBounds_toArray, List.set_cons_zero, List.set_cons_succ]
      refine take_at 35 109 (oi := ?o32) (v := ?v32) ?hi32 ?hd32 (by kernel_rfl) (by kernel_rfl) (by kernel_rfl) ?hQ32 ?hw32 ?hy32 (by assumption) ?rest32
      case hi32 => simp only [List.getElem?_toArray, List.getElem?_cons_succ, List.getElem?_cons_zero]; rfl
      case hd32 => rfl
      case hw32 => kernel_rfl
      case hy32 => intro W hW; (try dsimp only at hW); go_simp <;> with_reducible rfl
      case hQ32 => exact fun _ _ _ h => h
      try simp only [Act.put, List.setIfInBounds_toArray, List.set_cons_zero, List.set_cons_succ]
      refine take_at 37 111 (oi := ?o33) (v := ?v33) ?hi33 ?hd33 (by kernel_rfl) (by kernel_rfl) (by kernel_rfl) ?hQ33 ?hw33 ?hy33 (by assumption) ?rest33
      case hi33 => simp only [List.getElem?_toArray, List.getElem?_cons_succ, List.getElem?_cons_zero]; rfl
      case hd33 => rfl
      case hw33 => kernel_rfl
      case hy33 => intro W hW; (try dsimp only at hW); go_simp <;> with_reducible rfl
      case hQ33 => exact fun _ _ _ h => h
      try simp only [Act.put, List.setIfInBounds_toArray, List.set_cons_zero, List.set_cons_succ]
      refine take_at 38 112 (oi := ?o34) (v := ?v34) ?hi34 ?hd34 (by kernel_rfl) (by kernel_rfl) (by kernel_rfl) ?hQ34 ?hw34 ?hy34 (by assumption) ?rest34
      case hi34 => simp only [List.getElem?_toArray, List.getElem?_cons_succ, List.getElem?_cons_zero]; rfl
      case hd34 => rfl
      case hw34 => kernel_rfl
      case hy34 => intro W hW; (try dsimp only at hW); go_simp <;> with_reducible rfl
      case hQ34 => exact fun _ _ _ h => h
      try simp only [Act.put, List.setIfInBounds_toArray, List.set_cons_zero, List.set_cons_succ]
      refine take_at 39 113 (oi := ?o35) (v := ?v35) ?hi35 ?hd35 (by kernel_rfl) (by kernel_rfl) (by kernel_rfl) ?hQ35 ?hw35 ?hy35 (by assumption) ?rest35
      case hi35 => simp only [List.getElem?_toArray, List.getElem?_cons_succ, List.getElem?_cons_zero]; rfl
      case hd35 => rfl
      case hw35 => kernel_rfl
      case hy35 => intro W hW; (try dsimp only at hW); go_simp <;> with_reducible rfl
      case hQ35 => exact fun _ _ _ h => h
      try simp only [Act.put, List.setIfInBounds_toArray, List.set_cons_zero, List.set_cons_succ]
      refine take_at 40 114 (oi := ?o36) (v := ?v36) ?hi36 ?hd36 (by kernel_rfl) (by kernel_rfl) (by kernel_rfl) ?hQ36 ?hw36 ?hy36 (by assumption) ?rest36
      case hi36 => simp only [List.getElem?_toArray, List.getElem?_cons_succ, List.getElem?_cons_zero]; rfl
      case hd36 => rfl
      case hw36 => kernel_rfl
      case hy36 => intro W hW; (try dsimp only at hW); go_simp <;> with_reducible rfl
      case hQ36 => exact fun _ _ _ h => h
      try simp only [Act.put, List.setIfInBounds_toArray, List.set_cons_zero, List.set_cons_succ]
      refine take_at 41 115 (oi := ?o37) (v := ?v37) ?hi37 ?hd37 (by kernel_rfl) (by kernel_rfl) (by kernel_rfl) ?hQ37 ?hw37 ?hy37 (by assumption) ?rest37
      case hi37 => simp only [List.getElem?_toArray, List.getElem?_cons_succ, List.getElem?_cons_zero]; rfl
      case hd37 => rfl
      case hw37 => kernel_rfl
      case hy37 => intro W hW; (try dsimp only at hW); go_simp <;> with_reducible rfl
      case hQ37 => exact fun _ _ _ h => h
      try simp only [Act.put, List.setIfInBounds_toArray, List.set_cons_zero, List.set_cons_succ]
      refine wpAnyH_ready (rs := [36]) (by kernel_rfl) (by simp) ?_
      refine AllReadyH.cons rfl (fun K hK => ?_) AllReadyH.nil
      go_simp
      refine (HC3.out _ (ht.same (Hb10.out)) (HV10.out)).mono ?_
      rintro e w11 ⟨rfl, hb'⟩
      have hb : Below w10.heap.size w10 w11 := ⟨hb'.os, hb'.tape, hb'.output, hb'.size, hb'.block⟩
      have Hk11 := Lib.hid ((hb.block _ (lt_of Hk10.out)).trans Hk10.out)
      have Hq11 := Lib.hid ((hb.block _ (lt_of Hq10.out)).trans Hq10.out)
      have HX11 := Lib.hid ((hb.block _ (lt_of HX10.out)).trans HX10.out)
      have HV11 := Lib.hid (HV10.out.below hb)
      have Hb11 := Lib.hid (Hb10.out.next hb)
      clear hb hb' hHeld
      go_wp2_with fail
      refine hK.out _ _ ⟨job_cells (w := w11) Hk11.out, ⟨cell_of (w := w11) Hq11.out 0, cell_of (w := w11) Hq11.out 1⟩, sigC (w := w11) HX11.out⟩ (fun hHeld => ?_)
      clear hK K
      try simp only [Act.put, List.setIfInBounds_toArray, List.set_cons_zero, List.set_cons_succ]
      refine wpAnyH_ready (rs := [42]) (by kernel_rfl) (by simp) ?_
      refine AllReadyH.cons rfl (fun K hK => ?_) AllReadyH.nil
      go_simp
      refine (HR3.out _ (HV11.out)).mono ?_
      rintro e w12 ⟨rfl, hb'⟩
      have hb : Below w11.heap.size w11 w12 := ⟨hb'.os, hb'.tape, hb'.output, hb'.size, hb'.block⟩
      have Hk12 := Lib.hid ((hb.block _ (lt_of Hk11.out)).trans Hk11.out)
      have Hq12 := Lib.hid ((hb.block _ (lt_of Hq11.out)).trans Hq11.out)
      have HX12 := Lib.hid ((hb.block _ (lt_of HX11.out)).trans HX11.out)
      have HV12 := Lib.hid (HV11.out.below hb)
      have Hb12 := Lib.hid (Hb11.out.next hb)
      clear hb hb' hHeld
      go_wp2_with fail
      refine hK.out _ _ ⟨job_cells (w := w12) Hk12.out, ⟨cell_of (w := w12) Hq12.out 0, cell_of (w := w12) Hq12.out 1⟩, sigC (w := w12) HX12.out⟩ (fun hHeld => ?_)
      clear hK K
      try simp only [Act.put, List.setIfInBounds_toArray, List.set_cons_zero, List.set_cons_succ]
      refine take_at 43 117 (oi := ?o38) (v := ?v38) ?hi38 ?hd38 (by kernel_rfl) (by kernel_rfl) (by kernel_rfl) ?hQ38 ?hw38 ?hy38 (by assumption) ?rest38
      case hi38 => simp only [List.getElem?_toArray, List.getElem?_cons_succ, List.getElem?_cons_zero]; rfl
      case hd38 => rfl
      case hw38 => kernel_rfl
      case hy38 => intro W hW; (try dsimp only at hW); go_simp <;> with_reducible rfl
      case hQ38 => exact fun _ _ _ h => h
      try simp only [Act.put, List.setIfInBounds_toArray, List.set_cons_zero, List.set_cons_succ]
      refine take_at 44 118 (oi := ?o39) (v := ?v39) ?hi39 ?hd39 (by kernel_rfl) (by kernel_rfl) (by kernel_rfl) ?hQ39 ?hw39 ?hy39 (by assumption) ?rest39
      case hi39 => simp only [List.getElem?_toArray, List.getElem?_cons_succ, List.getElem?_cons_zero]; rfl
      case hd39 => rfl
      case hw39 => kernel_rfl
      case hy39 => intro W hW; (try dsimp only at hW); go_simp <;> with_reducible rfl
      case hQ39 => exact fun _ _ _ h => h
      try simp only [Act.put, List.setIfInBounds_toArray, List.set_cons_zero, List.set_cons_succ]
      refine take_at 45 6 (oi := ?o40) (v := ?v40) ?hi40 ?hd40 (by kernel_rfl) (by kernel_rfl) (by kernel_rfl) ?hQ40 ?hw40 ?hy40 (by assumption) ?rest40
      case hi40 => simp only [List.getElem?_toArray, List.getElem?_cons_succ, List.getElem?_cons_zero]; rfl
      case hd40 => rfl
      case hw40 => kernel_rfl
      case hy40 => intro W hW; (try dsimp only at hW); go_simp <;> with_reducible rfl
      case hQ40 => exact fun _ _ _ h => h
      try simp only [Act.put, List.setIfInBounds_toArray, List.set_cons_zero, List.set_cons_succ]
      refine wpAnyH_done (by kernel_rfl) ?_ _
      simp only [Exit.then]
      go_wp2
      go_ret
      exact ⟨rfl, Hb12.out⟩
    · have d3 : decide ((240 : Int) ≤ (how : Int)) = false := by simp; omega
      go_wp2
      have HC1 := Lib.hid (fun W (hT : Tab W) (hs : SigIs _ i' S' H' R' W) => Check_any RR0 m b h (.agg #[.int .i64 i', .slice sa' S'.length sc', .slice ha' H'.length hc', .slice ra' R'.length rc']) i' S' H' R' W (by omega) hs hT)
      have HR1 := Lib.hid (fun W (hs : SigIs _ i' S' H' R' W) => RCheck_any RR0 m b h (.agg #[.int .i64 i', .slice sa' S'.length sc', .slice ha' H'.length hc', .slice ra' R'.length rc']) i' S' H' R' W (by omega) hs)
      have HC2 := Lib.hid (fun W (hT : Tab W) (hs : SigIs _ i' S' H' R' W) => Check_any RR0 other b h (.agg #[.int .i64 i', .slice sa' S'.length sc', .slice ha' H'.length hc', .slice ra' R'.length rc']) i' S' H' R' W (by omega) hs hT)
      have HR2 := Lib.hid (fun W (hs : SigIs _ i' S' H' R' W) => RCheck_any RR0 other b h (.agg #[.int .i64 i', .slice sa' S'.length sc', .slice ha' H'.length hc', .slice ra' R'.length rc']) i' S' H' R' W (by omega) hs)
      have HC3 := Lib.hid (fun W (hT : Tab W) (hs : SigIs _ i' S' H' R' W) => Check_any RR0 m kb kh (.agg #[.int .i64 i', .slice sa' S'.length sc', .slice ha' H'.length hc', .slice ra' R'.length rc']) i' S' H' R' W (by omega) hs hT)
      have HR3 := Lib.hid (fun W (hs : SigIs _ i' S' H' R' W) => RCheck_any RR0 m kb kh (.agg #[.int .i64 i', .slice sa' S'.length sc', .slice ha' H'.length hc', .slice ra' R'.length rc']) i' S' H' R' W (by omega) hs)
      obtain ⟨C1, e1⟩ : ∃ x, checkB RR0 b h m i' S' H' R' = x := ⟨_, rfl⟩
      obtain ⟨C2, e2⟩ : ∃ x, checkB RR0 b h other i' S' H' R' = x := ⟨_, rfl⟩
      obtain ⟨C3, e3⟩ : ∃ x, checkB RR0 kb kh m i' S' H' R' = x := ⟨_, rfl⟩
      rw [e1] at HC1 HR1
      rw [e2] at HC2 HR2
      rw [e3] at HC3 HR3
      clear e1 e2 e3
      obtain ⟨W, hW⟩ : ∃ W, w5.alloc (.cells #[.int .i64 i', .slice sa' S'.length sc', .slice ha' H'.length hc', .slice ra' R'.length rc'] 34) = W := ⟨_, rfl⟩
      obtain ⟨X, hX⟩ : ∃ X, w5.heap.size = X := ⟨_, rfl⟩
      have Hk6 := Lib.hid (show W.heap[w.heap.size]? = some (.cells #[.string (B seed), .string (B m), .int .i64 b, .int .i64 h, .int .i64 i, .int .u8 (how : Int), .int .u8 (at_ : Int)] 31) by rw [← hW]; exact old_of Hk5.out)
      have Hq6 := Lib.hid (show W.heap[w.heap.size + 1]? = some (.cells #[.int .i64 kb, .int .i64 kh] 23) by rw [← hW]; exact old_of Hq5.out)
      have HX6 := Lib.hid (show W.heap[X]? = some (.cells #[.int .i64 i', .slice sa' S'.length sc', .slice ha' H'.length hc', .slice ra' R'.length rc'] 34) by rw [← hW, ← hX]; exact new_of _ _)
      have HV6 := Lib.hid (show SigIs (.agg #[.int .i64 i', .slice sa' S'.length sc', .slice ha' H'.length hc', .slice ra' R'.length rc']) i' S' H' R' W by rw [← hW]; exact HV5.out.below ((Below.refl _ _).alloc (Nat.le_refl _) _))
      have Hb6 := Lib.hid (show Below w.heap.size w W by rw [← hW]; exact Hb5.out.alloc Hb5.out.size _)
      rw [hW, hX]
      clear hW hX k0 k1 k2 k3 k4 k5 k6
      refine wp_region_held_drew (S := (fun W : World => (W.cell? ⟨w.heap.size, 0, none⟩ = some (.string (B seed)) ∧ W.cell? ⟨w.heap.size, 1, none⟩ = some (.string (B m)) ∧ W.cell? ⟨w.heap.size, 2, none⟩ = some (.int .i64 b) ∧ W.cell? ⟨w.heap.size, 3, none⟩ = some (.int .i64 h) ∧ W.cell? ⟨w.heap.size, 4, none⟩ = some (.int .i64 i) ∧ W.cell? ⟨w.heap.size, 5, none⟩ = some (.int .u8 (how : Int)) ∧ W.cell? ⟨w.heap.size, 6, none⟩ = some (.int .u8 (at_ : Int))) ∧ (W.cell? ⟨w.heap.size + 1, 0, none⟩ = some (.int .i64 kb) ∧ W.cell? ⟨w.heap.size + 1, 1, none⟩ = some (.int .i64 kh)) ∧ W.cell? ⟨X, 0, none⟩ = some (.int .i64 i') ∧ W.cell? ⟨X, 1, none⟩ = some (.slice sa' S'.length sc') ∧ W.cell? ⟨X, 2, none⟩ = some (.slice ha' H'.length hc') ∧ W.cell? ⟨X, 3, none⟩ = some (.slice ra' R'.length rc'))) (by kernel_rfl) ⟨job_cells (w := W) Hk6.out, ⟨cell_of (w := W) Hq6.out 0, cell_of (w := W) Hq6.out 1⟩, sigC (w := W) HX6.out⟩ (fun hHeld => ?_)
      refine take_at 0 74 (oi := ?o41) (v := ?v41) ?hi41 ?hd41 (by kernel_rfl) (by kernel_rfl) (by kernel_rfl) ?hQ41 ?hw41 ?hy41 (by assumption) ?rest41
      case hi41 => simp only [List.getElem?_toArray, List.getElem?_cons_zero]; rfl
      case hd41 => rfl
      case hw41 => kernel_rfl
      case hy41 => intro W hW; (try dsimp only at hW); go_simp <;> with_reducible rfl
      case hQ41 => exact fun _ _ _ h => h
      try simp only [Act.put, List.setIfInBounds_toArray, List.set_cons_zero, List.set_cons_succ]
      refine take_at 1 75 (oi := ?o42) (v := ?v42) ?hi42 ?hd42 (by kernel_rfl) (by kernel_rfl) (by kernel_rfl) ?hQ42 ?hw42 ?hy42 (by assumption) ?rest42
      case hi42 => simp only [List.getElem?_toArray, List.getElem?_cons_succ, List.getElem?_cons_zero]; rfl
      case hd42 => rfl
      case hw42 => kernel_rfl
      case hy42 => intro W hW; (try dsimp only at hW); go_simp <;> with_reducible rfl
      case hQ42 => exact fun _ _ _ h => h
      try simp only [Act.put, List.setIfInBounds_toArray, List.set_cons_zero, List.set_cons_succ]
      refine take_at 2 76 (oi := ?o43) (v := ?v43) ?hi43 ?hd43 (by kernel_rfl) (by kernel_rfl) (by kernel_rfl) ?hQ43 ?hw43 ?hy43 (by assumption) ?rest43
      case hi43 => simp only [List.getElem?_toArray, List.getElem?_cons_succ, List.getElem?_cons_zero]; rfl
      case hd43 => rfl
      case hw43 => kernel_rfl
      case hy43 => intro W hW; (try dsimp only at hW); go_simp <;> with_reducible rfl
      case hQ43 => exact fun _ _ _ h => h
      try simp only [Act.put, List.setIfInBounds_toArray, List.set_cons_zero, List.set_cons_succ]
      refine take_at 3 77 (oi := ?o44) (v := ?v44) ?hi44 ?hd44 (by kernel_rfl) (by kernel_rfl) (by kernel_rfl) ?hQ44 ?hw44 ?hy44 (by assumption) ?rest44
      case hi44 => simp only [List.getElem?_toArray, List.getElem?_cons_succ, List.getElem?_cons_zero]; rfl
      case hd44 => rfl
      case hw44 => kernel_rfl
      case hy44 => intro W hW; (try dsimp only at hW); go_simp <;> with_reducible rfl
      case hQ44 => exact fun _ _ _ h => h
      try simp only [Act.put, List.setIfInBounds_toArray, List.set_cons_zero, List.set_cons_succ]
      refine take_at 4 78 (oi := ?o45) (v := ?v45) ?hi45 ?hd45 (by kernel_rfl) (by kernel_rfl) (by kernel_rfl) ?hQ45 ?hw45 ?hy45 (by assumption) ?rest45
      case hi45 => simp only [List.getElem?_toArray, List.getElem?_cons_succ, List.getElem?_cons_zero]; rfl
      case hd45 => rfl
      case hw45 => kernel_rfl
      case hy45 => intro W hW; (try dsimp only at hW); go_simp <;> with_reducible rfl
      case hQ45 => exact fun _ _ _ h => h
      try simp only [Act.put, List.setIfInBounds_toArray, List.set_cons_zero, List.set_cons_succ]
      refine take_at 5 79 (oi := ?o46) (v := ?v46) ?hi46 ?hd46 (by kernel_rfl) (by kernel_rfl) (by kernel_rfl) ?hQ46 ?hw46 ?hy46 (by assumption) ?rest46
      case hi46 => simp only [List.getElem?_toArray, List.getElem?_cons_succ, List.getElem?_cons_zero]; rfl
      case hd46 => rfl
      case hw46 => kernel_rfl
      case hy46 => intro W hW; (try dsimp only at hW); go_simp <;> with_reducible rfl
      case hQ46 => exact fun _ _ _ h => h
      try simp only [Act.put, List.setIfInBounds_toArray, List.set_cons_zero, List.set_cons_succ]
      refine take_at 7 81 (oi := ?o47) (v := ?v47) ?hi47 ?hd47 (by kernel_rfl) (by kernel_rfl) (by kernel_rfl) ?hQ47 ?hw47 ?hy47 (by assumption) ?rest47
      case hi47 => simp only [List.getElem?_toArray, List.getElem?_cons_succ, List.getElem?_cons_zero]; rfl
      case hd47 => rfl
      case hw47 => kernel_rfl
      case hy47 => intro W hW; (try dsimp only at hW); go_simp <;> with_reducible rfl
      case hQ47 => exact fun _ _ _ h => h
      try simp only [Act.put, List.setIfInBounds_toArray, List.set_cons_zero, List.set_cons_succ]
      refine take_at 8 82 (oi := ?o48) (v := ?v48) ?hi48 ?hd48 (by kernel_rfl) (by kernel_rfl) (by kernel_rfl) ?hQ48 ?hw48 ?hy48 (by assumption) ?rest48
      case hi48 => simp only [List.getElem?_toArray, List.getElem?_cons_succ, List.getElem?_cons_zero]; rfl
      case hd48 => rfl
      case hw48 => kernel_rfl
      case hy48 => intro W hW; (try dsimp only at hW); go_simp <;> with_reducible rfl
      case hQ48 => exact fun _ _ _ h => h
      try simp only [Act.put, List.setIfInBounds_toArray, List.set_cons_zero, List.set_cons_succ]
      refine take_at 9 83 (oi := ?o49) (v := ?v49) ?hi49 ?hd49 (by kernel_rfl) (by kernel_rfl) (by kernel_rfl) ?hQ49 ?hw49 ?hy49 (by assumption) ?rest49
      case hi49 => simp only [List.getElem?_toArray, List.getElem?_cons_succ, List.getElem?_cons_zero]; rfl
      case hd49 => rfl
      case hw49 => kernel_rfl
      case hy49 => intro W hW; (try dsimp only at hW); go_simp <;> with_reducible rfl
      case hQ49 => exact fun _ _ _ h => h
      try simp only [Act.put, List.setIfInBounds_toArray, List.set_cons_zero, List.set_cons_succ]
      refine take_at 10 84 (oi := ?o50) (v := ?v50) ?hi50 ?hd50 (by kernel_rfl) (by kernel_rfl) (by kernel_rfl) ?hQ50 ?hw50 ?hy50 (by assumption) ?rest50
      case hi50 => simp only [List.getElem?_toArray, List.getElem?_cons_succ, List.getElem?_cons_zero]; rfl
      case hd50 => rfl
      case hw50 => kernel_rfl
      case hy50 => intro W hW; (try dsimp only at hW); go_simp <;> with_reducible rfl
      case hQ50 => exact fun _ _ _ h => h
      try simp only [Act.put, List.setIfInBounds_toArray, List.set_cons_zero, List.set_cons_succ]
      refine take_at 11 85 (oi := ?o51) (v := ?v51) ?hi51 ?hd51 (by kernel_rfl) (by kernel_rfl) (by kernel_rfl) ?hQ51 ?hw51 ?hy51 (by assumption) ?rest51
      case hi51 => simp only [List.getElem?_toArray, List.getElem?_cons_succ, List.getElem?_cons_zero]; rfl
      case hd51 => rfl
      case hw51 => kernel_rfl
      case hy51 => intro W hW; (try dsimp only at hW); go_simp <;> with_reducible rfl
      case hQ51 => exact fun _ _ _ h => h
      try simp only [Act.put, List.setIfInBounds_toArray, List.set_cons_zero, List.set_cons_succ]
      refine take_at 12 86 (oi := ?o52) (v := ?v52) ?hi52 ?hd52 (by kernel_rfl) (by kernel_rfl) (by kernel_rfl) ?hQ52 ?hw52 ?hy52 (by assumption) ?rest52
      case hi52 => simp only [List.getElem?_toArray, List.getElem?_cons_succ, List.getElem?_cons_zero]; rfl
      case hd52 => rfl
      case hw52 => kernel_rfl
      case hy52 => intro W hW; (try dsimp only at hW); go_simp <;> with_reducible rfl
      case hQ52 => exact fun _ _ _ h => h
      try simp only [Act.put, List.setIfInBounds_toArray, List.set_cons_zero, List.set_cons_succ]
      refine wpAnyH_ready (rs := [6]) (by kernel_rfl) (by simp) ?_
      refine AllReadyH.cons rfl (fun K hK => ?_) AllReadyH.nil
      go_simp
      refine (HC1.out _ (ht.same (dr Hb6.out)) (HV6.out.below (dr (Below.refl _ _)))).mono ?_
      rintro e w7 ⟨rfl, hb'⟩
      have hb : Below W.heap.size W w7 := ⟨hb'.os, hb'.tape, hb'.output, hb'.size, hb'.block⟩
      have Hk7 := Lib.hid ((hb.block _ (lt_of Hk6.out)).trans Hk6.out)
      have Hq7 := Lib.hid ((hb.block _ (lt_of Hq6.out)).trans Hq6.out)
      have HX7 := Lib.hid ((hb.block _ (lt_of HX6.out)).trans HX6.out)
      have HV7 := Lib.hid (HV6.out.below hb)
      have Hb7 := Lib.hid (Hb6.out.next hb)
      clear hb hb' hHeld
      go_wp2_with fail
      refine hK.out _ _ ⟨job_cells (w := w7) Hk7.out, ⟨cell_of (w := w7) Hq7.out 0, cell_of (w := w7) Hq7.out 1⟩, sigC (w := w7) HX7.out⟩ (fun hHeld => ?_)
      clear hK K
      try simp only [Act.put, List.setIfInBounds_toArray, List.set_cons_zero, List.set_cons_succ]
      refine wpAnyH_ready (rs := [13]) (by kernel_rfl) (by simp) ?_
      refine AllReadyH.cons rfl (fun K hK => ?_) AllReadyH.nil
      go_simp
      refine (HR1.out _ (HV7.out)).mono ?_
      rintro e w8 ⟨rfl, hb'⟩
      have hb : Below w7.heap.size w7 w8 := ⟨hb'.os, hb'.tape, hb'.output, hb'.size, hb'.block⟩
      have Hk8 := Lib.hid ((hb.block _ (lt_of Hk7.out)).trans Hk7.out)
      have Hq8 := Lib.hid ((hb.block _ (lt_of Hq7.out)).trans Hq7.out)
      have HX8 := Lib.hid ((hb.block _ (lt_of HX7.out)).trans HX7.out)
      have HV8 := Lib.hid (HV7.out.below hb)
      have Hb8 := Lib.hid (Hb7.out.next hb)
      clear hb hb' hHeld
      go_wp2_with fail
      refine hK.out _ _ ⟨job_cells (w := w8) Hk8.out, ⟨cell_of (w := w8) Hq8.out 0, cell_of (w := w8) Hq8.out 1⟩, sigC (w := w8) HX8.out⟩ (fun hHeld => ?_)
      clear hK K
      try simp only [Act.put, List.setIfInBounds_toArray, List.set_cons_zero, List.set_cons_succ]
      refine take_at 14 88 (oi := ?o53) (v := ?v53) ?hi53 ?hd53 (by kernel_rfl) (by kernel_rfl) (by kernel_rfl) ?hQ53 ?hw53 ?hy53 (by assumption) ?rest53
      case hi53 => simp only [List.getElem?_toArray, List.getElem?_cons_succ, List.getElem?_cons_zero]; rfl
      case hd53 => rfl
      case hw53 => kernel_rfl
      case hy53 => intro W hW; (try dsimp only at hW); go_simp <;> with_reducible rfl
      case hQ53 => exact fun _ _ _ h => h
      try simp only [Act.put, List.setIfInBounds_toArray, List.set_cons_zero, List.set_cons_succ]
      refine take_at 15 89 (oi := ?o54) (v := ?v54) ?hi54 ?hd54 (by kernel_rfl) (by kernel_rfl) (by kernel_rfl) ?hQ54 ?hw54 ?hy54 (by assumption) ?rest54
      case hi54 => simp only [List.getElem?_toArray, List.getElem?_cons_succ, List.getElem?_cons_zero]; rfl
      case hd54 => rfl
      case hw54 => kernel_rfl
      case hy54 => intro W hW; (try dsimp only at hW); go_simp <;> with_reducible rfl
      case hQ54 => exact fun _ _ _ h => h
      try simp only [Act.put, List.setIfInBounds_toArray, List.set_cons_zero, List.set_cons_succ]
      refine take_at 16 90 (oi := ?o55) (v := ?v55) ?hi55 ?hd55 (by kernel_rfl) (by kernel_rfl) (by kernel_rfl) ?hQ55 ?hw55 ?hy55 (by assumption) ?rest55
      case hi55 => simp only [List.getElem?_toArray, List.getElem?_cons_succ, List.getElem?_cons_zero]; rfl
      case hd55 => rfl
      case hw55 => kernel_rfl
      case hy55 => intro W hW; (try dsimp only at hW); go_simp <;> with_reducible rfl
      case hQ55 => exact fun _ _ _ h => h
      try simp only [Act.put, List.setIfInBounds_toArray, List.set_cons_zero, List.set_cons_succ]
      refine take_at 17 91 (oi := ?o56) (v := ?v56) ?hi56 ?hd56 (by kernel_rfl) (by kernel_rfl) (by kernel_rfl) ?hQ56 ?hw56 ?hy56 (by assumption) ?rest56
      case hi56 => simp only [List.getElem?_toArray, List.getElem?_cons_succ, List.getElem?_cons_zero]; rfl
      case hd56 => rfl
      case hw56 => kernel_rfl
      case hy56 => intro W hW; (try dsimp only at hW); go_simp <;> with_reducible rfl
      case hQ56 => exact fun _ _ _ h => h
      try simp only [Act.put, List.setIfInBounds_toArray, List.set_cons_zero, List.set_cons_succ]
      refine take_at 18 92 (oi := ?o57) (v := ?v57) ?hi57 ?hd57 (by kernel_rfl) (by kernel_rfl) (by kernel_rfl) ?hQ57 ?hw57 ?hy57 (by assumption) ?rest57
      case hi57 => simp only [List.getElem?_toArray, List.getElem?_cons_succ, List.getElem?_cons_zero]; rfl
      case hd57 => rfl
      case hw57 => kernel_rfl
      case hy57 => intro W hW; (try dsimp only at hW); go_simp <;> with_reducible rfl
      case hQ57 => exact fun _ _ _ h => h
      try simp only [Act.put, List.setIfInBounds_toArray, List.set_cons_zero, List.set_cons_succ]
      refine take_at 19 93 (oi := ?o58) (v := ?v58) ?hi58 ?hd58 (by kernel_rfl) (by kernel_rfl) (by kernel_rfl) ?hQ58 ?hw58 ?hy58 (by assumption) ?rest58
      case hi58 => simp only [List.getElem?_toArray, List.getElem?_cons_succ, List.getElem?_cons_zero]; rfl
      case hd58 => rfl
      case hw58 => kernel_rfl
      case hy58 => intro W hW; (try dsimp only at hW); go_simp <;> with_reducible rfl
      case hQ58 => exact fun _ _ _ h => h
      try simp only [Act.put, List.setIfInBounds_toArray, List.set_cons_zero, List.set_cons_succ]
      refine take_at 20 94 (oi := ?o59) (v := ?v59) ?hi59 ?hd59 (by kernel_rfl) (by kernel_rfl) (by kernel_rfl) ?hQ59 ?hw59 ?hy59 (by assumption) ?rest59
      case hi59 => simp only [List.getElem?_toArray, List.getElem?_cons_succ, List.getElem?_cons_zero]; rfl
      case hd59 => rfl
      case hw59 => kernel_rfl
      case hy59 => intro W hW; (try dsimp only at hW); go_simp <;> with_reducible rfl
      case hQ59 => exact fun _ _ _ h => h
      try simp only [Act.put, List.setIfInBounds_toArray, List.set_cons_zero, List.set_cons_succ]
      refine take_at 22 96 (oi := ?o60) (v := ?v60) ?hi60 ?hd60 (by kernel_rfl) (by kernel_rfl) (by kernel_rfl) ?hQ60 ?hw60 ?hy60 (by assumption) ?rest60
      case hi60 => simp only [List.getElem?_toArray, List.getElem?_cons_succ, List.getElem?_cons_zero]; rfl
      case hd60 => rfl
      case hw60 => kernel_rfl
      case hy60 => intro W hW; (try dsimp only at hW); go_simp <;> with_reducible rfl
      case hQ60 => exact fun _ _ _ h => h
      try simp only [Act.put, List.setIfInBounds_toArray, List.set_cons_zero, List.set_cons_succ]
      refine take_at 23 97 (oi := ?o61) (v := ?v61) ?hi61 ?hd61 (by kernel_rfl) (by kernel_rfl) (by kernel_rfl) ?hQ61 ?hw61 ?hy61 (by assumption) ?rest61
      case hi61 => simp only [List.getElem?_toArray, List.getElem?_cons_succ, List.getElem?_cons_zero]; rfl
      case hd61 => rfl
      case hw61 => kernel_rfl
      case hy61 => intro W hW; (try dsimp only at hW); go_simp <;> with_reducible rfl
      case hQ61 => exact fun _ _ _ h => h
      try simp only [Act.put, List.setIfInBounds_toArray, List.set_cons_zero, List.set_cons_succ]
      refine take_at 24 98 (oi := ?o62) (v := ?v62) ?hi62 ?hd62 (by kernel_rfl) (by kernel_rfl) (by kernel_rfl) ?hQ62 ?hw62 ?hy62 (by assumption) ?rest62
      case hi62 => simp only [List.getElem?_toArray, List.getElem?_cons_succ, List.getElem?_cons_zero]; rfl
      case hd62 => rfl
      case hw62 => kernel_rfl
      case hy62 => intro W hW; (try dsimp only at hW); go_simp <;> with_reducible rfl
      case hQ62 => exact fun _ _ _ h => h
      try simp only [Act.put, List.setIfInBounds_toArray, List.set_cons_zero, List.set_cons_succ]
      refine take_at 25 99 (oi := ?o63) (v := ?v63) ?hi63 ?hd63 (by kernel_rfl) (by kernel_rfl) (by kernel_rfl) ?hQ63 ?hw63 ?hy63 (by assumption) ?rest63
      case hi63 => simp only [List.getElem?_toArray, List.getElem?_cons_succ, List.getElem?_cons_zero]; rfl
      case hd63 => rfl
      case hw63 => kernel_rfl
      case hy63 => intro W hW; (try dsimp only at hW); go_simp <;> with_reducible rfl
      case hQ63 => exact fun _ _ _ h => h
      try simp only [Act.put, List.setIfInBounds_toArray, List.set_cons_zero, List.set_cons_succ]
      refine take_at 26 100 (oi := ?o64) (v := ?v64) ?hi64 ?hd64 (by kernel_rfl) (by kernel_rfl) (by kernel_rfl) ?hQ64 ?hw64 ?hy64 (by assumption) ?rest64
      case hi64 => simp only [List.getElem?_toArray, List.getElem?_cons_succ, List.getElem?_cons_zero]; rfl
      case hd64 => rfl
      case hw64 => kernel_rfl
      case hy64 => intro W hW; (try dsimp only at hW); go_simp <;> with_reducible rfl
      case hQ64 => exact fun _ _ _ h => h
      try simp only [Act.put, List.setIfInBounds_toArray, List.set_cons_zero, List.set_cons_succ]
      refine wpAnyH_ready (rs := [21]) (by kernel_rfl) (by simp) ?_
      refine AllReadyH.cons rfl (fun K hK => ?_) AllReadyH.nil
      go_simp
      refine (HC2.out _ (ht.same (Hb8.out)) (HV8.out)).mono ?_
      rintro e w9 ⟨rfl, hb'⟩
      have hb : Below w8.heap.size w8 w9 := ⟨hb'.os, hb'.tape, hb'.output, hb'.size, hb'.block⟩
      have Hk9 := Lib.hid ((hb.block _ (lt_of Hk8.out)).trans Hk8.out)
      have Hq9 := Lib.hid ((hb.block _ (lt_of Hq8.out)).trans Hq8.out)
      have HX9 := Lib.hid ((hb.block _ (lt_of HX8.out)).trans HX8.out)
      have HV9 := Lib.hid (HV8.out.below hb)
      have Hb9 := Lib.hid (Hb8.out.next hb)
      clear hb hb' hHeld
      go_wp2_with fail
      refine hK.out _ _ ⟨job_cells (w := w9) Hk9.out, ⟨cell_of (w := w9) Hq9.out 0, cell_of (w := w9) Hq9.out 1⟩, sigC (w := w9) HX9.out⟩ (fun hHeld => ?_)
      clear hK K
      try simp only [Act.put, List.setIfInBounds_toArray, List.set_cons_zero, List.set_cons_succ]
      refine wpAnyH_ready (rs := [27]) (by kernel_rfl) (by simp) ?_
      refine AllReadyH.cons rfl (fun K hK => ?_) AllReadyH.nil
      go_simp
      refine (HR2.out _ (HV9.out)).mono ?_
      rintro e w10 ⟨rfl, hb'⟩
      have hb : Below w9.heap.size w9 w10 := ⟨hb'.os, hb'.tape, hb'.output, hb'.size, hb'.block⟩
      have Hk10 := Lib.hid ((hb.block _ (lt_of Hk9.out)).trans Hk9.out)
      have Hq10 := Lib.hid ((hb.block _ (lt_of Hq9.out)).trans Hq9.out)
      have HX10 := Lib.hid ((hb.block _ (lt_of HX9.out)).trans HX9.out)
      have HV10 := Lib.hid (HV9.out.below hb)
      have Hb10 := Lib.hid (Hb9.out.next hb)
      clear hb hb' hHeld
      go_wp2_with fail
      refine hK.out _ _ ⟨job_cells (w := w10) Hk10.out, ⟨cell_of (w := w10) Hq10.out 0, cell_of (w := w10) Hq10.out 1⟩, sigC (w := w10) HX10.out⟩ (fun hHeld => ?_)
      clear hK K
      try simp only [Act.put, List.setIfInBounds_toArray, List.set_cons_zero, List.set_cons_succ]
      refine take_at 28 102 (oi := ?o65) (v := ?v65) ?hi65 ?hd65 (by kernel_rfl) (by kernel_rfl) (by kernel_rfl) ?hQ65 ?hw65 ?hy65 (by assumption) ?rest65
      case hi65 => simp only [List.getElem?_toArray, List.getElem?_cons_succ, List.getElem?_cons_zero]; rfl
      case hd65 => rfl
      case hw65 => kernel_rfl
      case hy65 => intro W hW; (try dsimp only at hW); go_simp <;> with_reducible rfl
      case hQ65 => exact fun _ _ _ h => h
      try simp only [Act.put, List.setIfInBounds_toArray, List.set_cons_zero, List.set_cons_succ]
      refine take_at 29 103 (oi := ?o66) (v := ?v66) ?hi66 ?hd66 (by kernel_rfl) (by kernel_rfl) (by kernel_rfl) ?hQ66 ?hw66 ?hy66 (by assumption) ?rest66
      case hi66 => simp only [List.getElem?_toArray, List.getElem?_cons_succ, List.getElem?_cons_zero]; rfl
      case hd66 => rfl
      case hw66 => kernel_rfl
      case hy66 => intro W hW; (try dsimp only at hW); go_simp <;> with_reducible rfl
      case hQ66 => exact fun _ _ _ h => h
      try simp only [Act.put, List.setIfInBounds_toArray, List.set_cons_zero, List.set_cons_succ]
      refine take_at 30 104 (oi := ?o67) (v := ?v67) ?hi67 ?hd67 (by kernel_rfl) (by kernel_rfl) (by kernel_rfl) ?hQ67 ?hw67 ?hy67 (by assumption) ?rest67
      case hi67 => simp only [List.getElem?_toArray, List.getElem?_cons_succ, List.getElem?_cons_zero]; rfl
      case hd67 => rfl
      case hw67 => kernel_rfl
      case hy67 => intro W hW; (try dsimp only at hW); go_simp <;> with_reducible rfl
      case hQ67 => exact fun _ _ _ h => h
      try simp only [Act.put, List.setIfInBounds_toArray, List.set_cons_zero, List.set_cons_succ]
      refine take_at 31 105 (oi := ?o68) (v := ?v68) ?hi68 ?hd68 (by kernel_rfl) (by kernel_rfl) (by kernel_rfl) ?hQ68 ?hw68 ?hy68 (by assumption) ?rest68
      case hi68 => simp only [List.getElem?_toArray, List.getElem?_cons_succ, List.getElem?_cons_zero]; rfl
      case hd68 => rfl
      case hw68 => kernel_rfl
      case hy68 => intro W hW; (try dsimp only at hW); go_simp <;> with_reducible rfl
      case hQ68 => exact fun _ _ _ h => h
      try simp only [Act.put, List.setIfInBounds_toArray, List.set_cons_zero, List.set_cons_succ]
      refine take_at 32 106 (oi := ?o69) (v := ?v69) ?hi69 ?hd69 (by kernel_rfl) (by kernel_rfl) (by kernel_rfl) ?hQ69 ?hw69 ?hy69 (by assumption) ?rest69
      case hi69 => simp only [List.getElem?_toArray, List.getElem?_cons_succ, List.getElem?_cons_zero]; rfl
      case hd69 => rfl
      case hw69 => kernel_rfl
      case hy69 => intro W hW; (try dsimp only at hW); go_simp <;> with_reducible rfl
      case hQ69 => exact fun _ _ _ h => h
      try simp only [Act.put, List.setIfInBounds_toArray, List.set_cons_zero, List.set_cons_succ]
      refine take_at 33 107 (oi := ?o70) (v := ?v70) ?hi70 ?hd70 (by kernel_rfl) (by kernel_rfl) (by kernel_rfl) ?hQ70 ?hw70 ?hy70 (by assumption) ?rest70
      case hi70 => simp only [List.getElem?_toArray, List.getElem?_cons_succ, List.getElem?_cons_zero]; rfl
      case hd70 => rfl
      case hw70 => kernel_rfl
      case hy70 => intro W hW; (try dsimp only at hW); go_simp <;> with_reducible rfl
      case hQ70 => exact fun _ _ _ h => h
      try simp only [Act.put, List.setIfInBounds_toArray, List.set_cons_zero, List.set_cons_succ]
      refine take_at 34 108 (oi := ?o71) (v := ?v71) ?hi71 ?hd71 (by kernel_rfl) (by kernel_rfl) (by kernel_rfl) ?hQ71 ?hw71 ?hy71 (by assumption) ?rest71
      case hi71 => simp only [List.getElem?_toArray, List.getElem?_cons_succ, List.getElem?_cons_zero]; rfl
      case hd71 => rfl
      case hw71 => kernel_rfl
      case hy71 => intro W hW; (try dsimp only at hW); go_simp <;> with_reducible rfl
      case hQ71 => exact fun _ _ _ h => h
      try simp only [Act.put, List.setIfInBounds_toArray, List.set_cons_zero, List.set_cons_succ]
      refine take_at 35 109 (oi := ?o72) (v := ?v72) ?hi72 ?hd72 (by kernel_rfl) (by kernel_rfl) (by kernel_rfl) ?hQ72 ?hw72 ?hy72 (by assumption) ?rest72
      case hi72 => simp only [List.getElem?_toArray, List.getElem?_cons_succ, List.getElem?_cons_zero]; rfl
      case hd72 => rfl
      case hw72 => kernel_rfl
      case hy72 => intro W hW; (try dsimp only at hW); go_simp <;> with_reducible rfl
      case hQ72 => exact fun _ _ _ h => h
      try simp only [Act.put, List.setIfInBounds_toArray, List.set_cons_zero, List.set_cons_succ]
      refine take_at 37 111 (oi := ?o73) (v := ?v73) ?hi73 ?hd73 (by kernel_rfl) (by kernel_rfl) (by kernel_rfl) ?hQ73 ?hw73 ?hy73 (by assumption) ?rest73
      case hi73 => simp only [List.getElem?_toArray, List.getElem?_cons_succ, List.getElem?_cons_zero]; rfl
      case hd73 => rfl
      case hw73 => kernel_rfl
      case hy73 => intro W hW; (try dsimp only at hW); go_simp <;> with_reducible rfl
      case hQ73 => exact fun _ _ _ h => h
      try simp only [Act.put, List.setIfInBounds_toArray, List.set_cons_zero, List.set_cons_succ]
      refine take_at 38 112 (oi := ?o74) (v := ?v74) ?hi74 ?hd74 (by kernel_rfl) (by kernel_rfl) (by kernel_rfl) ?hQ74 ?hw74 ?hy74 (by assumption) ?rest74
      case hi74 => simp only [List.getElem?_toArray, List.getElem?_cons_succ, List.getElem?_cons_zero]; rfl
      case hd74 => rfl
      case hw74 => kernel_rfl
      case hy74 => intro W hW; (try dsimp only at hW); go_simp <;> with_reducible rfl
      case hQ74 => exact fun _ _ _ h => h
      try simp only [Act.put, List.setIfInBounds_toArray, List.set_cons_zero, List.set_cons_succ]
      refine take_at 39 113 (oi := ?o75) (v := ?v75) ?hi75 ?hd75 (by kernel_rfl) (by kernel_rfl) (by kernel_rfl) ?hQ75 ?hw75 ?hy75 (by assumption) ?rest75
      case hi75 => simp only [List.getElem?_toArray, List.getElem?_cons_succ, List.getElem?_cons_zero]; rfl
      case hd75 => rfl
      case hw75 => kernel_rfl
      case hy75 => intro W hW; (try dsimp only at hW); go_simp <;> with_reducible rfl
      case hQ75 => exact fun _ _ _ h => h
      try simp only [Act.put, List.setIfInBounds_toArray, List.set_cons_zero, List.set_cons_succ]
      refine take_at 40 114 (oi := ?o76) (v := ?v76) ?hi76 ?hd76 (by kernel_rfl) (by kernel_rfl) (by kernel_rfl) ?hQ76 ?hw76 ?hy76 (by assumption) ?rest76
      case hi76 => simp only [List.getElem?_toArray, List.getElem?_cons_succ, List.getElem?_cons_zero]; rfl
      case hd76 => rfl
      case hw76 => kernel_rfl
      case hy76 => intro W hW; (try dsimp only at hW); go_simp <;> with_reducible rfl
      case hQ76 => exact fun _ _ _ h => h
      try simp only [Act.put, List.setIfInBounds_toArray, List.set_cons_zero, List.set_cons_succ]
      refine take_at 41 115 (oi := ?o77) (v := ?v77) ?hi77 ?hd77 (by kernel_rfl) (by kernel_rfl) (by kernel_rfl) ?hQ77 ?hw77 ?hy77 (by assumption) ?rest77
      case hi77 => simp only [List.getElem?_toArray, List.getElem?_cons_succ, List.getElem?_cons_zero]; rfl
      case hd77 => rfl
      case hw77 => kernel_rfl
      case hy77 => intro W hW; (try dsimp only at hW); go_simp <;> with_reducible rfl
      case hQ77 => exact fun _ _ _ h => h
      try simp only [Act.put, List.setIfInBounds_toArray, List.set_cons_zero, List.set_cons_succ]
      refine wpAnyH_ready (rs := [36]) (by kernel_rfl) (by simp) ?_
      refine AllReadyH.cons rfl (fun K hK => ?_) AllReadyH.nil
      go_simp
      refine (HC3.out _ (ht.same (Hb10.out)) (HV10.out)).mono ?_
      rintro e w11 ⟨rfl, hb'⟩
      have hb : Below w10.heap.size w10 w11 := ⟨hb'.os, hb'.tape, hb'.output, hb'.size, hb'.block⟩
      have Hk11 := Lib.hid ((hb.block _ (lt_of Hk10.out)).trans Hk10.out)
      have Hq11 := Lib.hid ((hb.block _ (lt_of Hq10.out)).trans Hq10.out)
      have HX11 := Lib.hid ((hb.block _ (lt_of HX10.out)).trans HX10.out)
      have HV11 := Lib.hid (HV10.out.below hb)
      have Hb11 := Lib.hid (Hb10.out.next hb)
      clear hb hb' hHeld
      go_wp2_with fail
      refine hK.out _ _ ⟨job_cells (w := w11) Hk11.out, ⟨cell_of (w := w11) Hq11.out 0, cell_of (w := w11) Hq11.out 1⟩, sigC (w := w11) HX11.out⟩ (fun hHeld => ?_)
      clear hK K
      try simp only [Act.put, List.setIfInBounds_toArray, List.set_cons_zero, List.set_cons_succ]
      refine wpAnyH_ready (rs := [42]) (by kernel_rfl) (by simp) ?_
      refine AllReadyH.cons rfl (fun K hK => ?_) AllReadyH.nil
      go_simp
      refine (HR3.out _ (HV11.out)).mono ?_
      rintro e w12 ⟨rfl, hb'⟩
      have hb : Below w11.heap.size w11 w12 := ⟨hb'.os, hb'.tape, hb'.output, hb'.size, hb'.block⟩
      have Hk12 := Lib.hid ((hb.block _ (lt_of Hk11.out)).trans Hk11.out)
      have Hq12 := Lib.hid ((hb.block _ (lt_of Hq11.out)).trans Hq11.out)
      have HX12 := Lib.hid ((hb.block _ (lt_of HX11.out)).trans HX11.out)
      have HV12 := Lib.hid (HV11.out.below hb)
      have Hb12 := Lib.hid (Hb11.out.next hb)
      clear hb hb' hHeld
      go_wp2_with fail
      refine hK.out _ _ ⟨job_cells (w := w12) Hk12.out, ⟨cell_of (w := w12) Hq12.out 0, cell_of (w := w12) Hq12.out 1⟩, sigC (w := w12) HX12.out⟩ (fun hHeld => ?_)
      clear hK K
      try simp only [Act.put, List.setIfInBounds_toArray, List.set_cons_zero, List.set_cons_succ]
      refine take_at 43 117 (oi := ?o78) (v := ?v78) ?hi78 ?hd78 (by kernel_rfl) (by kernel_rfl) (by kernel_rfl) ?hQ78 ?hw78 ?hy78 (by assumption) ?rest78
      case hi78 => simp only [List.getElem?_toArray, List.getElem?_cons_succ, List.getElem?_cons_zero]; rfl
      case hd78 => rfl
      case hw78 => kernel_rfl
      case hy78 => intro W hW; (try dsimp only at hW); go_simp <;> with_reducible rfl
      case hQ78 => exact fun _ _ _ h => h
      try simp only [Act.put, List.setIfInBounds_toArray, List.set_cons_zero, List.set_cons_succ]
      refine take_at 44 118 (oi := ?o79) (v := ?v79) ?hi79 ?hd79 (by kernel_rfl) (by kernel_rfl) (by kernel_rfl) ?hQ79 ?hw79 ?hy79 (by assumption) ?rest79
      case hi79 => simp only [List.getElem?_toArray, List.getElem?_cons_succ, List.getElem?_cons_zero]; rfl
      case hd79 => rfl
      case hw79 => kernel_rfl
      case hy79 => intro W hW; (try dsimp only at hW); go_simp <;> with_reducible rfl
      case hQ79 => exact fun _ _ _ h => h
      try simp only [Act.put, List.setIfInBounds_toArray, List.set_cons_zero, List.set_cons_succ]
      refine take_at 45 6 (oi := ?o80) (v := ?v80) ?hi80 ?hd80 (by kernel_rfl) (by kernel_rfl) (by kernel_rfl) ?hQ80 ?hw80 ?hy80 (by assumption) ?rest80
      case hi80 => simp only [List.getElem?_toArray, List.getElem?_cons_succ, List.getElem?_cons_zero]; rfl
      case hd80 => rfl
      case hw80 => kernel_rfl
      case hy80 => intro W hW; (try dsimp only at hW); go_simp <;> with_reducible rfl
      case hQ80 => exact fun _ _ _ h => h
      try simp only [Act.put, List.setIfInBounds_toArray, List.set_cons_zero, List.set_cons_succ]
      refine wpAnyH_done (by kernel_rfl) ?_ _
      simp only [Exit.then]
      go_wp2
      go_ret
      exact ⟨rfl, Hb12.out⟩

set_option maxRecDepth 100000 in
theorem contract (H : Type) (enc : TypeId × Value → H) (W : World) (base : Nat) (args : Array Value) (ds gs : List (DataW H)) (before : List MemPlace)
    (hval : ∀ (j : Nat) t v, Tryd.f4.params[j]? = some t → args[j]? = some v → Value.okWide Tryd.prog W .any base t v)
    (hW : DataW.Whole enc Tryd.prog Tryd.f4.params.toList Rows.lamportChecksSpec.vars false W args.toList ds gs before) (hL : laidMetH Tryd.prog Rows.lamportChecksRow.laid W) :
    Calls Tryd.prog 4 args W fun e W' => ∃ v, e = .returned v ∧ Rows.lamportChecksSpec.post enc Tryd.prog Tryd.f4 false true false false W args v W' := by
  have hW' := hW
  obtain ⟨p, q, hA0, hV, rfl, hfz, hnd⟩ := hW
  have hA : DataW.TrodAll enc Tryd.prog W 0 (fun _ => true) true Tryd.f4.params.toList args.toList ds p := hA0
  rw [Tryd.params4] at hA hval
  obtain ⟨v0, vs0, d0, ds0, p0, q0, hargs, rfl, rfl, h0, r0⟩ := trodAll_cons hA
  obtain ⟨v1, vs1, d1, ds1, p1, q1, rfl, rfl, rfl, h1, r1⟩ := trodAll_cons r0
  obtain ⟨v2, vs2, d2, ds2, p2, q2, rfl, rfl, rfl, h2, r2⟩ := trodAll_cons r1
  obtain ⟨rfl, rfl, rfl⟩ := trodAll_nil r2
  obtain rfl : args = #[v0, v1, v2] := by cases args; simp_all
  obtain ⟨rfl, rfl⟩ := trodVars_none hV
  obtain ⟨seed, m, b, h, i, how, at_, rfl, hsl, hml, hhow, hat, _⟩ := job_in (hval 0 31 v0 rfl rfl) h0
  obtain ⟨other, rfl, _⟩ := str_in (hval 1 9 v1 rfl rfl) h1
  obtain ⟨kb, kh, rfl⟩ := key_in (hval 2 23 v2 rfl rfl) h2
  refine (walk seed m other b h i kb kh how at_ W hsl hhow hat (tab_of hL)).mono fun e W' ⟨he, hb⟩ => ⟨_, he, ?_⟩
  exact law_post hW' rfl (by kernel_rfl) (by kernel_rfl) rfl hb

theorem laid_met (os : Os) : laidMet Tryd.prog Rows.lamportChecksRow.laid ((laidWorld os).forCall (fun _ _ => 0) ⟨#[], #[.agg #[.string ⟨#[]⟩, .string ⟨#[]⟩, .int .i64 0, .int .i64 0, .int .i64 0, .int .u8 0, .int .u8 0], .string ⟨#[]⟩, .agg #[.int .i64 0, .int .i64 0]], []⟩).memory :=
  laidMet_of_run' 8 (by kernel_rfl) (by kernel_rfl)
theorem reads (os : Os) {H : Type} (enc : TypeId × Value → H) : ∃ places, DataW.whole enc Tryd.prog ((laidWorld os).forCall (fun _ _ => 0) ⟨#[], #[.agg #[.string ⟨#[]⟩, .string ⟨#[]⟩, .int .i64 0, .int .i64 0, .int .i64 0, .int .u8 0, .int .u8 0], .string ⟨#[]⟩, .agg #[.int .i64 0, .int .i64 0]], []⟩).memory Tryd.f4.params.toList Rows.lamportChecksSpec.vars false (#[.agg #[.string ⟨#[]⟩, .string ⟨#[]⟩, .int .i64 0, .int .i64 0, .int .i64 0, .int .u8 0, .int .u8 0], .string ⟨#[]⟩, .agg #[.int .i64 0, .int .i64 0]] : Array Value).toList 8 = some ([.agg [.lit (.string []), .lit (.string []), .agg [.lit (.int .i64 0), .lit (.int .i64 0)], .lit (.int .i64 0), .lit (.int .u8 0), .lit (.int .u8 0)], .lit (.string []), .agg [.lit (.int .i64 0), .lit (.int .i64 0)]], [], places) :=
  ⟨[], by kernel_rfl⟩

set_option maxRecDepth 100000 in
theorem lifted (os : Os) (started : os.Started) (H : Type) (enc : TypeId × Value → H) (F : Stop.Interp) :
    ReturnsInHanded {} Tryd.checked os 4 .any ((OpenSpec.ofChange Rows.lamportChecksSpec).preRow enc Tryd.prog Tryd.f4 Rows.lamportChecksRow.domain false Rows.lamportChecksRow.laid) (((OpenSpec.ofChange Rows.lamportChecksSpec).at F).post enc Tryd.prog Tryd.f4 false true false false) := by
  obtain ⟨places, hx⟩ := reads os enc
  refine returnsInHanded_of_row (C := Tryd.checked) (s := OpenSpec.ofChange Rows.lamportChecksSpec) own started (by kernel_rfl) Tryd.func4
    (witness_row_at (enc := enc) (C := Tryd.checked) false (laidWorld os) #[.agg #[.string ⟨#[]⟩, .string ⟨#[]⟩, .int .i64 0, .int .i64 0, .int .i64 0, .int .u8 0, .int .u8 0], .string ⟨#[]⟩, .agg #[.int .i64 0, .int .i64 0]] rfl (by kernel_rfl) (by kernel_rfl) (by kernel_rfl)
      (OpenSpec.preRow_of_cond 8 hx (by kernel_rfl) (fun k hk => by cases hk) (by kernel_rfl) (laid_met os))) ?_
  intro W base args ds gs before hval hW _ _ _ hL _ _
  exact contract H enc W base args ds gs before hval hW hL

set_option maxRecDepth 100000 in
theorem said : Rows.LamportChecksSaid :=
  OpenClaim.holds_of_cond 4 Tryd.f4 rfl rfl rfl rfl rfl rfl rfl ⟨rfl, rfl, rfl, rfl, rfl⟩ rfl rfl rfl rfl rfl (by kernel_rfl) Tryd.func4 (by kernel_rfl)
    (of_decide_eq_true (by kernel_rfl)) (by unfold Func.isWrapper; first | (rw [if_pos (by decide +kernel)]; kernel_rfl) | (rw [if_neg (by decide +kernel)]; exact ⟨rfl, rfl⟩))
    (fun os started H enc _ F => by rw [OpenClaim.pre_eq_preRow]; exact lifted os started H enc F)

/-- No parameter wants a stand-in; the program's own looks are off. -/
theorem plain (f : FuncId) (fn : Func) (hf : Tryd.pinned.checked.prog.funcNamed "licit/licitlaw48.LamportChecks" = some f) (hfn : Tryd.pinned.checked.prog.funcs[f]? = some fn) :
    false = Tryd.pinned.checked.prog.looks [] ∧ ∀ (j : Nat) t, fn.params[j]? = some t → Tryd.pinned.checked.prog.wantsStandIn t = false := by
  obtain rfl : f = 4 := Option.some.inj ((show Tryd.prog.funcNamed "licit/licitlaw48.LamportChecks" = some 4 by kernel_rfl).symm.trans hf) |>.symm
  obtain rfl : fn = Tryd.f4 := (Option.some.inj (Tryd.func4.symm.trans hfn)).symm
  refine ⟨by kernel_rfl, fun j t ht => ?_⟩
  have hall : Tryd.f4.params.toList.all (fun t => !Tryd.prog.wantsStandIn t) = true := by kernel_rfl
  have := List.all_eq_true.1 hall t (Array.mem_toList_iff.2 (Array.mem_of_getElem? ht))
  exact (by simpa using this : Tryd.prog.wantsStandIn t = false)

theorem card : Rows.LamportChecksCardSaid :=
  Claim7.holds_tied_plain_at .later [] _ _ _ _ said (fun _ h => by cases h) (by kernel_rfl) (fun _ h => by cases h) lamportChecks_row_tie rfl ⟨rfl, rfl⟩ (by kernel_rfl) rfl plain (by kernel_rfl)

end Go.Proofs.YtdkjehagkmkokaaDoor.lawChecks
