/- The card of CodecReads is proved: for every string and every list of acts the law returns true; the conditions are those of the given row. -/
import Derived.Test.YtadbkhijieinkaaDoorLawKit
import Derived.Test.YtadbkhijieinkaaDoorWkAwake
import Derived.Test.YtadbkhijieinkaaDoorWkRefL
import Derived.Deep.RegionHeld3
import Derived.Deep.DrawnRows
import Derived.Deep.Strs
namespace Go.Proofs.YtadbkhijieinkaaDoor.lawReads
open Go Go.RowKit Licit
open Go.ChangeShapes Go.WideShapes Go.ChangeAt
open Go.ChangeMaps (open_string)

abbrev Act := Int × Int × Int
def cellsOf (a : Act) : List Value := [.int .u8 a.1, .int .i64 a.2.1, .int .i64 a.2.2]

theorem cells_at3 (acts : List Act) (k : Nat) (hk : k < acts.length) (j : Nat) (hj : j < 3) : (acts.flatMap cellsOf)[k * 3 + j]? = (cellsOf acts[k])[j]? := by
  induction acts generalizing k with
  | nil => simp at hk
  | cons x l ih =>
    cases k with
    | zero =>
      rw [List.flatMap_cons, List.getElem?_append_left (by simp [cellsOf]; omega)]
      simp
    | succ k =>
      rw [List.flatMap_cons, List.getElem?_append_right (by simp [cellsOf]; omega)]
      rw [show (k + 1) * 3 + j - (cellsOf x).length = k * 3 + j by simp [cellsOf]; omega]
      exact ih k (by simpa using hk)

set_option maxRecDepth 100000 in
set_option maxHeartbeats 3200000 in
theorem walk (s : Bs) (v : Value) (acts : List Act) (w : World) (hs : s.length ≤ maxLen) (h : IsSlW 3 v acts.length (acts.flatMap cellsOf) w) (hk : ∀ a ∈ acts, 0 ≤ a.1 ∧ a.1 ≤ 255) (ht : Tab w) :
    Calls Tryd.prog 5 #[.string (B s), v] w fun e w' => e = .returned (.bool true) ∧ Below w.heap.size w w' := by
  obtain ⟨a, cap, rfl⟩ := h.form
  have hm := h.1
  unfold maxLen at hm hs
  have hss : (B s).size = s.length := rfl
  by_cases hg : 3000 < s.length ∨ 20 < acts.length
  · by_cases g0 : 3000 < s.length
    · clear hg
      go_enter Tryd.func5, Tryd.ntmps5
      go_wp2_with (go_at_call 10; refine (awake_any _ ht).mono ?_; rintro e w1 ⟨rfl, hb⟩)
      go_ret
      exact ⟨rfl, hb⟩
    · have g1 : 20 < acts.length := by omega
      clear hg
      go_enter Tryd.func5, Tryd.ntmps5
      go_wp2_with (go_at_call 10; refine (awake_any _ ht).mono ?_; rintro e w1 ⟨rfl, hb⟩)
      go_ret
      exact ⟨rfl, hb⟩
  · have g1 : s.length ≤ 3000 := by omega
    have g2 : acts.length ≤ 20 := by omega
    have H := Lib.hid h
    have HK := Lib.hid hk
    clear hg h hk
    go_enter Tryd.func5, Tryd.ntmps5
    go_wp2_with (first
      | (go_at_call 10; refine (awake_any _ ht).mono ?_; rintro e w1 ⟨rfl, hb⟩; have Hb1 := Lib.hid hb; have hsz1 := hb.size; clear hb)
      | (go_at_call 19; refine (newReader_any _ _).mono ?_; rintro e w2 ⟨rfl, rfl⟩))
    have hR : Rdr w1.heap.size (B s) 0 ((w1.alloc (.cells #[.string (B s), .int .i64 0] 63)).alloc (.cells #[.string (B s), .int .i64 0] 38)) := Rd.alloc (new_of _ _) _
    have hQ : RRdr (w1.heap.size + 1) (B s) 0 ((w1.alloc (.cells #[.string (B s), .int .i64 0] 63)).alloc (.cells #[.string (B s), .int .i64 0] 38)) := by
      have := new_of (w1.alloc (.cells #[.string (B s), .int .i64 0] 63)) (.cells #[.string (B s), .int .i64 0] 38)
      rwa [World.size_alloc] at this
    have HR := Lib.hid hR
    have HQ := Lib.hid hQ
    have Hb3 := Lib.hid ((Hb1.out.alloc hsz1 (.cells #[.string (B s), .int .i64 0] 63)).alloc (by simp; omega) (.cells #[.string (B s), .int .i64 0] 38))
    clear hR hQ
    go_loopw [29] (fun i wr => ∃ (k : Nat) (st : St), k ≤ acts.length ∧ i = .int .i64 k ∧ Rdr w1.heap.size (B st.1) st.2 wr ∧ RRdr (w1.heap.size + 1) (B st.1) st.2 wr ∧ st.1.length ≤ 3000 ∧ Below w.heap.size w wr) (fun i _ => acts.length - (intOf i).toNat)
    case atStart => exact ⟨0, (s, 0), Nat.zero_le _, rfl, HR.out, HQ.out, g1, Hb3.out⟩
    case round =>
      obtain ⟨k, st, hk, rfl, hR, hQ, hst, hbr⟩ := hrel
      have Hbr := Lib.hid hbr
      have HR1 := Lib.hid hR
      have HQ1 := Lib.hid hQ
      have hszr := hQ.lt
      by_cases hlt : k < acts.length
      · have hK := HK.out acts[k] (List.getElem_mem hlt)
        obtain ⟨kd, lo, hi, hact⟩ : ∃ kd lo hi, acts[k] = (kd, lo, hi) := ⟨_, _, _, rfl⟩
        obtain ⟨b, off, hab, hbw, hx⟩ := H.out.at (by decide) hlt
        have x0 : wr.cell? ⟨b, off + k * 3, none⟩ = some (.int .u8 kd) := by
          have := hx 0 (by decide)
          rw [cells_at3 acts k hlt 0 (by decide), hact, Nat.add_zero] at this
          rw [hbr.cell (p := ⟨b, off + k * 3, none⟩) hbw, this]; rfl
        have x1 : wr.cell? ⟨b, off + k * 3 + 1, none⟩ = some (.int .i64 lo) := by
          have := hx 1 (by decide)
          rw [cells_at3 acts k hlt 1 (by decide), hact] at this
          rw [hbr.cell (p := ⟨b, off + k * 3 + 1, none⟩) hbw, Nat.add_assoc, this]; rfl
        have x2 : wr.cell? ⟨b, off + k * 3 + 2, none⟩ = some (.int .i64 hi) := by
          have := hx 2 (by decide)
          rw [cells_at3 acts k hlt 2 (by decide), hact] at this
          rw [hbr.cell (p := ⟨b, off + k * 3 + 2, none⟩) hbw, Nat.add_assoc, this]; rfl
        rw [hact] at hK
        obtain ⟨hk0, hk1⟩ := hK
        simp only at hk0 hk1
        have i0 : (0 : Int) ≤ (k : Int) := by omega
        have i1 : (k : Int) < (acts.length : Int) := by omega
        have Hact := Lib.hid hact
        have Hab := Lib.hid hab
        clear hbr hR hQ hx hact
        rw [hab]
        clear hab
        have n1 : ¬ w1.heap.size + 1 = w1.heap.size := by omega
        have n2 : ¬ wr.heap.size = w1.heap.size := by omega
        have n3 : ¬ wr.heap.size = w1.heap.size + 1 := by omega
        have n4 : ¬ w1.heap.size = w1.heap.size + 1 := by omega
        have hst' : st.1.length ≤ maxLen := by unfold maxLen; omega
        have hst2 : st.1.length ≤ 281474976710656 := by omega
        go_wp2_with fail
        · go_region_held3 (fun w' => w'.cell? ⟨wr.heap.size, 1, none⟩ = some (.int .i64 lo) ∧ w'.cell? ⟨wr.heap.size, 2, none⟩ = some (.int .i64 hi))
            (first | go_keep)
            (first
              | (go_at_call 20; refine (number_any w1.heap.size (B st.1) st.2 lo hi _ (by exact (HR1.out.alloc _).drew) hst').mono ?_; rw [B_list]; rintro e wA ⟨rfl, hA, hKA⟩; have HA := Lib.hid hA; have HKA := Lib.hid hKA; have hc1 := (hKA.cell (b := wr.heap.size) (o := 1) (by simp) n2).trans (cell_of (new_of wr _) 1); have hc2 := (hKA.cell (b := wr.heap.size) (o := 2) (by simp) n2).trans (cell_of (new_of wr _) 2); have hszA := hKA.size; simp only [World.size_drew, World.size_alloc] at hszA; clear hA hKA)
              | (go_at_call 21; refine (rnumber_any (w1.heap.size + 1) (B st.1) st.2 lo hi _ (by exact ((HQ1.out.alloc _).drew).kept HKA.out n1) hst').mono ?_; rw [B_list]; rintro e wB ⟨rfl, hB, hKB⟩; have HB := Lib.hid hB; have HKB := Lib.hid hKB; have hd1 := (hKB.cell (b := wr.heap.size) (o := 1) (by omega) n3).trans hc1; have hd2 := (hKB.cell (b := wr.heap.size) (o := 2) (by omega) n3).trans hc2; have hszB := hKB.size; clear hB hKB))
          obtain ⟨st', hst'⟩ : ∃ st' : St, st' = (rdNum lo hi (st.1, st.2)).2 := ⟨_, rfl⟩
          have hle : st'.1.length ≤ 3000 := by rw [hst']; exact Nat.le_trans (rdNum_len _ _ _) hst
          have hRf := HA.out.kept HKB.out n4
          have hQf := HB.out
          rw [← hst'] at hRf hQf
          have c0 := hQf.c0
          have c1 := hQf.c1
          have HRf := Lib.hid hRf
          have HQf := Lib.hid hQf
          have HBf := Lib.hid ((((Hbr.out.alloc (by omega) _).drew).trans (HKA.out.below (by simp; omega) (fun k hk => by show ¬ k = _; omega))).trans (HKB.out.below (by omega) (fun k hk => by show ¬ k = _; omega)))
          clear hRf hQf hst' hc1 hc2 hd1 hd2
          go_wp2_with fail
          go_quiet ((first
            | (go_at_call 30; exact Calls.quiet_of_same ((err_any w1.heap.size (B st'.1) st'.2 _ (by exact HRf.out)).mono (fun _ _ h => ⟨h.1, h.2.symm⟩)))
            | (go_at_call 31; exact Calls.quiet_of_same ((left_any w1.heap.size (B st'.1) st'.2 _ (by exact HRf.out)).mono (fun _ _ h => ⟨h.1, h.2.symm⟩)))
            | (go_at_call 32; exact Calls.quiet_of_same ((close_any w1.heap.size (B st'.1) st'.2 _ (by exact HRf.out)).mono (fun _ _ h => ⟨h.1, h.2.symm⟩)))
            | (go_at_call 33; exact Calls.quiet_of_same ((rclose_any (w1.heap.size + 1) (B st'.1) st'.2 _ (by exact HQf.out)).mono (fun _ _ h => ⟨h.1, h.2.symm⟩)))))
          go_wp2
          go_roundw
          case rel => exact ⟨k + 1, st', by omega, by go_num, HRf.out, HQf.out, hle, below_drewN HBf.out _⟩
          case measure => simp [intOf]; omega
        · go_region_held3 (fun w' => w'.cell? ⟨wr.heap.size, 1, none⟩ = some (.int .i64 lo) ∧ w'.cell? ⟨wr.heap.size, 2, none⟩ = some (.int .i64 hi))
            (first | go_keep)
            (first
              | (go_at_call 22; refine (text_any w1.heap.size (B st.1) st.2 hi _ (by exact (HR1.out.alloc _).drew) hst2).mono ?_; rw [B_list]; rintro e wA ⟨rfl, hA, hKA⟩; have HA := Lib.hid hA; have HKA := Lib.hid hKA; have hc1 := (hKA.cell (b := wr.heap.size) (o := 1) (by simp) n2).trans (cell_of (new_of wr _) 1); have hc2 := (hKA.cell (b := wr.heap.size) (o := 2) (by simp) n2).trans (cell_of (new_of wr _) 2); have hszA := hKA.size; simp only [World.size_drew, World.size_alloc] at hszA; clear hA hKA)
              | (go_at_call 23; refine (rtext_any (w1.heap.size + 1) (B st.1) st.2 hi _ (by exact ((HQ1.out.alloc _).drew).kept HKA.out n1) hst2).mono ?_; rw [B_list]; rintro e wB ⟨rfl, hB, hKB⟩; have HB := Lib.hid hB; have HKB := Lib.hid hKB; have hd1 := (hKB.cell (b := wr.heap.size) (o := 1) (by omega) n3).trans hc1; have hd2 := (hKB.cell (b := wr.heap.size) (o := 2) (by omega) n3).trans hc2; have hszB := hKB.size; clear hB hKB))
          obtain ⟨st', hst'⟩ : ∃ st' : St, st' = (rdText hi (st.1, st.2)).2 := ⟨_, rfl⟩
          have hle : st'.1.length ≤ 3000 := by rw [hst']; exact Nat.le_trans (rdText_len _ _) hst
          have hRf := HA.out.kept HKB.out n4
          have hQf := HB.out
          rw [← hst'] at hRf hQf
          have c0 := hQf.c0
          have c1 := hQf.c1
          have HRf := Lib.hid hRf
          have HQf := Lib.hid hQf
          have HBf := Lib.hid ((((Hbr.out.alloc (by omega) _).drew).trans (HKA.out.below (by simp; omega) (fun k hk => by show ¬ k = _; omega))).trans (HKB.out.below (by omega) (fun k hk => by show ¬ k = _; omega)))
          clear hRf hQf hst' hc1 hc2 hd1 hd2
          go_wp2_with fail
          go_quiet ((first
            | (go_at_call 30; exact Calls.quiet_of_same ((err_any w1.heap.size (B st'.1) st'.2 _ (by exact HRf.out)).mono (fun _ _ h => ⟨h.1, h.2.symm⟩)))
            | (go_at_call 31; exact Calls.quiet_of_same ((left_any w1.heap.size (B st'.1) st'.2 _ (by exact HRf.out)).mono (fun _ _ h => ⟨h.1, h.2.symm⟩)))
            | (go_at_call 32; exact Calls.quiet_of_same ((close_any w1.heap.size (B st'.1) st'.2 _ (by exact HRf.out)).mono (fun _ _ h => ⟨h.1, h.2.symm⟩)))
            | (go_at_call 33; exact Calls.quiet_of_same ((rclose_any (w1.heap.size + 1) (B st'.1) st'.2 _ (by exact HQf.out)).mono (fun _ _ h => ⟨h.1, h.2.symm⟩)))))
          go_wp2
          go_roundw
          case rel => exact ⟨k + 1, st', by omega, by go_num, HRf.out, HQf.out, hle, below_drewN HBf.out _⟩
          case measure => simp [intOf]; omega
        · go_region_held3 (fun w' => w'.cell? ⟨wr.heap.size, 1, none⟩ = some (.int .i64 lo) ∧ w'.cell? ⟨wr.heap.size, 2, none⟩ = some (.int .i64 hi))
            (first | go_keep)
            (first
              | (go_at_call 25; refine (numbers_any w1.heap.size (B st.1) st.2 lo hi _ (by exact (HR1.out.alloc _).drew) hst2).mono ?_; rw [B_list]; rintro e wA ⟨vA, rfl, hoA, hA, hKA⟩; have HOA := Lib.hid hoA; clear hoA; have HA := Lib.hid hA; have HKA := Lib.hid hKA; have hc1 := (hKA.cell (b := wr.heap.size) (o := 1) (by simp) n2).trans (cell_of (new_of wr _) 1); have hc2 := (hKA.cell (b := wr.heap.size) (o := 2) (by simp) n2).trans (cell_of (new_of wr _) 2); have hszA := hKA.size; simp only [World.size_drew, World.size_alloc] at hszA; clear hA hKA)
              | (go_at_call 26; refine (rnumbers_any (w1.heap.size + 1) (B st.1) st.2 lo hi _ (by exact ((HQ1.out.alloc _).drew).kept HKA.out n1) hst2).mono ?_; rw [B_list]; rintro e wB ⟨vB, rfl, hoB, hB, hKB⟩; have HSA := Lib.hid (IsSl.of_owns (by rw [List.length_map]; exact (by simpa using ownsRow_kept HOA.out hKB (fun q hq => by show ¬ q = _; simp at hq; omega))) (by rw [List.length_map]; exact Nat.le_trans (rdMany_len _ _) (by decide))); have HSB := Lib.hid (IsSl.of_owns hoB (by rw [List.length_map]; exact Nat.le_trans (rdMany_len _ _) (by decide))); clear hoB; have HB := Lib.hid hB; have HKB := Lib.hid hKB; have hd1 := (hKB.cell (b := wr.heap.size) (o := 1) (by omega) n3).trans hc1; have hd2 := (hKB.cell (b := wr.heap.size) (o := 2) (by omega) n3).trans hc2; have hszB := hKB.size; clear hB hKB)
              | (go_at_call 24; refine (sameI_any vA vB _ _ _ HSA.out HSB.out).mono ?_; rw [decide_eq_true rfl]; rintro e wC ⟨rfl, hbC⟩; have HBC := Lib.hid hbC; have he1 := (hbC.cell (p := ⟨wr.heap.size, 1, none⟩) (by simp; omega)).trans hd1; have he2 := (hbC.cell (p := ⟨wr.heap.size, 2, none⟩) (by simp; omega)).trans hd2; have hszC := hbC.size; clear hbC))
          obtain ⟨st', hst'⟩ : ∃ st' : St, st' = (rdNums lo hi (st.1, st.2)).2 := ⟨_, rfl⟩
          have hle : st'.1.length ≤ 3000 := by rw [hst']; exact Nat.le_trans (rdMany_st _ (rdNum_len lo hi) _) hst
          have hRf := (HA.out.kept HKB.out n4).below HBC.out
          have hQf := HB.out.below HBC.out
          rw [← hst'] at hRf hQf
          have c0 := hQf.c0
          have c1 := hQf.c1
          have HRf := Lib.hid hRf
          have HQf := Lib.hid hQf
          have HBf := Lib.hid ((((Hbr.out.alloc (by omega) _).drew).trans (HKA.out.below (by simp; omega) (fun k hk => by show ¬ k = _; omega))).trans (HKB.out.below (by omega) (fun k hk => by show ¬ k = _; omega)) |>.trans (HBC.out.mono (by omega)))
          clear hRf hQf hst' hc1 hc2 hd1 hd2 he1 he2
          go_wp2_with fail
          go_quiet ((first
            | (go_at_call 30; exact Calls.quiet_of_same ((err_any w1.heap.size (B st'.1) st'.2 _ (by exact HRf.out)).mono (fun _ _ h => ⟨h.1, h.2.symm⟩)))
            | (go_at_call 31; exact Calls.quiet_of_same ((left_any w1.heap.size (B st'.1) st'.2 _ (by exact HRf.out)).mono (fun _ _ h => ⟨h.1, h.2.symm⟩)))
            | (go_at_call 32; exact Calls.quiet_of_same ((close_any w1.heap.size (B st'.1) st'.2 _ (by exact HRf.out)).mono (fun _ _ h => ⟨h.1, h.2.symm⟩)))
            | (go_at_call 33; exact Calls.quiet_of_same ((rclose_any (w1.heap.size + 1) (B st'.1) st'.2 _ (by exact HQf.out)).mono (fun _ _ h => ⟨h.1, h.2.symm⟩)))))
          go_wp2
          go_roundw
          case rel => exact ⟨k + 1, st', by omega, by go_num, HRf.out, HQf.out, hle, below_drewN HBf.out _⟩
          case measure => simp [intOf]; omega
        · go_region_held3 (fun w' => w'.cell? ⟨wr.heap.size, 1, none⟩ = some (.int .i64 lo) ∧ w'.cell? ⟨wr.heap.size, 2, none⟩ = some (.int .i64 hi))
            (first | go_keep)
            (first
              | (go_at_call 28; refine (texts_any w1.heap.size (B st.1) st.2 hi _ (by exact (HR1.out.alloc _).drew) hst2).mono ?_; rw [B_list]; rintro e wA ⟨vA, rfl, hoA, hA, hKA⟩; have HOA := Lib.hid hoA; clear hoA; have HA := Lib.hid hA; have HKA := Lib.hid hKA; have hc1 := (hKA.cell (b := wr.heap.size) (o := 1) (by simp) n2).trans (cell_of (new_of wr _) 1); have hc2 := (hKA.cell (b := wr.heap.size) (o := 2) (by simp) n2).trans (cell_of (new_of wr _) 2); have hszA := hKA.size; simp only [World.size_drew, World.size_alloc] at hszA; clear hA hKA)
              | (go_at_call 29; refine (rtexts_any (w1.heap.size + 1) (B st.1) st.2 hi _ (by exact ((HQ1.out.alloc _).drew).kept HKA.out n1) hst2).mono ?_; rw [B_list]; rintro e wB ⟨vB, rfl, hoB, hB, hKB⟩; have HSA := Lib.hid (IsSl.of_owns (by rw [List.length_map]; exact (by simpa using ownsRow_kept HOA.out hKB (fun q hq => by show ¬ q = _; simp at hq; omega))) (by rw [List.length_map]; exact Nat.le_trans (rdMany_len _ _) (by decide))); have HSB := Lib.hid (IsSl.of_owns hoB (by rw [List.length_map]; exact Nat.le_trans (rdMany_len _ _) (by decide))); clear hoB; have HB := Lib.hid hB; have HKB := Lib.hid hKB; have hd1 := (hKB.cell (b := wr.heap.size) (o := 1) (by omega) n3).trans hc1; have hd2 := (hKB.cell (b := wr.heap.size) (o := 2) (by omega) n3).trans hc2; have hszB := hKB.size; clear hB hKB)
              | (go_at_call 27; refine (sameS_any vA vB _ _ _ HSA.out HSB.out).mono ?_; rw [decide_eq_true rfl]; rintro e wC ⟨rfl, hbC⟩; have HBC := Lib.hid hbC; have he1 := (hbC.cell (p := ⟨wr.heap.size, 1, none⟩) (by simp; omega)).trans hd1; have he2 := (hbC.cell (p := ⟨wr.heap.size, 2, none⟩) (by simp; omega)).trans hd2; have hszC := hbC.size; clear hbC))
          obtain ⟨st', hst'⟩ : ∃ st' : St, st' = (rdTexts hi (st.1, st.2)).2 := ⟨_, rfl⟩
          have hle : st'.1.length ≤ 3000 := by rw [hst']; exact Nat.le_trans (rdMany_st _ (rdText_len hi) _) hst
          have hRf := (HA.out.kept HKB.out n4).below HBC.out
          have hQf := HB.out.below HBC.out
          rw [← hst'] at hRf hQf
          have c0 := hQf.c0
          have c1 := hQf.c1
          have HRf := Lib.hid hRf
          have HQf := Lib.hid hQf
          have HBf := Lib.hid ((((Hbr.out.alloc (by omega) _).drew).trans (HKA.out.below (by simp; omega) (fun k hk => by show ¬ k = _; omega))).trans (HKB.out.below (by omega) (fun k hk => by show ¬ k = _; omega)) |>.trans (HBC.out.mono (by omega)))
          clear hRf hQf hst' hc1 hc2 hd1 hd2 he1 he2
          go_wp2_with fail
          go_quiet ((first
            | (go_at_call 30; exact Calls.quiet_of_same ((err_any w1.heap.size (B st'.1) st'.2 _ (by exact HRf.out)).mono (fun _ _ h => ⟨h.1, h.2.symm⟩)))
            | (go_at_call 31; exact Calls.quiet_of_same ((left_any w1.heap.size (B st'.1) st'.2 _ (by exact HRf.out)).mono (fun _ _ h => ⟨h.1, h.2.symm⟩)))
            | (go_at_call 32; exact Calls.quiet_of_same ((close_any w1.heap.size (B st'.1) st'.2 _ (by exact HRf.out)).mono (fun _ _ h => ⟨h.1, h.2.symm⟩)))
            | (go_at_call 33; exact Calls.quiet_of_same ((rclose_any (w1.heap.size + 1) (B st'.1) st'.2 _ (by exact HQf.out)).mono (fun _ _ h => ⟨h.1, h.2.symm⟩)))))
          go_wp2
          go_roundw
          case rel => exact ⟨k + 1, st', by omega, by go_num, HRf.out, HQf.out, hle, below_drewN HBf.out _⟩
          case measure => simp [intOf]; omega
      · have c0 := hQ.c0
        have c1 := hQ.c1
        clear hbr hR hQ
        go_wp2_with fail
        go_quiet ((first
          | (go_at_call 30; exact Calls.quiet_of_same ((err_any w1.heap.size (B st.1) st.2 _ (by exact HR1.out)).mono (fun _ _ h => ⟨h.1, h.2.symm⟩)))
          | (go_at_call 31; exact Calls.quiet_of_same ((left_any w1.heap.size (B st.1) st.2 _ (by exact HR1.out)).mono (fun _ _ h => ⟨h.1, h.2.symm⟩)))))
        go_wp2
        go_ret
        exact ⟨rfl, below_drewN Hbr.out _⟩

theorem row_act {H : Type} {enc : TypeId × Value → H} {W : World} {row : List Value} {fuel : Nat} {y : DataW H × List MemPlace} (h : DataW.trod enc Tryd.prog W 0 (fun _ => true) true fuel 40 row = some y) : ∃ a : Act, row = cellsOf a ∧ 0 ≤ a.1 ∧ a.1 ≤ 255 := by
  obtain ⟨y0, y1, y2, n, _, hl, h0, h1, h2⟩ := Go.Deep.trod_struct3 Tryd.underlying40 h
  rw [show Tryd.prog.cellsOf 40 = 3 by kernel_rfl] at hl
  obtain ⟨c0, c1, c2, rfl⟩ : ∃ c0 c1 c2, row = [c0, c1, c2] := by
    match row, hl with
    | [c0, c1, c2], _ => exact ⟨c0, c1, c2, rfl⟩
  have e0 : ∃ z, [c0] = [Value.int .u8 z] ∧ (Lit.int .u8 z).wf = true := by
    obtain ⟨z, a, _, b⟩ := DataW.trod_int Tryd.underlying5 h0
    exact ⟨z, a, b⟩
  have e1 : ∃ z, [c1] = [Value.int .i64 z] := by
    obtain ⟨z, a, _⟩ := DataW.trod_int Tryd.underlying3 h1
    exact ⟨z, a⟩
  have e2 : ∃ z, [c2] = [Value.int .i64 z] := by
    obtain ⟨z, a, _⟩ := DataW.trod_int Tryd.underlying3 h2
    exact ⟨z, a⟩
  obtain ⟨z0, a0, b0⟩ := e0
  obtain ⟨z1, a1⟩ := e1
  obtain ⟨z2, a2⟩ := e2
  simp only [List.cons.injEq, and_true] at a0 a1 a2
  subst a0 a1 a2
  have := bounds_u8 b0
  exact ⟨(z0, z1, z2), rfl, this.1, this.2⟩

theorem rows_acts (rows : List (List Value)) (h : ∀ row ∈ rows, ∃ a : Act, row = cellsOf a ∧ 0 ≤ a.1 ∧ a.1 ≤ 255) : ∃ acts : List Act, acts.length = rows.length ∧ rows.flatten = acts.flatMap cellsOf ∧ ∀ a ∈ acts, 0 ≤ a.1 ∧ a.1 ≤ 255 := by
  induction rows with
  | nil => exact ⟨[], rfl, rfl, by simp⟩
  | cons r rows ih =>
    obtain ⟨a, rfl, ha⟩ := h r (by simp)
    obtain ⟨acts, h1, h2, h3⟩ := ih (fun row hr => h row (by simp [hr]))
    exact ⟨a :: acts, by simp [h1], by simp [h2], fun x hx => by rcases List.mem_cons.1 hx with rfl | hx; exact ha; exact h3 x hx⟩

theorem contract (H : Type) (enc : TypeId × Value → H) (W : World) (base : Nat) (args : Array Value) (ds gs : List (DataW H)) (before : List MemPlace)
    (hval : ∀ (j : Nat) t v, Tryd.f5.params[j]? = some t → args[j]? = some v → Value.okWide Tryd.prog W .any base t v)
    (hW : DataW.Whole enc Tryd.prog Tryd.f5.params.toList Rows.codecReadsSpec.vars false W args.toList ds gs before) (hL : laidMetH Tryd.prog Rows.codecReadsRow.laid W) :
    Calls Tryd.prog 5 args W fun e W' => ∃ v, e = .returned v ∧ Rows.codecReadsSpec.post enc Tryd.prog Tryd.f5 false true false false W args v W' := by
  have hW' := hW
  obtain ⟨p, q, hA0, hV, rfl, hfz, hnd⟩ := hW
  have hA : DataW.TrodAll enc Tryd.prog W 0 (fun _ => true) true Tryd.f5.params.toList args.toList ds p := hA0
  rw [Tryd.params5] at hA hval
  obtain ⟨v0, vs0, d0, ds0, p0, q0, hargs, rfl, rfl, h0, r0⟩ := trodAll_cons hA
  obtain ⟨v1, vs1, d1, ds1, p1, q1, rfl, rfl, rfl, h1, r1⟩ := trodAll_cons r0
  obtain ⟨rfl, rfl, rfl⟩ := trodAll_nil r1
  obtain rfl : args = #[v0, v1] := by cases args; simp_all
  obtain ⟨rfl, rfl⟩ := trodVars_none hV
  obtain ⟨s, rfl, rfl, rfl, hs⟩ := open_string Tryd.underlying9 (hval 0 9 v0 rfl rfl) h0
  obtain ⟨rows, hsl, hrows⟩ := sl_rows (by decide) Tryd.underlying33 (show Tryd.prog.cellsOf 40 = 3 by kernel_rfl) (hval 1 33 v1 rfl rfl) h1
  obtain ⟨acts, ha1, ha2, ha3⟩ := rows_acts rows (fun row hr => by obtain ⟨_, fuel, y, hy⟩ := hrows row hr; exact row_act hy)
  rw [← ha1, ha2] at hsl
  rw [← B_eta s] at hs ⊢
  refine (walk s.data.toList v1 acts W hs hsl ha3 (tab_of hL)).mono fun e W' ⟨he, hb⟩ => ⟨_, he, ?_⟩
  exact law_post hW' rfl (by kernel_rfl) (by kernel_rfl) rfl hb

theorem laid_met (os : Os) : laidMet Tryd.prog Rows.codecReadsRow.laid ((laidWorld os).forCall (fun _ _ => 0) ⟨#[], #[.string ⟨#[]⟩, .slice none 0 0], []⟩).memory :=
  laidMet_of_run' 8 (by kernel_rfl) (by kernel_rfl)
theorem reads (os : Os) {H : Type} (enc : TypeId × Value → H) : ∃ places, DataW.whole enc Tryd.prog ((laidWorld os).forCall (fun _ _ => 0) ⟨#[], #[.string ⟨#[]⟩, .slice none 0 0], []⟩).memory Tryd.f5.params.toList Rows.codecReadsSpec.vars false (#[.string ⟨#[]⟩, .slice none 0 0] : Array Value).toList 8 = some ([.lit (.string []), .nil], [], places) :=
  ⟨[], by kernel_rfl⟩

set_option maxRecDepth 100000 in
theorem lifted (os : Os) (started : os.Started) (H : Type) (enc : TypeId × Value → H) (F : Stop.Interp) :
    ReturnsInHanded {} Tryd.checked os 5 .any ((OpenSpec.ofChange Rows.codecReadsSpec).preRow enc Tryd.prog Tryd.f5 Rows.codecReadsRow.domain false Rows.codecReadsRow.laid) (((OpenSpec.ofChange Rows.codecReadsSpec).at F).post enc Tryd.prog Tryd.f5 false true false false) := by
  obtain ⟨places, hx⟩ := reads os enc
  refine returnsInHanded_of_row (C := Tryd.checked) (s := OpenSpec.ofChange Rows.codecReadsSpec) own started (by kernel_rfl) Tryd.func5
    (witness_row_at (enc := enc) (C := Tryd.checked) false (laidWorld os) #[.string ⟨#[]⟩, .slice none 0 0] rfl (by kernel_rfl) (by kernel_rfl) (by kernel_rfl)
      (OpenSpec.preRow_of_cond 8 hx (by kernel_rfl) (fun k hk => by cases hk) (by kernel_rfl) (laid_met os))) ?_
  intro W base args ds gs before hval hW _ _ _ hL _ _
  exact contract H enc W base args ds gs before hval hW hL

theorem said : Rows.CodecReadsSaid :=
  OpenClaim.holds_of_cond 5 Tryd.f5 rfl rfl rfl rfl rfl rfl rfl ⟨rfl, rfl, rfl, rfl, rfl⟩ rfl rfl rfl rfl rfl (by kernel_rfl) Tryd.func5 (by kernel_rfl)
    (of_decide_eq_true (by kernel_rfl)) (by unfold Func.isWrapper; first | (rw [if_pos (by decide +kernel)]; kernel_rfl) | (rw [if_neg (by decide +kernel)]; exact ⟨rfl, rfl⟩))
    (fun os started H enc _ F => by rw [OpenClaim.pre_eq_preRow]; exact lifted os started H enc F)

/-- No parameter wants a stand-in; the program's own looks are off. -/
theorem plain (f : FuncId) (fn : Func) (hf : Tryd.pinned.checked.prog.funcNamed "licit/licitlaw02.CodecReads" = some f) (hfn : Tryd.pinned.checked.prog.funcs[f]? = some fn) :
    false = Tryd.pinned.checked.prog.looks [] ∧ ∀ (j : Nat) t, fn.params[j]? = some t → Tryd.pinned.checked.prog.wantsStandIn t = false := by
  obtain rfl : f = 5 := Option.some.inj ((show Tryd.prog.funcNamed "licit/licitlaw02.CodecReads" = some 5 by kernel_rfl).symm.trans hf) |>.symm
  obtain rfl : fn = Tryd.f5 := (Option.some.inj (Tryd.func5.symm.trans hfn)).symm
  refine ⟨by kernel_rfl, fun j t ht => ?_⟩
  have hall : Tryd.f5.params.toList.all (fun t => !Tryd.prog.wantsStandIn t) = true := by kernel_rfl
  have := List.all_eq_true.1 hall t (Array.mem_toList_iff.2 (Array.mem_of_getElem? ht))
  exact (by simpa using this : Tryd.prog.wantsStandIn t = false)

theorem card : Rows.CodecReadsCardSaid :=
  Claim7.holds_tied_plain_at .later [] _ _ _ _ said (fun _ h => by cases h) (by kernel_rfl) (fun _ h => by cases h) codecReads_row_tie rfl ⟨rfl, rfl⟩ (by kernel_rfl) rfl plain (by kernel_rfl)

end Go.Proofs.YtadbkhijieinkaaDoor.lawReads
