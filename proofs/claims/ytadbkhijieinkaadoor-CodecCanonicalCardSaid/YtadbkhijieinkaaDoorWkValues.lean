/- few and write of the laws of layer 2 do what the plain functions say; for values whose lists can be read. -/
import Derived.Test.YtadbkhijieinkaaDoorWkList
import Derived.Test.YtadbkhijieinkaaDoorPlainCodecLaws
import Derived.Test.YtadbkhijieinkaaDoorOpn
import Derived.Lib.SmallJoins
namespace Go.Proofs.YtadbkhijieinkaaDoor
open Go Go.RowKit Licit

/-- The values of a law's argument, as they lie. -/
structure Vals (vL vT : Value) (s : Bs) (l : List Int) (t : List Bs) (w : World) : Prop where
  hs : s.length ≤ maxLen
  sl : IsSl vL (l.map vI) w
  st : IsSl vT (t.map vS) w
  bl : ∀ x ∈ l, x ≤ 9223372036854775807
  bt : ∀ x ∈ t, x.length ≤ maxLen
theorem Vals.below {vL vT : Value} {s : Bs} {l : List Int} {t : List Bs} {w w' : World} (h : Vals vL vT s l t w) (hb : Below w.heap.size w w') : Vals vL vT s l t w' :=
  ⟨h.hs, h.sl.below hb, h.st.below hb, h.bl, h.bt⟩

set_option maxRecDepth 100000 in
set_option maxHeartbeats 1600000 in
theorem few_any (n : Int) (vL vT : Value) (s : Bs) (l : List Int) (t : List Bs) (w : World) (h : Vals vL vT s l t w) :
    Calls Tryd.prog 34 #[.agg #[.int .i64 n, .string (B s), vL, vT]] w fun e w' => e = .returned (.bool (fewB s l t)) ∧ Below w.heap.size w w' := by
  obtain ⟨aL, cL, rfl⟩ := h.sl.formMap
  obtain ⟨aT, cT, rfl⟩ := h.st.formMap
  have hs := h.hs
  have hl1 := h.sl.1
  have ht1 := h.st.1
  rw [List.length_map] at hl1 ht1
  unfold maxLen at hs hl1 ht1
  have hss : (B s).size = s.length := rfl
  have hb0 : Below w.heap.size w (w.alloc (.cells #[.int .i64 n, .string (B s), .slice aL l.length cL, .slice aT t.length cT] 51)) := (Below.refl _ _).alloc (Nat.le_refl _) _
  have hst := h.st
  rw [show t.length = (t.map vS).length by simp] at hst
  have HT := Lib.hid hst
  have HB0 := Lib.hid hb0
  clear h hst hb0
  go_enter Tryd.func34, Tryd.ntmps34
  go_wp2
  have z1 : (w.alloc (.cells #[.int .i64 n, .string (B s), .slice aL l.length cL, .slice aT t.length cT] 51)).cell? ⟨w.heap.size, 1, none⟩ = some (.string (B s)) := by rw [cell_of (new_of _ _)]; rfl
  have z2 : (w.alloc (.cells #[.int .i64 n, .string (B s), .slice aL l.length cL, .slice aT t.length cT] 51)).cell? ⟨w.heap.size, 2, none⟩ = some (.slice aL l.length cL) := by rw [cell_of (new_of _ _)]; rfl
  have z3 : (w.alloc (.cells #[.int .i64 n, .string (B s), .slice aL l.length cL, .slice aT t.length cT] 51)).cell? ⟨w.heap.size, 3, none⟩ = some (.slice aT t.length cT) := by rw [cell_of (new_of _ _)]; rfl
  go_loopw [8] (fun i wr => ∃ k : Nat, k ≤ t.length ∧ i = .int .i64 k ∧ Hid (∀ j (hj : j < t.length), j < k → t[j].length ≤ 200) ∧ Below w.heap.size w wr ∧ wr.cell? ⟨w.heap.size, 1, none⟩ = some (.string (B s)) ∧ wr.cell? ⟨w.heap.size, 2, none⟩ = some (.slice aL l.length cL) ∧ wr.cell? ⟨w.heap.size, 3, none⟩ = some (.slice aT t.length cT)) (fun i _ => t.length - (intOf i).toNat)
  case atStart => exact ⟨0, Nat.zero_le _, rfl, fun j hj h => (Nat.not_lt_zero _ h).elim, HB0.out, z1, z2, z3⟩
  case round =>
    clear z1 z2 z3
    obtain ⟨k, hk, rfl, HA, hbr, y1, y2, y3⟩ := hrel
    have HBR := Lib.hid hbr
    by_cases hlt : k < t.length
    · obtain ⟨b, off, hab, hbw, hx⟩ := HT.out.at (k := k) (by simpa using hlt)
      have hx' : wr.cell? ⟨b, off + k, none⟩ = some (.string (B t[k])) := by
        rw [hbr.cell (p := ⟨b, off + k, none⟩) hbw, hx]; simp [vS]
      have hsz : (B t[k]).size = t[k].length := rfl
      have Hab := Lib.hid hab
      have Y3 := Lib.hid y3
      clear hx hbr y3
      by_cases hbig : 200 < t[k].length
      · rw [hab]
        clear hab
        have HF := Lib.hid (show fewB s l t = false from decide_eq_false (fun hh => by have := hh.1 t[k] (List.getElem_mem hlt); omega))
        go_wp2
        go_ret
        exact ⟨by rw [HF.out]; rfl, HBR.out⟩
      · rw [hab]
        clear hab
        go_wp2
        rw [← Hab.out]
        go_roundw
        case rel =>
          refine ⟨k + 1, by omega, by go_num, fun j hj h => ?_, HBR.out, y1, y2, Y3.out⟩
          by_cases hjk : j = k
          · subst hjk; omega
          · exact HA.out j hj (by omega)
        case measure => simp [intOf]; omega
    · have hall : ∀ x ∈ t, x.length ≤ 200 := fun x hx => by
        obtain ⟨j, hj, rfl⟩ := List.getElem_of_mem hx
        exact HA.out j hj (by omega)
      have HALL := Lib.hid hall
      clear hall HA hbr
      by_cases c1 : s.length ≤ 500
      · by_cases c2 : l.length ≤ 30
        · have HF := Lib.hid (show fewB s l t = decide ((t.length : Int) ≤ 10) from by
            by_cases c3 : t.length ≤ 10
            · rw [decide_eq_true (by omega)]; exact decide_eq_true ⟨HALL.out, c1, c2, c3⟩
            · rw [decide_eq_false (by omega)]; exact decide_eq_false (fun hh => c3 hh.2.2.2))
          go_wp2
          go_ret
          exact ⟨by rw [HF.out]; rfl, HBR.out⟩
        · have HF := Lib.hid (show fewB s l t = false from decide_eq_false (fun hh => c2 hh.2.2.1))
          go_wp2
          go_ret
          exact ⟨by rw [HF.out]; rfl, HBR.out⟩
      · have HF := Lib.hid (show fewB s l t = false from decide_eq_false (fun hh => c1 hh.2.1))
        go_wp2
        go_ret
        exact ⟨by rw [HF.out]; rfl, HBR.out⟩

theorem eAll_len {α : Type} (one : α → Bs × Int) (h : ∀ x, (one x).1.length ≤ 65600) : ∀ (l : List α) (acc : Bs), (eAll one l acc).1.length ≤ acc.length + l.length * 65600
  | [], acc => by simp [eAll]
  | x :: l, acc => by
    unfold eAll
    split
    · simp
    · have := eAll_len one h l (acc ++ (one x).1)
      have := h x
      rw [List.length_append] at *
      simp only [List.length_cons]
      omega
theorem eNum_len' (n : Int) : (eNum n).1.length ≤ 65600 := by
  by_cases h : n ≤ 9223372036854775807
  · exact eNum_len n h
  · unfold eNum; rw [if_pos (by omega)]; simp
theorem eList_len {α : Type} (one : α → Bs × Int) (h : ∀ x, (one x).1.length ≤ 65600) (l : List α) : (eList one l).1.length ≤ 70000000 := by
  unfold eList
  split
  · simp
  · have := eAll_len one h l (Lib.decDigits l.length ++ [59])
    have hd := dec_size (n := (l.length : Int)) (by omega) (by omega)
    rw [B_size, Int.toNat_natCast] at hd
    rw [List.length_append, List.length_singleton] at this
    omega

set_option maxRecDepth 100000 in
set_option maxHeartbeats 1600000 in
theorem write_any (n : Int) (vL vT : Value) (s : Bs) (l : List Int) (t : List Bs) (w : World) (h : Vals vL vT s l t w) (ht : Tab w) :
    Calls Tryd.prog 35 #[.agg #[.int .i64 n, .string (B s), vL, vT]] w fun e w' => e = .returned (.tuple #[.string (B (wrS n s l t)), .bool (wrB n s l t)]) ∧ Below w.heap.size w w' := by
  obtain ⟨aL, cL, rfl⟩ := h.sl.formMap
  obtain ⟨aT, cT, rfl⟩ := h.st.formMap
  have hb0 : Below w.heap.size w (w.alloc (.cells #[.int .i64 n, .string (B s), .slice aL l.length cL, .slice aT t.length cT] 51)) := (Below.refl _ _).alloc (Nat.le_refl _) _
  have s1 : (B (eNum n).1).size = (eNum n).1.length := rfl
  have s2 : (B (eText s).1).size = (eText s).1.length := rfl
  have s3 : (B (eList eNum l).1).size = (eList eNum l).1.length := rfl
  have s4 : (B (eList eText t).1).size = (eList eText t).1.length := rfl
  have l1 := eNum_len' n
  have l2 := eText_len s
  have l3 := eList_len eNum eNum_len' l
  have l4 := eList_len eText eText_len t
  have ht0 := ht.same hb0
  have H0 := Lib.hid (h.below hb0)
  have HB0 := Lib.hid hb0
  clear h hb0
  go_enter Tryd.func35, Tryd.ntmps35
  go_wp2_with fail
  refine (encNumber_any n _ ht0).mono ?_
  rintro e w1 ⟨rfl, hb⟩
  have HB1 := Lib.hid (HB0.out.trans (hb.mono HB0.out.size))
  have H1 := Lib.hid (H0.out.below hb)
  have ht1 := ht0.same hb
  have hsz1 : w.heap.size < w1.heap.size := by have := hb.size; simp at this; omega
  have k1 : ∀ o, w1.cell? ⟨w.heap.size, o, none⟩ = (w.alloc (.cells #[.int .i64 n, .string (B s), .slice aL l.length cL, .slice aT t.length cT] 51)).cell? ⟨w.heap.size, o, none⟩ := fun o => hb.cell (p := ⟨w.heap.size, o, none⟩) (by simp)
  have k1a : w1.cell? ⟨w.heap.size, 1, none⟩ = some (.string (B s)) := by rw [k1, cell_of (new_of _ _)]; rfl
  have k1b : w1.cell? ⟨w.heap.size, 2, none⟩ = some (.slice aL l.length cL) := by rw [k1, cell_of (new_of _ _)]; rfl
  have k1c : w1.cell? ⟨w.heap.size, 3, none⟩ = some (.slice aT t.length cT) := by rw [k1, cell_of (new_of _ _)]; rfl
  clear hb k1
  go_wp2_with fail
  refine (encText_any s _ H1.out.hs ht1).mono ?_
  rintro e w2 ⟨rfl, hb⟩
  have HB2 := Lib.hid (HB1.out.trans (hb.mono HB1.out.size))
  have H2 := Lib.hid (H1.out.below hb)
  have ht2 := ht1.same hb
  have hsz2 := hb.size
  have k2b := (hb.cell (p := ⟨w.heap.size, 2, none⟩) hsz1).trans k1b
  have k2c := (hb.cell (p := ⟨w.heap.size, 3, none⟩) hsz1).trans k1c
  clear hb k1a k1b k1c
  go_wp2_with fail
  refine (encNumbers_any _ l _ H2.out.sl H2.out.bl ht2).mono ?_
  rintro e w3 ⟨rfl, hb⟩
  have HB3 := Lib.hid (HB2.out.trans (hb.mono HB2.out.size))
  have H3 := Lib.hid (H2.out.below hb)
  have ht3 := ht2.same hb
  have k3c := (hb.cell (p := ⟨w.heap.size, 3, none⟩) (by show w.heap.size < _; omega)).trans k2c
  clear hb k2b k2c
  go_wp2_with fail
  refine (encTexts_any _ t _ H3.out.st H3.out.bt ht3).mono ?_
  rintro e w4 ⟨rfl, hb⟩
  have HB4 := Lib.hid (HB3.out.trans (hb.mono HB3.out.size))
  clear hb k3c
  by_cases c1 : (eNum n).2 = 0
  · by_cases c2 : (eText s).2 = 0
    · by_cases c3 : (eList eNum l).2 = 0
      · by_cases c4 : (eList eText t).2 = 0
        · have d1 : ((eNum n).2 == 0) = true := by simp [c1]
          have d2 : ((eText s).2 == 0) = true := by simp [c2]
          have d3 : ((eList eNum l).2 == 0) = true := by simp [c3]
          have d4 : ((eList eText t).2 == 0) = true := by simp [c4]
          have HW := Lib.hid (show wrB n s l t = true from decide_eq_true ⟨c1, c2, c3, c4⟩)
          clear c1 c2 c3 c4
          go_wp2
          go_ret2
          exact ⟨by rw [HW.out]; unfold wrS; rw [← B_append, ← B_append, ← B_append]; rfl, HB4.out⟩
        · have d1 : ((eNum n).2 == 0) = true := by simp [c1]
          have d2 : ((eText s).2 == 0) = true := by simp [c2]
          have d3 : ((eList eNum l).2 == 0) = true := by simp [c3]
          have d4 : ((eList eText t).2 == 0) = false := by simpa using c4
          have HW := Lib.hid (show wrB n s l t = false from decide_eq_false (fun hh => c4 hh.2.2.2))
          clear c1 c2 c3 c4
          go_wp2
          go_ret2
          exact ⟨by rw [HW.out]; unfold wrS; rw [← B_append, ← B_append, ← B_append]; rfl, HB4.out⟩
      · have d1 : ((eNum n).2 == 0) = true := by simp [c1]
        have d2 : ((eText s).2 == 0) = true := by simp [c2]
        have d3 : ((eList eNum l).2 == 0) = false := by simpa using c3
        have HW := Lib.hid (show wrB n s l t = false from decide_eq_false (fun hh => c3 hh.2.2.1))
        clear c1 c2 c3
        go_wp2
        go_ret2
        exact ⟨by rw [HW.out]; unfold wrS; rw [← B_append, ← B_append, ← B_append]; rfl, HB4.out⟩
    · have d1 : ((eNum n).2 == 0) = true := by simp [c1]
      have d2 : ((eText s).2 == 0) = false := by simpa using c2
      have HW := Lib.hid (show wrB n s l t = false from decide_eq_false (fun hh => c2 hh.2.1))
      clear c1 c2
      go_wp2
      go_ret2
      exact ⟨by rw [HW.out]; unfold wrS; rw [← B_append, ← B_append, ← B_append]; rfl, HB4.out⟩
  · have d1 : ((eNum n).2 == 0) = false := by simpa using c1
    have HW := Lib.hid (show wrB n s l t = false from decide_eq_false (fun hh => c1 hh.1))
    clear c1
    go_wp2
    go_ret2
    exact ⟨by rw [HW.out]; unfold wrS; rw [← B_append, ← B_append, ← B_append]; rfl, HB4.out⟩

theorem wrS_len (n : Int) (s : Bs) (l : List Int) (t : List Bs) : (wrS n s l t).length ≤ 200000000 := by
  have l1 := eNum_len' n
  have l2 := eText_len s
  have l3 := eList_len eNum eNum_len' l
  have l4 := eList_len eText eText_len t
  unfold wrS
  rw [List.length_append, List.length_append, List.length_append]
  omega

theorem open_values {H : Type} {enc : TypeId × Value → H} {W : World} {r : Reach} {b0 : Nat} {v : Value} {d : DataW H} {ps : List MemPlace} (hval : Value.okWide Tryd.prog W r b0 51 v) (hd : DataW.Trod enc Tryd.prog W 0 (fun _ => true) true 51 v d ps) :
    ∃ (n : Int) (s : Bs) (l : List Int) (t : List Bs) (vL vT : Value), v = .agg #[.int .i64 n, .string (B s), vL, vT] ∧ Vals vL vT s l t W := by
  obtain ⟨v0, v1, v2, v3, y0, y1, y2, y3, m, rfl, _, _, h0, h1, h2, h3⟩ := Go.Joins.open_agg4 Tryd.underlying51 (by kernel_rfl) (by kernel_rfl) hval hd
  have e0 : ∃ z, v0 = .int .i64 z := by
    obtain ⟨z, a, _⟩ := DataW.trod_int Tryd.underlying3 h0
    exact ⟨z, (List.cons.inj a).1⟩
  have e1 : ∃ s, v1 = .string s ∧ s.size ≤ maxLen := by
    obtain ⟨s, a, _, b⟩ := DataW.trod_string Tryd.underlying9 h1
    exact ⟨s, (List.cons.inj a).1, b⟩
  obtain ⟨n, rfl⟩ := e0
  obtain ⟨s, rfl, hs⟩ := e1
  obtain ⟨l, hl, hl'⟩ := sl_ints_of Tryd.underlying22 Tryd.underlying3 (by kernel_rfl) h2
  obtain ⟨t, ht, ht'⟩ := sl_strs_of Tryd.underlying29 Tryd.underlying9 (by kernel_rfl) h3
  exact ⟨n, s.data.toList, l, t, v2, v3, rfl, hs, hl, ht, fun x hx => (hl' x hx).2, ht'⟩

end Go.Proofs.YtadbkhijieinkaaDoor
