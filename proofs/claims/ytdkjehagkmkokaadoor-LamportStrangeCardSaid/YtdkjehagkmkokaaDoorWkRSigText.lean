/- Decode of the reference of package lamport does what the plain functions say; texts of up to 100000 bytes. -/
import Derived.Test.YtdkjehagkmkokaaDoorWkSigText
namespace Go.Proofs.YtdkjehagkmkokaaDoor
open Go Go.RowKit Licit

set_option maxHeartbeats 4000000 in
set_option maxRecDepth 100000 in
theorem RDecode_any (d : Bs) (w : World) (hd : d.length ≤ 1000000000) :
    Calls Tryd.prog 35 #[.string (B d)] w fun e w' => ∃ v, e = .returned (.tuple #[v, .int .i64 (decE d)]) ∧ SigIs v (decI d) (decS d) (decH d) (decR d) w' ∧ Below w.heap.size w w' := by
  have hW1b : Below w.heap.size w ((w.alloc (.cells #[.int .i64 0, .slice none 0 0, .slice none 0 0, .slice none 0 0] 34)).alloc (.cells #[.string (B d), .int .i64 0] 89)) := ((Below.refl _ _).alloc (Nat.le_refl _) _).alloc (by simp) _
  have hW1t : ((w.alloc (.cells #[.int .i64 0, .slice none 0 0, .slice none 0 0, .slice none 0 0] 34)).alloc (.cells #[.string (B d), .int .i64 0] 89)).heap[w.heap.size]? = some (.cells #[.int .i64 0, .slice none 0 0, .slice none 0 0, .slice none 0 0] 34) := old_of (new_of _ _)
  have hW1r : RRdr (w.heap.size + 1) (B d) 0 ((w.alloc (.cells #[.int .i64 0, .slice none 0 0, .slice none 0 0, .slice none 0 0] 34)).alloc (.cells #[.string (B d), .int .i64 0] 89)) := new_at (by simp) rfl
  have HW1b := Lib.hid hW1b
  have HW1t := Lib.hid hW1t
  have HW1r := Lib.hid hW1r
  clear hW1b hW1t hW1r
  obtain ⟨i, hi⟩ : ∃ i, (dec1 d).1 = i := ⟨_, rfl⟩
  obtain ⟨s1, hs1⟩ : ∃ s1, (dec1 d).2 = s1 := ⟨_, rfl⟩
  obtain ⟨S, hS⟩ : ∃ S, (dec2 d).1 = S := ⟨_, rfl⟩
  obtain ⟨s2, hs2⟩ : ∃ s2, (dec2 d).2 = s2 := ⟨_, rfl⟩
  obtain ⟨H, hH⟩ : ∃ H, (dec3 d).1 = H := ⟨_, rfl⟩
  obtain ⟨s3, hs3⟩ : ∃ s3, (dec3 d).2 = s3 := ⟨_, rfl⟩
  obtain ⟨R, hR⟩ : ∃ R, (dec4 d).1 = R := ⟨_, rfl⟩
  obtain ⟨s4, hs4⟩ : ∃ s4, (dec4 d).2 = s4 := ⟨_, rfl⟩
  have l1 : s1.1.length ≤ d.length := by rw [← hs1]; exact rdNum_len _ _ _
  have l2 : s2.1.length ≤ d.length := by rw [← hs2]; refine Nat.le_trans (texts_le _ _) ?_; rw [hs1]; exact l1
  have l3 : s3.1.length ≤ d.length := by rw [← hs3]; refine Nat.le_trans (texts_le _ _) ?_; rw [hs2]; exact l2
  have l4 : s4.1.length ≤ d.length := by rw [← hs4]; refine Nat.le_trans (texts_le _ _) ?_; rw [hs3]; exact l3
  have n1 : S.length ≤ 1024 := by rw [← hS]; exact texts_cnt _ _
  have n2 : H.length ≤ 1024 := by rw [← hH]; exact texts_cnt _ _
  have n3 : R.length ≤ 1024 := by rw [← hR]; exact texts_cnt _ _
  have C1 := Lib.hid (fun (W : World) (h : RRdr (w.heap.size + 1) (B d) 0 W) => rnumber_any (w.heap.size + 1) (B d) 0 0 63 W h (by unfold maxLen; rw [B_size]; omega))
  have e1 : rdNum 0 63 ((B d).data.toList, 0) = (i, s1) := by rw [← hi, ← hs1]; rfl
  have e2 : rdTexts 32 ((B s1.1).data.toList, s1.2) = (S, s2) := by rw [← hS, ← hs2, ← hs1]; rfl
  have e3 : rdTexts 32 ((B s2.1).data.toList, s2.2) = (H, s3) := by rw [← hH, ← hs3, ← hs2]; rfl
  have e4 : rdTexts 32 ((B s3.1).data.toList, s3.2) = (R, s4) := by rw [← hR, ← hs4, ← hs3]; rfl
  have C2 := Lib.hid (fun (W : World) (h : RRdr (w.heap.size + 1) (B s1.1) s1.2 W) => rtexts_any (w.heap.size + 1) (B s1.1) s1.2 32 W h (by rw [B_size]; omega))
  have C3 := Lib.hid (fun (W : World) (h : RRdr (w.heap.size + 1) (B s2.1) s2.2 W) => rtexts_any (w.heap.size + 1) (B s2.1) s2.2 32 W h (by rw [B_size]; omega))
  have C4 := Lib.hid (fun (W : World) (h : RRdr (w.heap.size + 1) (B s3.1) s3.2 W) => rtexts_any (w.heap.size + 1) (B s3.1) s3.2 32 W h (by rw [B_size]; omega))
  have C5 := Lib.hid (fun (W : World) (h : RRdr (w.heap.size + 1) (B s4.1) s4.2 W) => rclose_any (w.heap.size + 1) (B s4.1) s4.2 W h)
  rw [e1] at C1
  rw [e2] at C2
  rw [e3] at C3
  rw [e4] at C4
  obtain ⟨CL, hCL⟩ : ∃ CL, rdClose s4 = CL := ⟨_, rfl⟩
  rw [show rdClose ((B s4.1).data.toList, s4.2) = CL from hCL] at C5
  have hok : decOk d = (decide (CL = 0) && sigOk i S H R) := by unfold decOk; rw [hs4, hCL, hi, hS, hH, hR]
  have Hok := Lib.hid hok
  have HI := Lib.hid (show decI d = if decOk d = true then i else 0 by unfold decI; rw [hi])
  have HS := Lib.hid (show decS d = if decOk d = true then S else [] by unfold decS; rw [hS])
  have HH := Lib.hid (show decH d = if decOk d = true then H else [] by unfold decH; rw [hH])
  have HR := Lib.hid (show decR d = if decOk d = true then R else [] by unfold decR; rw [hR])
  clear hi hs1 hS hs2 hH hs3 hR hs4 e1 e2 e3 e4 hCL hok l1 l2 l3 l4
  go_enter Tryd.func35, Tryd.ntmps35
  go_wp2_with fail
  obtain ⟨W1, hW1⟩ : ∃ W1, (w.alloc (.cells #[.int .i64 0, .slice none 0 0, .slice none 0 0, .slice none 0 0] 34)).alloc (.cells #[.string (B d), .int .i64 0] 89) = W1 := ⟨_, rfl⟩
  have hz1 : w.heap.size + 2 = W1.heap.size := by rw [← hW1]; simp
  rw [hW1] at HW1b HW1t HW1r ⊢
  clear hW1
  refine (C1.out _ HW1r.out).mono ?_
  rintro e w2 ⟨rfl, hA, hK⟩
  have hz2 := hK.size
  have HA2 := Lib.hid hA
  have HT2 := Lib.hid ((hK.block w.heap.size (by omega) (fun e => by have : w.heap.size = w.heap.size + 1 := e; omega)).trans HW1t.out)
  have HB2 := Lib.hid (HW1b.out.trans (hK.below (by omega) (fun k hk e => by have : k = w.heap.size + 1 := e; omega)))
  clear hA hK
  go_wp2_with fail
  obtain ⟨b, hb⟩ : ∃ b, w2.heap.size = b := ⟨_, rfl⟩
  have hX3 := new_of w2 (.cells #[.int .i64 i, .slice none 0 0, .slice none 0 0, .slice none 0 0] 34)
  have hT3 := old_of (o' := .cells #[.int .i64 i, .slice none 0 0, .slice none 0 0, .slice none 0 0] 34) HT2.out
  have hA3 : RRdr (w.heap.size + 1) (B s1.1) s1.2 (w2.alloc (.cells #[.int .i64 i, .slice none 0 0, .slice none 0 0, .slice none 0 0] 34)) := HA2.out.alloc _
  have hB3 := HB2.out.alloc HB2.out.size (.cells #[.int .i64 i, .slice none 0 0, .slice none 0 0, .slice none 0 0] 34)
  obtain ⟨W3, hW3⟩ : ∃ W3, w2.alloc (.cells #[.int .i64 i, .slice none 0 0, .slice none 0 0, .slice none 0 0] 34) = W3 := ⟨_, rfl⟩
  have hz3 : b + 1 = W3.heap.size := by rw [← hW3]; simp [hb]
  rw [hb] at hX3
  rw [hW3] at hX3 hT3 hA3 hB3 ⊢
  rw [hb] at hz2 ⊢
  have HX3 := Lib.hid hX3
  have HT3 := Lib.hid hT3
  have HA3 := Lib.hid hA3
  have HB3 := Lib.hid hB3
  clear hW3 hb hX3 hT3 hA3 hB3
  refine (C2.out _ HA3.out).mono ?_
  rintro e w4 ⟨v4, rfl, ho, hA, hK⟩
  have hz4 := hK.size
  rw [List.length_map] at ho
  have hx4 := (hK.block b (by omega) (fun e => by have : b = w.heap.size + 1 := e; omega)).trans HX3.out
  have HT4 := Lib.hid ((hK.block w.heap.size (by omega) (fun e => by have : w.heap.size = w.heap.size + 1 := e; omega)).trans HT3.out)
  have HA4 := Lib.hid hA
  have HB4 := Lib.hid (HB3.out.trans (hK.below (by omega) (fun k hk e => by have : k = w.heap.size + 1 := e; omega)))
  obtain ⟨a4, p4, rfl⟩ := own_form ho
  have HO4 := Lib.hid ho
  have HX4 := Lib.hid hx4
  obtain ⟨c0, c1, c2, c3⟩ := sigC hx4
  have f1 := free_of hx4 1
  clear ho hA hK hx4
  go_wp2_with fail
  have hX5 := set_of HX4.out 1 (.slice a4 S.length p4)
  have hT5 : (w4.setCell ⟨b, 1, none⟩ (.slice a4 S.length p4)).heap[w.heap.size]? = _ := set_other HT4.out (by show w.heap.size ≠ b; omega)
  have hA5 : RRdr (w.heap.size + 1) (B s2.1) s2.2 (w4.setCell ⟨b, 1, none⟩ (.slice a4 S.length p4)) := set_other HA4.out (by show w.heap.size + 1 ≠ b; omega)
  have hO5 := ownsRow_set (p := ⟨b, 1, none⟩) (v' := .slice a4 S.length p4) HO4.out (by show b < W3.heap.size; omega)
  have hB5 := HB4.out.setCell (p := ⟨b, 1, none⟩) (by show w.heap.size ≤ b; omega) (.slice a4 S.length p4)
  obtain ⟨W5, hW5⟩ : ∃ W5, w4.setCell ⟨b, 1, none⟩ (.slice a4 S.length p4) = W5 := ⟨_, rfl⟩
  have hz5 : w4.heap.size = W5.heap.size := by rw [← hW5]; simp
  rw [hW5] at hX5 hT5 hA5 hO5 hB5 ⊢
  have HX5 := Lib.hid hX5
  have HT5 := Lib.hid hT5
  have HA5 := Lib.hid hA5
  have HO5 := Lib.hid hO5
  have HB5 := Lib.hid hB5
  clear hW5 hX5 hT5 hA5 hO5 hB5 c0 c1 c2 c3 f1
  refine (C3.out _ HA5.out).mono ?_
  rintro e w6 ⟨v6, rfl, ho, hA, hK⟩
  have hz6 := hK.size
  rw [List.length_map] at ho
  have hx6 := (hK.block b (by omega) (fun e => by have : b = w.heap.size + 1 := e; omega)).trans HX5.out
  have HT6 := Lib.hid ((hK.block w.heap.size (by omega) (fun e => by have : w.heap.size = w.heap.size + 1 := e; omega)).trans HT5.out)
  have HA6 := Lib.hid hA
  have HB6 := Lib.hid (HB5.out.trans (hK.below (by omega) (fun k hk e => by have : k = w.heap.size + 1 := e; omega)))
  have HO6 := Lib.hid (ownsRow_kept HO5.out hK (fun k hk e => by have : k = w.heap.size + 1 := e; omega))
  obtain ⟨a6, p6, rfl⟩ := own_form ho
  have HP6 := Lib.hid ho
  have HX6 := Lib.hid hx6
  obtain ⟨c0, c1, c2, c3⟩ := sigC hx6
  have f1 := free_of hx6 2
  clear ho hA hK hx6
  go_wp2_with fail
  have hX7 := set_of HX6.out 2 (.slice a6 H.length p6)
  have hT7 : (w6.setCell ⟨b, 2, none⟩ (.slice a6 H.length p6)).heap[w.heap.size]? = _ := set_other HT6.out (by show w.heap.size ≠ b; omega)
  have hA7 : RRdr (w.heap.size + 1) (B s3.1) s3.2 (w6.setCell ⟨b, 2, none⟩ (.slice a6 H.length p6)) := set_other HA6.out (by show w.heap.size + 1 ≠ b; omega)
  have hO7 := ownsRow_set (p := ⟨b, 2, none⟩) (v' := .slice a6 H.length p6) HO6.out (by show b < W3.heap.size; omega)
  have hP7 := ownsRow_set (p := ⟨b, 2, none⟩) (v' := .slice a6 H.length p6) HP6.out (by show b < W5.heap.size; omega)
  have hB7 := HB6.out.setCell (p := ⟨b, 2, none⟩) (by show w.heap.size ≤ b; omega) (.slice a6 H.length p6)
  obtain ⟨W7, hW7⟩ : ∃ W7, w6.setCell ⟨b, 2, none⟩ (.slice a6 H.length p6) = W7 := ⟨_, rfl⟩
  have hz7 : w6.heap.size = W7.heap.size := by rw [← hW7]; simp
  rw [hW7] at hX7 hT7 hA7 hO7 hP7 hB7 ⊢
  have HX7 := Lib.hid hX7
  have HT7 := Lib.hid hT7
  have HA7 := Lib.hid hA7
  have HO7 := Lib.hid hO7
  have HP7 := Lib.hid hP7
  have HB7 := Lib.hid hB7
  clear hW7 hX7 hT7 hA7 hO7 hP7 hB7 c0 c1 c2 c3 f1
  refine (C4.out _ HA7.out).mono ?_
  rintro e w8 ⟨v8, rfl, ho, hA, hK⟩
  have hz8 := hK.size
  rw [List.length_map] at ho
  have hx8 := (hK.block b (by omega) (fun e => by have : b = w.heap.size + 1 := e; omega)).trans HX7.out
  have HT8 := Lib.hid ((hK.block w.heap.size (by omega) (fun e => by have : w.heap.size = w.heap.size + 1 := e; omega)).trans HT7.out)
  have HA8 := Lib.hid hA
  have HB8 := Lib.hid (HB7.out.trans (hK.below (by omega) (fun k hk e => by have : k = w.heap.size + 1 := e; omega)))
  have HO8 := Lib.hid (ownsRow_kept HO7.out hK (fun k hk e => by have : k = w.heap.size + 1 := e; omega))
  have HP8 := Lib.hid (ownsRow_kept HP7.out hK (fun k hk e => by have : k = w.heap.size + 1 := e; omega))
  obtain ⟨a8, p8, rfl⟩ := own_form ho
  have HQ8 := Lib.hid ho
  have HX8 := Lib.hid hx8
  obtain ⟨c0, c1, c2, c3⟩ := sigC hx8
  have f1 := free_of hx8 3
  clear ho hA hK hx8
  go_wp2_with fail
  have hX9 := set_of HX8.out 3 (.slice a8 R.length p8)
  have hT9 : (w8.setCell ⟨b, 3, none⟩ (.slice a8 R.length p8)).heap[w.heap.size]? = _ := set_other HT8.out (by show w.heap.size ≠ b; omega)
  have hA9 : RRdr (w.heap.size + 1) (B s4.1) s4.2 (w8.setCell ⟨b, 3, none⟩ (.slice a8 R.length p8)) := set_other HA8.out (by show w.heap.size + 1 ≠ b; omega)
  have hO9 := ownsRow_set (p := ⟨b, 3, none⟩) (v' := .slice a8 R.length p8) HO8.out (by show b < W3.heap.size; omega)
  have hP9 := ownsRow_set (p := ⟨b, 3, none⟩) (v' := .slice a8 R.length p8) HP8.out (by show b < W5.heap.size; omega)
  have hQ9 := ownsRow_set (p := ⟨b, 3, none⟩) (v' := .slice a8 R.length p8) HQ8.out (by show b < W7.heap.size; omega)
  have hB9 := HB8.out.setCell (p := ⟨b, 3, none⟩) (by show w.heap.size ≤ b; omega) (.slice a8 R.length p8)
  obtain ⟨W9, hW9⟩ : ∃ W9, w8.setCell ⟨b, 3, none⟩ (.slice a8 R.length p8) = W9 := ⟨_, rfl⟩
  have hz9 : w8.heap.size = W9.heap.size := by rw [← hW9]; simp
  rw [hW9] at hX9 hT9 hA9 hO9 hP9 hQ9 hB9 ⊢
  have HX9 := Lib.hid hX9
  have HT9 := Lib.hid hT9
  have HA9 := Lib.hid hA9
  have HB9 := Lib.hid hB9
  have HSig := Lib.hid (show SigIs (.agg #[.int .i64 i, .slice a4 S.length p4, .slice a6 H.length p6, .slice a8 R.length p8]) i S H R W9 from
    ⟨_, _, _, rfl, IsSl.of_owns (by rw [List.length_map]; exact hO9) (by rw [List.length_map]; unfold maxLen; omega), IsSl.of_owns (by rw [List.length_map]; exact hP9) (by rw [List.length_map]; unfold maxLen; omega), IsSl.of_owns (by rw [List.length_map]; exact hQ9) (by rw [List.length_map]; unfold maxLen; omega)⟩)
  have HO9 := Lib.hid hO9
  have HP9 := Lib.hid hP9
  have HQ9 := Lib.hid hQ9
  have hwW3 : w.heap.size < W3.heap.size := by omega
  have hwW5 : w.heap.size < W5.heap.size := by omega
  have hwW7 : w.heap.size < W7.heap.size := by omega
  clear hW9 hX9 hT9 hA9 hO9 hP9 hQ9 hB9 c0 c1 c2 c3 f1
  have hbw : b < W9.heap.size := by omega
  refine (C5.out _ HA9.out).mono ?_
  rintro e w10 ⟨rfl, rfl⟩
  have hFm := WellF_any _ i S H R _ HSig.out
  obtain ⟨c0, c1, c2, c3⟩ := sigC HX9.out
  obtain ⟨d0, d1, d2, d3⟩ := sigC HT9.out
  have g0 := free_of HT9.out 0
  have g1 := free_of HT9.out 1
  have g2 := free_of HT9.out 2
  have g3 := free_of HT9.out 3
  by_cases hc : CL = 0
  · subst hc
    cases hk : sigOk i S H R with
    | true =>
      rw [hk] at hFm
      have HFm := Lib.hid hFm
      have hok : decOk d = true := by rw [Hok.out, hk]; rfl
      have q1 := HI.out
      have q2 := HS.out
      have q3 := HH.out
      have q4 := HR.out
      rw [hok, if_pos rfl] at q1 q2 q3 q4
      have Q1 := Lib.hid q1
      have Q2 := Lib.hid q2
      have Q3 := Lib.hid q3
      have Q4 := Lib.hid q4
      have Q5 := Lib.hid (show decE d = 0 by unfold decE; rw [hok]; rfl)
      clear hk hFm hok q1 q2 q3 q4
      go_wp2_with fail
      refine HFm.out.mono ?_
      rintro e w11 ⟨rfl, hb⟩
      have hx := (hb.block b hbw).trans HX9.out
      have ht := (hb.block w.heap.size (by omega)).trans HT9.out
      have HX := Lib.hid hx
      have HT := Lib.hid ht
      have HOf := Lib.hid (ownsRow_block HO9.out (fun k _ hk => hb.block k hk))
      have HPf := Lib.hid (ownsRow_block HP9.out (fun k _ hk => hb.block k hk))
      have HQf := Lib.hid (ownsRow_block HQ9.out (fun k _ hk => hb.block k hk))
      have HB := Lib.hid (HB9.out.next hb)
      clear c0 c1 c2 c3 d0 d1 d2 d3 g0 g1 g2 g3
      obtain ⟨c0, c1, c2, c3⟩ := sigC hx
      obtain ⟨d0, d1, d2, d3⟩ := sigC ht
      have g0 := free_of ht 0
      have g1 := free_of ht 1
      have g2 := free_of ht 2
      have g3 := free_of ht 3
      clear hx ht hb
      go_wp2
      have hK := kept4 w.heap.size w11 (.int .i64 i) (.slice a4 S.length p4) (.slice a6 H.length p6) (.slice a8 R.length p8)
      have hBf := HB.out.trans (hK.below HB.out.size (fun k hk e => by have : k = w.heap.size := e; omega))
      refine ret_whole2 (p := 2) (t' := 3) (ty := 34) rfl w.heap.size 34 _ (0, 0) _ rfl (set_of (set_of (set_of (set_of HT.out 0 _) 1 _) 2 _) 3 _) Tryd.underlying34 rfl (by kernel_rfl) rfl ?_
      refine ⟨_, by rw [Q5.out]; rfl, ?_, hBf⟩
      rw [Q1.out, Q2.out, Q3.out, Q4.out]
      refine ⟨_, _, _, rfl, IsSl.of_owns (by rw [List.length_map]; exact ownsRow_set (ownsRow_set (ownsRow_set (ownsRow_set HOf.out (by exact hwW3)) (by exact hwW3)) (by exact hwW3)) (by exact hwW3)) (by rw [List.length_map]; unfold maxLen; omega),
        IsSl.of_owns (by rw [List.length_map]; exact ownsRow_set (ownsRow_set (ownsRow_set (ownsRow_set HPf.out (by exact hwW5)) (by exact hwW5)) (by exact hwW5)) (by exact hwW5)) (by rw [List.length_map]; unfold maxLen; omega),
        IsSl.of_owns (by rw [List.length_map]; exact ownsRow_set (ownsRow_set (ownsRow_set (ownsRow_set HQf.out (by exact hwW7)) (by exact hwW7)) (by exact hwW7)) (by exact hwW7)) (by rw [List.length_map]; unfold maxLen; omega)⟩
    | false =>
      rw [hk] at hFm
      have HFm := Lib.hid hFm
      have hok : decOk d = false := by rw [Hok.out, hk]; rfl
      have q1 := HI.out
      have q2 := HS.out
      have q3 := HH.out
      have q4 := HR.out
      rw [hok, if_neg (by decide)] at q1 q2 q3 q4
      have Q1 := Lib.hid q1
      have Q2 := Lib.hid q2
      have Q3 := Lib.hid q3
      have Q4 := Lib.hid q4
      have Q5 := Lib.hid (show decE d = 17 by unfold decE; rw [hok]; rfl)
      clear hk hFm hok q1 q2 q3 q4
      go_wp2_with fail
      refine HFm.out.mono ?_
      rintro e w11 ⟨rfl, hb⟩
      have ht := (hb.block w.heap.size (by omega)).trans HT9.out
      have HT := Lib.hid ht
      have HB := Lib.hid (HB9.out.next hb)
      clear c0 c1 c2 c3 d0 d1 d2 d3 g0 g1 g2 g3
      obtain ⟨d0, d1, d2, d3⟩ := sigC ht
      have g0 := free_of ht 0
      have g1 := free_of ht 1
      have g2 := free_of ht 2
      have g3 := free_of ht 3
      clear ht hb
      go_wp2
      have hK := kept4 w.heap.size w11 (.int .i64 0) (.slice none 0 0) (.slice none 0 0) (.slice none 0 0)
      have hBf := HB.out.trans (hK.below HB.out.size (fun k hk e => by have : k = w.heap.size := e; omega))
      refine ret_whole2 (p := 2) (t' := 3) (ty := 34) rfl w.heap.size 34 _ (0, 0) _ rfl (set_of (set_of (set_of (set_of HT.out 0 _) 1 _) 2 _) 3 _) Tryd.underlying34 rfl (by kernel_rfl) rfl ?_
      refine ⟨_, by rw [Q5.out]; rfl, ?_, hBf⟩
      rw [Q1.out, Q2.out, Q3.out, Q4.out]
      exact sigNil _
  · have hok : decOk d = false := by rw [Hok.out, decide_eq_false hc]; rfl
    have q1 := HI.out
    have q2 := HS.out
    have q3 := HH.out
    have q4 := HR.out
    rw [hok, if_neg (by decide)] at q1 q2 q3 q4
    have Q1 := Lib.hid q1
    have Q2 := Lib.hid q2
    have Q3 := Lib.hid q3
    have Q4 := Lib.hid q4
    have Q5 := Lib.hid (show decE d = 17 by unfold decE; rw [hok]; rfl)
    have hcl : (CL == 0) = false := by simpa using hc
    clear hok q1 q2 q3 q4 hFm
    go_wp2
    have hK := kept4 w.heap.size W9 (.int .i64 0) (.slice none 0 0) (.slice none 0 0) (.slice none 0 0)
    have hBf := HB9.out.trans (hK.below HB9.out.size (fun k hk e => by have : k = w.heap.size := e; omega))
    refine ret_whole2 (p := 2) (t' := 3) (ty := 34) rfl w.heap.size 34 _ (0, 0) _ rfl (set_of (set_of (set_of (set_of HT9.out 0 _) 1 _) 2 _) 3 _) Tryd.underlying34 rfl (by kernel_rfl) rfl ?_
    refine ⟨_, by rw [Q5.out]; rfl, ?_, hBf⟩
    rw [Q1.out, Q2.out, Q3.out, Q4.out]
    exact sigNil _

end Go.Proofs.YtdkjehagkmkokaaDoor
