/- Parts of the proofs: WkRSigText, WkRvT. No condition beyond those at each theorem. -/
import Derived.Test.YtknpbekoenbphaaGreatDoorPk37
import Derived.Test.YtknpbekoenbphaaGreatDoorPk42
set_option linter.unusedVariables false
set_option linter.unusedSimpArgs false
set_option maxHeartbeats 16000000
set_option maxRecDepth 100000
namespace Go.Proofs.YtknpbekoenbphaaGreatDoor
open Go Go.RowKit Licit
theorem kpf (d : Bs) (w : World) (hd : d.length ≤ 1000000000) :
 Calls Tryz.prog 107 #[.string (B d)] w fun e w' => ∃ v, e = .returned (.tuple #[v, .int .i64 (kj4 d)]) ∧ kyx w.heap.size v (k3f d) (kp0 d) (kpz d) (decR d) w' ∧ Below w.heap.size w w' := by
 have hW1b : Below w.heap.size w ((w.alloc (.cells #[.int .i64 0, .slice none 0 0, .slice none 0 0, .slice none 0 0] 43)).alloc (.cells #[.string (B d), .int .i64 0] 161)) := ((Below.refl _ _).alloc (Nat.le_refl _) _).alloc (by simp) _
 have hW1t : ((w.alloc (.cells #[.int .i64 0, .slice none 0 0, .slice none 0 0, .slice none 0 0] 43)).alloc (.cells #[.string (B d), .int .i64 0] 161)).heap[w.heap.size]? = some (.cells #[.int .i64 0, .slice none 0 0, .slice none 0 0, .slice none 0 0] 43) := kaq (kak _ _)
 have hW1r : kdy (w.heap.size + 1) (B d) 0 ((w.alloc (.cells #[.int .i64 0, .slice none 0 0, .slice none 0 0, .slice none 0 0] 43)).alloc (.cells #[.string (B d), .int .i64 0] 161)) := kaj (by simp) rfl
 have HW1b := hdd hW1b
 have HW1t := hdd hW1t
 have HW1r := hdd hW1r
 clear hW1b hW1t hW1r
 obtain ⟨i, hi⟩ : ∃ i, (kvo d).1 = i := ⟨_, rfl⟩
 obtain ⟨s1, hs1⟩ : ∃ s1, (kvo d).2 = s1 := ⟨_, rfl⟩
 obtain ⟨S, hS⟩ : ∃ S, (kvr d).1 = S := ⟨_, rfl⟩
 obtain ⟨s2, hs2⟩ : ∃ s2, (kvr d).2 = s2 := ⟨_, rfl⟩
 obtain ⟨H, hH⟩ : ∃ H, (kvs d).1 = H := ⟨_, rfl⟩
 obtain ⟨s3, hs3⟩ : ∃ s3, (kvs d).2 = s3 := ⟨_, rfl⟩
 obtain ⟨R, hR⟩ : ∃ R, (kvp d).1 = R := ⟨_, rfl⟩
 obtain ⟨s4, hs4⟩ : ∃ s4, (kvp d).2 = s4 := ⟨_, rfl⟩
 have l1 : s1.1.length ≤ d.length := by rw [← hs1]; exact kbz _ _ _
 have l2 : s2.1.length ≤ d.length := by rw [← hs2]; refine Nat.le_trans (kdv _ _) ?_; rw [hs1]; exact l1
 have l3 : s3.1.length ≤ d.length := by rw [← hs3]; refine Nat.le_trans (kdv _ _) ?_; rw [hs2]; exact l2
 have l4 : s4.1.length ≤ d.length := by rw [← hs4]; refine Nat.le_trans (kdv _ _) ?_; rw [hs3]; exact l3
 have n1 : S.length ≤ 1024 := by rw [← hS]; exact kb6 _ _
 have n2 : H.length ≤ 1024 := by rw [← hH]; exact kb6 _ _
 have n3 : R.length ≤ 1024 := by rw [← hR]; exact kb6 _ _
 have C1 := hdd (fun (W : World) (h : kdy (w.heap.size + 1) (B d) 0 W) => kcx (w.heap.size + 1) (B d) 0 0 63 W h (by unfold maxLen; rw [kbt]; omega))
 have e1 : ka3 0 63 ((B d).data.toList, 0) = (i, s1) := by rw [← hi, ← hs1]; rfl
 have e2 : ka5 32 ((B s1.1).data.toList, s1.2) = (S, s2) := by rw [← hS, ← hs2, ← hs1]; rfl
 have e3 : ka5 32 ((B s2.1).data.toList, s2.2) = (H, s3) := by rw [← hH, ← hs3, ← hs2]; rfl
 have e4 : ka5 32 ((B s3.1).data.toList, s3.2) = (R, s4) := by rw [← hR, ← hs4, ← hs3]; rfl
 have C2 := hdd (fun (W : World) (h : kdy (w.heap.size + 1) (B s1.1) s1.2 W) => keb (w.heap.size + 1) (B s1.1) s1.2 32 W h (by rw [kbt]; omega))
 have C3 := hdd (fun (W : World) (h : kdy (w.heap.size + 1) (B s2.1) s2.2 W) => keb (w.heap.size + 1) (B s2.1) s2.2 32 W h (by rw [kbt]; omega))
 have C4 := hdd (fun (W : World) (h : kdy (w.heap.size + 1) (B s3.1) s3.2 W) => keb (w.heap.size + 1) (B s3.1) s3.2 32 W h (by rw [kbt]; omega))
 have C5 := hdd (fun (W : World) (h : kdy (w.heap.size + 1) (B s4.1) s4.2 W) => kil (w.heap.size + 1) (B s4.1) s4.2 W h)
 rw [e1] at C1
 rw [e2] at C2
 rw [e3] at C3
 rw [e4] at C4
 obtain ⟨CL, hCL⟩ : ∃ CL, ka4 s4 = CL := ⟨_, rfl⟩
 rw [show ka4 ((B s4.1).data.toList, s4.2) = CL from hCL] at C5
 have hok : kdn d = (decide (CL = 0) && kbx i S H R) := by unfold kdn; rw [hs4, hCL, hi, hS, hH, hR]
 have Hok := hdd hok
 have HI := hdd (show k3f d = if kdn d = true then i else 0 by unfold k3f; rw [hi])
 have HS := hdd (show kp0 d = if kdn d = true then S else [] by unfold kp0; rw [hS])
 have HH := hdd (show kpz d = if kdn d = true then H else [] by unfold kpz; rw [hH])
 have HR := hdd (show decR d = if kdn d = true then R else [] by unfold decR; rw [hR])
 clear hi hs1 hS hs2 hH hs3 hR hs4 e1 e2 e3 e4 hCL hok l1 l2 l3 l4
 go_enter Tryz.func107, Tryz.ntmps107
 go_wp2_with fail
 obtain ⟨W1, hW1⟩ : ∃ W1, (w.alloc (.cells #[.int .i64 0, .slice none 0 0, .slice none 0 0, .slice none 0 0] 43)).alloc (.cells #[.string (B d), .int .i64 0] 161) = W1 := ⟨_, rfl⟩
 have hz1 : w.heap.size + 2 = W1.heap.size := by rw [← hW1]; simp
 rw [hW1] at HW1b HW1t HW1r ⊢
 clear hW1
 refine (C1.out _ HW1r.out).mono ?_
 rintro e w2 ⟨rfl, hA, hK⟩
 have hz2 := hK.size
 have HA2 := hdd hA
 have HT2 := hdd ((hK.block w.heap.size (by omega) (fun e => by have : w.heap.size = w.heap.size + 1 := e; omega)).trans HW1t.out)
 have HB2 := hdd (HW1b.out.trans (hK.below (by omega) (fun k hk e => by have : k = w.heap.size + 1 := e; omega)))
 clear hA hK
 go_wp2_with fail
 obtain ⟨b, hb⟩ : ∃ b, w2.heap.size = b := ⟨_, rfl⟩
 have hX3 := kak w2 (.cells #[.int .i64 i, .slice none 0 0, .slice none 0 0, .slice none 0 0] 43)
 have hT3 := kaq (o' := .cells #[.int .i64 i, .slice none 0 0, .slice none 0 0, .slice none 0 0] 43) HT2.out
 have hA3 : kdy (w.heap.size + 1) (B s1.1) s1.2 (w2.alloc (.cells #[.int .i64 i, .slice none 0 0, .slice none 0 0, .slice none 0 0] 43)) := HA2.out.alloc _
 have hB3 := HB2.out.alloc HB2.out.size (.cells #[.int .i64 i, .slice none 0 0, .slice none 0 0, .slice none 0 0] 43)
 obtain ⟨W3, hW3⟩ : ∃ W3, w2.alloc (.cells #[.int .i64 i, .slice none 0 0, .slice none 0 0, .slice none 0 0] 43) = W3 := ⟨_, rfl⟩
 have hz3 : b + 1 = W3.heap.size := by rw [← hW3]; simp [hb]
 rw [hb] at hX3
 rw [hW3] at hX3 hT3 hA3 hB3 ⊢
 rw [hb] at hz2 ⊢
 have HX3 := hdd hX3
 have HT3 := hdd hT3
 have HA3 := hdd hA3
 have HB3 := hdd hB3
 clear hW3 hb hX3 hT3 hA3 hB3
 refine (C2.out _ HA3.out).mono ?_
 rintro e w4 ⟨v4, rfl, ho, hA, hK⟩
 have hz4 := hK.size
 rw [List.length_map] at ho
 have hx4 := (hK.block b (by omega) (fun e => by have : b = w.heap.size + 1 := e; omega)).trans HX3.out
 have HT4 := hdd ((hK.block w.heap.size (by omega) (fun e => by have : w.heap.size = w.heap.size + 1 := e; omega)).trans HT3.out)
 have HA4 := hdd hA
 have HB4 := hdd (HB3.out.trans (hK.below (by omega) (fun k hk e => by have : k = w.heap.size + 1 := e; omega)))
 obtain ⟨a4, p4, rfl⟩ := kah ho
 have HO4 := hdd ho
 have HX4 := hdd hx4
 obtain ⟨c0, c1, c2, c3⟩ := kf1 hx4
 have f1 := kai hx4 1
 clear ho hA hK hx4
 go_wp2_with fail
 have hX5 := set_of HX4.out 1 (.slice a4 S.length p4)
 have hT5 : (w4.setCell ⟨b, 1, none⟩ (.slice a4 S.length p4)).heap[w.heap.size]? = _ := ka0 HT4.out (by show w.heap.size ≠ b; omega)
 have hA5 : kdy (w.heap.size + 1) (B s2.1) s2.2 (w4.setCell ⟨b, 1, none⟩ (.slice a4 S.length p4)) := ka0 HA4.out (by show w.heap.size + 1 ≠ b; omega)
 have hO5 := kap (p := ⟨b, 1, none⟩) (v' := .slice a4 S.length p4) HO4.out (by show b < W3.heap.size; omega)
 have hB5 := HB4.out.setCell (p := ⟨b, 1, none⟩) (by show w.heap.size ≤ b; omega) (.slice a4 S.length p4)
 obtain ⟨W5, hW5⟩ : ∃ W5, w4.setCell ⟨b, 1, none⟩ (.slice a4 S.length p4) = W5 := ⟨_, rfl⟩
 have hz5 : w4.heap.size = W5.heap.size := by rw [← hW5]; simp
 rw [hW5] at hX5 hT5 hA5 hO5 hB5 ⊢
 have HX5 := hdd hX5
 have HT5 := hdd hT5
 have HA5 := hdd hA5
 have HO5 := hdd hO5
 have HB5 := hdd hB5
 clear hW5 hX5 hT5 hA5 hO5 hB5 c0 c1 c2 c3 f1
 refine (C3.out _ HA5.out).mono ?_
 rintro e w6 ⟨v6, rfl, ho, hA, hK⟩
 have hz6 := hK.size
 rw [List.length_map] at ho
 have hx6 := (hK.block b (by omega) (fun e => by have : b = w.heap.size + 1 := e; omega)).trans HX5.out
 have HT6 := hdd ((hK.block w.heap.size (by omega) (fun e => by have : w.heap.size = w.heap.size + 1 := e; omega)).trans HT5.out)
 have HA6 := hdd hA
 have HB6 := hdd (HB5.out.trans (hK.below (by omega) (fun k hk e => by have : k = w.heap.size + 1 := e; omega)))
 have HO6 := hdd (kag HO5.out hK (fun k hk e => by have : k = w.heap.size + 1 := e; omega))
 obtain ⟨a6, p6, rfl⟩ := kah ho
 have HP6 := hdd ho
 have HX6 := hdd hx6
 obtain ⟨c0, c1, c2, c3⟩ := kf1 hx6
 have f1 := kai hx6 2
 clear ho hA hK hx6
 go_wp2_with fail
 have hX7 := set_of HX6.out 2 (.slice a6 H.length p6)
 have hT7 : (w6.setCell ⟨b, 2, none⟩ (.slice a6 H.length p6)).heap[w.heap.size]? = _ := ka0 HT6.out (by show w.heap.size ≠ b; omega)
 have hA7 : kdy (w.heap.size + 1) (B s3.1) s3.2 (w6.setCell ⟨b, 2, none⟩ (.slice a6 H.length p6)) := ka0 HA6.out (by show w.heap.size + 1 ≠ b; omega)
 have hO7 := kap (p := ⟨b, 2, none⟩) (v' := .slice a6 H.length p6) HO6.out (by show b < W3.heap.size; omega)
 have hP7 := kap (p := ⟨b, 2, none⟩) (v' := .slice a6 H.length p6) HP6.out (by show b < W5.heap.size; omega)
 have hB7 := HB6.out.setCell (p := ⟨b, 2, none⟩) (by show w.heap.size ≤ b; omega) (.slice a6 H.length p6)
 obtain ⟨W7, hW7⟩ : ∃ W7, w6.setCell ⟨b, 2, none⟩ (.slice a6 H.length p6) = W7 := ⟨_, rfl⟩
 have hz7 : w6.heap.size = W7.heap.size := by rw [← hW7]; simp
 rw [hW7] at hX7 hT7 hA7 hO7 hP7 hB7 ⊢
 have HX7 := hdd hX7
 have HT7 := hdd hT7
 have HA7 := hdd hA7
 have HO7 := hdd hO7
 have HP7 := hdd hP7
 have HB7 := hdd hB7
 clear hW7 hX7 hT7 hA7 hO7 hP7 hB7 c0 c1 c2 c3 f1
 refine (C4.out _ HA7.out).mono ?_
 rintro e w8 ⟨v8, rfl, ho, hA, hK⟩
 have hz8 := hK.size
 rw [List.length_map] at ho
 have hx8 := (hK.block b (by omega) (fun e => by have : b = w.heap.size + 1 := e; omega)).trans HX7.out
 have HT8 := hdd ((hK.block w.heap.size (by omega) (fun e => by have : w.heap.size = w.heap.size + 1 := e; omega)).trans HT7.out)
 have HA8 := hdd hA
 have HB8 := hdd (HB7.out.trans (hK.below (by omega) (fun k hk e => by have : k = w.heap.size + 1 := e; omega)))
 have HO8 := hdd (kag HO7.out hK (fun k hk e => by have : k = w.heap.size + 1 := e; omega))
 have HP8 := hdd (kag HP7.out hK (fun k hk e => by have : k = w.heap.size + 1 := e; omega))
 obtain ⟨a8, p8, rfl⟩ := kah ho
 have HQ8 := hdd ho
 have HX8 := hdd hx8
 obtain ⟨c0, c1, c2, c3⟩ := kf1 hx8
 have f1 := kai hx8 3
 clear ho hA hK hx8
 go_wp2_with fail
 have hX9 := set_of HX8.out 3 (.slice a8 R.length p8)
 have hT9 : (w8.setCell ⟨b, 3, none⟩ (.slice a8 R.length p8)).heap[w.heap.size]? = _ := ka0 HT8.out (by show w.heap.size ≠ b; omega)
 have hA9 : kdy (w.heap.size + 1) (B s4.1) s4.2 (w8.setCell ⟨b, 3, none⟩ (.slice a8 R.length p8)) := ka0 HA8.out (by show w.heap.size + 1 ≠ b; omega)
 have hO9 := kap (p := ⟨b, 3, none⟩) (v' := .slice a8 R.length p8) HO8.out (by show b < W3.heap.size; omega)
 have hP9 := kap (p := ⟨b, 3, none⟩) (v' := .slice a8 R.length p8) HP8.out (by show b < W5.heap.size; omega)
 have hQ9 := kap (p := ⟨b, 3, none⟩) (v' := .slice a8 R.length p8) HQ8.out (by show b < W7.heap.size; omega)
 have hB9 := HB8.out.setCell (p := ⟨b, 3, none⟩) (by show w.heap.size ≤ b; omega) (.slice a8 R.length p8)
 obtain ⟨W9, hW9⟩ : ∃ W9, w8.setCell ⟨b, 3, none⟩ (.slice a8 R.length p8) = W9 := ⟨_, rfl⟩
 have hz9 : w8.heap.size = W9.heap.size := by rw [← hW9]; simp
 rw [hW9] at hX9 hT9 hA9 hO9 hP9 hQ9 hB9 ⊢
 have HX9 := hdd hX9
 have HT9 := hdd hT9
 have HA9 := hdd hA9
 have HB9 := hdd hB9
 have HSig := hdd (show kec (.agg #[.int .i64 i, .slice a4 S.length p4, .slice a6 H.length p6, .slice a8 R.length p8]) i S H R W9 from
  ⟨_, _, _, rfl, IsSl.of_owns (by rw [List.length_map]; exact hO9) (by rw [List.length_map]; unfold maxLen; omega), IsSl.of_owns (by rw [List.length_map]; exact hP9) (by rw [List.length_map]; unfold maxLen; omega), IsSl.of_owns (by rw [List.length_map]; exact hQ9) (by rw [List.length_map]; unfold maxLen; omega)⟩)
 have HO9 := hdd hO9
 have HP9 := hdd hP9
 have HQ9 := hdd hQ9
 have hwW3 : w.heap.size < W3.heap.size := by omega
 have hwW5 : w.heap.size < W5.heap.size := by omega
 have hwW7 : w.heap.size < W7.heap.size := by omega
 clear hW9 hX9 hT9 hA9 hO9 hP9 hQ9 hB9 c0 c1 c2 c3 f1
 have hbw : b < W9.heap.size := by omega
 refine (C5.out _ HA9.out).mono ?_
 rintro e w10 ⟨rfl, rfl⟩
 have hFm := knd _ i S H R _ HSig.out
 obtain ⟨c0, c1, c2, c3⟩ := kf1 HX9.out
 obtain ⟨d0, d1, d2, d3⟩ := kf1 HT9.out
 have g0 := kai HT9.out 0
 have g1 := kai HT9.out 1
 have g2 := kai HT9.out 2
 have g3 := kai HT9.out 3
 by_cases hc : CL = 0
 · subst hc
   cases hk : kbx i S H R with
   | true =>
     rw [hk] at hFm
     have HFm := hdd hFm
     have hok : kdn d = true := by rw [Hok.out, hk]; rfl
     have q1 := HI.out
     have q2 := HS.out
     have q3 := HH.out
     have q4 := HR.out
     rw [hok, if_pos rfl] at q1 q2 q3 q4
     have Q1 := hdd q1
     have Q2 := hdd q2
     have Q3 := hdd q3
     have Q4 := hdd q4
     have Q5 := hdd (show kj4 d = 0 by unfold kj4; rw [hok]; rfl)
     clear hk hFm hok q1 q2 q3 q4
     go_wp2_with fail
     refine HFm.out.mono ?_
     rintro e w11 ⟨rfl, hb⟩
     have hx := (hb.block b hbw).trans HX9.out
     have ht := (hb.block w.heap.size (by omega)).trans HT9.out
     have HX := hdd hx
     have HT := hdd ht
     have HOf := hdd (kaf HO9.out (fun k _ hk => hb.block k hk))
     have HPf := hdd (kaf HP9.out (fun k _ hk => hb.block k hk))
     have HQf := hdd (kaf HQ9.out (fun k _ hk => hb.block k hk))
     have HB := hdd (HB9.out.next hb)
     clear c0 c1 c2 c3 d0 d1 d2 d3 g0 g1 g2 g3
     obtain ⟨c0, c1, c2, c3⟩ := kf1 hx
     obtain ⟨d0, d1, d2, d3⟩ := kf1 ht
     have g0 := kai ht 0
     have g1 := kai ht 1
     have g2 := kai ht 2
     have g3 := kai ht 3
     clear hx ht hb
     go_wp2
     have hK := kr3 w.heap.size w11 (.int .i64 i) (.slice a4 S.length p4) (.slice a6 H.length p6) (.slice a8 R.length p8)
     have hBf := HB.out.trans (hK.below HB.out.size (fun k hk e => by have : k = w.heap.size := e; omega))
     refine kam (p := 2) (t' := 3) (ty := 43) rfl w.heap.size 43 _ (0, 0) _ rfl (set_of (set_of (set_of (set_of HT.out 0 _) 1 _) 2 _) 3 _) Tryz.underlying43 rfl (by kernel_rfl) rfl ?_
     refine ⟨_, by rw [Q5.out]; rfl, ?_, hBf⟩
     rw [Q1.out, Q2.out, Q3.out, Q4.out]
     refine ⟨_, _, _, rfl, kan (kap (kap (kap (kap HOf.out (by exact hwW3)) (by exact hwW3)) (by exact hwW3)) (by exact hwW3)) (Nat.le_of_lt hwW3),
      kan (kap (kap (kap (kap HPf.out (by exact hwW5)) (by exact hwW5)) (by exact hwW5)) (by exact hwW5)) (Nat.le_of_lt hwW5),
      kan (kap (kap (kap (kap HQf.out (by exact hwW7)) (by exact hwW7)) (by exact hwW7)) (by exact hwW7)) (Nat.le_of_lt hwW7)⟩
   | false =>
     rw [hk] at hFm
     have HFm := hdd hFm
     have hok : kdn d = false := by rw [Hok.out, hk]; rfl
     have q1 := HI.out
     have q2 := HS.out
     have q3 := HH.out
     have q4 := HR.out
     rw [hok, if_neg (by decide)] at q1 q2 q3 q4
     have Q1 := hdd q1
     have Q2 := hdd q2
     have Q3 := hdd q3
     have Q4 := hdd q4
     have Q5 := hdd (show kj4 d = 17 by unfold kj4; rw [hok]; rfl)
     clear hk hFm hok q1 q2 q3 q4
     go_wp2_with fail
     refine HFm.out.mono ?_
     rintro e w11 ⟨rfl, hb⟩
     have ht := (hb.block w.heap.size (by omega)).trans HT9.out
     have HT := hdd ht
     have HB := hdd (HB9.out.next hb)
     clear c0 c1 c2 c3 d0 d1 d2 d3 g0 g1 g2 g3
     obtain ⟨d0, d1, d2, d3⟩ := kf1 ht
     have g0 := kai ht 0
     have g1 := kai ht 1
     have g2 := kai ht 2
     have g3 := kai ht 3
     clear ht hb
     go_wp2
     have hK := kr3 w.heap.size w11 (.int .i64 0) (.slice none 0 0) (.slice none 0 0) (.slice none 0 0)
     have hBf := HB.out.trans (hK.below HB.out.size (fun k hk e => by have : k = w.heap.size := e; omega))
     refine kam (p := 2) (t' := 3) (ty := 43) rfl w.heap.size 43 _ (0, 0) _ rfl (set_of (set_of (set_of (set_of HT.out 0 _) 1 _) 2 _) 3 _) Tryz.underlying43 rfl (by kernel_rfl) rfl ?_
     refine ⟨_, by rw [Q5.out]; rfl, ?_, hBf⟩
     rw [Q1.out, Q2.out, Q3.out, Q4.out]
     exact kl4 _ _
 · have hok : kdn d = false := by rw [Hok.out, decide_eq_false hc]; rfl
   have q1 := HI.out
   have q2 := HS.out
   have q3 := HH.out
   have q4 := HR.out
   rw [hok, if_neg (by decide)] at q1 q2 q3 q4
   have Q1 := hdd q1
   have Q2 := hdd q2
   have Q3 := hdd q3
   have Q4 := hdd q4
   have Q5 := hdd (show kj4 d = 17 by unfold kj4; rw [hok]; rfl)
   have hcl : (CL == 0) = false := by simpa using hc
   clear hok q1 q2 q3 q4 hFm
   go_wp2
   have hK := kr3 w.heap.size W9 (.int .i64 0) (.slice none 0 0) (.slice none 0 0) (.slice none 0 0)
   have hBf := HB9.out.trans (hK.below HB9.out.size (fun k hk e => by have : k = w.heap.size := e; omega))
   refine kam (p := 2) (t' := 3) (ty := 43) rfl w.heap.size 43 _ (0, 0) _ rfl (set_of (set_of (set_of (set_of HT9.out 0 _) 1 _) 2 _) 3 _) Tryz.underlying43 rfl (by kernel_rfl) rfl ?_
   refine ⟨_, by rw [Q5.out]; rfl, ?_, hBf⟩
   rw [Q1.out, Q2.out, Q3.out, Q4.out]
   exact kl4 _ _
theorem ksp (d : Bs) (w : World) (hd : d.length ≤ 1000000000) : Calls Tryz.prog 44 #[.string (B d)] w fun en w' => ∃ v, en = .returned (.tuple #[v, .int .i64 (upF d)]) ∧ kc1 v (upV d) w' ∧ Below w.heap.size w w' := by
 obtain ⟨t, ht⟩ : ∃ t, w.heap.size = t := ⟨_, rfl⟩
 obtain ⟨r, hr⟩ : ∃ r, t + 1 = r := ⟨_, rfl⟩
 have C1 := hdd (fun (W : World) (h : kdy r (B d) 0 W) => show Calls Tryz.prog 104 #[.pointer (some ⟨r, 0, none⟩), .int .i64 65536] W (fun en w' => ∃ v, en = .returned v ∧ w'.ownsRow W.heap.size 9 1 v (upL d).1.length ((upL d).1.map vS) ∧ kdy r (B (upL d).2.1) (upL d).2.2 w' ∧ ka1 (Licit.One r) W w') from (keb r (B d) 0 65536 W h (by rw [kbt]; omega)).mono fun en w' ⟨v, h1, h2, h3, h4⟩ => ⟨v, h1, by rw [List.length_map] at h2; exact h2, h3, h4⟩)
 have C2 := hdd (fun (W : World) (h : kdy r (B (upL d).2.1) (upL d).2.2 W) => show Calls Tryz.prog 105 #[.pointer (some ⟨r, 0, none⟩)] W (fun en w' => en = .returned (.int .i64 (ka4 (upL d).2)) ∧ W = w') from kil r _ _ W h)
 have C3 := hdd (fun (W : World) => by have := klv (upE d) W (by have := kl7 (kpt d) 0; unfold upE; omega); rw [(kxa (upE d)).1, (kxa (upE d)).2] at this; exact this)
 have C4 := hdd (fun (W : World) => kpf (upG d) W (by have := kl7 (kpt d) 1; unfold upG; omega))
 have hcnt := kb6 65536 ((d, 0) : St)
 have hW1 : ∀ W, W = (w.alloc (.cells evZ 45)).alloc (.cells #[.string (B d), .int .i64 0] 161) → Below w.heap.size w W ∧ W.heap[t]? = some (.cells evZ 45 (0, 0)) ∧ kdy r (B d) 0 W := by
  rintro _ rfl
  subst hr
  subst ht
  exact ⟨((Below.refl _ _).alloc (Nat.le_refl _) _).alloc (by simp) _, kaq (kak _ _), kaj (by simp) rfl⟩
 go_enter Tryz.func44, Tryz.ntmps44
 go_upto_region 2 with fail
 show Code.wp _ _ _ _ ((w.alloc (.cells evZ 45)).alloc (.cells #[.string (B d), .int .i64 0] 161))
 have hr' : w.heap.size + 1 = r := by omega
 try simp only [hr', ht, World.size_alloc]
 generalize hw1 : (w.alloc (.cells evZ 45)).alloc (.cells #[.string (B d), .int .i64 0] 161) = w1
 obtain ⟨hb1, hT1, hR1⟩ := hW1 w1 hw1.symm
 have HB1 := hdd hb1
 have HT1 := hdd hT1
 have HR1 := hdd hR1
 have HBT := hdd (And.intro ht hr)
 have HN := hdd (show (upL d).1.length ≤ 1024 from hcnt)
 clear hW1 hw1 hb1 hT1 hR1 hr' ht hr hcnt
 go_upto_region 3 with (first
  | (go_at_call 104; refine (C1.out _ HR1.out).mono ?_
     rintro en w2 ⟨v2, rfl, hw, hA, hK⟩
     obtain ⟨a2, c2, hv2⟩ := kah hw
     have HL2 := hdd hw
     have HR2 := hdd hA
     have HT2 := hdd ((hK.block t (kac HT1.out) (fun e => by have : t = r := e; have := HBT.out; omega)).trans HT1.out)
     have HB2 := hdd (HB1.out.trans (hK.below HB1.out.size (fun q hq e => by have : q = r := e; have := HBT.out; omega)))
     clear hw hA hK)
  | fail)
 subst hv2
 have hsl := IsSl.of_owns (by rw [List.length_map]; exact HL2.out) (by rw [List.length_map]; have := HN.out; unfold maxLen; omega)
 have HSL := hdd hsl
 clear hsl
 have hd0 : upA d = (decide (ka4 (upL d).2 = 0) && decide ((upL d).1.length = 2)) := rfl
 by_cases hA : upA d = true
 rotate_left
 · have hF : upF d = 17 ∧ upV d = Rv.ev0 := by unfold upF upV upB; rw [Bool.not_eq_true] at hA; rw [hA]; exact ⟨rfl, rfl⟩
   have HF := hdd hF
   clear hF
   by_cases hc : ka4 (upL d).2 = 0
   · have hn : (upL d).1.length ≠ 2 := fun h => hA (by rw [hd0, hc, h]; rfl)
     obtain ⟨n, hnn⟩ : ∃ n, (upL d).1.length = n := ⟨_, rfl⟩
     rw [hnn] at hn
     have q1 : ((n : Int) != 2) = true := by simp; omega
     have q2 : ((n : Int) == 2) = false := by simp; omega
     rw [hc] at C2
     have hnI : (((upL d).1.length : Nat) : Int) = (n : Int) := by rw [hnn]
     clear hA hd0 hc hn
     rw [hnn]
     clear hnn hnI
     go_wp2_with (first
      | (go_at_call 105; refine (C2.out _ HR2.out).mono ?_; rintro en w3 ⟨rfl, rfl⟩)
      | (refine kaa rfl 45 _ _ rfl t rfl evZ rfl 45 evZ HT2.out (by kernel_rfl) rfl (kax _ _ _ _ _ _ rfl rfl rfl rfl rfl) ?_
         intro wE hwE hkE
         have HWE := hdd hwE
         have HBE := hdd (HB2.out.trans (hkE.below HB2.out.size (fun q hq e => by have : q = t := e; have := HBT.out; omega)))
         clear hwE hkE)
      | fail)
     refine kam rfl t 45 _ (0, 0) _ rfl HWE.out rfl rfl (by kernel_rfl) rfl ?_
     rw [HF.out.1, HF.out.2]
     exact ⟨_, rfl, kcf _, HBE.out⟩
   · have d1 : (ka4 (upL d).2 == 0) = false := beq_eq_false_iff_ne.2 hc
     have d2 : (ka4 (upL d).2 != 0) = true := by rw [bne, d1]; rfl
     clear hA hd0 hc
     go_wp2_with (first
      | (go_at_call 105; refine (C2.out _ HR2.out).mono ?_; rintro en w3 ⟨rfl, rfl⟩)
      | (refine kaa rfl 45 _ _ rfl t rfl evZ rfl 45 evZ HT2.out (by kernel_rfl) rfl (kax _ _ _ _ _ _ rfl rfl rfl rfl rfl) ?_
         intro wE hwE hkE
         have HWE := hdd hwE
         have HBE := hdd (HB2.out.trans (hkE.below HB2.out.size (fun q hq e => by have : q = t := e; have := HBT.out; omega)))
         clear hwE hkE)
      | fail)
     refine kam rfl t 45 _ (0, 0) _ rfl HWE.out rfl rfl (by kernel_rfl) rfl ?_
     rw [HF.out.1, HF.out.2]
     exact ⟨_, rfl, kcf _, HBE.out⟩
 · have hA' := hA
   rw [hd0, Bool.and_eq_true, decide_eq_true_eq, decide_eq_true_eq] at hA'
   obtain ⟨hc, hn⟩ := hA'
   obtain ⟨b2, o2, k2, hv, hb2, hc0⟩ := HSL.out.text rfl (show 0 < (upL d).1.length by omega)
   obtain ⟨b3, o3, k3, hv3, -, hc1⟩ := HSL.out.text rfl (show 1 < (upL d).1.length by omega)
   simp only [Value.slice.injEq, true_and] at hv hv3
   obtain ⟨rfl, rfl⟩ := hv
   obtain ⟨h3, -⟩ := hv3
   simp only [Option.some.injEq, Addr.mk.injEq, and_true] at h3
   obtain ⟨rfl, rfl⟩ := h3
   rw [show (upL d).1.getD 0 [] = upE d from rfl, Nat.add_zero] at hc0
   rw [show (upL d).1.getD 1 [] = upG d from rfl] at hc1
   rw [hc] at C2
   rw [hn]
   have HA := hdd hA
   have HC1 := hdd (show ∀ W, Below w2.heap.size w2 W → W.cell? ⟨b2, o2 + 1, none⟩ = some (.string (B (upG d))) from fun W hb => (hb.cell (p := ⟨b2, o2 + 1, none⟩) hb2).trans hc1)
   clear hA hd0 hc hn C1 hc1
   go_upto_region 5 with (first
    | (go_at_call 105; refine (C2.out _ HR2.out).mono ?_; rintro en w3 ⟨rfl, rfl⟩)
    | fail)
   go_upto_region 6 with (first
    | (go_at_call 42; refine (C3.out _).mono ?_
       rintro en w3 ⟨v3, rfl, hi, hb⟩
       have hform := hi w3 (fun _ _ _ => rfl)
       obtain ⟨hok3, nb, mb, tb, ub, sb, xb, hb', yb, rb, zb, rfl, -⟩ := hform
       have HI3 := hdd hi
       have HOK3 := hdd hok3
       have HBn3 := hdd hb
       have HB3 := hdd (HB2.out.next hb)
       have HT3 := bhh hb HT2
       clear hi hb hok3)
    | (refine kaa rfl 45 _ _ rfl w3.heap.size rfl (evC (vdV (upE d)) (.slice nb (vdV (upE d)).names.length mb) (.slice tb (vdV (upE d)).targets.length ub) (.slice sb (vdV (upE d)).sg.S.length xb) (.slice hb' (vdV (upE d)).sg.H.length yb) (.slice rb (vdV (upE d)).sg.R.length zb)) rfl 45 evZ (kaj rfl rfl) (by kernel_rfl) rfl (kax _ _ _ _ _ _ rfl rfl rfl rfl rfl) ?_
       intro w4 hw hk
       have HX4 := hdd hw
       have HBn4 := hdd (show Below w3.heap.size w3 w4 from ((Below.refl _ _).alloc (Nat.le_refl _) _).trans (hk.below (B := w3.heap.size) (by simp) (fun q hq e => by have : q = w3.heap.size := e; omega)))
       have HB4 := hdd (HB3.out.next HBn4.out)
       have HT4 := bhh HBn4.out HT3
       clear hw hk hc0)
    | fail)
   obtain ⟨x, hx⟩ : ∃ x, w3.heap.size = x := ⟨_, rfl⟩
   rw [hx] at HX4
   have HXX := hdd (And.intro hx (show t < x from by have := kac HT3.out; omega))
   try simp only [hx]
   clear hx
   have hc1 := HC1.out w4 (HBn3.out.next HBn4.out)
   go_upto_region 7 with (first
    | (go_at_call 107; refine (C4.out _).mono ?_
       rintro en w5 ⟨v5, rfl, hi, hb⟩
       have HI5 := hdd hi
       obtain ⟨vs, vh, vr, rfl, i1, i2, i3⟩ := hi
       have HOs := hdd (And.intro (k3g i1) (And.intro (k3g i2) (k3g i3)))
       have HOne := hdd (kqj (i := k3f (upG d)) HOs.out.1 HOs.out.2.1 HOs.out.2.2)
       have HBn5 := hdd hb
       have HB5 := hdd (HB4.out.next hb)
       have HX5 := bhh hb HX4
       have HT5 := bhh hb HT4
       clear hb hc1 i1 i2 i3)
    | (refine kaa rfl 43 _ _ rfl w5.heap.size rfl #[.int .i64 (k3f (upG d)), vs, vh, vr] rfl 43 sgZ (kaj rfl rfl) (by kernel_rfl) rfl HOne.out ?_
       intro w6 hw hk
       have HG6 := hdd hw
       have HBn6 := hdd (show Below w5.heap.size w5 w6 from ((Below.refl _ _).alloc (Nat.le_refl _) _).trans (hk.below (B := w5.heap.size) (by simp) (fun q hq e => by have : q = w5.heap.size := e; omega)))
       have HB6 := hdd (HB5.out.next HBn6.out)
       have HX6 := bhh HBn6.out HX5
       have HT6 := bhh HBn6.out HT5
       clear hw hk)
    | fail)
   obtain ⟨y, hy⟩ : ∃ y, w5.heap.size = y := ⟨_, rfl⟩
   rw [hy] at HG6
   have HYY := hdd hy
   try simp only [hy]
   clear hy
   obtain ⟨F, hF⟩ : ∃ F, vdF (upE d) = F := ⟨_, rfl⟩
   obtain ⟨G, hG⟩ : ∃ G, kj4 (upG d) = G := ⟨_, rfl⟩
   have hcase : (upB d = false ∧ F = 17 ∧ (G = 0 ∨ G = 17)) ∨ (upB d = false ∧ F = 0 ∧ G = 17) ∨ (upB d = true ∧ F = 0 ∧ G = 0) := by
    have hF2 : F = 0 ∨ F = 17 := by rw [← hF]; unfold vdF; split <;> simp
    have hG2 : G = 0 ∨ G = 17 := by rw [← hG]; unfold kj4; split <;> simp
    unfold upB
    rw [HA.out, hF, hG]
    rcases hF2 with rfl | rfl <;> rcases hG2 with rfl | rfl <;> simp
   rw [hF, hG]
   clear hF hG
   have hbad : ∀ (F G : Int), upB d = false → F = 17 ∨ G = 17 → (F = 0 ∨ F = 17) → (G = 0 ∨ G = 17) → upF d = 17 ∧ upV d = Rv.ev0 := by
    intro _ _ hB _ _ _
    unfold upF upV
    rw [hB]
    exact ⟨rfl, rfl⟩
   rcases hcase with ⟨hB, rfl, hG⟩ | ⟨hB, rfl, rfl⟩ | ⟨hB, rfl, rfl⟩
   · have HF := hdd (hbad 17 17 hB (.inl rfl) (.inr rfl) (.inr rfl))
     clear hbad hB
     rcases hG with rfl | rfl
     · go_wp2_with (first
        | (refine kaa rfl 45 _ _ rfl t rfl evZ rfl 45 evZ HT6.out (by kernel_rfl) rfl (kax _ _ _ _ _ _ rfl rfl rfl rfl rfl) ?_
           intro wE hwE hkE
           have HWE := hdd hwE
           have HBE := hdd (HB6.out.trans (hkE.below HB6.out.size (fun q hq e => by have : q = t := e; have := HBT.out; omega)))
           clear hwE hkE)
        | fail)
       refine kam rfl t 45 _ (0, 0) _ rfl HWE.out rfl rfl (by kernel_rfl) rfl ?_
       rw [HF.out.1, HF.out.2]
       exact ⟨_, rfl, kcf _, HBE.out⟩
     · go_wp2_with (first
        | (refine kaa rfl 45 _ _ rfl t rfl evZ rfl 45 evZ HT6.out (by kernel_rfl) rfl (kax _ _ _ _ _ _ rfl rfl rfl rfl rfl) ?_
           intro wE hwE hkE
           have HWE := hdd hwE
           have HBE := hdd (HB6.out.trans (hkE.below HB6.out.size (fun q hq e => by have : q = t := e; have := HBT.out; omega)))
           clear hwE hkE)
        | fail)
       refine kam rfl t 45 _ (0, 0) _ rfl HWE.out rfl rfl (by kernel_rfl) rfl ?_
       rw [HF.out.1, HF.out.2]
       exact ⟨_, rfl, kcf _, HBE.out⟩
   · have HF := hdd (hbad 17 17 hB (.inl rfl) (.inr rfl) (.inr rfl))
     clear hbad hB
     go_wp2_with (first
      | (refine kaa rfl 45 _ _ rfl t rfl evZ rfl 45 evZ HT6.out (by kernel_rfl) rfl (kax _ _ _ _ _ _ rfl rfl rfl rfl rfl) ?_
         intro wE hwE hkE
         have HWE := hdd hwE
         have HBE := hdd (HB6.out.trans (hkE.below HB6.out.size (fun q hq e => by have : q = t := e; have := HBT.out; omega)))
         clear hwE hkE)
      | fail)
     refine kam rfl t 45 _ (0, 0) _ rfl HWE.out rfl rfl (by kernel_rfl) rfl ?_
     rw [HF.out.1, HF.out.2]
     exact ⟨_, rfl, kcf _, HBE.out⟩
   · have HF := hdd (show upF d = 0 ∧ upV d = { vdV (upE d) with sg := ksx d } by unfold upF upV; rw [hB]; exact ⟨rfl, rfl⟩)
     clear hbad hB
     obtain ⟨g0, g1, g2, g3⟩ := kf1 HG6.out
     go_wp2_with (first
      | (refine kby rfl 43 _ _ rfl x 14 #[.int .i64 (k3f (upG d)), vs, vh, vr] rfl rfl _ 45 HX6.out (by simp) (by kernel_rfl) HOne.out ?_
         intro w7 hw hk
         have HX7 := hdd (show w7.heap[x]? = some (.cells (evC { vdV (upE d) with sg := ksx d } (.slice nb (vdV (upE d)).names.length mb) (.slice tb (vdV (upE d)).targets.length ub) vs vh vr) 45 (0, 0)) from hw)
         have HK7 := hdd hk
         have HT7 := hdd ((hk.block t (kac HT6.out) (fun e => by have : t = x := e; have := HXX.out; omega)).trans HT6.out)
         clear hw hk g0 g1 g2 g3)
      | (refine k3e 44 rfl ?_; refine wpList_load_row rfl 45 _ rfl x rfl 45 (evC { vdV (upE d) with sg := ksx d } (.slice nb (vdV (upE d)).names.length mb) (.slice tb (vdV (upE d)).targets.length ub) vs vh vr) (0, 0) _ HX7.out rfl rfl (by kernel_rfl) ?_)
      | (refine kaa rfl 45 _ _ rfl t rfl (evC { vdV (upE d) with sg := ksx d } (.slice nb (vdV (upE d)).names.length mb) (.slice tb (vdV (upE d)).targets.length ub) vs vh vr) rfl 45 evZ HT7.out (by kernel_rfl) rfl (kax _ _ _ _ _ _ rfl rfl HOs.out.1 HOs.out.2.1 HOs.out.2.2) ?_
         intro wE hwE hkE
         have HWE := hdd hwE
         have HKE := hdd hkE
         clear hwE hkE)
      | fail)
     refine kam rfl t 45 _ (0, 0) _ rfl HWE.out rfl rfl (by kernel_rfl) rfl ?_
     rw [HF.out.1, HF.out.2]
     obtain ⟨q1, q2⟩ := HBT.out
     obtain ⟨q6, q7⟩ := HXX.out
     have q8 := HYY.out
     have s3 := HBn3.out.size
     have s4 := HBn4.out.size
     have s5 := HBn5.out.size
     have s6 := HBn6.out.size
     have lt2 := kac HT2.out
     have lx4 := kac HX4.out
     have keep : ∀ q, q ≠ x → q ≠ t → q < w6.heap.size → wE.heap[q]? = w6.heap[q]? := fun q h1 h2 h3 => (HKE.out.block q (Nat.lt_of_lt_of_le h3 HK7.out.size) (fun e => h2 e)).trans (HK7.out.block q h3 (fun e => h1 e))
     have hI3 := HI3.out wE (fun q h1 h2 => by
      rw [keep q (by omega) (by omega) (by omega), HBn6.out.block q (by omega), HBn5.out.block q (by omega), HBn4.out.block q h2])
     obtain ⟨-, nb', mb', tb', ub', sb', xb', hb'', yb', rb', zb', hev, j1, j2, -⟩ := hI3
     simp only [evW, evS, evV, evC, Value.agg.injEq, Array.mk.injEq, List.cons.injEq, Value.slice.injEq, and_true, true_and] at hev
     obtain ⟨⟨rfl, rfl⟩, ⟨rfl, rfl⟩, -⟩ := hev
     have hI5 := (HI5.out.keep (w' := wE) (fun q h1 h2 => by
      rw [keep q (by omega) (by omega) (by omega), HBn6.out.block q (by omega)])).is (kis _).1 (kis _).2.1 (kis _).2.2
     obtain ⟨vs', vh', vr', hev2, i1, i2, i3⟩ := hI5
     simp only [Value.agg.injEq, Array.mk.injEq, List.cons.injEq, and_true, true_and] at hev2
     obtain ⟨rfl, rfl, rfl⟩ := hev2
     have hB7 := HB6.out.trans (HK7.out.below HB6.out.size (fun q hq e => by have : q = x := e; omega))
     exact ⟨_, rfl, kc1.signed HOK3.out j1 j2 i1 i2 i3, hB7.trans (HKE.out.below hB7.size (fun q hq e => by have : q = t := e; omega))⟩
theorem kxk {d : Bs} (h : kj4 d = 0) : k0l ⟨k3f d, kp0 d, kpz d, decR d⟩ = true ∧ kdz ⟨k3f d, kp0 d, kpz d, decR d⟩ = d := by
 unfold kj4 at h
 cases hk : kdn d with
 | false => rw [hk] at h; cases h
 | true =>
   unfold k3f kp0 kpz decR
   rw [hk]
   simp only [if_true]
   unfold kdn at hk
   simp only [Bool.and_eq_true, decide_eq_true_eq] at hk
   exact ⟨hk.2, (ks2 (d := d) (i := (kvo d).1) (s1 := (kvo d).2) (s2 := (kvr d).2) (s3 := (kvs d).2) (s4 := (kvp d).2) rfl rfl rfl rfl hk.1).symm⟩
theorem close_nil {st : St} (h : ka4 st = 0) : st.2 = 0 ∧ st.1 = [] := Rv.close_nil h
theorem k2i {d : Bs} (h : upF d = 0) : pkF (upV d) = 0 ∧ pkS (upV d) = d := by
 unfold upF at h
 cases hB : upB d with
 | false => rw [hB] at h; cases h
 | true =>
   have hV : upV d = { vdV (upE d) with sg := ksx d } := by unfold upV; rw [hB]; rfl
   unfold upB upA at hB
   simp only [Bool.and_eq_true, decide_eq_true_eq] at hB
   obtain ⟨⟨hc, hn⟩, h1, h2⟩ := hB
   obtain ⟨v1, v2, v3⟩ := kpp h1
   obtain ⟨s1, s2⟩ := kxk h2
   have hp : pkB (upV d) = true := by
    unfold pkB
    rw [hV]
    rw [show Rv.validB { vdV (upE d) with sg := ksx d } = Rv.validB (vdV (upE d)) from rfl, v1]
    exact s1
   unfold pkF pkS
   rw [hp]
   refine ⟨rfl, ?_⟩
   have g1 : Rv.encV (upV d) = upE d := by rw [hV]; exact v2
   have g2 : kdz (upV d).sg = upG d := by rw [hV]; exact s2
   rw [if_pos rfl, g1, g2]
   obtain ⟨c1, c2⟩ := close_nil hc
   have hcn := kdd (most := 65536) d c1
   have hL : (upL d).1 = [upE d, upG d] := by
    unfold upE upG
    match hl : (upL d).1, hn with
    | [a, b], _ => rfl
   have h3 := hcn.1
   rw [show ka5 65536 (d, 0) = upL d from rfl, c2, List.append_nil, hL] at h3
   exact h3.symm
end Go.Proofs.YtknpbekoenbphaaGreatDoor
