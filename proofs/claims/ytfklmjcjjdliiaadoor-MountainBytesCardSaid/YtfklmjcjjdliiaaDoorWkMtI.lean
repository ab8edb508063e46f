/- Decode of package mountain and of its reference do what the plain functions say; what is written is read back, and what is read has just those bytes. -/
import Derived.Test.YtfklmjcjjdliiaaDoorWkMtH
import Derived.Test.YtfklmjcjjdliiaaDoorWkMt5
import Derived.Test.YtfklmjcjjdliiaaDoorWkMany
import Derived.Test.YtfklmjcjjdliiaaDoorWkRefL
import Derived.Test.YtfklmjcjjdliiaaDoorPlainSig
import Derived.Deep.Cut
namespace Go.Proofs.YtfklmjcjjdliiaaDoor
open Go Go.RowKit Licit

/-- What Decode reads. -/
def mdec1 (d : Bs) : Int × St := rdNum 0 1048576 (d, 0)
def mdec2 (d : Bs) : List Bs × St := rdTexts 32 (mdec1 d).2
def mdecOk (d : Bs) : Bool := decide (rdClose (mdec2 d).2 = 0) && okM (mdec1 d).1 (mdec2 d).1
def mdecS (d : Bs) : Int := if mdecOk d = true then (mdec1 d).1 else 0
def mdecP (d : Bs) : List Bs := if mdecOk d = true then (mdec2 d).1 else []
def mdecE (d : Bs) : Int := if mdecOk d = true then 0 else 17
theorem mt_back {s : Int} {P : List Bs} (h : okM s P = true) : mdecE (encT s P) = 0 ∧ mdecS (encT s P) = s ∧ mdecP (encT s P) = P := by
  obtain ⟨⟨h0, h1⟩, hl, h32⟩ := okM_iff.1 h
  have hP : P.length ≤ 1024 := by rw [hl]; exact Nat.le_trans (hts_len 21 _) (by decide)
  have e : encT s P = (eNum s).1 ++ ((eList eText P).1 ++ []) := by unfold encT num; rw [if_pos h, List.append_nil]
  have d1 : mdec1 (encT s P) = (s, ((eList eText P).1 ++ [], 0)) := by
    unfold mdec1
    rw [e]
    exact (num_good (low := 0) (high := 1048576) h0 (by omega) h0 (by omega)).back _
  have d2 : mdec2 (encT s P) = (P, ([], 0)) := by
    unfold mdec2
    rw [d1]
    exact (all32_good h32 hP).1.back []
  have hok : mdecOk (encT s P) = true := by
    unfold mdecOk
    rw [d2, d1, h]
    rfl
  unfold mdecE mdecS mdecP
  rw [hok, d1, d2]
  exact ⟨rfl, rfl, rfl⟩
theorem mt_canon {d : Bs} (h : mdecE d = 0) : okM (mdecS d) (mdecP d) = true ∧ encT (mdecS d) (mdecP d) = d := by
  have hok : mdecOk d = true := by
    unfold mdecE at h
    split at h
    · assumption
    · cases h
  unfold mdecS mdecP
  rw [hok, if_pos rfl, if_pos rfl]
  unfold mdecOk at hok
  simp only [Bool.and_eq_true, decide_eq_true_eq] at hok
  obtain ⟨hc, hk⟩ := hok
  refine ⟨hk, ?_⟩
  obtain ⟨s, hs⟩ : ∃ x, (mdec1 d).1 = x := ⟨_, rfl⟩
  obtain ⟨t1, ht1⟩ : ∃ x, (mdec1 d).2 = x := ⟨_, rfl⟩
  obtain ⟨P, hP⟩ : ∃ x, (mdec2 d).1 = x := ⟨_, rfl⟩
  obtain ⟨t2, ht2⟩ : ∃ x, (mdec2 d).2 = x := ⟨_, rfl⟩
  rw [hs, hP] at hk ⊢
  rw [ht2] at hc
  have h1 : rdNum 0 1048576 (d, 0) = (s, t1) := by rw [← hs, ← ht1]; rfl
  have h2 : rdTexts 32 t1 = (P, t2) := by rw [← hP, ← ht2, ← ht1]; rfl
  have e4 : t2.2 = 0 ∧ t2.1 = [] := by
    unfold rdClose at hc
    split at hc
    · cases hc
    · rename_i c
      refine ⟨hc, ?_⟩
      rcases Decidable.em (t2.1 = []) with x | x
      · exact x
      · exact absurd ⟨hc, x⟩ c
  have e1 : t1.2 = 0 := by
    rcases Decidable.em (t1.2 = 0) with x | x
    · exact x
    · rw [show rdTexts 32 t1 = ([], t1) from many_stop x] at h2
      exact absurd (by rw [(Prod.mk.inj h2).2]; exact e4.1) x
  have f1 : t1 = (t1.1, 0) := Prod.ext rfl e1
  rw [f1] at h2
  have c1 := num_canon (low := 0) (high := 1048576) d (by rw [h1]; exact e1)
  have c2 := texts_canon (most := 32) t1.1 (by rw [h2]; exact e4.1)
  rw [h1] at c1
  rw [h2] at c2
  have g1 := c1.1
  rw [c2.1, e4.2, List.append_nil] at g1
  unfold encT num
  rw [if_pos hk]
  exact g1.symm

set_option maxHeartbeats 4000000 in
set_option maxRecDepth 100000 in
theorem MtDec_any (d : Bs) (w : World) (hd : d.length ≤ 1000000000) :
    Calls Tryd.prog 37 #[.string (B d)] w fun e w' => ∃ v, e = .returned (.tuple #[v, .int .i64 (mdecE d)]) ∧ MtIs v (mdecS d) (mdecP d) w' ∧ Below w.heap.size w w' := by
  obtain ⟨W1, hW1⟩ : ∃ W1, (w.alloc (.cells #[.int .i64 0, .slice none 0 0] 31)).alloc (.cells #[.string (B d), .int .i64 0] 87) = W1 := ⟨_, rfl⟩
  have HB1 := Lib.hid (show Below w.heap.size w W1 by rw [← hW1]; exact ((Below.refl _ _).alloc (Nat.le_refl _) _).alloc (by simp) _)
  have HT1 := Lib.hid (show W1.heap[w.heap.size]? = some (.cells #[.int .i64 0, .slice none 0 0] 31) by rw [← hW1]; exact old_of (new_of _ _))
  have HA1 := Lib.hid (show Rdr (w.heap.size + 1) (B d) 0 W1 by rw [← hW1]; exact new_at (by simp) rfl)
  have hz1 : w.heap.size + 2 = W1.heap.size := by rw [← hW1]; simp
  obtain ⟨s, hs⟩ : ∃ i, (mdec1 d).1 = i := ⟨_, rfl⟩
  obtain ⟨t1, ht1⟩ : ∃ s1, (mdec1 d).2 = s1 := ⟨_, rfl⟩
  obtain ⟨P, hP⟩ : ∃ S, (mdec2 d).1 = S := ⟨_, rfl⟩
  obtain ⟨t2, ht2⟩ : ∃ s2, (mdec2 d).2 = s2 := ⟨_, rfl⟩
  have l1 : t1.1.length ≤ d.length := by rw [← ht1]; exact rdNum_len _ _ _
  have n1 : P.length ≤ 1024 := by rw [← hP]; exact texts_cnt _ _
  have e1 : rdNum 0 1048576 ((B d).data.toList, 0) = (s, t1) := by rw [← hs, ← ht1]; rfl
  have e2 : rdTexts 32 ((B t1.1).data.toList, t1.2) = (P, t2) := by rw [← hP, ← ht2, ← ht1]; rfl
  have C1 := Lib.hid (fun (W : World) (h : Rdr (w.heap.size + 1) (B d) 0 W) => number_any (w.heap.size + 1) (B d) 0 0 1048576 W h (by unfold maxLen; rw [B_size]; omega))
  have C2 := Lib.hid (fun (W : World) (h : Rdr (w.heap.size + 1) (B t1.1) t1.2 W) => texts_any (w.heap.size + 1) (B t1.1) t1.2 32 W h (by rw [B_size]; omega))
  have C5 := Lib.hid (fun (W : World) (h : Rdr (w.heap.size + 1) (B t2.1) t2.2 W) => close_any (w.heap.size + 1) (B t2.1) t2.2 W h)
  rw [e1] at C1
  rw [e2] at C2
  obtain ⟨CL, hCL⟩ : ∃ CL, rdClose t2 = CL := ⟨_, rfl⟩
  rw [show rdClose ((B t2.1).data.toList, t2.2) = CL from hCL] at C5
  have Hok := Lib.hid (show mdecOk d = (decide (CL = 0) && okM s P) by unfold mdecOk; rw [ht2, hCL, hs, hP])
  have HS := Lib.hid (show mdecS d = if mdecOk d = true then s else 0 by unfold mdecS; rw [hs])
  have HP := Lib.hid (show mdecP d = if mdecOk d = true then P else [] by unfold mdecP; rw [hP])
  have HW1 := Lib.hid hW1
  clear hs ht1 hP ht2 e1 e2 hCL l1 hW1
  go_enter Tryd.func37, Tryd.ntmps37
  go_wp2_with fail
  refine (newReader_any (B d) _).mono ?_
  rintro e w1 ⟨rfl, rfl⟩
  go_upto_region 2 with fail
  rw [HW1.out]
  clear HW1
  go_wp2_with fail
  refine (C1.out _ HA1.out).mono ?_
  rintro e w2 ⟨rfl, hA, hK⟩
  have hz2 := hK.size
  have HT2 := Lib.hid ((hK.block w.heap.size (by omega) (fun e => by have : w.heap.size = w.heap.size + 1 := e; omega)).trans HT1.out)
  have HB2 := Lib.hid (HB1.out.trans (hK.below (by omega) (fun k hk e => by have : k = w.heap.size + 1 := e; omega)))
  have HA2 := Lib.hid hA
  clear hA hK
  obtain ⟨b, hb⟩ : ∃ b, w2.heap.size = b := ⟨_, rfl⟩
  obtain ⟨W3, hW3⟩ : ∃ W3, w2.alloc (.cells #[.int .i64 s, .slice none 0 0] 31) = W3 := ⟨_, rfl⟩
  have HX3 := Lib.hid (show W3.heap[b]? = some (.cells #[.int .i64 s, .slice none 0 0] 31) by rw [← hW3, ← hb]; exact new_of _ _)
  have HT3 := Lib.hid (show W3.heap[w.heap.size]? = some (.cells #[.int .i64 0, .slice none 0 0] 31) by rw [← hW3]; exact old_of HT2.out)
  have HA3 := Lib.hid (show Rdr (w.heap.size + 1) (B t1.1) t1.2 W3 by rw [← hW3]; exact HA2.out.alloc _)
  have HB3 := Lib.hid (show Below w.heap.size w W3 by rw [← hW3]; exact HB2.out.alloc HB2.out.size _)
  have hz3 : b + 1 = W3.heap.size := by rw [← hW3, ← hb]; simp
  rw [hb] at hz2
  have HW3 := Lib.hid hW3
  have Hb := Lib.hid hb
  clear hW3 hb
  go_upto_region 3 with fail
  rw [HW3.out, Hb.out]
  clear HW3 Hb
  go_wp2_with fail
  refine (C2.out _ HA3.out).mono ?_
  rintro e w4 ⟨v4, rfl, ho, hA, hK⟩
  have hz4 := hK.size
  rw [List.length_map] at ho
  have hx4 := (hK.block b (by omega) (fun e => by have : b = w.heap.size + 1 := e; omega)).trans HX3.out
  have HT4 := Lib.hid ((hK.block w.heap.size (by omega) (fun e => by have : w.heap.size = w.heap.size + 1 := e; omega)).trans HT3.out)
  have HA4 := Lib.hid hA
  have HB4 := Lib.hid (HB3.out.trans (hK.below (by omega) (fun k hk e => by have : k = w.heap.size + 1 := e; omega)))
  have HN4 := Lib.hid (NilOk.own ho)
  obtain ⟨a4, p4, rfl⟩ := own_form ho
  have HO4 := Lib.hid ho
  have HX4 := Lib.hid hx4
  obtain ⟨c0, c1⟩ := mtC hx4
  have f1 := free_of hx4 1
  clear ho hA hK hx4
  obtain ⟨W5, hW5⟩ : ∃ W5, w4.setCell ⟨b, 1, none⟩ (.slice a4 P.length p4) = W5 := ⟨_, rfl⟩
  have HX5 := Lib.hid (show W5.heap[b]? = some (.cells #[.int .i64 s, .slice a4 P.length p4] 31) by rw [← hW5]; exact set_of HX4.out 1 _)
  have HT5 := Lib.hid (show W5.heap[w.heap.size]? = some (.cells #[.int .i64 0, .slice none 0 0] 31) by rw [← hW5]; exact set_other HT4.out (by show w.heap.size ≠ b; omega))
  have HA5 := Lib.hid (show Rdr (w.heap.size + 1) (B t2.1) t2.2 W5 by rw [← hW5]; exact set_other HA4.out (by show w.heap.size + 1 ≠ b; omega))
  have HB5 := Lib.hid (show Below w.heap.size w W5 by rw [← hW5]; exact HB4.out.setCell (p := ⟨b, 1, none⟩) (by show w.heap.size ≤ b; omega) _)
  have hM5 : MtIs (.agg #[.int .i64 s, .slice a4 P.length p4]) s P W5 := by
    rw [← hW5]
    exact ⟨_, rfl, IsSl.of_owns (by rw [List.length_map]; exact ownsRow_set (p := ⟨b, 1, none⟩) HO4.out (by show b < W3.heap.size; omega)) (by rw [List.length_map]; unfold maxLen; omega), HN4.out⟩
  have HM5 := Lib.hid hM5
  have hz5 : w4.heap.size = W5.heap.size := by rw [← hW5]; simp
  have HW5 := Lib.hid hW5
  clear hM5 hW5
  go_upto_region 4 with fail
  rw [HW5.out]
  clear HW5 c0 c1 f1
  go_wp2_with fail
  refine (C5.out _ HA5.out).mono ?_
  rintro e w6 ⟨rfl, rfl⟩
  have HVd := Lib.hid (MtValid_any _ s P _ HM5.out)
  obtain ⟨c0, c1⟩ := mtC HX5.out
  by_cases hc : CL = 0
  · subst hc
    cases hk : okM s P with
    | true =>
      have hok : mdecOk d = true := by rw [Hok.out, hk]; rfl
      have Q1 := Lib.hid (show mdecS d = s by rw [HS.out, hok]; rfl)
      have Q2 := Lib.hid (show mdecP d = P by rw [HP.out, hok]; rfl)
      have Q3 := Lib.hid (show mdecE d = 0 by unfold mdecE; rw [hok]; rfl)
      have e0 : validM s P = 0 := by unfold validM; rw [hk]; rfl
      rw [e0] at HVd
      clear hk hok e0
      go_wp2_with fail
      refine HVd.out.mono ?_
      rintro e w7 ⟨rfl, hb⟩
      have HX7 := Lib.hid ((hb.block _ (lt_of HX5.out)).trans HX5.out)
      have HT7 := Lib.hid ((hb.block _ (lt_of HT5.out)).trans HT5.out)
      have HM7 := Lib.hid (HM5.out.below hb)
      have HB7 := Lib.hid (HB5.out.next hb)
      clear c0 c1 hb
      obtain ⟨c0, c1⟩ := mtC HX7.out
      obtain ⟨d0, d1⟩ := mtC HT7.out
      have g0 := free_of HT7.out 0
      have g1 := free_of HT7.out 1
      go_wp2
      have hK := kept2 w.heap.size w7 (.int .i64 s) (.slice a4 P.length p4)
      have hBf := HB7.out.trans (hK.below HB7.out.size (fun k hk e => by have : k = w.heap.size := e; omega))
      refine ret_whole2 (p := 2) (t' := 3) (ty := 31) rfl w.heap.size 31 _ (0, 0) _ rfl (set_of (set_of HT7.out 0 _) 1 _) Tryd.underlying31 rfl (by kernel_rfl) rfl ?_
      refine ⟨_, by rw [Q3.out]; rfl, ?_, hBf⟩
      rw [Q1.out, Q2.out]
      obtain ⟨p7, e7, h7, hn7⟩ := HM7.out
      cases e7
      exact ⟨_, rfl, isSl_mtSet (isSl_mtSet h7 HT7.out 0 _) (set_of HT7.out 0 _) 1 _, hn7⟩
    | false =>
      have hok : mdecOk d = false := by rw [Hok.out, hk]; rfl
      have Q1 := Lib.hid (show mdecS d = 0 by rw [HS.out, hok]; rfl)
      have Q2 := Lib.hid (show mdecP d = [] by rw [HP.out, hok]; rfl)
      have Q3 := Lib.hid (show mdecE d = 17 by unfold mdecE; rw [hok]; rfl)
      have e0 : validM s P = 1 := by unfold validM; rw [hk]; rfl
      rw [e0] at HVd
      clear hk hok e0
      go_wp2_with fail
      refine HVd.out.mono ?_
      rintro e w7 ⟨rfl, hb⟩
      have HT7 := Lib.hid ((hb.block _ (lt_of HT5.out)).trans HT5.out)
      have HB7 := Lib.hid (HB5.out.next hb)
      clear c0 c1 hb
      obtain ⟨d0, d1⟩ := mtC HT7.out
      have g0 := free_of HT7.out 0
      have g1 := free_of HT7.out 1
      go_wp2
      have hK := kept2 w.heap.size w7 (.int .i64 0) (.slice none 0 0)
      have hBf := HB7.out.trans (hK.below HB7.out.size (fun k hk e => by have : k = w.heap.size := e; omega))
      refine ret_whole2 (p := 2) (t' := 3) (ty := 31) rfl w.heap.size 31 _ (0, 0) _ rfl (set_of (set_of HT7.out 0 _) 1 _) Tryd.underlying31 rfl (by kernel_rfl) rfl ?_
      refine ⟨_, by rw [Q3.out]; rfl, ?_, hBf⟩
      rw [Q1.out, Q2.out]
      exact MtIs.nil _
  · have hok : mdecOk d = false := by rw [Hok.out, decide_eq_false hc]; rfl
    have Q1 := Lib.hid (show mdecS d = 0 by rw [HS.out, hok]; rfl)
    have Q2 := Lib.hid (show mdecP d = [] by rw [HP.out, hok]; rfl)
    have Q3 := Lib.hid (show mdecE d = 17 by unfold mdecE; rw [hok]; rfl)
    have hq : (CL == 0) = false := by simpa using hc
    have hq2 : (CL != 0) = true := by rw [bne, hq]; rfl
    clear hok hc c0 c1
    obtain ⟨d0, d1⟩ := mtC HT5.out
    have g0 := free_of HT5.out 0
    have g1 := free_of HT5.out 1
    go_wp2
    have hK := kept2 w.heap.size W5 (.int .i64 0) (.slice none 0 0)
    have hBf := HB5.out.trans (hK.below HB5.out.size (fun k hk e => by have : k = w.heap.size := e; omega))
    refine ret_whole2 (p := 2) (t' := 3) (ty := 31) rfl w.heap.size 31 _ (0, 0) _ rfl (set_of (set_of HT5.out 0 _) 1 _) Tryd.underlying31 rfl (by kernel_rfl) rfl ?_
    refine ⟨_, by rw [Q3.out]; rfl, ?_, hBf⟩
    rw [Q1.out, Q2.out]
    exact MtIs.nil _

set_option maxHeartbeats 4000000 in
set_option maxRecDepth 100000 in
theorem RMtDec_any (d : Bs) (w : World) (hd : d.length ≤ 1000000000) :
    Calls Tryd.prog 38 #[.string (B d)] w fun e w' => ∃ v, e = .returned (.tuple #[v, .int .i64 (mdecE d)]) ∧ MtIs v (mdecS d) (mdecP d) w' ∧ Below w.heap.size w w' := by
  obtain ⟨W1, hW1⟩ : ∃ W1, (w.alloc (.cells #[.int .i64 0, .slice none 0 0] 31)).alloc (.cells #[.string (B d), .int .i64 0] 77) = W1 := ⟨_, rfl⟩
  have HB1 := Lib.hid (show Below w.heap.size w W1 by rw [← hW1]; exact ((Below.refl _ _).alloc (Nat.le_refl _) _).alloc (by simp) _)
  have HT1 := Lib.hid (show W1.heap[w.heap.size]? = some (.cells #[.int .i64 0, .slice none 0 0] 31) by rw [← hW1]; exact old_of (new_of _ _))
  have HA1 := Lib.hid (show RRdr (w.heap.size + 1) (B d) 0 W1 by rw [← hW1]; exact new_at (by simp) rfl)
  have hz1 : w.heap.size + 2 = W1.heap.size := by rw [← hW1]; simp
  obtain ⟨s, hs⟩ : ∃ i, (mdec1 d).1 = i := ⟨_, rfl⟩
  obtain ⟨t1, ht1⟩ : ∃ s1, (mdec1 d).2 = s1 := ⟨_, rfl⟩
  obtain ⟨P, hP⟩ : ∃ S, (mdec2 d).1 = S := ⟨_, rfl⟩
  obtain ⟨t2, ht2⟩ : ∃ s2, (mdec2 d).2 = s2 := ⟨_, rfl⟩
  have l1 : t1.1.length ≤ d.length := by rw [← ht1]; exact rdNum_len _ _ _
  have n1 : P.length ≤ 1024 := by rw [← hP]; exact texts_cnt _ _
  have e1 : rdNum 0 1048576 ((B d).data.toList, 0) = (s, t1) := by rw [← hs, ← ht1]; rfl
  have e2 : rdTexts 32 ((B t1.1).data.toList, t1.2) = (P, t2) := by rw [← hP, ← ht2, ← ht1]; rfl
  have C1 := Lib.hid (fun (W : World) (h : RRdr (w.heap.size + 1) (B d) 0 W) => rnumber_any (w.heap.size + 1) (B d) 0 0 1048576 W h (by unfold maxLen; rw [B_size]; omega))
  have C2 := Lib.hid (fun (W : World) (h : RRdr (w.heap.size + 1) (B t1.1) t1.2 W) => rtexts_any (w.heap.size + 1) (B t1.1) t1.2 32 W h (by rw [B_size]; omega))
  have C5 := Lib.hid (fun (W : World) (h : RRdr (w.heap.size + 1) (B t2.1) t2.2 W) => rclose_any (w.heap.size + 1) (B t2.1) t2.2 W h)
  rw [e1] at C1
  rw [e2] at C2
  obtain ⟨CL, hCL⟩ : ∃ CL, rdClose t2 = CL := ⟨_, rfl⟩
  rw [show rdClose ((B t2.1).data.toList, t2.2) = CL from hCL] at C5
  have Hok := Lib.hid (show mdecOk d = (decide (CL = 0) && okM s P) by unfold mdecOk; rw [ht2, hCL, hs, hP])
  have HS := Lib.hid (show mdecS d = if mdecOk d = true then s else 0 by unfold mdecS; rw [hs])
  have HP := Lib.hid (show mdecP d = if mdecOk d = true then P else [] by unfold mdecP; rw [hP])
  have HW1 := Lib.hid hW1
  clear hs ht1 hP ht2 e1 e2 hCL l1 hW1
  go_enter Tryd.func38, Tryd.ntmps38
  go_upto_region 2 with fail
  rw [HW1.out]
  clear HW1
  go_wp2_with fail
  refine (C1.out _ HA1.out).mono ?_
  rintro e w2 ⟨rfl, hA, hK⟩
  have hz2 := hK.size
  have HT2 := Lib.hid ((hK.block w.heap.size (by omega) (fun e => by have : w.heap.size = w.heap.size + 1 := e; omega)).trans HT1.out)
  have HB2 := Lib.hid (HB1.out.trans (hK.below (by omega) (fun k hk e => by have : k = w.heap.size + 1 := e; omega)))
  have HA2 := Lib.hid hA
  clear hA hK
  obtain ⟨b, hb⟩ : ∃ b, w2.heap.size = b := ⟨_, rfl⟩
  obtain ⟨W3, hW3⟩ : ∃ W3, w2.alloc (.cells #[.int .i64 s, .slice none 0 0] 31) = W3 := ⟨_, rfl⟩
  have HX3 := Lib.hid (show W3.heap[b]? = some (.cells #[.int .i64 s, .slice none 0 0] 31) by rw [← hW3, ← hb]; exact new_of _ _)
  have HT3 := Lib.hid (show W3.heap[w.heap.size]? = some (.cells #[.int .i64 0, .slice none 0 0] 31) by rw [← hW3]; exact old_of HT2.out)
  have HA3 := Lib.hid (show RRdr (w.heap.size + 1) (B t1.1) t1.2 W3 by rw [← hW3]; exact HA2.out.alloc _)
  have HB3 := Lib.hid (show Below w.heap.size w W3 by rw [← hW3]; exact HB2.out.alloc HB2.out.size _)
  have hz3 : b + 1 = W3.heap.size := by rw [← hW3, ← hb]; simp
  rw [hb] at hz2
  have HW3 := Lib.hid hW3
  have Hb := Lib.hid hb
  clear hW3 hb
  go_upto_region 3 with fail
  rw [HW3.out, Hb.out]
  clear HW3 Hb
  go_wp2_with fail
  refine (C2.out _ HA3.out).mono ?_
  rintro e w4 ⟨v4, rfl, ho, hA, hK⟩
  have hz4 := hK.size
  rw [List.length_map] at ho
  have hx4 := (hK.block b (by omega) (fun e => by have : b = w.heap.size + 1 := e; omega)).trans HX3.out
  have HT4 := Lib.hid ((hK.block w.heap.size (by omega) (fun e => by have : w.heap.size = w.heap.size + 1 := e; omega)).trans HT3.out)
  have HA4 := Lib.hid hA
  have HB4 := Lib.hid (HB3.out.trans (hK.below (by omega) (fun k hk e => by have : k = w.heap.size + 1 := e; omega)))
  have HN4 := Lib.hid (NilOk.own ho)
  obtain ⟨a4, p4, rfl⟩ := own_form ho
  have HO4 := Lib.hid ho
  have HX4 := Lib.hid hx4
  obtain ⟨c0, c1⟩ := mtC hx4
  have f1 := free_of hx4 1
  clear ho hA hK hx4
  obtain ⟨W5, hW5⟩ : ∃ W5, w4.setCell ⟨b, 1, none⟩ (.slice a4 P.length p4) = W5 := ⟨_, rfl⟩
  have HX5 := Lib.hid (show W5.heap[b]? = some (.cells #[.int .i64 s, .slice a4 P.length p4] 31) by rw [← hW5]; exact set_of HX4.out 1 _)
  have HT5 := Lib.hid (show W5.heap[w.heap.size]? = some (.cells #[.int .i64 0, .slice none 0 0] 31) by rw [← hW5]; exact set_other HT4.out (by show w.heap.size ≠ b; omega))
  have HA5 := Lib.hid (show RRdr (w.heap.size + 1) (B t2.1) t2.2 W5 by rw [← hW5]; exact set_other HA4.out (by show w.heap.size + 1 ≠ b; omega))
  have HB5 := Lib.hid (show Below w.heap.size w W5 by rw [← hW5]; exact HB4.out.setCell (p := ⟨b, 1, none⟩) (by show w.heap.size ≤ b; omega) _)
  have hM5 : MtIs (.agg #[.int .i64 s, .slice a4 P.length p4]) s P W5 := by
    rw [← hW5]
    exact ⟨_, rfl, IsSl.of_owns (by rw [List.length_map]; exact ownsRow_set (p := ⟨b, 1, none⟩) HO4.out (by show b < W3.heap.size; omega)) (by rw [List.length_map]; unfold maxLen; omega), HN4.out⟩
  have HM5 := Lib.hid hM5
  have hz5 : w4.heap.size = W5.heap.size := by rw [← hW5]; simp
  have HW5 := Lib.hid hW5
  clear hM5 hW5
  go_upto_region 4 with fail
  rw [HW5.out]
  clear HW5 c0 c1 f1
  go_wp2_with fail
  refine (C5.out _ HA5.out).mono ?_
  rintro e w6 ⟨rfl, rfl⟩
  have HVd := Lib.hid (RMtValid_any _ s P _ HM5.out)
  obtain ⟨c0, c1⟩ := mtC HX5.out
  by_cases hc : CL = 0
  · subst hc
    cases hk : okM s P with
    | true =>
      have hok : mdecOk d = true := by rw [Hok.out, hk]; rfl
      have Q1 := Lib.hid (show mdecS d = s by rw [HS.out, hok]; rfl)
      have Q2 := Lib.hid (show mdecP d = P by rw [HP.out, hok]; rfl)
      have Q3 := Lib.hid (show mdecE d = 0 by unfold mdecE; rw [hok]; rfl)
      have e0 : validM s P = 0 := by unfold validM; rw [hk]; rfl
      rw [e0] at HVd
      clear hk hok e0
      go_wp2_with fail
      refine HVd.out.mono ?_
      rintro e w7 ⟨rfl, hb⟩
      have HX7 := Lib.hid ((hb.block _ (lt_of HX5.out)).trans HX5.out)
      have HT7 := Lib.hid ((hb.block _ (lt_of HT5.out)).trans HT5.out)
      have HM7 := Lib.hid (HM5.out.below hb)
      have HB7 := Lib.hid (HB5.out.next hb)
      clear c0 c1 hb
      obtain ⟨c0, c1⟩ := mtC HX7.out
      obtain ⟨d0, d1⟩ := mtC HT7.out
      have g0 := free_of HT7.out 0
      have g1 := free_of HT7.out 1
      go_wp2
      have hK := kept2 w.heap.size w7 (.int .i64 s) (.slice a4 P.length p4)
      have hBf := HB7.out.trans (hK.below HB7.out.size (fun k hk e => by have : k = w.heap.size := e; omega))
      refine ret_whole2 (p := 2) (t' := 3) (ty := 31) rfl w.heap.size 31 _ (0, 0) _ rfl (set_of (set_of HT7.out 0 _) 1 _) Tryd.underlying31 rfl (by kernel_rfl) rfl ?_
      refine ⟨_, by rw [Q3.out]; rfl, ?_, hBf⟩
      rw [Q1.out, Q2.out]
      obtain ⟨p7, e7, h7, hn7⟩ := HM7.out
      cases e7
      exact ⟨_, rfl, isSl_mtSet (isSl_mtSet h7 HT7.out 0 _) (set_of HT7.out 0 _) 1 _, hn7⟩
    | false =>
      have hok : mdecOk d = false := by rw [Hok.out, hk]; rfl
      have Q1 := Lib.hid (show mdecS d = 0 by rw [HS.out, hok]; rfl)
      have Q2 := Lib.hid (show mdecP d = [] by rw [HP.out, hok]; rfl)
      have Q3 := Lib.hid (show mdecE d = 17 by unfold mdecE; rw [hok]; rfl)
      have e0 : validM s P = 1 := by unfold validM; rw [hk]; rfl
      rw [e0] at HVd
      clear hk hok e0
      go_wp2_with fail
      refine HVd.out.mono ?_
      rintro e w7 ⟨rfl, hb⟩
      have HT7 := Lib.hid ((hb.block _ (lt_of HT5.out)).trans HT5.out)
      have HB7 := Lib.hid (HB5.out.next hb)
      clear c0 c1 hb
      obtain ⟨d0, d1⟩ := mtC HT7.out
      have g0 := free_of HT7.out 0
      have g1 := free_of HT7.out 1
      go_wp2
      have hK := kept2 w.heap.size w7 (.int .i64 0) (.slice none 0 0)
      have hBf := HB7.out.trans (hK.below HB7.out.size (fun k hk e => by have : k = w.heap.size := e; omega))
      refine ret_whole2 (p := 2) (t' := 3) (ty := 31) rfl w.heap.size 31 _ (0, 0) _ rfl (set_of (set_of HT7.out 0 _) 1 _) Tryd.underlying31 rfl (by kernel_rfl) rfl ?_
      refine ⟨_, by rw [Q3.out]; rfl, ?_, hBf⟩
      rw [Q1.out, Q2.out]
      exact MtIs.nil _
  · have hok : mdecOk d = false := by rw [Hok.out, decide_eq_false hc]; rfl
    have Q1 := Lib.hid (show mdecS d = 0 by rw [HS.out, hok]; rfl)
    have Q2 := Lib.hid (show mdecP d = [] by rw [HP.out, hok]; rfl)
    have Q3 := Lib.hid (show mdecE d = 17 by unfold mdecE; rw [hok]; rfl)
    have hq : (CL == 0) = false := by simpa using hc
    have hq2 : (CL != 0) = true := by rw [bne, hq]; rfl
    clear hok hc c0 c1
    obtain ⟨d0, d1⟩ := mtC HT5.out
    have g0 := free_of HT5.out 0
    have g1 := free_of HT5.out 1
    go_wp2
    have hK := kept2 w.heap.size W5 (.int .i64 0) (.slice none 0 0)
    have hBf := HB5.out.trans (hK.below HB5.out.size (fun k hk e => by have : k = w.heap.size := e; omega))
    refine ret_whole2 (p := 2) (t' := 3) (ty := 31) rfl w.heap.size 31 _ (0, 0) _ rfl (set_of (set_of HT5.out 0 _) 1 _) Tryd.underlying31 rfl (by kernel_rfl) rfl ?_
    refine ⟨_, by rw [Q3.out]; rfl, ?_, hBf⟩
    rw [Q1.out, Q2.out]
    exact MtIs.nil _

end Go.Proofs.YtfklmjcjjdliiaaDoor
