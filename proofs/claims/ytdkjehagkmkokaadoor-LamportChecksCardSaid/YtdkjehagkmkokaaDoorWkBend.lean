/- Bend of the reference of lamport hands back a signature (whichever), and turns nothing that was there. -/
import Derived.Test.YtdkjehagkmkokaaDoorWkRCheckM
namespace Go.Proofs.YtdkjehagkmkokaaDoor
open Go Go.RowKit Licit

/-- One text of a slice is set. -/
theorem IsSl.setOne {g n cap : Nat} {xs : List Bs} {w : World} (h : IsSl (.slice (some ⟨g, 0, none⟩) n cap) (xs.map vS) w) (hn : xs.length = n) {b : Nat} (hb : b < n) (x : Bs) : IsSl (.slice (some ⟨g, 0, none⟩) n cap) ((xs.set b x).map vS) (w.setCell ⟨g, b, none⟩ (.string (B x))) := by
  rcases h.2 with ⟨a, c, e, hx⟩ | ⟨b', off, c, e, h0, hc⟩
  · simp at hx
    subst hx
    simp at hn
    omega
  · simp only [Value.slice.injEq, Option.some.injEq, Addr.mk.injEq, and_true] at e
    obtain ⟨⟨rfl, rfl⟩, hl, rfl⟩ := e
    refine ⟨by rw [List.length_map, List.length_set]; rw [List.length_map] at hl; have := h.1; rw [List.length_map] at this; exact this, .inr ⟨g, 0, cap, ?_, ?_, fun i hi => ?_⟩⟩
    · rw [List.length_map, List.length_set, hn]
    · rw [List.length_map, List.length_set]; omega
    · rw [List.length_map, List.length_set] at hi
      have hci := hc i (by rw [List.length_map]; exact hi)
      rw [Nat.zero_add] at hci ⊢
      by_cases e : i = b
      · subst e
        rw [World.cell?_setCell_same w ⟨g, i, none⟩ _ (hci.trans (List.getElem?_eq_getElem (by rw [List.length_map]; exact hi)))]
        simp [hi, vS]
      · rw [World.cell?_setCell_other w ⟨g, b, none⟩ ⟨g, i, none⟩ _ (by intro h'; simp only [Addr.mk.injEq, true_and, and_true] at h'; exact e h'.symm), hci]
        simp [Ne.symm e]

/-- What the end of Bend has. -/
def BendOut (w : World) (O : Nat) (w' : World) : Prop := ∃ (i' : Int) (S' H' R' : List Bs) (x1 x2 x3 : Value), w'.heap[O]? = some (.cells #[.int .i64 i', x1, x2, x3] 34) ∧ IsSl x1 (S'.map vS) w' ∧ IsSl x2 (H'.map vS) w' ∧ IsSl x3 (R'.map vS) w' ∧
  w'.heap[w.heap.size + 1]? = some (.cells #[.int .i64 0, .slice none 0 0, .slice none 0 0, .slice none 0 0] 34) ∧ Below w.heap.size w w' ∧ w.heap.size + 2 ≤ O

theorem news_sl {b off n cap : Nat} {xs : List Bs} {w : World} (h : IsSl (.slice (some ⟨b, off, none⟩) n cap) (xs.map vS) w) (hn : xs.length = n) : ∀ j u, (xs.map vS)[j]? = some u → w.cell? ((⟨b, off, none⟩ : Addr).add j) = some u := by
  intro j u hu
  have hj : j < xs.length := by
    rcases Nat.lt_or_ge j xs.length with c | c
    · exact c
    · rw [List.getElem?_eq_none (by rw [List.length_map]; exact c)] at hu
      cases hu
  obtain ⟨b', o', c', e, _, hc⟩ := h.text hn (by omega : j < n)
  simp only [Value.slice.injEq, Option.some.injEq, Addr.mk.injEq, true_and, and_true] at e
  obtain ⟨⟨rfl, rfl⟩, rfl⟩ := e
  have hadd : (⟨b, off, none⟩ : Addr).add j = ⟨b, off + j, none⟩ := by
    unfold Addr.add
    split
    · rename_i h0; subst h0; rfl
    · rfl
  rw [hadd, hc]
  rw [List.getElem?_map, List.getElem?_eq_getElem hj] at hu
  rw [List.getD_eq_getElem?_getD, List.getElem?_eq_getElem hj]
  exact hu

theorem ROther_drw (s : Bs) (hs : s.length ≤ maxLen) (W : World) : Calls Tryd.prog 41 #[.slice (some ⟨W.heap.size, 0, none⟩) 2 2] (W.alloc (.cells #[.string ⟨#[111, 116, 104, 101, 114]⟩, .string (B s)] 9)).drew fun e w' => ∃ y : Bs, e = .returned (.string (B y)) ∧ Below W.heap.size W w' :=
  (show Calls Tryd.prog 41 #[.slice (some ⟨W.drew.heap.size, 0, none⟩) 2 2] (W.drew.alloc (.cells #[.string ⟨#[111, 116, 104, 101, 114]⟩, .string (B s)] 9)) fun e w' => e = .returned (.string (B (hsh [[111, 116, 104, 101, 114], s]))) ∧ Below W.drew.heap.size W.drew w' from Gives.alloc (H_built (l := [[111, 116, 104, 101, 114], s]) 2 rfl (by decide) rfl (by decide) (by intro x hx; simp at hx; rcases hx with rfl | rfl; decide; exact hs) W.drew)).mono fun _ _ ⟨h1, h2⟩ => ⟨_, h1, undrew h2⟩
theorem cell_far {w : World} {g b q i : Nat} {x u : Value} (hne : q ≠ g) (h : w.cell? ⟨q, i, none⟩ = some u) : (w.setCell ⟨g, b, none⟩ x).cell? ⟨q, i, none⟩ = some u := by
  rw [World.cell?_setCell_other w ⟨g, b, none⟩ ⟨q, i, none⟩ _ (by intro h'; simp only [Addr.mk.injEq] at h'; exact hne h'.1.symm)]
  exact h
theorem own_free {w : World} {base : Nat} {t : TypeId} {g n cap : Nat} {xs : List Value} (h : w.ownsRow base t 1 (.slice (some ⟨g, 0, none⟩) n cap) n xs) {i : Nat} (_ : i < n) : w.frozen? ⟨g, i, none⟩ = false := by
  rcases h.2 with ⟨h0, _⟩ | ⟨g', cap', cur, h1, h2, h3, h4, h5, h6, h7⟩
  · cases h0
  · simp only [Value.slice.injEq, Option.some.injEq, Addr.mk.injEq] at h1
    obtain ⟨⟨rfl, _⟩, _, rfl⟩ := h1
    exact free_of h3 _
/-- A row without its first text. -/
theorem IsSl.rest {g n c c' base : Nat} {T : TypeId} {xs : List Bs} {W : World} (h : W.ownsRow base T 1 (.slice (some ⟨g, 0, none⟩) n c) n (xs.map vS)) (hn : xs.length = n) (h2 : 2 ≤ n) (hm : n ≤ maxLen) : IsSl (.slice (some ⟨g, 1, none⟩) (n - 1) c') ((xs.drop 1).map vS) W := by
  have hl : ((xs.drop 1).map vS).length = n - 1 := by rw [List.length_map, List.length_drop, hn]
  refine ⟨by rw [hl]; omega, .inr ⟨g, 1, c', by rw [hl], by rw [hl]; omega, fun i hi => ?_⟩⟩
  rw [hl] at hi
  rw [show 1 + i = i + 1 by omega, own_cell h (i := i + 1) (by omega), List.getElem?_map, List.getElem?_drop, show 1 + i = i + 1 by omega, List.getElem?_eq_getElem (by omega), List.getD_eq_getElem?_getD, List.getElem?_eq_getElem (by omega)]
  rfl

theorem news_below {b off : Nat} {xs : List Value} {w W : World} (h : ∀ j u, xs[j]? = some u → w.cell? ((⟨b, off, none⟩ : Addr).add j) = some u) (hb : Below w.heap.size w W) : ∀ j u, xs[j]? = some u → W.cell? ((⟨b, off, none⟩ : Addr).add j) = some u := by
  intro j u hu
  have hc := h j u hu
  exact (hb.cell (World.block_lt_of_cell? w _ hc)).trans hc
theorem vS_ones (xs : List Bs) : ∀ u ∈ xs.map vS, u.oneCell' = true := by
  intro u hu
  obtain ⟨x, _, rfl⟩ := List.mem_map.1 hu
  rfl
theorem nil_own {w w' : World} (h : w.grownBy w' (Value.slice none 0 0).ownBlock) {q : Nat} {o : Obj} (hq : w.heap[q]? = some o) : w'.heap[q]? = some o :=
  (h.block q (Array.getElem?_eq_some_iff.1 hq).1 (by simp [Value.ownBlock])).trans hq

set_option maxHeartbeats 40000000 in
set_option maxRecDepth 100000 in
theorem Bend_any (v : Value) (i n how at_ : Nat) (S H R : List Bs) (w : World) (hsig : SigIs v (i : Int) S H R w) (hS : S.length = n) (hH : H.length = n) (hn8 : 8 ≤ n) (hn : n ≤ 256) (hR : R.length ≤ 6) (hi : i < 64) (hw : how < 12) (ha : at_ < 256)
    (hS32 : ∀ x ∈ S, x.length = 32) :
    Calls Tryd.prog 18 #[v, .int .i64 (how : Int), .int .i64 (at_ : Int)] w fun e w' => ∃ (v' : Value) (i' : Int) (S' H' R' : List Bs), e = .returned v' ∧ SigIs v' i' S' H' R' w' ∧ Below w.heap.size w w' := by
  have hn0 : 0 < n := by omega
  obtain ⟨vs, vh, vr, rfl, h1, h2, h3⟩ := hsig
  obtain ⟨i0, hi0, hz0, hz1, hz2⟩ := info_parts Tryd.infoStr
  have Hi := Lib.hid hi0
  have Hz0 := Lib.hid hz0
  have Hz1 := Lib.hid hz1
  have Hz2 := Lib.hid hz2
  clear hi0 hz0 hz1 hz2
  obtain ⟨sb, so, sc, rfl, hsb, _⟩ := h1.text hS hn0
  obtain ⟨hb, ho, hc, rfl, hhb, _⟩ := h2.text hH hn0
  have hcS : ∀ j u, (S.map vS)[j]? = some u → w.cell? ((⟨sb, so, none⟩ : Addr).add j) = some u := news_sl h1 hS
  have hcH : ∀ j u, (H.map vS)[j]? = some u → w.cell? ((⟨hb, ho, none⟩ : Addr).add j) = some u := news_sl h2 hH
  have HCS := Lib.hid hcS
  have HCH := Lib.hid hcH
  have H1 := Lib.hid h1
  have H2 := Lib.hid h2
  have H3 := Lib.hid h3
  have HLS := Lib.hid hS
  have HLH := Lib.hid hH
  have H32 := Lib.hid hS32
  clear hcS hcH h1 h2 hS hH hS32
  have hB0 : Below w.heap.size w (((w.alloc (.cells #[.int .i64 (i : Int), .slice (some ⟨sb, so, none⟩) n sc, .slice (some ⟨hb, ho, none⟩) n hc, vr] 34)).alloc (.cells #[.int .i64 0, .slice none 0 0, .slice none 0 0, .slice none 0 0] 34)).alloc (.cells #[.int .i64 (i : Int), .slice none 0 0, .slice none 0 0, .slice none 0 0] 34)) :=
    (((Below.refl _ _).alloc (Nat.le_refl _) _).alloc (by simp) _).alloc (by simp; omega) _
  have HB0 := Lib.hid hB0
  clear hB0
  rcases H3.out.2 with ⟨ra, rc, rfl, hr⟩ | ⟨rb, ro, rc, rfl, hr0, _⟩
  · have hR0 : R = [] := by simpa using hr
    subst hR0
    have hE : ∀ (W4 : World) (ra : Option Addr), True := fun _ _ => trivial
    rcases ra with _ | ra
    ·
     go_enter Tryd.func18, Tryd.ntmps18
     go_upto_region 5 with (first
       | (at_builtin
          go_loud (
          have hBs := (HB1.out.setCell (p := ⟨w.heap.size + 1 + 1, 1, none⟩) (by show w.heap.size ≤ w.heap.size + 1 + 1; omega) (.slice a1 n e1))
          refine wpList_append_two rfl _ _ 32 rfl (w.heap.size + 3) 9 i0 (.string ⟨#[]⟩) 1 16 Tryd.underlying32 Hi.out Hz0.out Hz1.out Hz2.out rfl (by decide) (.slice none 0 0) 0 [] rfl (World.ownsRow_nil _ _ _ _) ⟨hb, ho, none⟩ n hc (H.map vS) rfl (by rw [List.length_map, HLH.out, Nat.mul_one]) (news_below HCH.out hBs) (vS_ones _) (by unfold maxLen; omega) (by omega) (by first | (simp; done) | (simp; omega)) hn0 ?_
          intro v2 w2 ho2 hg2 hw2
          have hne : ∀ q : Nat, q ≠ w.heap.size + 1 + 1 → q ≠ (⟨w.heap.size + 1 + 1, 1, none⟩ : Addr).block := fun q h => h
          have hs2 := nil_own hg2 (set_other (p := ⟨w.heap.size + 1 + 1, 1, none⟩) HS1.out (hne _ (by omega)))
          have hr2 := nil_own hg2 (set_other (p := ⟨w.heap.size + 1 + 1, 1, none⟩) HR1.out (hne _ (by omega)))
          have hO2 := nil_own hg2 (set_of HOut1.out 1 _)
          have hkp : ∀ q, w.heap.size + 3 ≤ q → q < w1.heap.size → w2.heap[q]? = w1.heap[q]? := fun q h1 h2 => (hg2.block q (by simpa using h2) (by simp [Value.ownBlock])).trans (Below.heap_setCell _ _ _ _ (by show q ≠ w.heap.size + 1 + 1; omega))
          rw [Nat.zero_add, List.nil_append] at ho2
          obtain ⟨a2, e2, rfl⟩ := own_form ho2
          have hB2 := hBs.grown hg2 hBs.size (fun q hq => by cases hq)
          have HO12 := Lib.hid (ownsRow_block HO1.out hkp)
          have HA12 := Lib.hid (show Apart (.slice a2 n e2) (.slice a1 n e1) from fun q h1 h2 => by
            have := own_lt HO1.out h2
            rcases hw2 q h1 with h | h
            · cases h
            · simp at h; omega)
          have HB2 := Lib.hid hB2
          have HS2 := Lib.hid hs2
          have HR2 := Lib.hid hr2
          have HO2 := Lib.hid ho2
          have HOut2 := Lib.hid hO2
          have hz2 : w.heap.size + 3 ≤ w2.heap.size := by have := lt_of hO2; omega
          obtain ⟨c20, c21, c22, c23⟩ := sigC hO2
          obtain ⟨b20, b21, b22, b23⟩ := sigC hs2
          have f2 : w2.frozen? ⟨w.heap.size + 1 + 1, 2, none⟩ = false := free_of hO2 _
          have f23 : w2.frozen? ⟨w.heap.size + 1 + 1, 3, none⟩ = false := free_of hO2 _
          clear ho2 hg2 hw2 hs2 hr2 hO2 hB2 hne hkp hBs))
       | (at_builtin
          go_loud (
          refine wpList_append_two rfl _ _ 32 rfl (w.heap.size + 3) 9 i0 (.string ⟨#[]⟩) 1 16 Tryd.underlying32 Hi.out Hz0.out Hz1.out Hz2.out rfl (by decide) (.slice none 0 0) 0 [] rfl (World.ownsRow_nil _ _ _ _) ⟨sb, so, none⟩ n sc (S.map vS) rfl (by rw [List.length_map, HLS.out, Nat.mul_one]) (news_below HCS.out HB0.out) (vS_ones _) (by unfold maxLen; omega) (by omega) (by first | (simp; done) | (simp; omega)) hn0 ?_
          intro v1 w1 ho1 hg1 hw1
          have hs1 := nil_own hg1 (old_of (old_of (new_of w _)))
          have hr1 := nil_own hg1 (old_of (new_at (k := w.heap.size + 1) (by simp) rfl))
          have hO1 := nil_own hg1 (new_at (k := w.heap.size + 1 + 1) (by simp) rfl)
          rw [Nat.zero_add, List.nil_append] at ho1
          obtain ⟨a1, e1, rfl⟩ := own_form ho1
          have hB1 := HB0.out.grown hg1 HB0.out.size (fun q hq => by cases hq)
          have HB1 := Lib.hid hB1
          have HS1 := Lib.hid hs1
          have HR1 := Lib.hid hr1
          have HO1 := Lib.hid ho1
          have HOut1 := Lib.hid hO1
          have hz1 : w.heap.size + 3 ≤ w1.heap.size := by have := lt_of hO1; omega
          obtain ⟨c10, c11, c12, c13⟩ := sigC hO1
          obtain ⟨b10, b11, b12, b13⟩ := sigC hs1
          have f1 : w1.frozen? ⟨w.heap.size + 1 + 1, 1, none⟩ = false := free_of hO1 _
          clear ho1 hg1 hw1 hs1 hr1 hO1 hB1)))
     obtain ⟨W4, hW4⟩ : ∃ W4, (w2.setCell ⟨w.heap.size + 1 + 1, 2, none⟩ (.slice a2 n e2)).setCell ⟨w.heap.size + 1 + 1, 3, none⟩ (.slice none 0 0) = W4 := ⟨_, rfl⟩
     rw [hW4]
     have hK4 : Kept (Licit.One (w.heap.size + 1 + 1)) w2 W4 := hW4 ▸ (kept_set (w.heap.size + 1 + 1) 2 w2 _).trans (kept_set (w.heap.size + 1 + 1) 3 _ _)
     have hb4 : ∀ q, w.heap.size + 3 ≤ q → q < w2.heap.size → W4.heap[q]? = w2.heap[q]? := fun q h1 h2 => hK4.block q h2 (fun e => by have : q = w.heap.size + 1 + 1 := e; omega)
     have HO4 := Lib.hid (show W4.heap[w.heap.size + 1 + 1]? = some (.cells #[.int .i64 (i : Int), .slice a1 n e1, .slice a2 n e2, .slice none 0 0] 34) from hW4 ▸ set_of (set_of HOut2.out 2 _) 3 _)
     have HS4 := Lib.hid ((hK4.block _ (lt_of HS2.out) (fun e => by have : w.heap.size = w.heap.size + 1 + 1 := e; omega)).trans HS2.out)
     have HR4 := Lib.hid ((hK4.block _ (lt_of HR2.out) (fun e => by have : w.heap.size + 1 = w.heap.size + 1 + 1 := e; omega)).trans HR2.out)
     have HB4 := Lib.hid (HB2.out.trans (hK4.below HB2.out.size (fun q h1 e => by have : q = w.heap.size + 1 + 1 := e; omega)))
     have HV1 := Lib.hid (ownsRow_block HO12.out hb4)
     have HV2 := Lib.hid (ownsRow_block HO2.out hb4)
     have HV3 := Lib.hid (show W4.ownsRow (w.heap.size + 3) 9 1 (.slice none 0 0) ([] : List Bs).length (([] : List Bs).map vS) from World.ownsRow_nil _ _ _ _)
     obtain ⟨O, hO⟩ : ∃ O, w.heap.size + 1 + 1 = O := ⟨_, rfl⟩
     obtain ⟨g1, _, hg1, hg1b, hg1z, _⟩ := own_some HV1.out hn0
     obtain ⟨g2, _, hg2, hg2b, hg2z, _⟩ := own_some HV2.out hn0
     simp only [Value.slice.injEq, true_and] at hg1 hg2
     obtain ⟨rfl, rfl⟩ := hg1
     obtain ⟨rfl, rfl⟩ := hg2
     have h12 : g1 ≠ g2 := fun e => HA12.out g2 rfl (by rw [e]; rfl)
     have hbw : O < W4.heap.size := by rw [← hO]; exact lt_of HO4.out
     rw [hO] at HO4 ⊢
     have hOne : O ≠ w.heap.size ∧ O ≠ w.heap.size + 1 ∧ O < w.heap.size + 3 := by omega
     have hs4w : w.heap.size < W4.heap.size := lt_of HS4.out
     have hr4w : w.heap.size + 1 < W4.heap.size := lt_of HR4.out
     obtain ⟨p0, p1, p2, p3⟩ := sigC HO4.out
     obtain ⟨q0, q1, q2, q3⟩ := sigC HS4.out
     obtain ⟨r0, r1, r2, r3⟩ := sigC HR4.out
     have fr0 : W4.frozen? ⟨w.heap.size + 1, 0, none⟩ = false := free_of HR4.out _
     have fr1 : W4.frozen? ⟨w.heap.size + 1, 1, none⟩ = false := free_of HR4.out _
     have fr2 : W4.frozen? ⟨w.heap.size + 1, 2, none⟩ = false := free_of HR4.out _
     have fr3 : W4.frozen? ⟨w.heap.size + 1, 3, none⟩ = false := free_of HR4.out _
     have fo0 : W4.frozen? ⟨O, 0, none⟩ = false := free_of HO4.out _
     have fo1 : W4.frozen? ⟨O, 1, none⟩ = false := free_of HO4.out _
     have fo2 : W4.frozen? ⟨O, 2, none⟩ = false := free_of HO4.out _
     have fo3 : W4.frozen? ⟨O, 3, none⟩ = false := free_of HO4.out _
     obtain ⟨bq, hbq⟩ : ∃ bq, at_ % n = bq := ⟨_, rfl⟩
     have hbn : bq < n := by rw [← hbq]; exact Nat.mod_lt _ hn0
     have hrem : (at_ : Int) % (n : Int) = (bq : Int) := by rw [← hbq]; simp
     have hn1 : ¬ (n : Int) = 0 := by omega
     clear hW4 hK4 hb4 hbq c10 c11 c12 c13 b10 b11 b12 b13 c20 c21 c22 c23 b20 b21 b22 b23 f1 f2 f23 HOut1 HOut2 HS1 HS2 HR1 HR2 HB0 HB1 HB2 HO1 HO2 HO12 HA12
     have HEnd := Lib.hid (show ∀ (W5 : World) (y : Int) (x1 x2 x3 : Value) (S' H' R' : List Bs) (e : Ending) (F : World), Kept (fun q => w.heap.size ≤ q ∧ q < w.heap.size + 3) W5 F → W5.ownsRow (w.heap.size + 3) 9 1 x1 S'.length (S'.map vS) → W5.ownsRow (w.heap.size + 3) 9 1 x2 H'.length (H'.map vS) → W5.ownsRow (w.heap.size + 3) 9 1 x3 R'.length (R'.map vS) →
         Below w.heap.size w W5 → S'.length ≤ maxLen → H'.length ≤ maxLen → R'.length ≤ maxLen → e = .returned (.agg #[.int .i64 y, x1, x2, x3]) →
         ∃ (v' : Value) (i' : Int) (S' H' R' : List Bs), e = .returned v' ∧ SigIs v' i' S' H' R' F ∧ Below w.heap.size w F from by
       intro W5 y x1 x2 x3 S' H' R' e F hK a1 a2 a3 hB l1 l2 l3 he
       have hk : ∀ q, w.heap.size + 3 ≤ q → q < W5.heap.size → F.heap[q]? = W5.heap[q]? := fun q h1 h2 => hK.block q h2 (fun h => by omega)
       exact ⟨_, y, S', H', R', he, ⟨_, _, _, rfl, IsSl.of_owns (by rw [List.length_map]; exact ownsRow_block a1 hk) (by rw [List.length_map]; exact l1), IsSl.of_owns (by rw [List.length_map]; exact ownsRow_block a2 hk) (by rw [List.length_map]; exact l2), IsSl.of_owns (by rw [List.length_map]; exact ownsRow_block a3 hk) (by rw [List.length_map]; exact l3)⟩,
         hB.trans (hK.below hB.size (fun q h1 h => by omega))⟩)
     have HKR := Lib.hid (show ∀ (W5 : World) (y0 y1 y2 y3 : Value), Kept (fun q => w.heap.size ≤ q ∧ q < w.heap.size + 3) W5 ((((W5.setCell ⟨w.heap.size + 1, 0, none⟩ y0).setCell ⟨w.heap.size + 1, 1, none⟩ y1).setCell ⟨w.heap.size + 1, 2, none⟩ y2).setCell ⟨w.heap.size + 1, 3, none⟩ y3) from fun W5 y0 y1 y2 y3 =>
       ((((Kept.refl _ _).setCell (p := ⟨w.heap.size + 1, 0, none⟩) (.inr ⟨by show w.heap.size ≤ w.heap.size + 1; omega, by show w.heap.size + 1 < w.heap.size + 3; omega⟩) y0).setCell (p := ⟨w.heap.size + 1, 1, none⟩) (.inr ⟨by show w.heap.size ≤ w.heap.size + 1; omega, by show w.heap.size + 1 < w.heap.size + 3; omega⟩) y1).setCell (p := ⟨w.heap.size + 1, 2, none⟩) (.inr ⟨by show w.heap.size ≤ w.heap.size + 1; omega, by show w.heap.size + 1 < w.heap.size + 3; omega⟩) y2).setCell (p := ⟨w.heap.size + 1, 3, none⟩) (.inr ⟨by show w.heap.size ≤ w.heap.size + 1; omega, by show w.heap.size + 1 < w.heap.size + 3; omega⟩) y3)
     have hL3 : ([] : List Bs).length ≤ maxLen := Nat.zero_le _
     have hL1 : S.length ≤ maxLen := by rw [HLS.out]; unfold maxLen; omega
     have hL2 : H.length ≤ maxLen := by rw [HLH.out]; unfold maxLen; omega
     have HV1' := Lib.hid (show W4.ownsRow (w.heap.size + 3) 9 1 (.slice (some ⟨g1, 0, none⟩) n e1) S.length (S.map vS) by rw [HLS.out]; exact HV1.out)
     have HV2' := Lib.hid (show W4.ownsRow (w.heap.size + 3) 9 1 (.slice (some ⟨g2, 0, none⟩) n e2) H.length (H.map vS) by rw [HLH.out]; exact HV2.out)
     have hh : how = 0 ∨ how = 1 ∨ how = 2 ∨ how = 3 ∨ how = 4 ∨ how = 5 ∨ how = 6 ∨ how = 7 ∨ how = 8 ∨ how = 9 ∨ how = 10 ∨ how = 11 := by omega
     clear hw
     rcases hh with rfl | rfl | rfl | rfl | rfl | rfl | rfl | rfl | rfl | rfl | rfl | rfl
     · go_wp2
       refine ret_whole (p := 6) (ty := 34) rfl (w.heap.size + 1) 34 _ (0, 0) _ rfl (set_of (set_of (set_of (set_of HR4.out 0 _) 1 _) 2 _) 3 _) Tryd.underlying34 rfl (by kernel_rfl) rfl ?_
       exact HEnd.out W4 _ _ _ _ S H [] _ _ (HKR.out W4 _ _ _ _) HV1'.out HV2'.out HV3.out HB4.out hL1 hL2 hL3 rfl
     · go_wp2
       have hne : w.heap.size + 1 ≠ O := by omega
       refine ret_whole (p := 6) (ty := 34) rfl (w.heap.size + 1) 34 _ (0, 0) _ rfl (set_of (set_of (set_of (set_of (set_other (p := ⟨O, 0, none⟩) HR4.out hne) 0 _) 1 _) 2 _) 3 _) Tryd.underlying34 rfl (by kernel_rfl) rfl ?_
       refine HEnd.out W4 _ _ _ _ S H [] _ _ ((((Kept.refl _ W4).setCell (p := ⟨O, 0, none⟩) (.inr ⟨by show w.heap.size ≤ O; omega, by show O < w.heap.size + 3; omega⟩) _)).trans (HKR.out _ _ _ _ _)) HV1'.out HV2'.out HV3.out HB4.out hL1 hL2 hL3 rfl
     · obtain ⟨sb', so', sc', hv1, hb1, hc1⟩ := (H1.out.below HB4.out).text HLS.out hbn
       simp only [Value.slice.injEq, Option.some.injEq, Addr.mk.injEq, true_and, and_true] at hv1
       obtain ⟨⟨rfl, rfl⟩, rfl⟩ := hv1
       obtain ⟨x, hx⟩ : ∃ x, S.getD bq [] = x := ⟨_, rfl⟩
       rw [hx] at hc1
       have hx32 : x.length = 32 := by rw [← hx]; exact getD_32 H32.out (by rw [HLS.out]; exact hbn)
       have hsz : (B x).size = 32 := hx32
       have hbI : (bq : Int) < (n : Int) := by omega
       have hgc := own_cell HV1.out (i := bq) (by rw [HLS.out]; exact hbn)
       have hgf := own_free HV1.out (i := bq) hbn
       unfold vS at hgc
       clear hx
       have hrb : (bq : Int).tmod (n : Int) = (bq : Int) := Int.tmod_eq_of_lt (by omega) hbI
       have hba : Below W4.heap.size W4 (W4.alloc (.cells #[.string ⟨#[111, 116, 104, 101, 114]⟩, .string (B x)] 9)) := (Below.refl _ _).alloc (Nat.le_refl _) _
       go_wp2
       refine wp_region_held_drew (S := (fun W : World => W.cell? ⟨O, 1, none⟩ = some (.slice (some ⟨g1, 0, none⟩) n e1) ∧ W.cell? ⟨w.heap.size, 1, none⟩ = some (.slice (some ⟨sb, so, none⟩) n sc) ∧ W.cell? ⟨sb, so + bq, none⟩ = some (.string (B x)))) (by kernel_rfl) ⟨p1, q1, hc1⟩ (fun hHeld => ?_)
       refine take_at 0 55 (oi := ?o1) (v := ?v1) ?hi1 ?hd1 (by kernel_rfl) (by kernel_rfl) (by kernel_rfl) ?hQ1 ?hw1 ?hy1 (by assumption) ?rest1
       case hi1 => simp only [List.getElem?_toArray, List.getElem?_cons_zero]; rfl
       case hd1 => rfl
       case hw1 => kernel_rfl
       case hy1 => intro W hW; (try dsimp only at hW); go_simp <;> with_reducible rfl
       case hQ1 => exact fun _ _ _ h => h
       try simp only [Act.put, List.setIfInBounds_toArray, List.set_cons_zero, List.set_cons_succ]
       refine take_at 1 56 (oi := ?o2) (v := ?v2) ?hi2 ?hd2 (by kernel_rfl) (by kernel_rfl) (by kernel_rfl) ?hQ2 ?hw2 ?hy2 (by assumption) ?rest2
       case hi2 => simp only [List.getElem?_toArray, List.getElem?_cons_succ, List.getElem?_cons_zero]; rfl
       case hd2 => rfl
       case hw2 => kernel_rfl
       case hy2 => intro W hW; (try dsimp only at hW); go_simp <;> with_reducible rfl
       case hQ2 => exact fun _ _ _ h => h
       try simp only [Act.put, List.setIfInBounds_toArray, List.set_cons_zero, List.set_cons_succ]
       refine take_at 2 57 (oi := ?o3) (v := ?v3) ?hi3 ?hd3 (by kernel_rfl) (by kernel_rfl) (by kernel_rfl) ?hQ3 ?hw3 ?hy3 (by assumption) ?rest3
       case hi3 => simp only [List.getElem?_toArray, List.getElem?_cons_succ, List.getElem?_cons_zero]; rfl
       case hd3 => rfl
       case hw3 => kernel_rfl
       case hy3 => intro W hW; (try dsimp only at hW); go_simp <;> with_reducible rfl
       case hQ3 => exact fun _ _ _ h => h
       try simp only [Act.put, List.setIfInBounds_toArray, List.set_cons_zero, List.set_cons_succ]
       refine take_at 3 58 (oi := ?o4) (v := ?v4) ?hi4 ?hd4 (by kernel_rfl) (by kernel_rfl) (by kernel_rfl) ?hQ4 ?hw4 ?hy4 (by assumption) ?rest4
       case hi4 => simp only [List.getElem?_toArray, List.getElem?_cons_succ, List.getElem?_cons_zero]; rfl
       case hd4 => rfl
       case hw4 => kernel_rfl
       case hy4 => intro W hW; (try dsimp only at hW); go_simp <;> with_reducible rfl
       case hQ4 => exact fun _ _ _ h => h
       try simp only [Act.put, List.setIfInBounds_toArray, List.set_cons_zero, List.set_cons_succ]
       refine take_at 4 59 (oi := ?o5) (v := ?v5) ?hi5 ?hd5 (by kernel_rfl) (by kernel_rfl) (by kernel_rfl) ?hQ5 ?hw5 ?hy5 (by assumption) ?rest5
       case hi5 => simp only [List.getElem?_toArray, List.getElem?_cons_succ, List.getElem?_cons_zero]; rfl
       case hd5 => rfl
       case hw5 => kernel_rfl
       case hy5 => intro W hW; (try dsimp only at hW); go_simp <;> with_reducible rfl
       case hQ5 => exact fun _ _ _ h => h
       try simp only [Act.put, List.setIfInBounds_toArray, List.set_cons_zero, List.set_cons_succ]
       refine take_at 5 60 (oi := ?o6) (v := ?v6) ?hi6 ?hd6 (by kernel_rfl) (by kernel_rfl) (by kernel_rfl) ?hQ6 ?hw6 ?hy6 (by assumption) ?rest6
       case hi6 => simp only [List.getElem?_toArray, List.getElem?_cons_succ, List.getElem?_cons_zero]; rfl
       case hd6 => rfl
       case hw6 => kernel_rfl
       case hy6 => intro W hW; (try dsimp only at hW); go_simp <;> with_reducible rfl
       case hQ6 => exact fun _ _ _ h => h
       try simp only [Act.put, List.setIfInBounds_toArray, List.set_cons_zero, List.set_cons_succ]
       refine take_at 6 61 (oi := ?o7) (v := ?v7) ?hi7 ?hd7 (by kernel_rfl) (by kernel_rfl) (by kernel_rfl) ?hQ7 ?hw7 ?hy7 (by assumption) ?rest7
       case hi7 => simp only [List.getElem?_toArray, List.getElem?_cons_succ, List.getElem?_cons_zero]; rfl
       case hd7 => rfl
       case hw7 => kernel_rfl
       case hy7 => intro W hW; (try dsimp only at hW); go_simp <;> with_reducible rfl
       case hQ7 => exact fun _ _ _ h => h
       try simp only [Act.put, List.setIfInBounds_toArray, List.set_cons_zero, List.set_cons_succ]
       refine take_at 7 62 (oi := ?o8) (v := ?v8) ?hi8 ?hd8 (by kernel_rfl) (by kernel_rfl) (by kernel_rfl) ?hQ8 ?hw8 ?hy8 (by assumption) ?rest8
       case hi8 => simp only [List.getElem?_toArray, List.getElem?_cons_succ, List.getElem?_cons_zero]; rfl
       case hd8 => rfl
       case hw8 => kernel_rfl
       case hy8 => intro W hW; (try dsimp only at hW); go_simp <;> with_reducible rfl
       case hQ8 => exact fun _ _ _ h => h
       try simp only [Act.put, List.setIfInBounds_toArray, List.set_cons_zero, List.set_cons_succ]
       refine wpAnyH_ready (rs := [8]) (by kernel_rfl) (by simp) ?_
       refine AllReadyH.cons rfl (fun K hK => ?_) AllReadyH.nil
       go_simp
       refine hK.out _ _ ⟨((hba.cell hbw).trans p1), ((hba.cell hs4w).trans q1), ((hba.cell hb1).trans hc1)⟩ (fun hHeld => ?_)
       clear hK K
       try simp only [Act.put, List.setIfInBounds_toArray, List.set_cons_zero, List.set_cons_succ]
       refine wpAnyH_ready (rs := [9]) (by kernel_rfl) (by simp) ?_
       refine AllReadyH.cons rfl (fun K hK => ?_) AllReadyH.nil
       go_simp
       refine (ROther_drw x (by rw [hx32]; unfold maxLen; omega) W4).mono ?_
       rintro e w7 ⟨y, rfl, hb7⟩
       go_wp2_with fail
       refine hK.out _ _ ⟨((hb7.cell hbw).trans p1), ((hb7.cell hs4w).trans q1), ((hb7.cell hb1).trans hc1)⟩ (fun hHeld => ?_)
       clear hK K
       try simp only [Act.put, List.setIfInBounds_toArray, List.set_cons_zero, List.set_cons_succ]
       refine take_at 10 65 (oi := ?o9) (v := ?v9) ?hi9 ?hd9 (by kernel_rfl) (by kernel_rfl) (by kernel_rfl) ?hQ9 ?hw9 ?hy9 (by assumption) ?rest9
       case hi9 => simp only [List.getElem?_toArray, List.getElem?_cons_succ, List.getElem?_cons_zero]; rfl
       case hd9 => rfl
       case hw9 => kernel_rfl
       case hy9 => intro W hW; (try dsimp only at hW); go_simp <;> with_reducible rfl
       case hQ9 => exact fun _ _ _ h => h
       try simp only [Act.put, List.setIfInBounds_toArray, List.set_cons_zero, List.set_cons_succ]
       have hgc7 := (hb7.cell (p := ⟨g1, bq, none⟩) hg1z).trans hgc
       have hgf7 := (hb7.frozen (p := ⟨g1, bq, none⟩) hg1z).trans hgf
       refine wpAnyH_ready (rs := [11]) (by kernel_rfl) (by simp) ?_
       refine AllReadyH.cons rfl (fun K hK => ?_) AllReadyH.nil
       go_simp
       refine hK.out _ _ ⟨(cell_far (by omega) ((hb7.cell hbw).trans p1)), (cell_far (by omega) ((hb7.cell hs4w).trans q1)), (cell_far (by omega) ((hb7.cell hb1).trans hc1))⟩ (fun hHeld => ?_)
       clear hK K
       try simp only [Act.put, List.setIfInBounds_toArray, List.set_cons_zero, List.set_cons_succ]
       refine wpAnyH_done (by kernel_rfl) ?_ _
       have HO6 := Lib.hid ((hb7.block _ (lt_of HO4.out)).trans HO4.out)
       have HR6 := Lib.hid ((hb7.block _ (lt_of HR4.out)).trans HR4.out)
       have HB6 := Lib.hid (HB4.out.next hb7)
       obtain ⟨W5, hW5⟩ : ∃ W5, w7.setCell ⟨g1, bq, none⟩ (.string (B y)) = W5 := ⟨_, rfl⟩
       rw [hW5]
       have hK5 : Kept (fun q => q = g1) w7 W5 := hW5 ▸ (((Kept.refl (fun q => q = g1) w7).setCell (p := ⟨g1, bq, none⟩) (.inr rfl) _))
       have HO5 := Lib.hid ((hK5.block _ (lt_of HO6.out) (fun e => by have : O = g1 := e; omega)).trans HO6.out)
       have HR5 := Lib.hid ((hK5.block _ (lt_of HR6.out) (fun e => by have : w.heap.size + 1 = g1 := e; omega)).trans HR6.out)
       have HB5 := Lib.hid (HB6.out.trans (hK5.below HB6.out.size (fun q h1 e => by have : q = g1 := e; omega)))
       have hv5 : W5.ownsRow (w.heap.size + 3) 9 1 (.slice (some ⟨g1, 0, none⟩) n e1) (S.set bq y).length ((S.set bq y).map vS) := by
         rw [List.length_set, HLS.out, List.map_set, ← hW5]
         exact ((ownsRow_block HV1.out (fun q _ hq => hb7.block q hq)).stored bq (.string (B y))).1
       have hv6 : W5.ownsRow (w.heap.size + 3) 9 1 (.slice (some ⟨g2, 0, none⟩) n e2) H.length (H.map vS) := by
         rw [← hW5]
         exact ownsRow_setCell_other (ownsRow_block HV2'.out (fun q _ hq => hb7.block q hq)) (a := ⟨g1, bq, none⟩) (fun e => h12 (Option.some.inj e).symm) _
       have hv7 : W5.ownsRow (w.heap.size + 3) 9 1 (.slice none 0 0) ([] : List Bs).length (([] : List Bs).map vS) := by
         rw [← hW5]
         exact ownsRow_setCell_other (ownsRow_block HV3.out (fun q _ hq => hb7.block q hq)) (a := ⟨g1, bq, none⟩) (fun e => by cases e) _
       have HV5 := Lib.hid hv5
       have HV6 := Lib.hid hv6
       have HV7 := Lib.hid hv7
       clear hv5 hv6 hv7 hW5 hK5
       have hbw5 : O < W5.heap.size := lt_of HO5.out
       have hr5w : w.heap.size + 1 < W5.heap.size := lt_of HR5.out
       obtain ⟨s0, s1, s2, s3⟩ := sigC HO5.out
       obtain ⟨u0, u1, u2, u3⟩ := sigC HR5.out
       have gr0 : W5.frozen? ⟨w.heap.size + 1, 0, none⟩ = false := free_of HR5.out _
       have gr1 : W5.frozen? ⟨w.heap.size + 1, 1, none⟩ = false := free_of HR5.out _
       have gr2 : W5.frozen? ⟨w.heap.size + 1, 2, none⟩ = false := free_of HR5.out _
       have gr3 : W5.frozen? ⟨w.heap.size + 1, 3, none⟩ = false := free_of HR5.out _
       go_wp2
       refine ret_whole (p := 6) (ty := 34) rfl (w.heap.size + 1) 34 _ (0, 0) _ rfl (set_of (set_of (set_of (set_of HR5.out 0 _) 1 _) 2 _) 3 _) Tryd.underlying34 rfl (by kernel_rfl) rfl ?_
       exact HEnd.out W5 _ _ _ _ (S.set bq y) (H) ([] : List Bs) _ _ (HKR.out W5 _ _ _ _) HV5.out HV6.out HV7.out HB5.out (by rw [List.length_set]; exact hL1) hL2 hL3 rfl
     · obtain ⟨sb', so', sc', hv1, hb1, hc1⟩ := (H1.out.below HB4.out).text HLS.out hbn
       simp only [Value.slice.injEq, Option.some.injEq, Addr.mk.injEq, true_and, and_true] at hv1
       obtain ⟨⟨rfl, rfl⟩, rfl⟩ := hv1
       obtain ⟨x, hx⟩ : ∃ x, S.getD bq [] = x := ⟨_, rfl⟩
       rw [hx] at hc1
       have hx32 : x.length = 32 := by rw [← hx]; exact getD_32 H32.out (by rw [HLS.out]; exact hbn)
       have hsz : (B x).size = 32 := hx32
       have hbI : (bq : Int) < (n : Int) := by omega
       have hgc := own_cell HV1.out (i := bq) (by rw [HLS.out]; exact hbn)
       have hgf := own_free HV1.out (i := bq) hbn
       unfold vS at hgc
       clear hx
       have hgc2 := own_cell HV2.out (i := bq) (by rw [HLH.out]; exact hbn)
       have hgf2 := own_free HV2.out (i := bq) hbn
       unfold vS at hgc2
       have hrb : (bq : Int).tmod (n : Int) = (bq : Int) := Int.tmod_eq_of_lt (by omega) hbI
       have hba : Below W4.heap.size W4 (W4.alloc (.cells #[.string ⟨#[111, 116, 104, 101, 114]⟩, .string (B x)] 9)) := (Below.refl _ _).alloc (Nat.le_refl _) _
       go_wp2
       refine wp_region_held_drew (S := (fun W : World => W.cell? ⟨O, 2, none⟩ = some (.slice (some ⟨g2, 0, none⟩) n e2) ∧ W.cell? ⟨w.heap.size, 1, none⟩ = some (.slice (some ⟨sb, so, none⟩) n sc) ∧ W.cell? ⟨w.heap.size, 2, none⟩ = some (.slice (some ⟨hb, ho, none⟩) n hc) ∧ W.cell? ⟨sb, so + bq, none⟩ = some (.string (B x)))) (by kernel_rfl) ⟨p2, q1, q2, hc1⟩ (fun hHeld => ?_)
       refine take_at 0 68 (oi := ?o10) (v := ?v10) ?hi10 ?hd10 (by kernel_rfl) (by kernel_rfl) (by kernel_rfl) ?hQ10 ?hw10 ?hy10 (by assumption) ?rest10
       case hi10 => simp only [List.getElem?_toArray, List.getElem?_cons_zero]; rfl
       case hd10 => rfl
       case hw10 => kernel_rfl
       case hy10 => intro W hW; (try dsimp only at hW); go_simp <;> with_reducible rfl
       case hQ10 => exact fun _ _ _ h => h
       try simp only [Act.put, List.setIfInBounds_toArray, List.set_cons_zero, List.set_cons_succ]
       refine take_at 1 69 (oi := ?o11) (v := ?v11) ?hi11 ?hd11 (by kernel_rfl) (by kernel_rfl) (by kernel_rfl) ?hQ11 ?hw11 ?hy11 (by assumption) ?rest11
       case hi11 => simp only [List.getElem?_toArray, List.getElem?_cons_succ, List.getElem?_cons_zero]; rfl
       case hd11 => rfl
       case hw11 => kernel_rfl
       case hy11 => intro W hW; (try dsimp only at hW); go_simp <;> with_reducible rfl
       case hQ11 => exact fun _ _ _ h => h
       try simp only [Act.put, List.setIfInBounds_toArray, List.set_cons_zero, List.set_cons_succ]
       refine take_at 2 70 (oi := ?o12) (v := ?v12) ?hi12 ?hd12 (by kernel_rfl) (by kernel_rfl) (by kernel_rfl) ?hQ12 ?hw12 ?hy12 (by assumption) ?rest12
       case hi12 => simp only [List.getElem?_toArray, List.getElem?_cons_succ, List.getElem?_cons_zero]; rfl
       case hd12 => rfl
       case hw12 => kernel_rfl
       case hy12 => intro W hW; (try dsimp only at hW); go_simp <;> with_reducible rfl
       case hQ12 => exact fun _ _ _ h => h
       try simp only [Act.put, List.setIfInBounds_toArray, List.set_cons_zero, List.set_cons_succ]
       refine take_at 3 71 (oi := ?o13) (v := ?v13) ?hi13 ?hd13 (by kernel_rfl) (by kernel_rfl) (by kernel_rfl) ?hQ13 ?hw13 ?hy13 (by assumption) ?rest13
       case hi13 => simp only [List.getElem?_toArray, List.getElem?_cons_succ, List.getElem?_cons_zero]; rfl
       case hd13 => rfl
       case hw13 => kernel_rfl
       case hy13 => intro W hW; (try dsimp only at hW); go_simp <;> with_reducible rfl
       case hQ13 => exact fun _ _ _ h => h
       try simp only [Act.put, List.setIfInBounds_toArray, List.set_cons_zero, List.set_cons_succ]
       refine take_at 4 72 (oi := ?o14) (v := ?v14) ?hi14 ?hd14 (by kernel_rfl) (by kernel_rfl) (by kernel_rfl) ?hQ14 ?hw14 ?hy14 (by assumption) ?rest14
       case hi14 => simp only [List.getElem?_toArray, List.getElem?_cons_succ, List.getElem?_cons_zero]; rfl
       case hd14 => rfl
       case hw14 => kernel_rfl
       case hy14 => intro W hW; (try dsimp only at hW); go_simp <;> with_reducible rfl
       case hQ14 => exact fun _ _ _ h => h
       try simp only [Act.put, List.setIfInBounds_toArray, List.set_cons_zero, List.set_cons_succ]
       refine take_at 5 73 (oi := ?o15) (v := ?v15) ?hi15 ?hd15 (by kernel_rfl) (by kernel_rfl) (by kernel_rfl) ?hQ15 ?hw15 ?hy15 (by assumption) ?rest15
       case hi15 => simp only [List.getElem?_toArray, List.getElem?_cons_succ, List.getElem?_cons_zero]; rfl
       case hd15 => rfl
       case hw15 => kernel_rfl
       case hy15 => intro W hW; (try dsimp only at hW); go_simp <;> with_reducible rfl
       case hQ15 => exact fun _ _ _ h => h
       try simp only [Act.put, List.setIfInBounds_toArray, List.set_cons_zero, List.set_cons_succ]
       refine take_at 6 74 (oi := ?o16) (v := ?v16) ?hi16 ?hd16 (by kernel_rfl) (by kernel_rfl) (by kernel_rfl) ?hQ16 ?hw16 ?hy16 (by assumption) ?rest16
       case hi16 => simp only [List.getElem?_toArray, List.getElem?_cons_succ, List.getElem?_cons_zero]; rfl
       case hd16 => rfl
       case hw16 => kernel_rfl
       case hy16 => intro W hW; (try dsimp only at hW); go_simp <;> with_reducible rfl
       case hQ16 => exact fun _ _ _ h => h
       try simp only [Act.put, List.setIfInBounds_toArray, List.set_cons_zero, List.set_cons_succ]
       refine take_at 7 75 (oi := ?o17) (v := ?v17) ?hi17 ?hd17 (by kernel_rfl) (by kernel_rfl) (by kernel_rfl) ?hQ17 ?hw17 ?hy17 (by assumption) ?rest17
       case hi17 => simp only [List.getElem?_toArray, List.getElem?_cons_succ, List.getElem?_cons_zero]; rfl
       case hd17 => rfl
       case hw17 => kernel_rfl
       case hy17 => intro W hW; (try dsimp only at hW); go_simp <;> with_reducible rfl
       case hQ17 => exact fun _ _ _ h => h
       try simp only [Act.put, List.setIfInBounds_toArray, List.set_cons_zero, List.set_cons_succ]
       refine take_at 8 76 (oi := ?o18) (v := ?v18) ?hi18 ?hd18 (by kernel_rfl) (by kernel_rfl) (by kernel_rfl) ?hQ18 ?hw18 ?hy18 (by assumption) ?rest18
       case hi18 => simp only [List.getElem?_toArray, List.getElem?_cons_succ, List.getElem?_cons_zero]; rfl
       case hd18 => rfl
       case hw18 => kernel_rfl
       case hy18 => intro W hW; (try dsimp only at hW); go_simp <;> with_reducible rfl
       case hQ18 => exact fun _ _ _ h => h
       try simp only [Act.put, List.setIfInBounds_toArray, List.set_cons_zero, List.set_cons_succ]
       refine take_at 9 77 (oi := ?o19) (v := ?v19) ?hi19 ?hd19 (by kernel_rfl) (by kernel_rfl) (by kernel_rfl) ?hQ19 ?hw19 ?hy19 (by assumption) ?rest19
       case hi19 => simp only [List.getElem?_toArray, List.getElem?_cons_succ, List.getElem?_cons_zero]; rfl
       case hd19 => rfl
       case hw19 => kernel_rfl
       case hy19 => intro W hW; (try dsimp only at hW); go_simp <;> with_reducible rfl
       case hQ19 => exact fun _ _ _ h => h
       try simp only [Act.put, List.setIfInBounds_toArray, List.set_cons_zero, List.set_cons_succ]
       refine take_at 10 78 (oi := ?o20) (v := ?v20) ?hi20 ?hd20 (by kernel_rfl) (by kernel_rfl) (by kernel_rfl) ?hQ20 ?hw20 ?hy20 (by assumption) ?rest20
       case hi20 => simp only [List.getElem?_toArray, List.getElem?_cons_succ, List.getElem?_cons_zero]; rfl
       case hd20 => rfl
       case hw20 => kernel_rfl
       case hy20 => intro W hW; (try dsimp only at hW); go_simp <;> with_reducible rfl
       case hQ20 => exact fun _ _ _ h => h
       try simp only [Act.put, List.setIfInBounds_toArray, List.set_cons_zero, List.set_cons_succ]
       refine take_at 11 79 (oi := ?o21) (v := ?v21) ?hi21 ?hd21 (by kernel_rfl) (by kernel_rfl) (by kernel_rfl) ?hQ21 ?hw21 ?hy21 (by assumption) ?rest21
       case hi21 => simp only [List.getElem?_toArray, List.getElem?_cons_succ, List.getElem?_cons_zero]; rfl
       case hd21 => rfl
       case hw21 => kernel_rfl
       case hy21 => intro W hW; (try dsimp only at hW); go_simp <;> with_reducible rfl
       case hQ21 => exact fun _ _ _ h => h
       try simp only [Act.put, List.setIfInBounds_toArray, List.set_cons_zero, List.set_cons_succ]
       refine wpAnyH_ready (rs := [12]) (by kernel_rfl) (by simp) ?_
       refine AllReadyH.cons rfl (fun K hK => ?_) AllReadyH.nil
       go_simp
       refine hK.out _ _ ⟨((hba.cell hbw).trans p2), ((hba.cell hs4w).trans q1), ((hba.cell hs4w).trans q2), ((hba.cell hb1).trans hc1)⟩ (fun hHeld => ?_)
       clear hK K
       try simp only [Act.put, List.setIfInBounds_toArray, List.set_cons_zero, List.set_cons_succ]
       refine wpAnyH_ready (rs := [13]) (by kernel_rfl) (by simp) ?_
       refine AllReadyH.cons rfl (fun K hK => ?_) AllReadyH.nil
       go_simp
       refine (ROther_drw x (by rw [hx32]; unfold maxLen; omega) W4).mono ?_
       rintro e w7 ⟨y, rfl, hb7⟩
       go_wp2_with fail
       refine hK.out _ _ ⟨((hb7.cell hbw).trans p2), ((hb7.cell hs4w).trans q1), ((hb7.cell hs4w).trans q2), ((hb7.cell hb1).trans hc1)⟩ (fun hHeld => ?_)
       clear hK K
       try simp only [Act.put, List.setIfInBounds_toArray, List.set_cons_zero, List.set_cons_succ]
       refine take_at 14 82 (oi := ?o22) (v := ?v22) ?hi22 ?hd22 (by kernel_rfl) (by kernel_rfl) (by kernel_rfl) ?hQ22 ?hw22 ?hy22 (by assumption) ?rest22
       case hi22 => simp only [List.getElem?_toArray, List.getElem?_cons_succ, List.getElem?_cons_zero]; rfl
       case hd22 => rfl
       case hw22 => kernel_rfl
       case hy22 => intro W hW; (try dsimp only at hW); go_simp <;> with_reducible rfl
       case hQ22 => exact fun _ _ _ h => h
       try simp only [Act.put, List.setIfInBounds_toArray, List.set_cons_zero, List.set_cons_succ]
       have hgc7 := (hb7.cell (p := ⟨g2, bq, none⟩) hg2z).trans hgc2
       have hgf7 := (hb7.frozen (p := ⟨g2, bq, none⟩) hg2z).trans hgf2
       refine wpAnyH_ready (rs := [15]) (by kernel_rfl) (by simp) ?_
       refine AllReadyH.cons rfl (fun K hK => ?_) AllReadyH.nil
       go_simp
       refine hK.out _ _ ⟨(cell_far (by omega) ((hb7.cell hbw).trans p2)), (cell_far (by omega) ((hb7.cell hs4w).trans q1)), (cell_far (by omega) ((hb7.cell hs4w).trans q2)), (cell_far (by omega) ((hb7.cell hb1).trans hc1))⟩ (fun hHeld => ?_)
       clear hK K
       try simp only [Act.put, List.setIfInBounds_toArray, List.set_cons_zero, List.set_cons_succ]
       refine wpAnyH_done (by kernel_rfl) ?_ _
       have HO6 := Lib.hid ((hb7.block _ (lt_of HO4.out)).trans HO4.out)
       have HR6 := Lib.hid ((hb7.block _ (lt_of HR4.out)).trans HR4.out)
       have HB6 := Lib.hid (HB4.out.next hb7)
       obtain ⟨W5, hW5⟩ : ∃ W5, w7.setCell ⟨g2, bq, none⟩ (.string (B y)) = W5 := ⟨_, rfl⟩
       rw [hW5]
       have hK5 : Kept (fun q => q = g2) w7 W5 := hW5 ▸ (((Kept.refl (fun q => q = g2) w7).setCell (p := ⟨g2, bq, none⟩) (.inr rfl) _))
       have HO5 := Lib.hid ((hK5.block _ (lt_of HO6.out) (fun e => by have : O = g2 := e; omega)).trans HO6.out)
       have HR5 := Lib.hid ((hK5.block _ (lt_of HR6.out) (fun e => by have : w.heap.size + 1 = g2 := e; omega)).trans HR6.out)
       have HB5 := Lib.hid (HB6.out.trans (hK5.below HB6.out.size (fun q h1 e => by have : q = g2 := e; omega)))
       have hv5 : W5.ownsRow (w.heap.size + 3) 9 1 (.slice (some ⟨g1, 0, none⟩) n e1) S.length (S.map vS) := by
         rw [← hW5]
         exact ownsRow_setCell_other (ownsRow_block HV1'.out (fun q _ hq => hb7.block q hq)) (a := ⟨g2, bq, none⟩) (fun e => h12 (Option.some.inj e)) _
       have hv6 : W5.ownsRow (w.heap.size + 3) 9 1 (.slice (some ⟨g2, 0, none⟩) n e2) (H.set bq y).length ((H.set bq y).map vS) := by
         rw [List.length_set, HLH.out, List.map_set, ← hW5]
         exact ((ownsRow_block HV2.out (fun q _ hq => hb7.block q hq)).stored bq (.string (B y))).1
       have hv7 : W5.ownsRow (w.heap.size + 3) 9 1 (.slice none 0 0) ([] : List Bs).length (([] : List Bs).map vS) := by
         rw [← hW5]
         exact ownsRow_setCell_other (ownsRow_block HV3.out (fun q _ hq => hb7.block q hq)) (a := ⟨g2, bq, none⟩) (fun e => by cases e) _
       have HV5 := Lib.hid hv5
       have HV6 := Lib.hid hv6
       have HV7 := Lib.hid hv7
       clear hv5 hv6 hv7 hW5 hK5
       have hbw5 : O < W5.heap.size := lt_of HO5.out
       have hr5w : w.heap.size + 1 < W5.heap.size := lt_of HR5.out
       obtain ⟨s0, s1, s2, s3⟩ := sigC HO5.out
       obtain ⟨u0, u1, u2, u3⟩ := sigC HR5.out
       have gr0 : W5.frozen? ⟨w.heap.size + 1, 0, none⟩ = false := free_of HR5.out _
       have gr1 : W5.frozen? ⟨w.heap.size + 1, 1, none⟩ = false := free_of HR5.out _
       have gr2 : W5.frozen? ⟨w.heap.size + 1, 2, none⟩ = false := free_of HR5.out _
       have gr3 : W5.frozen? ⟨w.heap.size + 1, 3, none⟩ = false := free_of HR5.out _
       go_wp2
       refine ret_whole (p := 6) (ty := 34) rfl (w.heap.size + 1) 34 _ (0, 0) _ rfl (set_of (set_of (set_of (set_of HR5.out 0 _) 1 _) 2 _) 3 _) Tryd.underlying34 rfl (by kernel_rfl) rfl ?_
       exact HEnd.out W5 _ _ _ _ (S) (H.set bq y) ([] : List Bs) _ _ (HKR.out W5 _ _ _ _) HV5.out HV6.out HV7.out HB5.out hL1 (by rw [List.length_set]; exact hL2) hL3 rfl
     · have h1n : (1 : Int) ≤ (n : Int) := by omega
       have he1 : ¬ e1 = 1 := by omega
       go_wp2
       have hne : w.heap.size + 1 ≠ O := by omega
       have hKF := ((Kept.refl (fun q => w.heap.size ≤ q ∧ q < w.heap.size + 3) W4).setCell (p := ⟨O, 1, none⟩) (.inr ⟨by show w.heap.size ≤ O; omega, by show O < w.heap.size + 3; omega⟩) (.slice (some ⟨g1, 1, none⟩) (n - 1) (e1 - 1))).trans (HKR.out _ (.int .i64 (i : Int)) (.slice (some ⟨g1, 1, none⟩) (n - 1) (e1 - 1)) (.slice (some ⟨g2, 0, none⟩) n e2) (.slice none 0 0))
       refine ret_whole (p := 6) (ty := 34) rfl (w.heap.size + 1) 34 _ (0, 0) _ rfl (set_of (set_of (set_of (set_of (set_other (p := ⟨O, 1, none⟩) HR4.out hne) 0 _) 1 _) 2 _) 3 _) Tryd.underlying34 rfl (by kernel_rfl) rfl ?_
       have hk : ∀ q, w.heap.size + 3 ≤ q → q < W4.heap.size → _ := fun q h1 h2 => hKF.block q h2 (fun h => by omega)
       exact ⟨_, _, S.drop 1, H, [], rfl, ⟨_, _, _, rfl, IsSl.rest (ownsRow_block HV1.out hk) HLS.out (by omega) (by unfold maxLen; omega), IsSl.of_owns (by rw [List.length_map]; exact ownsRow_block HV2'.out hk) (by rw [List.length_map]; exact hL2), IsSl.of_owns (by rw [List.length_map]; exact ownsRow_block HV3.out hk) (by rw [List.length_map]; exact hL3)⟩, HB4.out.trans (hKF.below HB4.out.size (fun q h1 h => by omega))⟩
     · obtain ⟨hb', ho', hc', hv1, hb1, hc1⟩ := (H2.out.below HB4.out).text HLH.out hn0
       simp only [Value.slice.injEq, Option.some.injEq, Addr.mk.injEq, true_and, and_true] at hv1
       obtain ⟨⟨rfl, rfl⟩, rfl⟩ := hv1
       obtain ⟨x, hx⟩ : ∃ x, H.getD 0 [] = x := ⟨_, rfl⟩
       rw [hx, Nat.add_zero] at hc1
       have hnI : (0 : Int) < (n : Int) := by omega
       have hz0 : w.heap.size + 3 ≤ W4.heap.size := by omega
       clear hx
       go_wp2
       go_region_law
         (first
           | (refine step_append_two rfl _ _ 32 rfl (w.heap.size + 3) 9 i0 (.string ⟨#[]⟩) 1 16 Tryd.underlying32 Hi.out Hz0.out Hz1.out Hz2.out rfl (by decide) (.slice (some ⟨g2, 0, none⟩) n e2) n (H.map vS) rfl (own_drew (HV2.out.alloc (.cells #[.string (B x)] 9))) ⟨W4.heap.size, 0, none⟩ 1 1 [vS x] rfl rfl (news_drew (news_one (new_of W4 (.cells #[.string (B x)] 9)))) (by simp [vS, Value.oneCell']) (by unfold maxLen; omega) (by omega) (by simp; omega) (by decide) ?_
              intro v5 w5 ho5 hg5' hw5
              have hg5 : (W4.alloc (.cells #[.string (B x)] 9)).grownBy w5 ((.slice (some ⟨g2, 0, none⟩) n e2) : Value).ownBlock := ⟨hg5'.os, hg5'.tape, hg5'.output, hg5'.size, hg5'.block⟩
              clear hg5'
              obtain ⟨hp5, ha5, hk5⟩ := grown_beside (w3 := W4) (HV2.out.alloc _) HV1'.out (fun q ha hb => h12 ((Option.some.inj hb).trans (Option.some.inj ha).symm)) ho5 hg5 hw5
              obtain ⟨hq5, hb5, _⟩ := grown_beside (w3 := W4) (HV2.out.alloc _) HV3.out (fun q ha hb => by cases hb) ho5 hg5 hw5
              rw [← map_snoc] at ho5
              obtain ⟨ra5, rc5, rfl⟩ := own_form ho5
              have HX5 := Lib.hid ho5
              have HP5 := Lib.hid hp5
              have HQ5 := Lib.hid hq5
              have hS5 : w5.heap[O]? = _ := (hk5 O (by omega) (lt_of HO4.out)).trans HO4.out
              have hR5 : w5.heap[w.heap.size + 1]? = _ := (hk5 _ (by omega) (lt_of HR4.out)).trans HR4.out
              have HB6 := Lib.hid (((HB4.out.alloc HB4.out.size _).grown hg5 (by simp; omega) (fun q hq => by have := (HV2.out.lt q hq).1; omega)))
              have hcs5 : w5.cell? ⟨O, 2, none⟩ = some (.slice (some ⟨g2, 0, none⟩) n e2) := cell_of hS5 2
              have hfs5 : w5.frozen? ⟨O, 2, none⟩ = false := free_of hS5 _
              have HS6 := Lib.hid hS5
              have HR6 := Lib.hid hR5
              clear ho5 hg5 hw5 hp5 ha5 hk5 hS5 hR5 hq5 hb5))
       all_goals
         obtain ⟨W5, hW5⟩ : ∃ W5, w5.setCell ⟨O, 2, none⟩ (.slice ra5 (n + 1) rc5) = W5 := ⟨_, rfl⟩
         rw [hW5]
         have hK6 : Kept (Licit.One O) w5 W5 := hW5 ▸ kept_set O 2 w5 _
         have hne : ∀ q, w.heap.size + 3 ≤ q → q < w5.heap.size → ¬ Licit.One O q := fun q hq _ e => by have : q = O := e; omega
         have HO5 := Lib.hid (hW5 ▸ set_of HS6.out 2 (.slice ra5 (n + 1) rc5))
         have HR5 := Lib.hid ((hK6.block _ (lt_of HR6.out) (fun e => by have : w.heap.size + 1 = O := e; omega)).trans HR6.out)
         have HB5 := Lib.hid (HB6.out.trans (hK6.below HB6.out.size (fun q h1 e => by have : q = O := e; omega)))
         have HX6 := Lib.hid (show W5.ownsRow (w.heap.size + 3) 9 1 (.slice ra5 (n + 1) rc5) (H ++ [x]).length ((H ++ [x]).map vS) by rw [List.length_append, HLH.out]; exact ownsRow_block HX5.out (fun q hq hl => hK6.block q hl (hne q hq hl)))
         have HP6 := Lib.hid (ownsRow_block HP5.out (fun q hq hl => hK6.block q hl (hne q hq hl)))
         have HQ6 := Lib.hid (ownsRow_block HQ5.out (fun q hq hl => hK6.block q hl (hne q hq hl)))
         clear hW5 hK6 hne hcs5 hfs5
         have hbw5 : O < W5.heap.size := lt_of HO5.out
         have hr5w : w.heap.size + 1 < W5.heap.size := lt_of HR5.out
         obtain ⟨s0, s1, s2, s3⟩ := sigC HO5.out
         obtain ⟨u0, u1, u2, u3⟩ := sigC HR5.out
         have gr0 : W5.frozen? ⟨w.heap.size + 1, 0, none⟩ = false := free_of HR5.out _
         have gr1 : W5.frozen? ⟨w.heap.size + 1, 1, none⟩ = false := free_of HR5.out _
         have gr2 : W5.frozen? ⟨w.heap.size + 1, 2, none⟩ = false := free_of HR5.out _
         have gr3 : W5.frozen? ⟨w.heap.size + 1, 3, none⟩ = false := free_of HR5.out _
         go_wp2
         refine ret_whole (p := 6) (ty := 34) rfl (w.heap.size + 1) 34 _ (0, 0) _ rfl (set_of (set_of (set_of (set_of HR5.out 0 _) 1 _) 2 _) 3 _) Tryd.underlying34 rfl (by kernel_rfl) rfl ?_
         exact HEnd.out W5 _ _ _ _ S (H ++ [x]) ([] : List Bs) _ _ (HKR.out W5 _ _ _ _) HP6.out HX6.out HQ6.out HB5.out hL1 (by rw [List.length_append]; rw [HLH.out]; unfold maxLen; simp; omega) hL3 rfl
     · obtain ⟨hb', ho', hc', hv1, hb1, hc1⟩ := (H2.out.below HB4.out).text HLH.out hn0
       simp only [Value.slice.injEq, Option.some.injEq, Addr.mk.injEq, true_and, and_true] at hv1
       obtain ⟨⟨rfl, rfl⟩, rfl⟩ := hv1
       obtain ⟨x, hx⟩ : ∃ x, H.getD 0 [] = x := ⟨_, rfl⟩
       rw [hx, Nat.add_zero] at hc1
       have hnI : (0 : Int) < (n : Int) := by omega
       have hz0 : w.heap.size + 3 ≤ W4.heap.size := by omega
       clear hx
       go_wp2
       go_region_law
         (first
           | (refine step_append_two rfl _ _ 32 rfl (w.heap.size + 3) 9 i0 (.string ⟨#[]⟩) 1 16 Tryd.underlying32 Hi.out Hz0.out Hz1.out Hz2.out rfl (by decide) (.slice none 0 0) 0 (([] : List Bs).map vS) rfl (own_drew (HV3.out.alloc (.cells #[.string (B x)] 9))) ⟨W4.heap.size, 0, none⟩ 1 1 [vS x] rfl rfl (news_drew (news_one (new_of W4 (.cells #[.string (B x)] 9)))) (by simp [vS, Value.oneCell']) (by unfold maxLen; omega) (by omega) (by simp; omega) (by decide) ?_
              intro v5 w5 ho5 hg5' hw5
              have hg5 : (W4.alloc (.cells #[.string (B x)] 9)).grownBy w5 ((.slice none 0 0) : Value).ownBlock := ⟨hg5'.os, hg5'.tape, hg5'.output, hg5'.size, hg5'.block⟩
              clear hg5'
              obtain ⟨hp5, ha5, hk5⟩ := grown_beside (w3 := W4) (HV3.out.alloc _) HV1'.out (fun q ha hb => by cases ha) ho5 hg5 hw5
              obtain ⟨hq5, hb5, _⟩ := grown_beside (w3 := W4) (HV3.out.alloc _) HV2'.out (fun q ha hb => by cases ha) ho5 hg5 hw5
              rw [← map_snoc] at ho5
              obtain ⟨ra5, rc5, rfl⟩ := own_form ho5
              have HX5 := Lib.hid ho5
              have HP5 := Lib.hid hp5
              have HQ5 := Lib.hid hq5
              have hS5 : w5.heap[O]? = _ := (hk5 O (by omega) (lt_of HO4.out)).trans HO4.out
              have hR5 : w5.heap[w.heap.size + 1]? = _ := (hk5 _ (by omega) (lt_of HR4.out)).trans HR4.out
              have HB6 := Lib.hid (((HB4.out.alloc HB4.out.size _).grown hg5 (by simp; omega) (fun q hq => by have := (HV3.out.lt q hq).1; omega)))
              have hcs5 : w5.cell? ⟨O, 3, none⟩ = some (.slice none 0 0) := cell_of hS5 3
              have hfs5 : w5.frozen? ⟨O, 3, none⟩ = false := free_of hS5 _
              have HS6 := Lib.hid hS5
              have HR6 := Lib.hid hR5
              clear ho5 hg5 hw5 hp5 ha5 hk5 hS5 hR5 hq5 hb5))
       all_goals
         obtain ⟨W5, hW5⟩ : ∃ W5, w5.setCell ⟨O, 3, none⟩ (.slice ra5 (0 + 1) rc5) = W5 := ⟨_, rfl⟩
         rw [hW5]
         have hK6 : Kept (Licit.One O) w5 W5 := hW5 ▸ kept_set O 3 w5 _
         have hne : ∀ q, w.heap.size + 3 ≤ q → q < w5.heap.size → ¬ Licit.One O q := fun q hq _ e => by have : q = O := e; omega
         have HO5 := Lib.hid (hW5 ▸ set_of HS6.out 3 (.slice ra5 (0 + 1) rc5))
         have HR5 := Lib.hid ((hK6.block _ (lt_of HR6.out) (fun e => by have : w.heap.size + 1 = O := e; omega)).trans HR6.out)
         have HB5 := Lib.hid (HB6.out.trans (hK6.below HB6.out.size (fun q h1 e => by have : q = O := e; omega)))
         have HX6 := Lib.hid (show W5.ownsRow (w.heap.size + 3) 9 1 (.slice ra5 (0 + 1) rc5) (([] : List Bs) ++ [x]).length ((([] : List Bs) ++ [x]).map vS) by rw [List.length_append, show (([] : List Bs)).length = 0 from rfl]; exact ownsRow_block HX5.out (fun q hq hl => hK6.block q hl (hne q hq hl)))
         have HP6 := Lib.hid (ownsRow_block HP5.out (fun q hq hl => hK6.block q hl (hne q hq hl)))
         have HQ6 := Lib.hid (ownsRow_block HQ5.out (fun q hq hl => hK6.block q hl (hne q hq hl)))
         clear hW5 hK6 hne hcs5 hfs5
         have hbw5 : O < W5.heap.size := lt_of HO5.out
         have hr5w : w.heap.size + 1 < W5.heap.size := lt_of HR5.out
         obtain ⟨s0, s1, s2, s3⟩ := sigC HO5.out
         obtain ⟨u0, u1, u2, u3⟩ := sigC HR5.out
         have gr0 : W5.frozen? ⟨w.heap.size + 1, 0, none⟩ = false := free_of HR5.out _
         have gr1 : W5.frozen? ⟨w.heap.size + 1, 1, none⟩ = false := free_of HR5.out _
         have gr2 : W5.frozen? ⟨w.heap.size + 1, 2, none⟩ = false := free_of HR5.out _
         have gr3 : W5.frozen? ⟨w.heap.size + 1, 3, none⟩ = false := free_of HR5.out _
         go_wp2
         refine ret_whole (p := 6) (ty := 34) rfl (w.heap.size + 1) 34 _ (0, 0) _ rfl (set_of (set_of (set_of (set_of HR5.out 0 _) 1 _) 2 _) 3 _) Tryd.underlying34 rfl (by kernel_rfl) rfl ?_
         exact HEnd.out W5 _ _ _ _ S H (([] : List Bs) ++ [x]) _ _ (HKR.out W5 _ _ _ _) HP6.out HQ6.out HX6.out HB5.out hL1 hL2 (by unfold maxLen; simp) rfl
     · obtain ⟨sb', so', sc', hv1, hb1, hc1⟩ := (H1.out.below HB4.out).text HLS.out hbn
       simp only [Value.slice.injEq, Option.some.injEq, Addr.mk.injEq, true_and, and_true] at hv1
       obtain ⟨⟨rfl, rfl⟩, rfl⟩ := hv1
       obtain ⟨x, hx⟩ : ∃ x, S.getD bq [] = x := ⟨_, rfl⟩
       rw [hx] at hc1
       have hx32 : x.length = 32 := by rw [← hx]; exact getD_32 H32.out (by rw [HLS.out]; exact hbn)
       have hsz : (B x).size = 32 := hx32
       have hbI : (bq : Int) < (n : Int) := by omega
       have hgc := own_cell HV1.out (i := bq) (by rw [HLS.out]; exact hbn)
       have hgf := own_free HV1.out (i := bq) hbn
       unfold vS at hgc
       clear hx
       go_wp2
       refine wp_region_held_drew (S := (fun W : World => W.cell? ⟨O, 1, none⟩ = some (.slice (some ⟨g1, 0, none⟩) n e1) ∧ W.cell? ⟨w.heap.size, 1, none⟩ = some (.slice (some ⟨sb, so, none⟩) n sc) ∧ W.cell? ⟨sb, so + bq, none⟩ = some (.string (B x)))) (by kernel_rfl) ⟨p1, q1, hc1⟩ (fun hHeld => ?_)
       refine take_at 0 113 (oi := ?o23) (v := ?v23) ?hi23 ?hd23 (by kernel_rfl) (by kernel_rfl) (by kernel_rfl) ?hQ23 ?hw23 ?hy23 (by assumption) ?rest23
       case hi23 => simp only [List.getElem?_toArray, List.getElem?_cons_zero]; rfl
       case hd23 => rfl
       case hw23 => kernel_rfl
       case hy23 => intro W hW; (try dsimp only at hW); go_simp <;> with_reducible rfl
       case hQ23 => exact fun _ _ _ h => h
       try simp only [Act.put, List.setIfInBounds_toArray, List.set_cons_zero, List.set_cons_succ]
       refine take_at 1 114 (oi := ?o24) (v := ?v24) ?hi24 ?hd24 (by kernel_rfl) (by kernel_rfl) (by kernel_rfl) ?hQ24 ?hw24 ?hy24 (by assumption) ?rest24
       case hi24 => simp only [List.getElem?_toArray, List.getElem?_cons_succ, List.getElem?_cons_zero]; rfl
       case hd24 => rfl
       case hw24 => kernel_rfl
       case hy24 => intro W hW; (try dsimp only at hW); go_simp <;> with_reducible rfl
       case hQ24 => exact fun _ _ _ h => h
       try simp only [Act.put, List.setIfInBounds_toArray, List.set_cons_zero, List.set_cons_succ]
       refine take_at 2 115 (oi := ?o25) (v := ?v25) ?hi25 ?hd25 (by kernel_rfl) (by kernel_rfl) (by kernel_rfl) ?hQ25 ?hw25 ?hy25 (by assumption) ?rest25
       case hi25 => simp only [List.getElem?_toArray, List.getElem?_cons_succ, List.getElem?_cons_zero]; rfl
       case hd25 => rfl
       case hw25 => kernel_rfl
       case hy25 => intro W hW; (try dsimp only at hW); go_simp <;> with_reducible rfl
       case hQ25 => exact fun _ _ _ h => h
       try simp only [Act.put, List.setIfInBounds_toArray, List.set_cons_zero, List.set_cons_succ]
       refine take_at 3 116 (oi := ?o26) (v := ?v26) ?hi26 ?hd26 (by kernel_rfl) (by kernel_rfl) (by kernel_rfl) ?hQ26 ?hw26 ?hy26 (by assumption) ?rest26
       case hi26 => simp only [List.getElem?_toArray, List.getElem?_cons_succ, List.getElem?_cons_zero]; rfl
       case hd26 => rfl
       case hw26 => kernel_rfl
       case hy26 => intro W hW; (try dsimp only at hW); go_simp <;> with_reducible rfl
       case hQ26 => exact fun _ _ _ h => h
       try simp only [Act.put, List.setIfInBounds_toArray, List.set_cons_zero, List.set_cons_succ]
       refine take_at 4 117 (oi := ?o27) (v := ?v27) ?hi27 ?hd27 (by kernel_rfl) (by kernel_rfl) (by kernel_rfl) ?hQ27 ?hw27 ?hy27 (by assumption) ?rest27
       case hi27 => simp only [List.getElem?_toArray, List.getElem?_cons_succ, List.getElem?_cons_zero]; rfl
       case hd27 => rfl
       case hw27 => kernel_rfl
       case hy27 => intro W hW; (try dsimp only at hW); go_simp <;> with_reducible rfl
       case hQ27 => exact fun _ _ _ h => h
       try simp only [Act.put, List.setIfInBounds_toArray, List.set_cons_zero, List.set_cons_succ]
       refine take_at 5 118 (oi := ?o28) (v := ?v28) ?hi28 ?hd28 (by kernel_rfl) (by kernel_rfl) (by kernel_rfl) ?hQ28 ?hw28 ?hy28 (by assumption) ?rest28
       case hi28 => simp only [List.getElem?_toArray, List.getElem?_cons_succ, List.getElem?_cons_zero]; rfl
       case hd28 => rfl
       case hw28 => kernel_rfl
       case hy28 => intro W hW; (try dsimp only at hW); go_simp <;> with_reducible rfl
       case hQ28 => exact fun _ _ _ h => h
       try simp only [Act.put, List.setIfInBounds_toArray, List.set_cons_zero, List.set_cons_succ]
       refine take_at 6 119 (oi := ?o29) (v := ?v29) ?hi29 ?hd29 (by kernel_rfl) (by kernel_rfl) (by kernel_rfl) ?hQ29 ?hw29 ?hy29 (by assumption) ?rest29
       case hi29 => simp only [List.getElem?_toArray, List.getElem?_cons_succ, List.getElem?_cons_zero]; rfl
       case hd29 => rfl
       case hw29 => kernel_rfl
       case hy29 => intro W hW; (try dsimp only at hW); go_simp <;> with_reducible rfl
       case hQ29 => exact fun _ _ _ h => h
       try simp only [Act.put, List.setIfInBounds_toArray, List.set_cons_zero, List.set_cons_succ]
       refine take_at 7 120 (oi := ?o30) (v := ?v30) ?hi30 ?hd30 (by kernel_rfl) (by kernel_rfl) (by kernel_rfl) ?hQ30 ?hw30 ?hy30 (by assumption) ?rest30
       case hi30 => simp only [List.getElem?_toArray, List.getElem?_cons_succ, List.getElem?_cons_zero]; rfl
       case hd30 => rfl
       case hw30 => kernel_rfl
       case hy30 => intro W hW; (try dsimp only at hW); go_simp <;> with_reducible rfl
       case hQ30 => exact fun _ _ _ h => h
       try simp only [Act.put, List.setIfInBounds_toArray, List.set_cons_zero, List.set_cons_succ]
       refine take_at 8 121 (oi := ?o31) (v := ?v31) ?hi31 ?hd31 (by kernel_rfl) (by kernel_rfl) (by kernel_rfl) ?hQ31 ?hw31 ?hy31 (by assumption) ?rest31
       case hi31 => simp only [List.getElem?_toArray, List.getElem?_cons_succ, List.getElem?_cons_zero]; rfl
       case hd31 => rfl
       case hw31 => kernel_rfl
       case hy31 => intro W hW; (try dsimp only at hW); go_simp <;> with_reducible rfl
       case hQ31 => exact fun _ _ _ h => h
       try simp only [Act.put, List.setIfInBounds_toArray, List.set_cons_zero, List.set_cons_succ]
       refine take_at 9 122 (oi := ?o32) (v := ?v32) ?hi32 ?hd32 (by kernel_rfl) (by kernel_rfl) (by kernel_rfl) ?hQ32 ?hw32 ?hy32 (by assumption) ?rest32
       case hi32 => simp only [List.getElem?_toArray, List.getElem?_cons_succ, List.getElem?_cons_zero]; rfl
       case hd32 => rfl
       case hw32 => kernel_rfl
       case hy32 => intro W hW; (try dsimp only at hW); go_simp <;> with_reducible rfl
       case hQ32 => exact fun _ _ _ h => h
       try simp only [Act.put, List.setIfInBounds_toArray, List.set_cons_zero, List.set_cons_succ]
       refine wpAnyH_ready (rs := [10]) (by kernel_rfl) (by simp) ?_
       refine AllReadyH.cons rfl (fun K hK => ?_) AllReadyH.nil
       go_simp
       refine hK.out _ _ ⟨cell_far (by omega) p1, cell_far (by omega) q1, cell_far (by omega) hc1⟩ (fun hHeld => ?_)
       clear hK K
       try simp only [Act.put, List.setIfInBounds_toArray, List.set_cons_zero, List.set_cons_succ]
       refine wpAnyH_done (by kernel_rfl) ?_ _
       have HO6 := HO4
       have HR6 := HR4
       have HB6 := HB4
       obtain ⟨W5, hW5⟩ : ∃ W5, (W4.setCell ⟨g1, bq, none⟩ (.string (B x ++ ⟨#[120]⟩))).drew = W5 := ⟨_, rfl⟩
       rw [hW5]
       have hK5 : Kept (fun q => q = g1) W4 W5 := hW5 ▸ (((Kept.refl (fun q => q = g1) W4).setCell (p := ⟨g1, bq, none⟩) (.inr rfl) _).drew)
       have HO5 := Lib.hid ((hK5.block _ (lt_of HO6.out) (fun e => by have : O = g1 := e; omega)).trans HO6.out)
       have HR5 := Lib.hid ((hK5.block _ (lt_of HR6.out) (fun e => by have : w.heap.size + 1 = g1 := e; omega)).trans HR6.out)
       have HB5 := Lib.hid (HB6.out.trans (hK5.below HB6.out.size (fun q h1 e => by have : q = g1 := e; omega)))
       have hv5 : W5.ownsRow (w.heap.size + 3) 9 1 (.slice (some ⟨g1, 0, none⟩) n e1) (S.set bq (x ++ [120])).length ((S.set bq (x ++ [120])).map vS) := by
         rw [List.length_set, HLS.out, List.map_set, ← hW5]
         exact (HV1.out.stored bq (.string (B x ++ ⟨#[120]⟩))).1.drew
       have hv6 : W5.ownsRow (w.heap.size + 3) 9 1 (.slice (some ⟨g2, 0, none⟩) n e2) H.length (H.map vS) := by
         rw [← hW5]
         exact (ownsRow_setCell_other HV2'.out (a := ⟨g1, bq, none⟩) (fun e => h12 (Option.some.inj e).symm) _).drew
       have hv7 : W5.ownsRow (w.heap.size + 3) 9 1 (.slice none 0 0) ([] : List Bs).length (([] : List Bs).map vS) := by
         rw [← hW5]
         exact (ownsRow_setCell_other HV3.out (a := ⟨g1, bq, none⟩) (fun e => by cases e) _).drew
       have HV5 := Lib.hid hv5
       have HV6 := Lib.hid hv6
       have HV7 := Lib.hid hv7
       clear hv5 hv6 hv7 hW5 hK5
       have hbw5 : O < W5.heap.size := lt_of HO5.out
       have hr5w : w.heap.size + 1 < W5.heap.size := lt_of HR5.out
       obtain ⟨s0, s1, s2, s3⟩ := sigC HO5.out
       obtain ⟨u0, u1, u2, u3⟩ := sigC HR5.out
       have gr0 : W5.frozen? ⟨w.heap.size + 1, 0, none⟩ = false := free_of HR5.out _
       have gr1 : W5.frozen? ⟨w.heap.size + 1, 1, none⟩ = false := free_of HR5.out _
       have gr2 : W5.frozen? ⟨w.heap.size + 1, 2, none⟩ = false := free_of HR5.out _
       have gr3 : W5.frozen? ⟨w.heap.size + 1, 3, none⟩ = false := free_of HR5.out _
       go_wp2
       refine ret_whole (p := 6) (ty := 34) rfl (w.heap.size + 1) 34 _ (0, 0) _ rfl (set_of (set_of (set_of (set_of HR5.out 0 _) 1 _) 2 _) 3 _) Tryd.underlying34 rfl (by kernel_rfl) rfl ?_
       exact HEnd.out W5 _ _ _ _ (S.set bq (x ++ [120])) H ([] : List Bs) _ _ (HKR.out W5 _ _ _ _) HV5.out HV6.out HV7.out HB5.out (by rw [List.length_set]; exact hL1) hL2 hL3 rfl
     · go_wp2
       have hne : w.heap.size + 1 ≠ O := by omega
       refine ret_whole (p := 6) (ty := 34) rfl (w.heap.size + 1) 34 _ (0, 0) _ rfl (set_of (set_of (set_of (set_of (set_other (p := ⟨O, 0, none⟩) HR4.out hne) 0 _) 1 _) 2 _) 3 _) Tryd.underlying34 rfl (by kernel_rfl) rfl ?_
       refine HEnd.out W4 _ _ _ _ S H [] _ _ ((((Kept.refl _ W4).setCell (p := ⟨O, 0, none⟩) (.inr ⟨by show w.heap.size ≤ O; omega, by show O < w.heap.size + 3; omega⟩) _)).trans (HKR.out _ _ _ _ _)) HV1'.out HV2'.out HV3.out HB4.out hL1 hL2 hL3 rfl
     · go_wp2
       refine ret_whole (p := 6) (ty := 34) rfl (w.heap.size + 1) 34 _ (0, 0) _ rfl (set_of (set_of (set_of (set_of HR4.out 0 _) 1 _) 2 _) 3 _) Tryd.underlying34 rfl (by kernel_rfl) rfl ?_
       exact HEnd.out W4 _ _ _ _ S H [] _ _ (HKR.out W4 _ _ _ _) HV1'.out HV2'.out HV3.out HB4.out hL1 hL2 hL3 rfl
     · go_wp2
       have hne : w.heap.size + 1 ≠ O := by omega
       refine ret_whole (p := 6) (ty := 34) rfl (w.heap.size + 1) 34 _ (0, 0) _ rfl (set_of (set_of (set_of (set_of (set_other (p := ⟨O, 0, none⟩) HR4.out hne) 0 _) 1 _) 2 _) 3 _) Tryd.underlying34 rfl (by kernel_rfl) rfl ?_
       refine HEnd.out W4 _ _ _ _ S H [] _ _ ((((Kept.refl _ W4).setCell (p := ⟨O, 0, none⟩) (.inr ⟨by show w.heap.size ≤ O; omega, by show O < w.heap.size + 3; omega⟩) _)).trans (HKR.out _ _ _ _ _)) HV1'.out HV2'.out HV3.out HB4.out hL1 hL2 hL3 rfl
     · go_wp2
       refine ret_whole (p := 6) (ty := 34) rfl (w.heap.size + 1) 34 _ (0, 0) _ rfl (set_of (set_of (set_of (set_of HR4.out 0 _) 1 _) 2 _) 3 _) Tryd.underlying34 rfl (by kernel_rfl) rfl ?_
       exact HEnd.out W4 _ _ _ _ S H [] _ _ (HKR.out W4 _ _ _ _) HV1'.out HV2'.out HV3.out HB4.out hL1 hL2 hL3 rfl
    ·
     go_enter Tryd.func18, Tryd.ntmps18
     go_upto_region 5 with (first
       | (at_builtin
          go_loud (
          have hBs := (HB1.out.setCell (p := ⟨w.heap.size + 1 + 1, 1, none⟩) (by show w.heap.size ≤ w.heap.size + 1 + 1; omega) (.slice a1 n e1))
          refine wpList_append_two rfl _ _ 32 rfl (w.heap.size + 3) 9 i0 (.string ⟨#[]⟩) 1 16 Tryd.underlying32 Hi.out Hz0.out Hz1.out Hz2.out rfl (by decide) (.slice none 0 0) 0 [] rfl (World.ownsRow_nil _ _ _ _) ⟨hb, ho, none⟩ n hc (H.map vS) rfl (by rw [List.length_map, HLH.out, Nat.mul_one]) (news_below HCH.out hBs) (vS_ones _) (by unfold maxLen; omega) (by omega) (by first | (simp; done) | (simp; omega)) hn0 ?_
          intro v2 w2 ho2 hg2 hw2
          have hne : ∀ q : Nat, q ≠ w.heap.size + 1 + 1 → q ≠ (⟨w.heap.size + 1 + 1, 1, none⟩ : Addr).block := fun q h => h
          have hs2 := nil_own hg2 (set_other (p := ⟨w.heap.size + 1 + 1, 1, none⟩) HS1.out (hne _ (by omega)))
          have hr2 := nil_own hg2 (set_other (p := ⟨w.heap.size + 1 + 1, 1, none⟩) HR1.out (hne _ (by omega)))
          have hO2 := nil_own hg2 (set_of HOut1.out 1 _)
          have hkp : ∀ q, w.heap.size + 3 ≤ q → q < w1.heap.size → w2.heap[q]? = w1.heap[q]? := fun q h1 h2 => (hg2.block q (by simpa using h2) (by simp [Value.ownBlock])).trans (Below.heap_setCell _ _ _ _ (by show q ≠ w.heap.size + 1 + 1; omega))
          rw [Nat.zero_add, List.nil_append] at ho2
          obtain ⟨a2, e2, rfl⟩ := own_form ho2
          have hB2 := hBs.grown hg2 hBs.size (fun q hq => by cases hq)
          have HO12 := Lib.hid (ownsRow_block HO1.out hkp)
          have HA12 := Lib.hid (show Apart (.slice a2 n e2) (.slice a1 n e1) from fun q h1 h2 => by
            have := own_lt HO1.out h2
            rcases hw2 q h1 with h | h
            · cases h
            · simp at h; omega)
          have HB2 := Lib.hid hB2
          have HS2 := Lib.hid hs2
          have HR2 := Lib.hid hr2
          have HO2 := Lib.hid ho2
          have HOut2 := Lib.hid hO2
          have hz2 : w.heap.size + 3 ≤ w2.heap.size := by have := lt_of hO2; omega
          obtain ⟨c20, c21, c22, c23⟩ := sigC hO2
          obtain ⟨b20, b21, b22, b23⟩ := sigC hs2
          have f2 : w2.frozen? ⟨w.heap.size + 1 + 1, 2, none⟩ = false := free_of hO2 _
          have f23 : w2.frozen? ⟨w.heap.size + 1 + 1, 3, none⟩ = false := free_of hO2 _
          clear ho2 hg2 hw2 hs2 hr2 hO2 hB2 hne hkp hBs))
       | (at_builtin
          go_loud (
          refine wpList_append_two rfl _ _ 32 rfl (w.heap.size + 3) 9 i0 (.string ⟨#[]⟩) 1 16 Tryd.underlying32 Hi.out Hz0.out Hz1.out Hz2.out rfl (by decide) (.slice none 0 0) 0 [] rfl (World.ownsRow_nil _ _ _ _) ⟨sb, so, none⟩ n sc (S.map vS) rfl (by rw [List.length_map, HLS.out, Nat.mul_one]) (news_below HCS.out HB0.out) (vS_ones _) (by unfold maxLen; omega) (by omega) (by first | (simp; done) | (simp; omega)) hn0 ?_
          intro v1 w1 ho1 hg1 hw1
          have hs1 := nil_own hg1 (old_of (old_of (new_of w _)))
          have hr1 := nil_own hg1 (old_of (new_at (k := w.heap.size + 1) (by simp) rfl))
          have hO1 := nil_own hg1 (new_at (k := w.heap.size + 1 + 1) (by simp) rfl)
          rw [Nat.zero_add, List.nil_append] at ho1
          obtain ⟨a1, e1, rfl⟩ := own_form ho1
          have hB1 := HB0.out.grown hg1 HB0.out.size (fun q hq => by cases hq)
          have HB1 := Lib.hid hB1
          have HS1 := Lib.hid hs1
          have HR1 := Lib.hid hr1
          have HO1 := Lib.hid ho1
          have HOut1 := Lib.hid hO1
          have hz1 : w.heap.size + 3 ≤ w1.heap.size := by have := lt_of hO1; omega
          obtain ⟨c10, c11, c12, c13⟩ := sigC hO1
          obtain ⟨b10, b11, b12, b13⟩ := sigC hs1
          have f1 : w1.frozen? ⟨w.heap.size + 1 + 1, 1, none⟩ = false := free_of hO1 _
          clear ho1 hg1 hw1 hs1 hr1 hO1 hB1)))
     obtain ⟨W4, hW4⟩ : ∃ W4, (w2.setCell ⟨w.heap.size + 1 + 1, 2, none⟩ (.slice a2 n e2)).setCell ⟨w.heap.size + 1 + 1, 3, none⟩ (.slice none 0 0) = W4 := ⟨_, rfl⟩
     rw [hW4]
     have hK4 : Kept (Licit.One (w.heap.size + 1 + 1)) w2 W4 := hW4 ▸ (kept_set (w.heap.size + 1 + 1) 2 w2 _).trans (kept_set (w.heap.size + 1 + 1) 3 _ _)
     have hb4 : ∀ q, w.heap.size + 3 ≤ q → q < w2.heap.size → W4.heap[q]? = w2.heap[q]? := fun q h1 h2 => hK4.block q h2 (fun e => by have : q = w.heap.size + 1 + 1 := e; omega)
     have HO4 := Lib.hid (show W4.heap[w.heap.size + 1 + 1]? = some (.cells #[.int .i64 (i : Int), .slice a1 n e1, .slice a2 n e2, .slice none 0 0] 34) from hW4 ▸ set_of (set_of HOut2.out 2 _) 3 _)
     have HS4 := Lib.hid ((hK4.block _ (lt_of HS2.out) (fun e => by have : w.heap.size = w.heap.size + 1 + 1 := e; omega)).trans HS2.out)
     have HR4 := Lib.hid ((hK4.block _ (lt_of HR2.out) (fun e => by have : w.heap.size + 1 = w.heap.size + 1 + 1 := e; omega)).trans HR2.out)
     have HB4 := Lib.hid (HB2.out.trans (hK4.below HB2.out.size (fun q h1 e => by have : q = w.heap.size + 1 + 1 := e; omega)))
     have HV1 := Lib.hid (ownsRow_block HO12.out hb4)
     have HV2 := Lib.hid (ownsRow_block HO2.out hb4)
     have HV3 := Lib.hid (show W4.ownsRow (w.heap.size + 3) 9 1 (.slice none 0 0) ([] : List Bs).length (([] : List Bs).map vS) from World.ownsRow_nil _ _ _ _)
     obtain ⟨O, hO⟩ : ∃ O, w.heap.size + 1 + 1 = O := ⟨_, rfl⟩
     obtain ⟨g1, _, hg1, hg1b, hg1z, _⟩ := own_some HV1.out hn0
     obtain ⟨g2, _, hg2, hg2b, hg2z, _⟩ := own_some HV2.out hn0
     simp only [Value.slice.injEq, true_and] at hg1 hg2
     obtain ⟨rfl, rfl⟩ := hg1
     obtain ⟨rfl, rfl⟩ := hg2
     have h12 : g1 ≠ g2 := fun e => HA12.out g2 rfl (by rw [e]; rfl)
     have hbw : O < W4.heap.size := by rw [← hO]; exact lt_of HO4.out
     rw [hO] at HO4 ⊢
     have hOne : O ≠ w.heap.size ∧ O ≠ w.heap.size + 1 ∧ O < w.heap.size + 3 := by omega
     have hs4w : w.heap.size < W4.heap.size := lt_of HS4.out
     have hr4w : w.heap.size + 1 < W4.heap.size := lt_of HR4.out
     obtain ⟨p0, p1, p2, p3⟩ := sigC HO4.out
     obtain ⟨q0, q1, q2, q3⟩ := sigC HS4.out
     obtain ⟨r0, r1, r2, r3⟩ := sigC HR4.out
     have fr0 : W4.frozen? ⟨w.heap.size + 1, 0, none⟩ = false := free_of HR4.out _
     have fr1 : W4.frozen? ⟨w.heap.size + 1, 1, none⟩ = false := free_of HR4.out _
     have fr2 : W4.frozen? ⟨w.heap.size + 1, 2, none⟩ = false := free_of HR4.out _
     have fr3 : W4.frozen? ⟨w.heap.size + 1, 3, none⟩ = false := free_of HR4.out _
     have fo0 : W4.frozen? ⟨O, 0, none⟩ = false := free_of HO4.out _
     have fo1 : W4.frozen? ⟨O, 1, none⟩ = false := free_of HO4.out _
     have fo2 : W4.frozen? ⟨O, 2, none⟩ = false := free_of HO4.out _
     have fo3 : W4.frozen? ⟨O, 3, none⟩ = false := free_of HO4.out _
     obtain ⟨bq, hbq⟩ : ∃ bq, at_ % n = bq := ⟨_, rfl⟩
     have hbn : bq < n := by rw [← hbq]; exact Nat.mod_lt _ hn0
     have hrem : (at_ : Int) % (n : Int) = (bq : Int) := by rw [← hbq]; simp
     have hn1 : ¬ (n : Int) = 0 := by omega
     clear hW4 hK4 hb4 hbq c10 c11 c12 c13 b10 b11 b12 b13 c20 c21 c22 c23 b20 b21 b22 b23 f1 f2 f23 HOut1 HOut2 HS1 HS2 HR1 HR2 HB0 HB1 HB2 HO1 HO2 HO12 HA12
     have HEnd := Lib.hid (show ∀ (W5 : World) (y : Int) (x1 x2 x3 : Value) (S' H' R' : List Bs) (e : Ending) (F : World), Kept (fun q => w.heap.size ≤ q ∧ q < w.heap.size + 3) W5 F → W5.ownsRow (w.heap.size + 3) 9 1 x1 S'.length (S'.map vS) → W5.ownsRow (w.heap.size + 3) 9 1 x2 H'.length (H'.map vS) → W5.ownsRow (w.heap.size + 3) 9 1 x3 R'.length (R'.map vS) →
         Below w.heap.size w W5 → S'.length ≤ maxLen → H'.length ≤ maxLen → R'.length ≤ maxLen → e = .returned (.agg #[.int .i64 y, x1, x2, x3]) →
         ∃ (v' : Value) (i' : Int) (S' H' R' : List Bs), e = .returned v' ∧ SigIs v' i' S' H' R' F ∧ Below w.heap.size w F from by
       intro W5 y x1 x2 x3 S' H' R' e F hK a1 a2 a3 hB l1 l2 l3 he
       have hk : ∀ q, w.heap.size + 3 ≤ q → q < W5.heap.size → F.heap[q]? = W5.heap[q]? := fun q h1 h2 => hK.block q h2 (fun h => by omega)
       exact ⟨_, y, S', H', R', he, ⟨_, _, _, rfl, IsSl.of_owns (by rw [List.length_map]; exact ownsRow_block a1 hk) (by rw [List.length_map]; exact l1), IsSl.of_owns (by rw [List.length_map]; exact ownsRow_block a2 hk) (by rw [List.length_map]; exact l2), IsSl.of_owns (by rw [List.length_map]; exact ownsRow_block a3 hk) (by rw [List.length_map]; exact l3)⟩,
         hB.trans (hK.below hB.size (fun q h1 h => by omega))⟩)
     have HKR := Lib.hid (show ∀ (W5 : World) (y0 y1 y2 y3 : Value), Kept (fun q => w.heap.size ≤ q ∧ q < w.heap.size + 3) W5 ((((W5.setCell ⟨w.heap.size + 1, 0, none⟩ y0).setCell ⟨w.heap.size + 1, 1, none⟩ y1).setCell ⟨w.heap.size + 1, 2, none⟩ y2).setCell ⟨w.heap.size + 1, 3, none⟩ y3) from fun W5 y0 y1 y2 y3 =>
       ((((Kept.refl _ _).setCell (p := ⟨w.heap.size + 1, 0, none⟩) (.inr ⟨by show w.heap.size ≤ w.heap.size + 1; omega, by show w.heap.size + 1 < w.heap.size + 3; omega⟩) y0).setCell (p := ⟨w.heap.size + 1, 1, none⟩) (.inr ⟨by show w.heap.size ≤ w.heap.size + 1; omega, by show w.heap.size + 1 < w.heap.size + 3; omega⟩) y1).setCell (p := ⟨w.heap.size + 1, 2, none⟩) (.inr ⟨by show w.heap.size ≤ w.heap.size + 1; omega, by show w.heap.size + 1 < w.heap.size + 3; omega⟩) y2).setCell (p := ⟨w.heap.size + 1, 3, none⟩) (.inr ⟨by show w.heap.size ≤ w.heap.size + 1; omega, by show w.heap.size + 1 < w.heap.size + 3; omega⟩) y3)
     have hL3 : ([] : List Bs).length ≤ maxLen := Nat.zero_le _
     have hL1 : S.length ≤ maxLen := by rw [HLS.out]; unfold maxLen; omega
     have hL2 : H.length ≤ maxLen := by rw [HLH.out]; unfold maxLen; omega
     have HV1' := Lib.hid (show W4.ownsRow (w.heap.size + 3) 9 1 (.slice (some ⟨g1, 0, none⟩) n e1) S.length (S.map vS) by rw [HLS.out]; exact HV1.out)
     have HV2' := Lib.hid (show W4.ownsRow (w.heap.size + 3) 9 1 (.slice (some ⟨g2, 0, none⟩) n e2) H.length (H.map vS) by rw [HLH.out]; exact HV2.out)
     have hh : how = 0 ∨ how = 1 ∨ how = 2 ∨ how = 3 ∨ how = 4 ∨ how = 5 ∨ how = 6 ∨ how = 7 ∨ how = 8 ∨ how = 9 ∨ how = 10 ∨ how = 11 := by omega
     clear hw
     rcases hh with rfl | rfl | rfl | rfl | rfl | rfl | rfl | rfl | rfl | rfl | rfl | rfl
     · go_wp2
       refine ret_whole (p := 6) (ty := 34) rfl (w.heap.size + 1) 34 _ (0, 0) _ rfl (set_of (set_of (set_of (set_of HR4.out 0 _) 1 _) 2 _) 3 _) Tryd.underlying34 rfl (by kernel_rfl) rfl ?_
       exact HEnd.out W4 _ _ _ _ S H [] _ _ (HKR.out W4 _ _ _ _) HV1'.out HV2'.out HV3.out HB4.out hL1 hL2 hL3 rfl
     · go_wp2
       have hne : w.heap.size + 1 ≠ O := by omega
       refine ret_whole (p := 6) (ty := 34) rfl (w.heap.size + 1) 34 _ (0, 0) _ rfl (set_of (set_of (set_of (set_of (set_other (p := ⟨O, 0, none⟩) HR4.out hne) 0 _) 1 _) 2 _) 3 _) Tryd.underlying34 rfl (by kernel_rfl) rfl ?_
       refine HEnd.out W4 _ _ _ _ S H [] _ _ ((((Kept.refl _ W4).setCell (p := ⟨O, 0, none⟩) (.inr ⟨by show w.heap.size ≤ O; omega, by show O < w.heap.size + 3; omega⟩) _)).trans (HKR.out _ _ _ _ _)) HV1'.out HV2'.out HV3.out HB4.out hL1 hL2 hL3 rfl
     · obtain ⟨sb', so', sc', hv1, hb1, hc1⟩ := (H1.out.below HB4.out).text HLS.out hbn
       simp only [Value.slice.injEq, Option.some.injEq, Addr.mk.injEq, true_and, and_true] at hv1
       obtain ⟨⟨rfl, rfl⟩, rfl⟩ := hv1
       obtain ⟨x, hx⟩ : ∃ x, S.getD bq [] = x := ⟨_, rfl⟩
       rw [hx] at hc1
       have hx32 : x.length = 32 := by rw [← hx]; exact getD_32 H32.out (by rw [HLS.out]; exact hbn)
       have hsz : (B x).size = 32 := hx32
       have hbI : (bq : Int) < (n : Int) := by omega
       have hgc := own_cell HV1.out (i := bq) (by rw [HLS.out]; exact hbn)
       have hgf := own_free HV1.out (i := bq) hbn
       unfold vS at hgc
       clear hx
       have hrb : (bq : Int).tmod (n : Int) = (bq : Int) := Int.tmod_eq_of_lt (by omega) hbI
       have hba : Below W4.heap.size W4 (W4.alloc (.cells #[.string ⟨#[111, 116, 104, 101, 114]⟩, .string (B x)] 9)) := (Below.refl _ _).alloc (Nat.le_refl _) _
       go_wp2
       refine wp_region_held_drew (S := (fun W : World => W.cell? ⟨O, 1, none⟩ = some (.slice (some ⟨g1, 0, none⟩) n e1) ∧ W.cell? ⟨w.heap.size, 1, none⟩ = some (.slice (some ⟨sb, so, none⟩) n sc) ∧ W.cell? ⟨sb, so + bq, none⟩ = some (.string (B x)))) (by kernel_rfl) ⟨p1, q1, hc1⟩ (fun hHeld => ?_)
       refine take_at 0 55 (oi := ?o1b) (v := ?v1b) ?hi1b ?hd1b (by kernel_rfl) (by kernel_rfl) (by kernel_rfl) ?hQ1b ?hw1b ?hy1b (by assumption) ?rest1b
       case hi1b => simp only [List.getElem?_toArray, List.getElem?_cons_zero]; rfl
       case hd1b => rfl
       case hw1b => kernel_rfl
       case hy1b => intro W hW; (try dsimp only at hW); go_simp <;> with_reducible rfl
       case hQ1b => exact fun _ _ _ h => h
       try simp only [Act.put, List.setIfInBounds_toArray, List.set_cons_zero, List.set_cons_succ]
       refine take_at 1 56 (oi := ?o2b) (v := ?v2b) ?hi2b ?hd2b (by kernel_rfl) (by kernel_rfl) (by kernel_rfl) ?hQ2b ?hw2b ?hy2b (by assumption) ?rest2b
       case hi2b => simp only [List.getElem?_toArray, List.getElem?_cons_succ, List.getElem?_cons_zero]; rfl
       case hd2b => rfl
       case hw2b => kernel_rfl
       case hy2b => intro W hW; (try dsimp only at hW); go_simp <;> with_reducible rfl
       case hQ2b => exact fun _ _ _ h => h
       try simp only [Act.put, List.setIfInBounds_toArray, List.set_cons_zero, List.set_cons_succ]
       refine take_at 2 57 (oi := ?o3b) (v := ?v3b) ?hi3b ?hd3b (by kernel_rfl) (by kernel_rfl) (by kernel_rfl) ?hQ3b ?hw3b ?hy3b (by assumption) ?rest3b
       case hi3b => simp only [List.getElem?_toArray, List.getElem?_cons_succ, List.getElem?_cons_zero]; rfl
       case hd3b => rfl
       case hw3b => kernel_rfl
       case hy3b => intro W hW; (try dsimp only at hW); go_simp <;> with_reducible rfl
       case hQ3b => exact fun _ _ _ h => h
       try simp only [Act.put, List.setIfInBounds_toArray, List.set_cons_zero, List.set_cons_succ]
       refine take_at 3 58 (oi := ?o4b) (v := ?v4b) ?hi4b ?hd4b (by kernel_rfl) (by kernel_rfl) (by kernel_rfl) ?hQ4b ?hw4b ?hy4b (by assumption) ?rest4b
       case hi4b => simp only [List.getElem?_toArray, List.getElem?_cons_succ, List.getElem?_cons_zero]; rfl
       case hd4b => rfl
       case hw4b => kernel_rfl
       case hy4b => intro W hW; (try dsimp only at hW); go_simp <;> with_reducible rfl
       case hQ4b => exact fun _ _ _ h => h
       try simp only [Act.put, List.setIfInBounds_toArray, List.set_cons_zero, List.set_cons_succ]
       refine take_at 4 59 (oi := ?o5b) (v := ?v5b) ?hi5b ?hd5b (by kernel_rfl) (by kernel_rfl) (by kernel_rfl) ?hQ5b ?hw5b ?hy5b (by assumption) ?rest5b
       case hi5b => simp only [List.getElem?_toArray, List.getElem?_cons_succ, List.getElem?_cons_zero]; rfl
       case hd5b => rfl
       case hw5b => kernel_rfl
       case hy5b => intro W hW; (try dsimp only at hW); go_simp <;> with_reducible rfl
       case hQ5b => exact fun _ _ _ h => h
       try simp only [Act.put, List.setIfInBounds_toArray, List.set_cons_zero, List.set_cons_succ]
       refine take_at 5 60 (oi := ?o6b) (v := ?v6b) ?hi6b ?hd6b (by kernel_rfl) (by kernel_rfl) (by kernel_rfl) ?hQ6b ?hw6b ?hy6b (by assumption) ?rest6b
       case hi6b => simp only [List.getElem?_toArray, List.getElem?_cons_succ, List.getElem?_cons_zero]; rfl
       case hd6b => rfl
       case hw6b => kernel_rfl
       case hy6b => intro W hW; (try dsimp only at hW); go_simp <;> with_reducible rfl
       case hQ6b => exact fun _ _ _ h => h
       try simp only [Act.put, List.setIfInBounds_toArray, List.set_cons_zero, List.set_cons_succ]
       refine take_at 6 61 (oi := ?o7b) (v := ?v7b) ?hi7b ?hd7b (by kernel_rfl) (by kernel_rfl) (by kernel_rfl) ?hQ7b ?hw7b ?hy7b (by assumption) ?rest7b
       case hi7b => simp only [List.getElem?_toArray, List.getElem?_cons_succ, List.getElem?_cons_zero]; rfl
       case hd7b => rfl
       case hw7b => kernel_rfl
       case hy7b => intro W hW; (try dsimp only at hW); go_simp <;> with_reducible rfl
       case hQ7b => exact fun _ _ _ h => h
       try simp only [Act.put, List.setIfInBounds_toArray, List.set_cons_zero, List.set_cons_succ]
       refine take_at 7 62 (oi := ?o8b) (v := ?v8b) ?hi8b ?hd8b (by kernel_rfl) (by kernel_rfl) (by kernel_rfl) ?hQ8b ?hw8b ?hy8b (by assumption) ?rest8b
       case hi8b => simp only [List.getElem?_toArray, List.getElem?_cons_succ, List.getElem?_cons_zero]; rfl
       case hd8b => rfl
       case hw8b => kernel_rfl
       case hy8b => intro W hW; (try dsimp only at hW); go_simp <;> with_reducible rfl
       case hQ8b => exact fun _ _ _ h => h
       try simp only [Act.put, List.setIfInBounds_toArray, List.set_cons_zero, List.set_cons_succ]
       refine wpAnyH_ready (rs := [8]) (by kernel_rfl) (by simp) ?_
       refine AllReadyH.cons rfl (fun K hK => ?_) AllReadyH.nil
       go_simp
       refine hK.out _ _ ⟨((hba.cell hbw).trans p1), ((hba.cell hs4w).trans q1), ((hba.cell hb1).trans hc1)⟩ (fun hHeld => ?_)
       clear hK K
       try simp only [Act.put, List.setIfInBounds_toArray, List.set_cons_zero, List.set_cons_succ]
       refine wpAnyH_ready (rs := [9]) (by kernel_rfl) (by simp) ?_
       refine AllReadyH.cons rfl (fun K hK => ?_) AllReadyH.nil
       go_simp
       refine (ROther_drw x (by rw [hx32]; unfold maxLen; omega) W4).mono ?_
       rintro e w7 ⟨y, rfl, hb7⟩
       go_wp2_with fail
       refine hK.out _ _ ⟨((hb7.cell hbw).trans p1), ((hb7.cell hs4w).trans q1), ((hb7.cell hb1).trans hc1)⟩ (fun hHeld => ?_)
       clear hK K
       try simp only [Act.put, List.setIfInBounds_toArray, List.set_cons_zero, List.set_cons_succ]
       refine take_at 10 65 (oi := ?o9b) (v := ?v9b) ?hi9b ?hd9b (by kernel_rfl) (by kernel_rfl) (by kernel_rfl) ?hQ9b ?hw9b ?hy9b (by assumption) ?rest9b
       case hi9b => simp only [List.getElem?_toArray, List.getElem?_cons_succ, List.getElem?_cons_zero]; rfl
       case hd9b => rfl
       case hw9b => kernel_rfl
       case hy9b => intro W hW; (try dsimp only at hW); go_simp <;> with_reducible rfl
       case hQ9b => exact fun _ _ _ h => h
       try simp only [Act.put, List.setIfInBounds_toArray, List.set_cons_zero, List.set_cons_succ]
       have hgc7 := (hb7.cell (p := ⟨g1, bq, none⟩) hg1z).trans hgc
       have hgf7 := (hb7.frozen (p := ⟨g1, bq, none⟩) hg1z).trans hgf
       refine wpAnyH_ready (rs := [11]) (by kernel_rfl) (by simp) ?_
       refine AllReadyH.cons rfl (fun K hK => ?_) AllReadyH.nil
       go_simp
       refine hK.out _ _ ⟨(cell_far (by omega) ((hb7.cell hbw).trans p1)), (cell_far (by omega) ((hb7.cell hs4w).trans q1)), (cell_far (by omega) ((hb7.cell hb1).trans hc1))⟩ (fun hHeld => ?_)
       clear hK K
       try simp only [Act.put, List.setIfInBounds_toArray, List.set_cons_zero, List.set_cons_succ]
       refine wpAnyH_done (by kernel_rfl) ?_ _
       have HO6 := Lib.hid ((hb7.block _ (lt_of HO4.out)).trans HO4.out)
       have HR6 := Lib.hid ((hb7.block _ (lt_of HR4.out)).trans HR4.out)
       have HB6 := Lib.hid (HB4.out.next hb7)
       obtain ⟨W5, hW5⟩ : ∃ W5, w7.setCell ⟨g1, bq, none⟩ (.string (B y)) = W5 := ⟨_, rfl⟩
       rw [hW5]
       have hK5 : Kept (fun q => q = g1) w7 W5 := hW5 ▸ (((Kept.refl (fun q => q = g1) w7).setCell (p := ⟨g1, bq, none⟩) (.inr rfl) _))
       have HO5 := Lib.hid ((hK5.block _ (lt_of HO6.out) (fun e => by have : O = g1 := e; omega)).trans HO6.out)
       have HR5 := Lib.hid ((hK5.block _ (lt_of HR6.out) (fun e => by have : w.heap.size + 1 = g1 := e; omega)).trans HR6.out)
       have HB5 := Lib.hid (HB6.out.trans (hK5.below HB6.out.size (fun q h1 e => by have : q = g1 := e; omega)))
       have hv5 : W5.ownsRow (w.heap.size + 3) 9 1 (.slice (some ⟨g1, 0, none⟩) n e1) (S.set bq y).length ((S.set bq y).map vS) := by
         rw [List.length_set, HLS.out, List.map_set, ← hW5]
         exact ((ownsRow_block HV1.out (fun q _ hq => hb7.block q hq)).stored bq (.string (B y))).1
       have hv6 : W5.ownsRow (w.heap.size + 3) 9 1 (.slice (some ⟨g2, 0, none⟩) n e2) H.length (H.map vS) := by
         rw [← hW5]
         exact ownsRow_setCell_other (ownsRow_block HV2'.out (fun q _ hq => hb7.block q hq)) (a := ⟨g1, bq, none⟩) (fun e => h12 (Option.some.inj e).symm) _
       have hv7 : W5.ownsRow (w.heap.size + 3) 9 1 (.slice none 0 0) ([] : List Bs).length (([] : List Bs).map vS) := by
         rw [← hW5]
         exact ownsRow_setCell_other (ownsRow_block HV3.out (fun q _ hq => hb7.block q hq)) (a := ⟨g1, bq, none⟩) (fun e => by cases e) _
       have HV5 := Lib.hid hv5
       have HV6 := Lib.hid hv6
       have HV7 := Lib.hid hv7
       clear hv5 hv6 hv7 hW5 hK5
       have hbw5 : O < W5.heap.size := lt_of HO5.out
       have hr5w : w.heap.size + 1 < W5.heap.size := lt_of HR5.out
       obtain ⟨s0, s1, s2, s3⟩ := sigC HO5.out
       obtain ⟨u0, u1, u2, u3⟩ := sigC HR5.out
       have gr0 : W5.frozen? ⟨w.heap.size + 1, 0, none⟩ = false := free_of HR5.out _
       have gr1 : W5.frozen? ⟨w.heap.size + 1, 1, none⟩ = false := free_of HR5.out _
       have gr2 : W5.frozen? ⟨w.heap.size + 1, 2, none⟩ = false := free_of HR5.out _
       have gr3 : W5.frozen? ⟨w.heap.size + 1, 3, none⟩ = false := free_of HR5.out _
       go_wp2
       refine ret_whole (p := 6) (ty := 34) rfl (w.heap.size + 1) 34 _ (0, 0) _ rfl (set_of (set_of (set_of (set_of HR5.out 0 _) 1 _) 2 _) 3 _) Tryd.underlying34 rfl (by kernel_rfl) rfl ?_
       exact HEnd.out W5 _ _ _ _ (S.set bq y) (H) ([] : List Bs) _ _ (HKR.out W5 _ _ _ _) HV5.out HV6.out HV7.out HB5.out (by rw [List.length_set]; exact hL1) hL2 hL3 rfl
     · obtain ⟨sb', so', sc', hv1, hb1, hc1⟩ := (H1.out.below HB4.out).text HLS.out hbn
       simp only [Value.slice.injEq, Option.some.injEq, Addr.mk.injEq, true_and, and_true] at hv1
       obtain ⟨⟨rfl, rfl⟩, rfl⟩ := hv1
       obtain ⟨x, hx⟩ : ∃ x, S.getD bq [] = x := ⟨_, rfl⟩
       rw [hx] at hc1
       have hx32 : x.length = 32 := by rw [← hx]; exact getD_32 H32.out (by rw [HLS.out]; exact hbn)
       have hsz : (B x).size = 32 := hx32
       have hbI : (bq : Int) < (n : Int) := by omega
       have hgc := own_cell HV1.out (i := bq) (by rw [HLS.out]; exact hbn)
       have hgf := own_free HV1.out (i := bq) hbn
       unfold vS at hgc
       clear hx
       have hgc2 := own_cell HV2.out (i := bq) (by rw [HLH.out]; exact hbn)
       have hgf2 := own_free HV2.out (i := bq) hbn
       unfold vS at hgc2
       have hrb : (bq : Int).tmod (n : Int) = (bq : Int) := Int.tmod_eq_of_lt (by omega) hbI
       have hba : Below W4.heap.size W4 (W4.alloc (.cells #[.string ⟨#[111, 116, 104, 101, 114]⟩, .string (B x)] 9)) := (Below.refl _ _).alloc (Nat.le_refl _) _
       go_wp2
       refine wp_region_held_drew (S := (fun W : World => W.cell? ⟨O, 2, none⟩ = some (.slice (some ⟨g2, 0, none⟩) n e2) ∧ W.cell? ⟨w.heap.size, 1, none⟩ = some (.slice (some ⟨sb, so, none⟩) n sc) ∧ W.cell? ⟨w.heap.size, 2, none⟩ = some (.slice (some ⟨hb, ho, none⟩) n hc) ∧ W.cell? ⟨sb, so + bq, none⟩ = some (.string (B x)))) (by kernel_rfl) ⟨p2, q1, q2, hc1⟩ (fun hHeld => ?_)
       refine take_at 0 68 (oi := ?o10b) (v := ?v10b) ?hi10b ?hd10b (by kernel_rfl) (by kernel_rfl) (by kernel_rfl) ?hQ10b ?hw10b ?hy10b (by assumption) ?rest10b
       case hi10b => simp only [List.getElem?_toArray, List.getElem?_cons_zero]; rfl
       case hd10b => rfl
       case hw10b => kernel_rfl
       case hy10b => intro W hW; (try dsimp only at hW); go_simp <;> with_reducible rfl
       case hQ10b => exact fun _ _ _ h => h
       try simp only [Act.put, List.setIfInBounds_toArray, List.set_cons_zero, List.set_cons_succ]
       refine take_at 1 69 (oi := ?o11b) (v := ?v11b) ?hi11b ?hd11b (by kernel_rfl) (by kernel_rfl) (by kernel_rfl) ?hQ11b ?hw11b ?hy11b (by assumption) ?rest11b
       case hi11b => simp only [List.getElem?_toArray, List.getElem?_cons_succ, List.getElem?_cons_zero]; rfl
       case hd11b => rfl
       case hw11b => kernel_rfl
       case hy11b => intro W hW; (try dsimp only at hW); go_simp <;> with_reducible rfl
       case hQ11b => exact fun _ _ _ h => h
       try simp only [Act.put, List.setIfInBounds_toArray, List.set_cons_zero, List.set_cons_succ]
       refine take_at 2 70 (oi := ?o12b) (v := ?v12b) ?hi12b ?hd12b (by kernel_rfl) (by kernel_rfl) (by kernel_rfl) ?hQ12b ?hw12b ?hy12b (by assumption) ?rest12b
       case hi12b => simp only [List.getElem?_toArray, List.getElem?_cons_succ, List.getElem?_cons_zero]; rfl
       case hd12b => rfl
       case hw12b => kernel_rfl
       case hy12b => intro W hW; (try dsimp only at hW); go_simp <;> with_reducible rfl
       case hQ12b => exact fun _ _ _ h => h
       try simp only [Act.put, List.setIfInBounds_toArray, List.set_cons_zero, List.set_cons_succ]
       refine take_at 3 71 (oi := ?o13b) (v := ?v13b) ?hi13b ?hd13b (by kernel_rfl) (by kernel_rfl) (by kernel_rfl) ?hQ13b ?hw13b ?hy13b (by assumption) ?rest13b
       case hi13b => simp only [List.getElem?_toArray, List.getElem?_cons_succ, List.getElem?_cons_zero]; rfl
       case hd13b => rfl
       case hw13b => kernel_rfl
       case hy13b => intro W hW; (try dsimp only at hW); go_simp <;> with_reducible rfl
       case hQ13b => exact fun _ _ _ h => h
       try simp only [Act.put, List.setIfInBounds_toArray, List.set_cons_zero, List.set_cons_succ]
       refine take_at 4 72 (oi := ?o14b) (v := ?v14b) ?hi14b ?hd14b (by kernel_rfl) (by kernel_rfl) (by kernel_rfl) ?hQ14b ?hw14b ?hy14b (by assumption) ?rest14b
       case hi14b => simp only [List.getElem?_toArray, List.getElem?_cons_succ, List.getElem?_cons_zero]; rfl
       case hd14b => rfl
       case hw14b => kernel_rfl
       case hy14b => intro W hW; (try dsimp only at hW); go_simp <;> with_reducible rfl
       case hQ14b => exact fun _ _ _ h => h
       try simp only [Act.put, List.setIfInBounds_toArray, List.set_cons_zero, List.set_cons_succ]
       refine take_at 5 73 (oi := ?o15b) (v := ?v15b) ?hi15b ?hd15b (by kernel_rfl) (by kernel_rfl) (by kernel_rfl) ?hQ15b ?hw15b ?hy15b (by assumption) ?rest15b
       case hi15b => simp only [List.getElem?_toArray, List.getElem?_cons_succ, List.getElem?_cons_zero]; rfl
       case hd15b => rfl
       case hw15b => kernel_rfl
       case hy15b => intro W hW; (try dsimp only at hW); go_simp <;> with_reducible rfl
       case hQ15b => exact fun _ _ _ h => h
       try simp only [Act.put, List.setIfInBounds_toArray, List.set_cons_zero, List.set_cons_succ]
       refine take_at 6 74 (oi := ?o16b) (v := ?v16b) ?hi16b ?hd16b (by kernel_rfl) (by kernel_rfl) (by kernel_rfl) ?hQ16b ?hw16b ?hy16b (by assumption) ?rest16b
       case hi16b => simp only [List.getElem?_toArray, List.getElem?_cons_succ, List.getElem?_cons_zero]; rfl
       case hd16b => rfl
       case hw16b => kernel_rfl
       case hy16b => intro W hW; (try dsimp only at hW); go_simp <;> with_reducible rfl
       case hQ16b => exact fun _ _ _ h => h
       try simp only [Act.put, List.setIfInBounds_toArray, List.set_cons_zero, List.set_cons_succ]
       refine take_at 7 75 (oi := ?o17b) (v := ?v17b) ?hi17b ?hd17b (by kernel_rfl) (by kernel_rfl) (by kernel_rfl) ?hQ17b ?hw17b ?hy17b (by assumption) ?rest17b
       case hi17b => simp only [List.getElem?_toArray, List.getElem?_cons_succ, List.getElem?_cons_zero]; rfl
       case hd17b => rfl
       case hw17b => kernel_rfl
       case hy17b => intro W hW; (try dsimp only at hW); go_simp <;> with_reducible rfl
       case hQ17b => exact fun _ _ _ h => h
       try simp only [Act.put, List.setIfInBounds_toArray, List.set_cons_zero, List.set_cons_succ]
       refine take_at 8 76 (oi := ?o18b) (v := ?v18b) ?hi18b ?hd18b (by kernel_rfl) (by kernel_rfl) (by kernel_rfl) ?hQ18b ?hw18b ?hy18b (by assumption) ?rest18b
       case hi18b => simp only [List.getElem?_toArray, List.getElem?_cons_succ, List.getElem?_cons_zero]; rfl
       case hd18b => rfl
       case hw18b => kernel_rfl
       case hy18b => intro W hW; (try dsimp only at hW); go_simp <;> with_reducible rfl
       case hQ18b => exact fun _ _ _ h => h
       try simp only [Act.put, List.setIfInBounds_toArray, List.set_cons_zero, List.set_cons_succ]
       refine take_at 9 77 (oi := ?o19b) (v := ?v19b) ?hi19b ?hd19b (by kernel_rfl) (by kernel_rfl) (by kernel_rfl) ?hQ19b ?hw19b ?hy19b (by assumption) ?rest19b
       case hi19b => simp only [List.getElem?_toArray, List.getElem?_cons_succ, List.getElem?_cons_zero]; rfl
       case hd19b => rfl
       case hw19b => kernel_rfl
       case hy19b => intro W hW; (try dsimp only at hW); go_simp <;> with_reducible rfl
       case hQ19b => exact fun _ _ _ h => h
       try simp only [Act.put, List.setIfInBounds_toArray, List.set_cons_zero, List.set_cons_succ]
       refine take_at 10 78 (oi := ?o20b) (v := ?v20b) ?hi20b ?hd20b (by kernel_rfl) (by kernel_rfl) (by kernel_rfl) ?hQ20b ?hw20b ?hy20b (by assumption) ?rest20b
       case hi20b => simp only [List.getElem?_toArray, List.getElem?_cons_succ, List.getElem?_cons_zero]; rfl
       case hd20b => rfl
       case hw20b => kernel_rfl
       case hy20b => intro W hW; (try dsimp only at hW); go_simp <;> with_reducible rfl
       case hQ20b => exact fun _ _ _ h => h
       try simp only [Act.put, List.setIfInBounds_toArray, List.set_cons_zero, List.set_cons_succ]
       refine take_at 11 79 (oi := ?o21b) (v := ?v21b) ?hi21b ?hd21b (by kernel_rfl) (by kernel_rfl) (by kernel_rfl) ?hQ21b ?hw21b ?hy21b (by assumption) ?rest21b
       case hi21b => simp only [List.getElem?_toArray, List.getElem?_cons_succ, List.getElem?_cons_zero]; rfl
       case hd21b => rfl
       case hw21b => kernel_rfl
       case hy21b => intro W hW; (try dsimp only at hW); go_simp <;> with_reducible rfl
       case hQ21b => exact fun _ _ _ h => h
       try simp only [Act.put, List.setIfInBounds_toArray, List.set_cons_zero, List.set_cons_succ]
       refine wpAnyH_ready (rs := [12]) (by kernel_rfl) (by simp) ?_
       refine AllReadyH.cons rfl (fun K hK => ?_) AllReadyH.nil
       go_simp
       refine hK.out _ _ ⟨((hba.cell hbw).trans p2), ((hba.cell hs4w).trans q1), ((hba.cell hs4w).trans q2), ((hba.cell hb1).trans hc1)⟩ (fun hHeld => ?_)
       clear hK K
       try simp only [Act.put, List.setIfInBounds_toArray, List.set_cons_zero, List.set_cons_succ]
       refine wpAnyH_ready (rs := [13]) (by kernel_rfl) (by simp) ?_
       refine AllReadyH.cons rfl (fun K hK => ?_) AllReadyH.nil
       go_simp
       refine (ROther_drw x (by rw [hx32]; unfold maxLen; omega) W4).mono ?_
       rintro e w7 ⟨y, rfl, hb7⟩
       go_wp2_with fail
       refine hK.out _ _ ⟨((hb7.cell hbw).trans p2), ((hb7.cell hs4w).trans q1), ((hb7.cell hs4w).trans q2), ((hb7.cell hb1).trans hc1)⟩ (fun hHeld => ?_)
       clear hK K
       try simp only [Act.put, List.setIfInBounds_toArray, List.set_cons_zero, List.set_cons_succ]
       refine take_at 14 82 (oi := ?o22b) (v := ?v22b) ?hi22b ?hd22b (by kernel_rfl) (by kernel_rfl) (by kernel_rfl) ?hQ22b ?hw22b ?hy22b (by assumption) ?rest22b
       case hi22b => simp only [List.getElem?_toArray, List.getElem?_cons_succ, List.getElem?_cons_zero]; rfl
       case hd22b => rfl
       case hw22b => kernel_rfl
       case hy22b => intro W hW; (try dsimp only at hW); go_simp <;> with_reducible rfl
       case hQ22b => exact fun _ _ _ h => h
       try simp only [Act.put, List.setIfInBounds_toArray, List.set_cons_zero, List.set_cons_succ]
       have hgc7 := (hb7.cell (p := ⟨g2, bq, none⟩) hg2z).trans hgc2
       have hgf7 := (hb7.frozen (p := ⟨g2, bq, none⟩) hg2z).trans hgf2
       refine wpAnyH_ready (rs := [15]) (by kernel_rfl) (by simp) ?_
       refine AllReadyH.cons rfl (fun K hK => ?_) AllReadyH.nil
       go_simp
       refine hK.out _ _ ⟨(cell_far (by omega) ((hb7.cell hbw).trans p2)), (cell_far (by omega) ((hb7.cell hs4w).trans q1)), (cell_far (by omega) ((hb7.cell hs4w).trans q2)), (cell_far (by omega) ((hb7.cell hb1).trans hc1))⟩ (fun hHeld => ?_)
       clear hK K
       try simp only [Act.put, List.setIfInBounds_toArray, List.set_cons_zero, List.set_cons_succ]
       refine wpAnyH_done (by kernel_rfl) ?_ _
       have HO6 := Lib.hid ((hb7.block _ (lt_of HO4.out)).trans HO4.out)
       have HR6 := Lib.hid ((hb7.block _ (lt_of HR4.out)).trans HR4.out)
       have HB6 := Lib.hid (HB4.out.next hb7)
       obtain ⟨W5, hW5⟩ : ∃ W5, w7.setCell ⟨g2, bq, none⟩ (.string (B y)) = W5 := ⟨_, rfl⟩
       rw [hW5]
       have hK5 : Kept (fun q => q = g2) w7 W5 := hW5 ▸ (((Kept.refl (fun q => q = g2) w7).setCell (p := ⟨g2, bq, none⟩) (.inr rfl) _))
       have HO5 := Lib.hid ((hK5.block _ (lt_of HO6.out) (fun e => by have : O = g2 := e; omega)).trans HO6.out)
       have HR5 := Lib.hid ((hK5.block _ (lt_of HR6.out) (fun e => by have : w.heap.size + 1 = g2 := e; omega)).trans HR6.out)
       have HB5 := Lib.hid (HB6.out.trans (hK5.below HB6.out.size (fun q h1 e => by have : q = g2 := e; omega)))
       have hv5 : W5.ownsRow (w.heap.size + 3) 9 1 (.slice (some ⟨g1, 0, none⟩) n e1) S.length (S.map vS) := by
         rw [← hW5]
         exact ownsRow_setCell_other (ownsRow_block HV1'.out (fun q _ hq => hb7.block q hq)) (a := ⟨g2, bq, none⟩) (fun e => h12 (Option.some.inj e)) _
       have hv6 : W5.ownsRow (w.heap.size + 3) 9 1 (.slice (some ⟨g2, 0, none⟩) n e2) (H.set bq y).length ((H.set bq y).map vS) := by
         rw [List.length_set, HLH.out, List.map_set, ← hW5]
         exact ((ownsRow_block HV2.out (fun q _ hq => hb7.block q hq)).stored bq (.string (B y))).1
       have hv7 : W5.ownsRow (w.heap.size + 3) 9 1 (.slice none 0 0) ([] : List Bs).length (([] : List Bs).map vS) := by
         rw [← hW5]
         exact ownsRow_setCell_other (ownsRow_block HV3.out (fun q _ hq => hb7.block q hq)) (a := ⟨g2, bq, none⟩) (fun e => by cases e) _
       have HV5 := Lib.hid hv5
       have HV6 := Lib.hid hv6
       have HV7 := Lib.hid hv7
       clear hv5 hv6 hv7 hW5 hK5
       have hbw5 : O < W5.heap.size := lt_of HO5.out
       have hr5w : w.heap.size + 1 < W5.heap.size := lt_of HR5.out
       obtain ⟨s0, s1, s2, s3⟩ := sigC HO5.out
       obtain ⟨u0, u1, u2, u3⟩ := sigC HR5.out
       have gr0 : W5.frozen? ⟨w.heap.size + 1, 0, none⟩ = false := free_of HR5.out _
       have gr1 : W5.frozen? ⟨w.heap.size + 1, 1, none⟩ = false := free_of HR5.out _
       have gr2 : W5.frozen? ⟨w.heap.size + 1, 2, none⟩ = false := free_of HR5.out _
       have gr3 : W5.frozen? ⟨w.heap.size + 1, 3, none⟩ = false := free_of HR5.out _
       go_wp2
       refine ret_whole (p := 6) (ty := 34) rfl (w.heap.size + 1) 34 _ (0, 0) _ rfl (set_of (set_of (set_of (set_of HR5.out 0 _) 1 _) 2 _) 3 _) Tryd.underlying34 rfl (by kernel_rfl) rfl ?_
       exact HEnd.out W5 _ _ _ _ (S) (H.set bq y) ([] : List Bs) _ _ (HKR.out W5 _ _ _ _) HV5.out HV6.out HV7.out HB5.out hL1 (by rw [List.length_set]; exact hL2) hL3 rfl
     · have h1n : (1 : Int) ≤ (n : Int) := by omega
       have he1 : ¬ e1 = 1 := by omega
       go_wp2
       have hne : w.heap.size + 1 ≠ O := by omega
       have hKF := ((Kept.refl (fun q => w.heap.size ≤ q ∧ q < w.heap.size + 3) W4).setCell (p := ⟨O, 1, none⟩) (.inr ⟨by show w.heap.size ≤ O; omega, by show O < w.heap.size + 3; omega⟩) (.slice (some ⟨g1, 1, none⟩) (n - 1) (e1 - 1))).trans (HKR.out _ (.int .i64 (i : Int)) (.slice (some ⟨g1, 1, none⟩) (n - 1) (e1 - 1)) (.slice (some ⟨g2, 0, none⟩) n e2) (.slice none 0 0))
       refine ret_whole (p := 6) (ty := 34) rfl (w.heap.size + 1) 34 _ (0, 0) _ rfl (set_of (set_of (set_of (set_of (set_other (p := ⟨O, 1, none⟩) HR4.out hne) 0 _) 1 _) 2 _) 3 _) Tryd.underlying34 rfl (by kernel_rfl) rfl ?_
       have hk : ∀ q, w.heap.size + 3 ≤ q → q < W4.heap.size → _ := fun q h1 h2 => hKF.block q h2 (fun h => by omega)
       exact ⟨_, _, S.drop 1, H, [], rfl, ⟨_, _, _, rfl, IsSl.rest (ownsRow_block HV1.out hk) HLS.out (by omega) (by unfold maxLen; omega), IsSl.of_owns (by rw [List.length_map]; exact ownsRow_block HV2'.out hk) (by rw [List.length_map]; exact hL2), IsSl.of_owns (by rw [List.length_map]; exact ownsRow_block HV3.out hk) (by rw [List.length_map]; exact hL3)⟩, HB4.out.trans (hKF.below HB4.out.size (fun q h1 h => by omega))⟩
     · obtain ⟨hb', ho', hc', hv1, hb1, hc1⟩ := (H2.out.below HB4.out).text HLH.out hn0
       simp only [Value.slice.injEq, Option.some.injEq, Addr.mk.injEq, true_and, and_true] at hv1
       obtain ⟨⟨rfl, rfl⟩, rfl⟩ := hv1
       obtain ⟨x, hx⟩ : ∃ x, H.getD 0 [] = x := ⟨_, rfl⟩
       rw [hx, Nat.add_zero] at hc1
       have hnI : (0 : Int) < (n : Int) := by omega
       have hz0 : w.heap.size + 3 ≤ W4.heap.size := by omega
       clear hx
       go_wp2
       go_region_law
         (first
           | (refine step_append_two rfl _ _ 32 rfl (w.heap.size + 3) 9 i0 (.string ⟨#[]⟩) 1 16 Tryd.underlying32 Hi.out Hz0.out Hz1.out Hz2.out rfl (by decide) (.slice (some ⟨g2, 0, none⟩) n e2) n (H.map vS) rfl (own_drew (HV2.out.alloc (.cells #[.string (B x)] 9))) ⟨W4.heap.size, 0, none⟩ 1 1 [vS x] rfl rfl (news_drew (news_one (new_of W4 (.cells #[.string (B x)] 9)))) (by simp [vS, Value.oneCell']) (by unfold maxLen; omega) (by omega) (by simp; omega) (by decide) ?_
              intro v5 w5 ho5 hg5' hw5
              have hg5 : (W4.alloc (.cells #[.string (B x)] 9)).grownBy w5 ((.slice (some ⟨g2, 0, none⟩) n e2) : Value).ownBlock := ⟨hg5'.os, hg5'.tape, hg5'.output, hg5'.size, hg5'.block⟩
              clear hg5'
              obtain ⟨hp5, ha5, hk5⟩ := grown_beside (w3 := W4) (HV2.out.alloc _) HV1'.out (fun q ha hb => h12 ((Option.some.inj hb).trans (Option.some.inj ha).symm)) ho5 hg5 hw5
              obtain ⟨hq5, hb5, _⟩ := grown_beside (w3 := W4) (HV2.out.alloc _) HV3.out (fun q ha hb => by cases hb) ho5 hg5 hw5
              rw [← map_snoc] at ho5
              obtain ⟨ra5, rc5, rfl⟩ := own_form ho5
              have HX5 := Lib.hid ho5
              have HP5 := Lib.hid hp5
              have HQ5 := Lib.hid hq5
              have hS5 : w5.heap[O]? = _ := (hk5 O (by omega) (lt_of HO4.out)).trans HO4.out
              have hR5 : w5.heap[w.heap.size + 1]? = _ := (hk5 _ (by omega) (lt_of HR4.out)).trans HR4.out
              have HB6 := Lib.hid (((HB4.out.alloc HB4.out.size _).grown hg5 (by simp; omega) (fun q hq => by have := (HV2.out.lt q hq).1; omega)))
              have hcs5 : w5.cell? ⟨O, 2, none⟩ = some (.slice (some ⟨g2, 0, none⟩) n e2) := cell_of hS5 2
              have hfs5 : w5.frozen? ⟨O, 2, none⟩ = false := free_of hS5 _
              have HS6 := Lib.hid hS5
              have HR6 := Lib.hid hR5
              clear ho5 hg5 hw5 hp5 ha5 hk5 hS5 hR5 hq5 hb5))
       all_goals
         obtain ⟨W5, hW5⟩ : ∃ W5, w5.setCell ⟨O, 2, none⟩ (.slice ra5 (n + 1) rc5) = W5 := ⟨_, rfl⟩
         rw [hW5]
         have hK6 : Kept (Licit.One O) w5 W5 := hW5 ▸ kept_set O 2 w5 _
         have hne : ∀ q, w.heap.size + 3 ≤ q → q < w5.heap.size → ¬ Licit.One O q := fun q hq _ e => by have : q = O := e; omega
         have HO5 := Lib.hid (hW5 ▸ set_of HS6.out 2 (.slice ra5 (n + 1) rc5))
         have HR5 := Lib.hid ((hK6.block _ (lt_of HR6.out) (fun e => by have : w.heap.size + 1 = O := e; omega)).trans HR6.out)
         have HB5 := Lib.hid (HB6.out.trans (hK6.below HB6.out.size (fun q h1 e => by have : q = O := e; omega)))
         have HX6 := Lib.hid (show W5.ownsRow (w.heap.size + 3) 9 1 (.slice ra5 (n + 1) rc5) (H ++ [x]).length ((H ++ [x]).map vS) by rw [List.length_append, HLH.out]; exact ownsRow_block HX5.out (fun q hq hl => hK6.block q hl (hne q hq hl)))
         have HP6 := Lib.hid (ownsRow_block HP5.out (fun q hq hl => hK6.block q hl (hne q hq hl)))
         have HQ6 := Lib.hid (ownsRow_block HQ5.out (fun q hq hl => hK6.block q hl (hne q hq hl)))
         clear hW5 hK6 hne hcs5 hfs5
         have hbw5 : O < W5.heap.size := lt_of HO5.out
         have hr5w : w.heap.size + 1 < W5.heap.size := lt_of HR5.out
         obtain ⟨s0, s1, s2, s3⟩ := sigC HO5.out
         obtain ⟨u0, u1, u2, u3⟩ := sigC HR5.out
         have gr0 : W5.frozen? ⟨w.heap.size + 1, 0, none⟩ = false := free_of HR5.out _
         have gr1 : W5.frozen? ⟨w.heap.size + 1, 1, none⟩ = false := free_of HR5.out _
         have gr2 : W5.frozen? ⟨w.heap.size + 1, 2, none⟩ = false := free_of HR5.out _
         have gr3 : W5.frozen? ⟨w.heap.size + 1, 3, none⟩ = false := free_of HR5.out _
         go_wp2
         refine ret_whole (p := 6) (ty := 34) rfl (w.heap.size + 1) 34 _ (0, 0) _ rfl (set_of (set_of (set_of (set_of HR5.out 0 _) 1 _) 2 _) 3 _) Tryd.underlying34 rfl (by kernel_rfl) rfl ?_
         exact HEnd.out W5 _ _ _ _ S (H ++ [x]) ([] : List Bs) _ _ (HKR.out W5 _ _ _ _) HP6.out HX6.out HQ6.out HB5.out hL1 (by rw [List.length_append]; rw [HLH.out]; unfold maxLen; simp; omega) hL3 rfl
     · obtain ⟨hb', ho', hc', hv1, hb1, hc1⟩ := (H2.out.below HB4.out).text HLH.out hn0
       simp only [Value.slice.injEq, Option.some.injEq, Addr.mk.injEq, true_and, and_true] at hv1
       obtain ⟨⟨rfl, rfl⟩, rfl⟩ := hv1
       obtain ⟨x, hx⟩ : ∃ x, H.getD 0 [] = x := ⟨_, rfl⟩
       rw [hx, Nat.add_zero] at hc1
       have hnI : (0 : Int) < (n : Int) := by omega
       have hz0 : w.heap.size + 3 ≤ W4.heap.size := by omega
       clear hx
       go_wp2
       go_region_law
         (first
           | (refine step_append_two rfl _ _ 32 rfl (w.heap.size + 3) 9 i0 (.string ⟨#[]⟩) 1 16 Tryd.underlying32 Hi.out Hz0.out Hz1.out Hz2.out rfl (by decide) (.slice none 0 0) 0 (([] : List Bs).map vS) rfl (own_drew (HV3.out.alloc (.cells #[.string (B x)] 9))) ⟨W4.heap.size, 0, none⟩ 1 1 [vS x] rfl rfl (news_drew (news_one (new_of W4 (.cells #[.string (B x)] 9)))) (by simp [vS, Value.oneCell']) (by unfold maxLen; omega) (by omega) (by simp; omega) (by decide) ?_
              intro v5 w5 ho5 hg5' hw5
              have hg5 : (W4.alloc (.cells #[.string (B x)] 9)).grownBy w5 ((.slice none 0 0) : Value).ownBlock := ⟨hg5'.os, hg5'.tape, hg5'.output, hg5'.size, hg5'.block⟩
              clear hg5'
              obtain ⟨hp5, ha5, hk5⟩ := grown_beside (w3 := W4) (HV3.out.alloc _) HV1'.out (fun q ha hb => by cases ha) ho5 hg5 hw5
              obtain ⟨hq5, hb5, _⟩ := grown_beside (w3 := W4) (HV3.out.alloc _) HV2'.out (fun q ha hb => by cases ha) ho5 hg5 hw5
              rw [← map_snoc] at ho5
              obtain ⟨ra5, rc5, rfl⟩ := own_form ho5
              have HX5 := Lib.hid ho5
              have HP5 := Lib.hid hp5
              have HQ5 := Lib.hid hq5
              have hS5 : w5.heap[O]? = _ := (hk5 O (by omega) (lt_of HO4.out)).trans HO4.out
              have hR5 : w5.heap[w.heap.size + 1]? = _ := (hk5 _ (by omega) (lt_of HR4.out)).trans HR4.out
              have HB6 := Lib.hid (((HB4.out.alloc HB4.out.size _).grown hg5 (by simp; omega) (fun q hq => by have := (HV3.out.lt q hq).1; omega)))
              have hcs5 : w5.cell? ⟨O, 3, none⟩ = some (.slice none 0 0) := cell_of hS5 3
              have hfs5 : w5.frozen? ⟨O, 3, none⟩ = false := free_of hS5 _
              have HS6 := Lib.hid hS5
              have HR6 := Lib.hid hR5
              clear ho5 hg5 hw5 hp5 ha5 hk5 hS5 hR5 hq5 hb5))
       all_goals
         obtain ⟨W5, hW5⟩ : ∃ W5, w5.setCell ⟨O, 3, none⟩ (.slice ra5 (0 + 1) rc5) = W5 := ⟨_, rfl⟩
         rw [hW5]
         have hK6 : Kept (Licit.One O) w5 W5 := hW5 ▸ kept_set O 3 w5 _
         have hne : ∀ q, w.heap.size + 3 ≤ q → q < w5.heap.size → ¬ Licit.One O q := fun q hq _ e => by have : q = O := e; omega
         have HO5 := Lib.hid (hW5 ▸ set_of HS6.out 3 (.slice ra5 (0 + 1) rc5))
         have HR5 := Lib.hid ((hK6.block _ (lt_of HR6.out) (fun e => by have : w.heap.size + 1 = O := e; omega)).trans HR6.out)
         have HB5 := Lib.hid (HB6.out.trans (hK6.below HB6.out.size (fun q h1 e => by have : q = O := e; omega)))
         have HX6 := Lib.hid (show W5.ownsRow (w.heap.size + 3) 9 1 (.slice ra5 (0 + 1) rc5) (([] : List Bs) ++ [x]).length ((([] : List Bs) ++ [x]).map vS) by rw [List.length_append, show (([] : List Bs)).length = 0 from rfl]; exact ownsRow_block HX5.out (fun q hq hl => hK6.block q hl (hne q hq hl)))
         have HP6 := Lib.hid (ownsRow_block HP5.out (fun q hq hl => hK6.block q hl (hne q hq hl)))
         have HQ6 := Lib.hid (ownsRow_block HQ5.out (fun q hq hl => hK6.block q hl (hne q hq hl)))
         clear hW5 hK6 hne hcs5 hfs5
         have hbw5 : O < W5.heap.size := lt_of HO5.out
         have hr5w : w.heap.size + 1 < W5.heap.size := lt_of HR5.out
         obtain ⟨s0, s1, s2, s3⟩ := sigC HO5.out
         obtain ⟨u0, u1, u2, u3⟩ := sigC HR5.out
         have gr0 : W5.frozen? ⟨w.heap.size + 1, 0, none⟩ = false := free_of HR5.out _
         have gr1 : W5.frozen? ⟨w.heap.size + 1, 1, none⟩ = false := free_of HR5.out _
         have gr2 : W5.frozen? ⟨w.heap.size + 1, 2, none⟩ = false := free_of HR5.out _
         have gr3 : W5.frozen? ⟨w.heap.size + 1, 3, none⟩ = false := free_of HR5.out _
         go_wp2
         refine ret_whole (p := 6) (ty := 34) rfl (w.heap.size + 1) 34 _ (0, 0) _ rfl (set_of (set_of (set_of (set_of HR5.out 0 _) 1 _) 2 _) 3 _) Tryd.underlying34 rfl (by kernel_rfl) rfl ?_
         exact HEnd.out W5 _ _ _ _ S H (([] : List Bs) ++ [x]) _ _ (HKR.out W5 _ _ _ _) HP6.out HQ6.out HX6.out HB5.out hL1 hL2 (by unfold maxLen; simp) rfl
     · obtain ⟨sb', so', sc', hv1, hb1, hc1⟩ := (H1.out.below HB4.out).text HLS.out hbn
       simp only [Value.slice.injEq, Option.some.injEq, Addr.mk.injEq, true_and, and_true] at hv1
       obtain ⟨⟨rfl, rfl⟩, rfl⟩ := hv1
       obtain ⟨x, hx⟩ : ∃ x, S.getD bq [] = x := ⟨_, rfl⟩
       rw [hx] at hc1
       have hx32 : x.length = 32 := by rw [← hx]; exact getD_32 H32.out (by rw [HLS.out]; exact hbn)
       have hsz : (B x).size = 32 := hx32
       have hbI : (bq : Int) < (n : Int) := by omega
       have hgc := own_cell HV1.out (i := bq) (by rw [HLS.out]; exact hbn)
       have hgf := own_free HV1.out (i := bq) hbn
       unfold vS at hgc
       clear hx
       go_wp2
       refine wp_region_held_drew (S := (fun W : World => W.cell? ⟨O, 1, none⟩ = some (.slice (some ⟨g1, 0, none⟩) n e1) ∧ W.cell? ⟨w.heap.size, 1, none⟩ = some (.slice (some ⟨sb, so, none⟩) n sc) ∧ W.cell? ⟨sb, so + bq, none⟩ = some (.string (B x)))) (by kernel_rfl) ⟨p1, q1, hc1⟩ (fun hHeld => ?_)
       refine take_at 0 113 (oi := ?o23b) (v := ?v23b) ?hi23b ?hd23b (by kernel_rfl) (by kernel_rfl) (by kernel_rfl) ?hQ23b ?hw23b ?hy23b (by assumption) ?rest23b
       case hi23b => simp only [List.getElem?_toArray, List.getElem?_cons_zero]; rfl
       case hd23b => rfl
       case hw23b => kernel_rfl
       case hy23b => intro W hW; (try dsimp only at hW); go_simp <;> with_reducible rfl
       case hQ23b => exact fun _ _ _ h => h
       try simp only [Act.put, List.setIfInBounds_toArray, List.set_cons_zero, List.set_cons_succ]
       refine take_at 1 114 (oi := ?o24b) (v := ?v24b) ?hi24b ?hd24b (by kernel_rfl) (by kernel_rfl) (by kernel_rfl) ?hQ24b ?hw24b ?hy24b (by assumption) ?rest24b
       case hi24b => simp only [List.getElem?_toArray, List.getElem?_cons_succ, List.getElem?_cons_zero]; rfl
       case hd24b => rfl
       case hw24b => kernel_rfl
       case hy24b => intro W hW; (try dsimp only at hW); go_simp <;> with_reducible rfl
       case hQ24b => exact fun _ _ _ h => h
       try simp only [Act.put, List.setIfInBounds_toArray, List.set_cons_zero, List.set_cons_succ]
       refine take_at 2 115 (oi := ?o25b) (v := ?v25b) ?hi25b ?hd25b (by kernel_rfl) (by kernel_rfl) (by kernel_rfl) ?hQ25b ?hw25b ?hy25b (by assumption) ?rest25b
       case hi25b => simp only [List.getElem?_toArray, List.getElem?_cons_succ, List.getElem?_cons_zero]; rfl
       case hd25b => rfl
       case hw25b => kernel_rfl
       case hy25b => intro W hW; (try dsimp only at hW); go_simp <;> with_reducible rfl
       case hQ25b => exact fun _ _ _ h => h
       try simp only [Act.put, List.setIfInBounds_toArray, List.set_cons_zero, List.set_cons_succ]
       refine take_at 3 116 (oi := ?o26b) (v := ?v26b) ?hi26b ?hd26b (by kernel_rfl) (by kernel_rfl) (by kernel_rfl) ?hQ26b ?hw26b ?hy26b (by assumption) ?rest26b
       case hi26b => simp only [List.getElem?_toArray, List.getElem?_cons_succ, List.getElem?_cons_zero]; rfl
       case hd26b => rfl
       case hw26b => kernel_rfl
       case hy26b => intro W hW; (try dsimp only at hW); go_simp <;> with_reducible rfl
       case hQ26b => exact fun _ _ _ h => h
       try simp only [Act.put, List.setIfInBounds_toArray, List.set_cons_zero, List.set_cons_succ]
       refine take_at 4 117 (oi := ?o27b) (v := ?v27b) ?hi27b ?hd27b (by kernel_rfl) (by kernel_rfl) (by kernel_rfl) ?hQ27b ?hw27b ?hy27b (by assumption) ?rest27b
       case hi27b => simp only [List.getElem?_toArray, List.getElem?_cons_succ, List.getElem?_cons_zero]; rfl
       case hd27b => rfl
       case hw27b => kernel_rfl
       case hy27b => intro W hW; (try dsimp only at hW); go_simp <;> with_reducible rfl
       case hQ27b => exact fun _ _ _ h => h
       try simp only [Act.put, List.setIfInBounds_toArray, List.set_cons_zero, List.set_cons_succ]
       refine take_at 5 118 (oi := ?o28b) (v := ?v28b) ?hi28b ?hd28b (by kernel_rfl) (by kernel_rfl) (by kernel_rfl) ?hQ28b ?hw28b ?hy28b (by assumption) ?rest28b
       case hi28b => simp only [List.getElem?_toArray, List.getElem?_cons_succ, List.getElem?_cons_zero]; rfl
       case hd28b => rfl
       case hw28b => kernel_rfl
       case hy28b => intro W hW; (try dsimp only at hW); go_simp <;> with_reducible rfl
       case hQ28b => exact fun _ _ _ h => h
       try simp only [Act.put, List.setIfInBounds_toArray, List.set_cons_zero, List.set_cons_succ]
       refine take_at 6 119 (oi := ?o29b) (v := ?v29b) ?hi29b ?hd29b (by kernel_rfl) (by kernel_rfl) (by kernel_rfl) ?hQ29b ?hw29b ?hy29b (by assumption) ?rest29b
       case hi29b => simp only [List.getElem?_toArray, List.getElem?_cons_succ, List.getElem?_cons_zero]; rfl
       case hd29b => rfl
       case hw29b => kernel_rfl
       case hy29b => intro W hW; (try dsimp only at hW); go_simp <;> with_reducible rfl
       case hQ29b => exact fun _ _ _ h => h
       try simp only [Act.put, List.setIfInBounds_toArray, List.set_cons_zero, List.set_cons_succ]
       refine take_at 7 120 (oi := ?o30b) (v := ?v30b) ?hi30b ?hd30b (by kernel_rfl) (by kernel_rfl) (by kernel_rfl) ?hQ30b ?hw30b ?hy30b (by assumption) ?rest30b
       case hi30b => simp only [List.getElem?_toArray, List.getElem?_cons_succ, List.getElem?_cons_zero]; rfl
       case hd30b => rfl
       case hw30b => kernel_rfl
       case hy30b => intro W hW; (try dsimp only at hW); go_simp <;> with_reducible rfl
       case hQ30b => exact fun _ _ _ h => h
       try simp only [Act.put, List.setIfInBounds_toArray, List.set_cons_zero, List.set_cons_succ]
       refine take_at 8 121 (oi := ?o31b) (v := ?v31b) ?hi31b ?hd31b (by kernel_rfl) (by kernel_rfl) (by kernel_rfl) ?hQ31b ?hw31b ?hy31b (by assumption) ?rest31b
       case hi31b => simp only [List.getElem?_toArray, List.getElem?_cons_succ, List.getElem?_cons_zero]; rfl
       case hd31b => rfl
       case hw31b => kernel_rfl
       case hy31b => intro W hW; (try dsimp only at hW); go_simp <;> with_reducible rfl
       case hQ31b => exact fun _ _ _ h => h
       try simp only [Act.put, List.setIfInBounds_toArray, List.set_cons_zero, List.set_cons_succ]
       refine take_at 9 122 (oi := ?o32b) (v := ?v32b) ?hi32b ?hd32b (by kernel_rfl) (by kernel_rfl) (by kernel_rfl) ?hQ32b ?hw32b ?hy32b (by assumption) ?rest32b
       case hi32b => simp only [List.getElem?_toArray, List.getElem?_cons_succ, List.getElem?_cons_zero]; rfl
       case hd32b => rfl
       case hw32b => kernel_rfl
       case hy32b => intro W hW; (try dsimp only at hW); go_simp <;> with_reducible rfl
       case hQ32b => exact fun _ _ _ h => h
       try simp only [Act.put, List.setIfInBounds_toArray, List.set_cons_zero, List.set_cons_succ]
       refine wpAnyH_ready (rs := [10]) (by kernel_rfl) (by simp) ?_
       refine AllReadyH.cons rfl (fun K hK => ?_) AllReadyH.nil
       go_simp
       refine hK.out _ _ ⟨cell_far (by omega) p1, cell_far (by omega) q1, cell_far (by omega) hc1⟩ (fun hHeld => ?_)
       clear hK K
       try simp only [Act.put, List.setIfInBounds_toArray, List.set_cons_zero, List.set_cons_succ]
       refine wpAnyH_done (by kernel_rfl) ?_ _
       have HO6 := HO4
       have HR6 := HR4
       have HB6 := HB4
       obtain ⟨W5, hW5⟩ : ∃ W5, (W4.setCell ⟨g1, bq, none⟩ (.string (B x ++ ⟨#[120]⟩))).drew = W5 := ⟨_, rfl⟩
       rw [hW5]
       have hK5 : Kept (fun q => q = g1) W4 W5 := hW5 ▸ (((Kept.refl (fun q => q = g1) W4).setCell (p := ⟨g1, bq, none⟩) (.inr rfl) _).drew)
       have HO5 := Lib.hid ((hK5.block _ (lt_of HO6.out) (fun e => by have : O = g1 := e; omega)).trans HO6.out)
       have HR5 := Lib.hid ((hK5.block _ (lt_of HR6.out) (fun e => by have : w.heap.size + 1 = g1 := e; omega)).trans HR6.out)
       have HB5 := Lib.hid (HB6.out.trans (hK5.below HB6.out.size (fun q h1 e => by have : q = g1 := e; omega)))
       have hv5 : W5.ownsRow (w.heap.size + 3) 9 1 (.slice (some ⟨g1, 0, none⟩) n e1) (S.set bq (x ++ [120])).length ((S.set bq (x ++ [120])).map vS) := by
         rw [List.length_set, HLS.out, List.map_set, ← hW5]
         exact (HV1.out.stored bq (.string (B x ++ ⟨#[120]⟩))).1.drew
       have hv6 : W5.ownsRow (w.heap.size + 3) 9 1 (.slice (some ⟨g2, 0, none⟩) n e2) H.length (H.map vS) := by
         rw [← hW5]
         exact (ownsRow_setCell_other HV2'.out (a := ⟨g1, bq, none⟩) (fun e => h12 (Option.some.inj e).symm) _).drew
       have hv7 : W5.ownsRow (w.heap.size + 3) 9 1 (.slice none 0 0) ([] : List Bs).length (([] : List Bs).map vS) := by
         rw [← hW5]
         exact (ownsRow_setCell_other HV3.out (a := ⟨g1, bq, none⟩) (fun e => by cases e) _).drew
       have HV5 := Lib.hid hv5
       have HV6 := Lib.hid hv6
       have HV7 := Lib.hid hv7
       clear hv5 hv6 hv7 hW5 hK5
       have hbw5 : O < W5.heap.size := lt_of HO5.out
       have hr5w : w.heap.size + 1 < W5.heap.size := lt_of HR5.out
       obtain ⟨s0, s1, s2, s3⟩ := sigC HO5.out
       obtain ⟨u0, u1, u2, u3⟩ := sigC HR5.out
       have gr0 : W5.frozen? ⟨w.heap.size + 1, 0, none⟩ = false := free_of HR5.out _
       have gr1 : W5.frozen? ⟨w.heap.size + 1, 1, none⟩ = false := free_of HR5.out _
       have gr2 : W5.frozen? ⟨w.heap.size + 1, 2, none⟩ = false := free_of HR5.out _
       have gr3 : W5.frozen? ⟨w.heap.size + 1, 3, none⟩ = false := free_of HR5.out _
       go_wp2
       refine ret_whole (p := 6) (ty := 34) rfl (w.heap.size + 1) 34 _ (0, 0) _ rfl (set_of (set_of (set_of (set_of HR5.out 0 _) 1 _) 2 _) 3 _) Tryd.underlying34 rfl (by kernel_rfl) rfl ?_
       exact HEnd.out W5 _ _ _ _ (S.set bq (x ++ [120])) H ([] : List Bs) _ _ (HKR.out W5 _ _ _ _) HV5.out HV6.out HV7.out HB5.out (by rw [List.length_set]; exact hL1) hL2 hL3 rfl
     · go_wp2
       have hne : w.heap.size + 1 ≠ O := by omega
       refine ret_whole (p := 6) (ty := 34) rfl (w.heap.size + 1) 34 _ (0, 0) _ rfl (set_of (set_of (set_of (set_of (set_other (p := ⟨O, 0, none⟩) HR4.out hne) 0 _) 1 _) 2 _) 3 _) Tryd.underlying34 rfl (by kernel_rfl) rfl ?_
       refine HEnd.out W4 _ _ _ _ S H [] _ _ ((((Kept.refl _ W4).setCell (p := ⟨O, 0, none⟩) (.inr ⟨by show w.heap.size ≤ O; omega, by show O < w.heap.size + 3; omega⟩) _)).trans (HKR.out _ _ _ _ _)) HV1'.out HV2'.out HV3.out HB4.out hL1 hL2 hL3 rfl
     · go_wp2
       refine ret_whole (p := 6) (ty := 34) rfl (w.heap.size + 1) 34 _ (0, 0) _ rfl (set_of (set_of (set_of (set_of HR4.out 0 _) 1 _) 2 _) 3 _) Tryd.underlying34 rfl (by kernel_rfl) rfl ?_
       exact HEnd.out W4 _ _ _ _ S H [] _ _ (HKR.out W4 _ _ _ _) HV1'.out HV2'.out HV3.out HB4.out hL1 hL2 hL3 rfl
     · go_wp2
       have hne : w.heap.size + 1 ≠ O := by omega
       refine ret_whole (p := 6) (ty := 34) rfl (w.heap.size + 1) 34 _ (0, 0) _ rfl (set_of (set_of (set_of (set_of (set_other (p := ⟨O, 0, none⟩) HR4.out hne) 0 _) 1 _) 2 _) 3 _) Tryd.underlying34 rfl (by kernel_rfl) rfl ?_
       refine HEnd.out W4 _ _ _ _ S H [] _ _ ((((Kept.refl _ W4).setCell (p := ⟨O, 0, none⟩) (.inr ⟨by show w.heap.size ≤ O; omega, by show O < w.heap.size + 3; omega⟩) _)).trans (HKR.out _ _ _ _ _)) HV1'.out HV2'.out HV3.out HB4.out hL1 hL2 hL3 rfl
     · go_wp2
       refine ret_whole (p := 6) (ty := 34) rfl (w.heap.size + 1) 34 _ (0, 0) _ rfl (set_of (set_of (set_of (set_of HR4.out 0 _) 1 _) 2 _) 3 _) Tryd.underlying34 rfl (by kernel_rfl) rfl ?_
       exact HEnd.out W4 _ _ _ _ S H [] _ _ (HKR.out W4 _ _ _ _) HV1'.out HV2'.out HV3.out HB4.out hL1 hL2 hL3 rfl
  · rw [List.length_map] at hr0 H3 HB0 ⊢
    have HCR := Lib.hid (news_sl H3.out rfl)
    go_enter Tryd.func18, Tryd.ntmps18
    go_upto_region 5 with (first
      | (at_builtin
         go_loud (
         have hBs := (HB2.out.setCell (p := ⟨w.heap.size + 1 + 1, 2, none⟩) (by show w.heap.size ≤ w.heap.size + 1 + 1; omega) (.slice a2 n e2))
         refine wpList_append_two rfl _ _ 32 rfl (w.heap.size + 3) 9 i0 (.string ⟨#[]⟩) 1 16 Tryd.underlying32 Hi.out Hz0.out Hz1.out Hz2.out rfl (by decide) (.slice none 0 0) 0 [] rfl (World.ownsRow_nil _ _ _ _) ⟨rb, ro, none⟩ R.length rc (R.map vS) rfl (by rw [List.length_map, Nat.mul_one]) (news_below HCR.out hBs) (vS_ones _) (by unfold maxLen; omega) (by omega) (by first | (simp; done) | (simp; omega)) hr0 ?_
         intro v3 w3 ho3 hg3 hw3
         have hne : ∀ q : Nat, q ≠ w.heap.size + 1 + 1 → q ≠ (⟨w.heap.size + 1 + 1, 2, none⟩ : Addr).block := fun q h => h
         have hs3 := nil_own hg3 (set_other (p := ⟨w.heap.size + 1 + 1, 2, none⟩) HS2.out (hne _ (by omega)))
         have hr3 := nil_own hg3 (set_other (p := ⟨w.heap.size + 1 + 1, 2, none⟩) HR2.out (hne _ (by omega)))
         have hO3 := nil_own hg3 (set_of HOut2.out 2 _)
         have hkp : ∀ q, w.heap.size + 3 ≤ q → q < w2.heap.size → w3.heap[q]? = w2.heap[q]? := fun q h1 h2 => (hg3.block q (by simpa using h2) (by simp [Value.ownBlock])).trans (Below.heap_setCell _ _ _ _ (by show q ≠ w.heap.size + 1 + 1; omega))
         rw [Nat.zero_add, List.nil_append] at ho3
         obtain ⟨a3, e3, rfl⟩ := own_form ho3
         have hB3 := hBs.grown hg3 hBs.size (fun q hq => by cases hq)
         have HO13 := Lib.hid (ownsRow_block HO12.out hkp)
         have HA13 := Lib.hid (show Apart (.slice a3 R.length e3) (.slice a1 n e1) from fun q h1 h2 => by
           have := own_lt HO12.out h2
           rcases hw3 q h1 with h | h
           · cases h
           · simp at h; omega)
         have HO23 := Lib.hid (ownsRow_block HO2.out hkp)
         have HA23 := Lib.hid (show Apart (.slice a3 R.length e3) (.slice a2 n e2) from fun q h1 h2 => by
           have := own_lt HO2.out h2
           rcases hw3 q h1 with h | h
           · cases h
           · simp at h; omega)
         have HB3 := Lib.hid hB3
         have HS3 := Lib.hid hs3
         have HR3 := Lib.hid hr3
         have HO3 := Lib.hid ho3
         have HOut3 := Lib.hid hO3
         have hz3 : w.heap.size + 3 ≤ w3.heap.size := by have := lt_of hO3; omega
         obtain ⟨c30, c31, c32, c33⟩ := sigC hO3
         obtain ⟨b30, b31, b32, b33⟩ := sigC hs3
         have f3 : w3.frozen? ⟨w.heap.size + 1 + 1, 3, none⟩ = false := free_of hO3 _
         clear ho3 hg3 hw3 hs3 hr3 hO3 hB3 hne hkp hBs))
      | (at_builtin
         go_loud (
         have hBs := (HB1.out.setCell (p := ⟨w.heap.size + 1 + 1, 1, none⟩) (by show w.heap.size ≤ w.heap.size + 1 + 1; omega) (.slice a1 n e1))
         refine wpList_append_two rfl _ _ 32 rfl (w.heap.size + 3) 9 i0 (.string ⟨#[]⟩) 1 16 Tryd.underlying32 Hi.out Hz0.out Hz1.out Hz2.out rfl (by decide) (.slice none 0 0) 0 [] rfl (World.ownsRow_nil _ _ _ _) ⟨hb, ho, none⟩ n hc (H.map vS) rfl (by rw [List.length_map, HLH.out, Nat.mul_one]) (news_below HCH.out hBs) (vS_ones _) (by unfold maxLen; omega) (by omega) (by first | (simp; done) | (simp; omega)) hn0 ?_
         intro v2 w2 ho2 hg2 hw2
         have hne : ∀ q : Nat, q ≠ w.heap.size + 1 + 1 → q ≠ (⟨w.heap.size + 1 + 1, 1, none⟩ : Addr).block := fun q h => h
         have hs2 := nil_own hg2 (set_other (p := ⟨w.heap.size + 1 + 1, 1, none⟩) HS1.out (hne _ (by omega)))
         have hr2 := nil_own hg2 (set_other (p := ⟨w.heap.size + 1 + 1, 1, none⟩) HR1.out (hne _ (by omega)))
         have hO2 := nil_own hg2 (set_of HOut1.out 1 _)
         have hkp : ∀ q, w.heap.size + 3 ≤ q → q < w1.heap.size → w2.heap[q]? = w1.heap[q]? := fun q h1 h2 => (hg2.block q (by simpa using h2) (by simp [Value.ownBlock])).trans (Below.heap_setCell _ _ _ _ (by show q ≠ w.heap.size + 1 + 1; omega))
         rw [Nat.zero_add, List.nil_append] at ho2
         obtain ⟨a2, e2, rfl⟩ := own_form ho2
         have hB2 := hBs.grown hg2 hBs.size (fun q hq => by cases hq)
         have HO12 := Lib.hid (ownsRow_block HO1.out hkp)
         have HA12 := Lib.hid (show Apart (.slice a2 n e2) (.slice a1 n e1) from fun q h1 h2 => by
           have := own_lt HO1.out h2
           rcases hw2 q h1 with h | h
           · cases h
           · simp at h; omega)
         have HB2 := Lib.hid hB2
         have HS2 := Lib.hid hs2
         have HR2 := Lib.hid hr2
         have HO2 := Lib.hid ho2
         have HOut2 := Lib.hid hO2
         have hz2 : w.heap.size + 3 ≤ w2.heap.size := by have := lt_of hO2; omega
         obtain ⟨c20, c21, c22, c23⟩ := sigC hO2
         obtain ⟨b20, b21, b22, b23⟩ := sigC hs2
         have f2 : w2.frozen? ⟨w.heap.size + 1 + 1, 2, none⟩ = false := free_of hO2 _
         have f23 : w2.frozen? ⟨w.heap.size + 1 + 1, 3, none⟩ = false := free_of hO2 _
         clear ho2 hg2 hw2 hs2 hr2 hO2 hB2 hne hkp hBs))
      | (at_builtin
         go_loud (
         refine wpList_append_two rfl _ _ 32 rfl (w.heap.size + 3) 9 i0 (.string ⟨#[]⟩) 1 16 Tryd.underlying32 Hi.out Hz0.out Hz1.out Hz2.out rfl (by decide) (.slice none 0 0) 0 [] rfl (World.ownsRow_nil _ _ _ _) ⟨sb, so, none⟩ n sc (S.map vS) rfl (by rw [List.length_map, HLS.out, Nat.mul_one]) (news_below HCS.out HB0.out) (vS_ones _) (by unfold maxLen; omega) (by omega) (by first | (simp; done) | (simp; omega)) hn0 ?_
         intro v1 w1 ho1 hg1 hw1
         have hs1 := nil_own hg1 (old_of (old_of (new_of w _)))
         have hr1 := nil_own hg1 (old_of (new_at (k := w.heap.size + 1) (by simp) rfl))
         have hO1 := nil_own hg1 (new_at (k := w.heap.size + 1 + 1) (by simp) rfl)
         rw [Nat.zero_add, List.nil_append] at ho1
         obtain ⟨a1, e1, rfl⟩ := own_form ho1
         have hB1 := HB0.out.grown hg1 HB0.out.size (fun q hq => by cases hq)
         have HB1 := Lib.hid hB1
         have HS1 := Lib.hid hs1
         have HR1 := Lib.hid hr1
         have HO1 := Lib.hid ho1
         have HOut1 := Lib.hid hO1
         have hz1 : w.heap.size + 3 ≤ w1.heap.size := by have := lt_of hO1; omega
         obtain ⟨c10, c11, c12, c13⟩ := sigC hO1
         obtain ⟨b10, b11, b12, b13⟩ := sigC hs1
         have f1 : w1.frozen? ⟨w.heap.size + 1 + 1, 1, none⟩ = false := free_of hO1 _
         clear ho1 hg1 hw1 hs1 hr1 hO1 hB1)))
    obtain ⟨W4, hW4⟩ : ∃ W4, w3.setCell ⟨w.heap.size + 1 + 1, 3, none⟩ (.slice a3 R.length e3) = W4 := ⟨_, rfl⟩
    rw [hW4]
    have hK4 : Kept (Licit.One (w.heap.size + 1 + 1)) w3 W4 := hW4 ▸ kept_set (w.heap.size + 1 + 1) 3 w3 _
    have hb4 : ∀ q, w.heap.size + 3 ≤ q → q < w3.heap.size → W4.heap[q]? = w3.heap[q]? := fun q h1 h2 => hK4.block q h2 (fun e => by have : q = w.heap.size + 1 + 1 := e; omega)
    have HO4 := Lib.hid (show W4.heap[w.heap.size + 1 + 1]? = some (.cells #[.int .i64 (i : Int), .slice a1 n e1, .slice a2 n e2, .slice a3 R.length e3] 34) from hW4 ▸ set_of HOut3.out 3 _)
    have HS4 := Lib.hid ((hK4.block _ (lt_of HS3.out) (fun e => by have : w.heap.size = w.heap.size + 1 + 1 := e; omega)).trans HS3.out)
    have HR4 := Lib.hid ((hK4.block _ (lt_of HR3.out) (fun e => by have : w.heap.size + 1 = w.heap.size + 1 + 1 := e; omega)).trans HR3.out)
    have HB4 := Lib.hid (hW4 ▸ HB3.out.setCell (p := ⟨w.heap.size + 1 + 1, 3, none⟩) (by show w.heap.size ≤ w.heap.size + 1 + 1; omega) (.slice a3 R.length e3))
    have HV1 := Lib.hid (ownsRow_block HO13.out hb4)
    have HV2 := Lib.hid (ownsRow_block HO23.out hb4)
    have HV3 := Lib.hid (ownsRow_block HO3.out hb4)
    obtain ⟨O, hO⟩ : ∃ O, w.heap.size + 1 + 1 = O := ⟨_, rfl⟩
    obtain ⟨g1, _, hg1, hg1b, hg1z, _⟩ := own_some HV1.out hn0
    obtain ⟨g2, _, hg2, hg2b, hg2z, _⟩ := own_some HV2.out hn0
    obtain ⟨g3, _, hg3, hg3b, hg3z, _⟩ := own_some HV3.out hr0
    simp only [Value.slice.injEq, true_and] at hg1 hg2 hg3
    obtain ⟨rfl, rfl⟩ := hg1
    obtain ⟨rfl, rfl⟩ := hg2
    obtain ⟨rfl, rfl⟩ := hg3
    have h12 : g1 ≠ g2 := fun e => HA12.out g2 rfl (by rw [e]; rfl)
    have h13 : g1 ≠ g3 := fun e => HA13.out g3 rfl (by rw [e]; rfl)
    have h23 : g2 ≠ g3 := fun e => HA23.out g3 rfl (by rw [e]; rfl)
    have hbw : O < W4.heap.size := by rw [← hO]; exact lt_of HO4.out
    rw [hO] at HO4 ⊢
    have hOne : O ≠ w.heap.size ∧ O ≠ w.heap.size + 1 ∧ O < w.heap.size + 3 := by omega
    have hs4w : w.heap.size < W4.heap.size := lt_of HS4.out
    have hr4w : w.heap.size + 1 < W4.heap.size := lt_of HR4.out
    obtain ⟨p0, p1, p2, p3⟩ := sigC HO4.out
    obtain ⟨q0, q1, q2, q3⟩ := sigC HS4.out
    obtain ⟨r0, r1, r2, r3⟩ := sigC HR4.out
    have fr0 : W4.frozen? ⟨w.heap.size + 1, 0, none⟩ = false := free_of HR4.out _
    have fr1 : W4.frozen? ⟨w.heap.size + 1, 1, none⟩ = false := free_of HR4.out _
    have fr2 : W4.frozen? ⟨w.heap.size + 1, 2, none⟩ = false := free_of HR4.out _
    have fr3 : W4.frozen? ⟨w.heap.size + 1, 3, none⟩ = false := free_of HR4.out _
    have fo0 : W4.frozen? ⟨O, 0, none⟩ = false := free_of HO4.out _
    have fo1 : W4.frozen? ⟨O, 1, none⟩ = false := free_of HO4.out _
    have fo2 : W4.frozen? ⟨O, 2, none⟩ = false := free_of HO4.out _
    have fo3 : W4.frozen? ⟨O, 3, none⟩ = false := free_of HO4.out _
    obtain ⟨bq, hbq⟩ : ∃ bq, at_ % n = bq := ⟨_, rfl⟩
    have hbn : bq < n := by rw [← hbq]; exact Nat.mod_lt _ hn0
    have hrem : (at_ : Int) % (n : Int) = (bq : Int) := by rw [← hbq]; simp
    have hn1 : ¬ (n : Int) = 0 := by omega
    clear hW4 hK4 hb4 hbq c10 c11 c12 c13 b10 b11 b12 b13 c20 c21 c22 c23 b20 b21 b22 b23 c30 c31 c32 c33 b30 b31 b32 b33 f1 f2 f23 f3 HO23 HO13 HO3 HOut1 HOut2 HOut3 HS1 HS2 HS3 HR1 HR2 HR3 HB0 HB1 HB2 HB3 HO1 HO2 HO12 HA12 HA13 HA23
    have HEnd := Lib.hid (show ∀ (W5 : World) (y : Int) (x1 x2 x3 : Value) (S' H' R' : List Bs) (e : Ending) (F : World), Kept (fun q => w.heap.size ≤ q ∧ q < w.heap.size + 3) W5 F → W5.ownsRow (w.heap.size + 3) 9 1 x1 S'.length (S'.map vS) → W5.ownsRow (w.heap.size + 3) 9 1 x2 H'.length (H'.map vS) → W5.ownsRow (w.heap.size + 3) 9 1 x3 R'.length (R'.map vS) →
        Below w.heap.size w W5 → S'.length ≤ maxLen → H'.length ≤ maxLen → R'.length ≤ maxLen → e = .returned (.agg #[.int .i64 y, x1, x2, x3]) →
        ∃ (v' : Value) (i' : Int) (S' H' R' : List Bs), e = .returned v' ∧ SigIs v' i' S' H' R' F ∧ Below w.heap.size w F from by
      intro W5 y x1 x2 x3 S' H' R' e F hK a1 a2 a3 hB l1 l2 l3 he
      have hk : ∀ q, w.heap.size + 3 ≤ q → q < W5.heap.size → F.heap[q]? = W5.heap[q]? := fun q h1 h2 => hK.block q h2 (fun h => by omega)
      exact ⟨_, y, S', H', R', he, ⟨_, _, _, rfl, IsSl.of_owns (by rw [List.length_map]; exact ownsRow_block a1 hk) (by rw [List.length_map]; exact l1), IsSl.of_owns (by rw [List.length_map]; exact ownsRow_block a2 hk) (by rw [List.length_map]; exact l2), IsSl.of_owns (by rw [List.length_map]; exact ownsRow_block a3 hk) (by rw [List.length_map]; exact l3)⟩,
        hB.trans (hK.below hB.size (fun q h1 h => by omega))⟩)
    have HKR := Lib.hid (show ∀ (W5 : World) (y0 y1 y2 y3 : Value), Kept (fun q => w.heap.size ≤ q ∧ q < w.heap.size + 3) W5 ((((W5.setCell ⟨w.heap.size + 1, 0, none⟩ y0).setCell ⟨w.heap.size + 1, 1, none⟩ y1).setCell ⟨w.heap.size + 1, 2, none⟩ y2).setCell ⟨w.heap.size + 1, 3, none⟩ y3) from fun W5 y0 y1 y2 y3 =>
      ((((Kept.refl _ _).setCell (p := ⟨w.heap.size + 1, 0, none⟩) (.inr ⟨by show w.heap.size ≤ w.heap.size + 1; omega, by show w.heap.size + 1 < w.heap.size + 3; omega⟩) y0).setCell (p := ⟨w.heap.size + 1, 1, none⟩) (.inr ⟨by show w.heap.size ≤ w.heap.size + 1; omega, by show w.heap.size + 1 < w.heap.size + 3; omega⟩) y1).setCell (p := ⟨w.heap.size + 1, 2, none⟩) (.inr ⟨by show w.heap.size ≤ w.heap.size + 1; omega, by show w.heap.size + 1 < w.heap.size + 3; omega⟩) y2).setCell (p := ⟨w.heap.size + 1, 3, none⟩) (.inr ⟨by show w.heap.size ≤ w.heap.size + 1; omega, by show w.heap.size + 1 < w.heap.size + 3; omega⟩) y3)
    have hL3 : R.length ≤ maxLen := by unfold maxLen; omega
    have hL1 : S.length ≤ maxLen := by rw [HLS.out]; unfold maxLen; omega
    have hL2 : H.length ≤ maxLen := by rw [HLH.out]; unfold maxLen; omega
    have HV1' := Lib.hid (show W4.ownsRow (w.heap.size + 3) 9 1 (.slice (some ⟨g1, 0, none⟩) n e1) S.length (S.map vS) by rw [HLS.out]; exact HV1.out)
    have HV2' := Lib.hid (show W4.ownsRow (w.heap.size + 3) 9 1 (.slice (some ⟨g2, 0, none⟩) n e2) H.length (H.map vS) by rw [HLH.out]; exact HV2.out)
    have hh : how = 0 ∨ how = 1 ∨ how = 2 ∨ how = 3 ∨ how = 4 ∨ how = 5 ∨ how = 6 ∨ how = 7 ∨ how = 8 ∨ how = 9 ∨ how = 10 ∨ how = 11 := by omega
    clear hw
    rcases hh with rfl | rfl | rfl | rfl | rfl | rfl | rfl | rfl | rfl | rfl | rfl | rfl
    · go_wp2
      refine ret_whole (p := 6) (ty := 34) rfl (w.heap.size + 1) 34 _ (0, 0) _ rfl (set_of (set_of (set_of (set_of HR4.out 0 _) 1 _) 2 _) 3 _) Tryd.underlying34 rfl (by kernel_rfl) rfl ?_
      exact HEnd.out W4 _ _ _ _ S H R _ _ (HKR.out W4 _ _ _ _) HV1'.out HV2'.out HV3.out HB4.out hL1 hL2 hL3 rfl
    · go_wp2
      have hne : w.heap.size + 1 ≠ O := by omega
      refine ret_whole (p := 6) (ty := 34) rfl (w.heap.size + 1) 34 _ (0, 0) _ rfl (set_of (set_of (set_of (set_of (set_other (p := ⟨O, 0, none⟩) HR4.out hne) 0 _) 1 _) 2 _) 3 _) Tryd.underlying34 rfl (by kernel_rfl) rfl ?_
      refine HEnd.out W4 _ _ _ _ S H R _ _ ((((Kept.refl _ W4).setCell (p := ⟨O, 0, none⟩) (.inr ⟨by show w.heap.size ≤ O; omega, by show O < w.heap.size + 3; omega⟩) _)).trans (HKR.out _ _ _ _ _)) HV1'.out HV2'.out HV3.out HB4.out hL1 hL2 hL3 rfl
    · obtain ⟨sb', so', sc', hv1, hb1, hc1⟩ := (H1.out.below HB4.out).text HLS.out hbn
      simp only [Value.slice.injEq, Option.some.injEq, Addr.mk.injEq, true_and, and_true] at hv1
      obtain ⟨⟨rfl, rfl⟩, rfl⟩ := hv1
      obtain ⟨x, hx⟩ : ∃ x, S.getD bq [] = x := ⟨_, rfl⟩
      rw [hx] at hc1
      have hx32 : x.length = 32 := by rw [← hx]; exact getD_32 H32.out (by rw [HLS.out]; exact hbn)
      have hsz : (B x).size = 32 := hx32
      have hbI : (bq : Int) < (n : Int) := by omega
      have hgc := own_cell HV1.out (i := bq) (by rw [HLS.out]; exact hbn)
      have hgf := own_free HV1.out (i := bq) hbn
      unfold vS at hgc
      clear hx
      have hrb : (bq : Int).tmod (n : Int) = (bq : Int) := Int.tmod_eq_of_lt (by omega) hbI
      have hba : Below W4.heap.size W4 (W4.alloc (.cells #[.string ⟨#[111, 116, 104, 101, 114]⟩, .string (B x)] 9)) := (Below.refl _ _).alloc (Nat.le_refl _) _
      go_wp2
      refine wp_region_held_drew (S := (fun W : World => W.cell? ⟨O, 1, none⟩ = some (.slice (some ⟨g1, 0, none⟩) n e1) ∧ W.cell? ⟨w.heap.size, 1, none⟩ = some (.slice (some ⟨sb, so, none⟩) n sc) ∧ W.cell? ⟨sb, so + bq, none⟩ = some (.string (B x)))) (by kernel_rfl) ⟨p1, q1, hc1⟩ (fun hHeld => ?_)
      refine take_at 0 55 (oi := ?o33) (v := ?v33) ?hi33 ?hd33 (by kernel_rfl) (by kernel_rfl) (by kernel_rfl) ?hQ33 ?hw33 ?hy33 (by assumption) ?rest33
      case hi33 => simp only [List.getElem?_toArray, List.getElem?_cons_zero]; rfl
      case hd33 => rfl
      case hw33 => kernel_rfl
      case hy33 => intro W hW; (try dsimp only at hW); go_simp <;> with_reducible rfl
      case hQ33 => exact fun _ _ _ h => h
      try simp only [Act.put, List.setIfInBounds_toArray, List.set_cons_zero, List.set_cons_succ]
      refine take_at 1 56 (oi := ?o34) (v := ?v34) ?hi34 ?hd34 (by kernel_rfl) (by kernel_rfl) (by kernel_rfl) ?hQ34 ?hw34 ?hy34 (by assumption) ?rest34
      case hi34 => simp only [List.getElem?_toArray, List.getElem?_cons_succ, List.getElem?_cons_zero]; rfl
      case hd34 => rfl
      case hw34 => kernel_rfl
      case hy34 => intro W hW; (try dsimp only at hW); go_simp <;> with_reducible rfl
      case hQ34 => exact fun _ _ _ h => h
      try simp only [Act.put, List.setIfInBounds_toArray, List.set_cons_zero, List.set_cons_succ]
      refine take_at 2 57 (oi := ?o35) (v := ?v35) ?hi35 ?hd35 (by kernel_rfl) (by kernel_rfl) (by kernel_rfl) ?hQ35 ?hw35 ?hy35 (by assumption) ?rest35
      case hi35 => simp only [List.getElem?_toArray, List.getElem?_cons_succ, List.getElem?_cons_zero]; rfl
      case hd35 => rfl
      case hw35 => kernel_rfl
      case hy35 => intro W hW; (try dsimp only at hW); go_simp <;> with_reducible rfl
      case hQ35 => exact fun _ _ _ h => h
      try simp only [Act.put, List.setIfInBounds_toArray, List.set_cons_zero, List.set_cons_succ]
      refine take_at 3 58 (oi := ?o36) (v := ?v36) ?hi36 ?hd36 (by kernel_rfl) (by kernel_rfl) (by kernel_rfl) ?hQ36 ?hw36 ?hy36 (by assumption) ?rest36
      case hi36 => simp only [List.getElem?_toArray, List.getElem?_cons_succ, List.getElem?_cons_zero]; rfl
      case hd36 => rfl
      case hw36 => kernel_rfl
      case hy36 => intro W hW; (try dsimp only at hW); go_simp <;> with_reducible rfl
      case hQ36 => exact fun _ _ _ h => h
      try simp only [Act.put, List.setIfInBounds_toArray, List.set_cons_zero, List.set_cons_succ]
      refine take_at 4 59 (oi := ?o37) (v := ?v37) ?hi37 ?hd37 (by kernel_rfl) (by kernel_rfl) (by kernel_rfl) ?hQ37 ?hw37 ?hy37 (by assumption) ?rest37
      case hi37 => simp only [List.getElem?_toArray, List.getElem?_cons_succ, List.getElem?_cons_zero]; rfl
      case hd37 => rfl
      case hw37 => kernel_rfl
      case hy37 => intro W hW; (try dsimp only at hW); go_simp <;> with_reducible rfl
      case hQ37 => exact fun _ _ _ h => h
      try simp only [Act.put, List.setIfInBounds_toArray, List.set_cons_zero, List.set_cons_succ]
      refine take_at 5 60 (oi := ?o38) (v := ?v38) ?hi38 ?hd38 (by kernel_rfl) (by kernel_rfl) (by kernel_rfl) ?hQ38 ?hw38 ?hy38 (by assumption) ?rest38
      case hi38 => simp only [List.getElem?_toArray, List.getElem?_cons_succ, List.getElem?_cons_zero]; rfl
      case hd38 => rfl
      case hw38 => kernel_rfl
      case hy38 => intro W hW; (try dsimp only at hW); go_simp <;> with_reducible rfl
      case hQ38 => exact fun _ _ _ h => h
      try simp only [Act.put, List.setIfInBounds_toArray, List.set_cons_zero, List.set_cons_succ]
      refine take_at 6 61 (oi := ?o39) (v := ?v39) ?hi39 ?hd39 (by kernel_rfl) (by kernel_rfl) (by kernel_rfl) ?hQ39 ?hw39 ?hy39 (by assumption) ?rest39
      case hi39 => simp only [List.getElem?_toArray, List.getElem?_cons_succ, List.getElem?_cons_zero]; rfl
      case hd39 => rfl
      case hw39 => kernel_rfl
      case hy39 => intro W hW; (try dsimp only at hW); go_simp <;> with_reducible rfl
      case hQ39 => exact fun _ _ _ h => h
      try simp only [Act.put, List.setIfInBounds_toArray, List.set_cons_zero, List.set_cons_succ]
      refine take_at 7 62 (oi := ?o40) (v := ?v40) ?hi40 ?hd40 (by kernel_rfl) (by kernel_rfl) (by kernel_rfl) ?hQ40 ?hw40 ?hy40 (by assumption) ?rest40
      case hi40 => simp only [List.getElem?_toArray, List.getElem?_cons_succ, List.getElem?_cons_zero]; rfl
      case hd40 => rfl
      case hw40 => kernel_rfl
      case hy40 => intro W hW; (try dsimp only at hW); go_simp <;> with_reducible rfl
      case hQ40 => exact fun _ _ _ h => h
      try simp only [Act.put, List.setIfInBounds_toArray, List.set_cons_zero, List.set_cons_succ]
      refine wpAnyH_ready (rs := [8]) (by kernel_rfl) (by simp) ?_
      refine AllReadyH.cons rfl (fun K hK => ?_) AllReadyH.nil
      go_simp
      refine hK.out _ _ ⟨((hba.cell hbw).trans p1), ((hba.cell hs4w).trans q1), ((hba.cell hb1).trans hc1)⟩ (fun hHeld => ?_)
      clear hK K
      try simp only [Act.put, List.setIfInBounds_toArray, List.set_cons_zero, List.set_cons_succ]
      refine wpAnyH_ready (rs := [9]) (by kernel_rfl) (by simp) ?_
      refine AllReadyH.cons rfl (fun K hK => ?_) AllReadyH.nil
      go_simp
      refine (ROther_drw x (by rw [hx32]; unfold maxLen; omega) W4).mono ?_
      rintro e w7 ⟨y, rfl, hb7⟩
      go_wp2_with fail
      refine hK.out _ _ ⟨((hb7.cell hbw).trans p1), ((hb7.cell hs4w).trans q1), ((hb7.cell hb1).trans hc1)⟩ (fun hHeld => ?_)
      clear hK K
      try simp only [Act.put, List.setIfInBounds_toArray, List.set_cons_zero, List.set_cons_succ]
      refine take_at 10 65 (oi := ?o41) (v := ?v41) ?hi41 ?hd41 (by kernel_rfl) (by kernel_rfl) (by kernel_rfl) ?hQ41 ?hw41 ?hy41 (by assumption) ?rest41
      case hi41 => simp only [List.getElem?_toArray, List.getElem?_cons_succ, List.getElem?_cons_zero]; rfl
      case hd41 => rfl
      case hw41 => kernel_rfl
      case hy41 => intro W hW; (try dsimp only at hW); go_simp <;> with_reducible rfl
      case hQ41 => exact fun _ _ _ h => h
      try simp only [Act.put, List.setIfInBounds_toArray, List.set_cons_zero, List.set_cons_succ]
      have hgc7 := (hb7.cell (p := ⟨g1, bq, none⟩) hg1z).trans hgc
      have hgf7 := (hb7.frozen (p := ⟨g1, bq, none⟩) hg1z).trans hgf
      refine wpAnyH_ready (rs := [11]) (by kernel_rfl) (by simp) ?_
      refine AllReadyH.cons rfl (fun K hK => ?_) AllReadyH.nil
      go_simp
      refine hK.out _ _ ⟨(cell_far (by omega) ((hb7.cell hbw).trans p1)), (cell_far (by omega) ((hb7.cell hs4w).trans q1)), (cell_far (by omega) ((hb7.cell hb1).trans hc1))⟩ (fun hHeld => ?_)
      clear hK K
      try simp only [Act.put, List.setIfInBounds_toArray, List.set_cons_zero, List.set_cons_succ]
      refine wpAnyH_done (by kernel_rfl) ?_ _
      have HO6 := Lib.hid ((hb7.block _ (lt_of HO4.out)).trans HO4.out)
      have HR6 := Lib.hid ((hb7.block _ (lt_of HR4.out)).trans HR4.out)
      have HB6 := Lib.hid (HB4.out.next hb7)
      obtain ⟨W5, hW5⟩ : ∃ W5, w7.setCell ⟨g1, bq, none⟩ (.string (B y)) = W5 := ⟨_, rfl⟩
      rw [hW5]
      have hK5 : Kept (fun q => q = g1) w7 W5 := hW5 ▸ (((Kept.refl (fun q => q = g1) w7).setCell (p := ⟨g1, bq, none⟩) (.inr rfl) _))
      have HO5 := Lib.hid ((hK5.block _ (lt_of HO6.out) (fun e => by have : O = g1 := e; omega)).trans HO6.out)
      have HR5 := Lib.hid ((hK5.block _ (lt_of HR6.out) (fun e => by have : w.heap.size + 1 = g1 := e; omega)).trans HR6.out)
      have HB5 := Lib.hid (HB6.out.trans (hK5.below HB6.out.size (fun q h1 e => by have : q = g1 := e; omega)))
      have hv5 : W5.ownsRow (w.heap.size + 3) 9 1 (.slice (some ⟨g1, 0, none⟩) n e1) (S.set bq y).length ((S.set bq y).map vS) := by
        rw [List.length_set, HLS.out, List.map_set, ← hW5]
        exact ((ownsRow_block HV1.out (fun q _ hq => hb7.block q hq)).stored bq (.string (B y))).1
      have hv6 : W5.ownsRow (w.heap.size + 3) 9 1 (.slice (some ⟨g2, 0, none⟩) n e2) H.length (H.map vS) := by
        rw [← hW5]
        exact ownsRow_setCell_other (ownsRow_block HV2'.out (fun q _ hq => hb7.block q hq)) (a := ⟨g1, bq, none⟩) (fun e => h12 (Option.some.inj e).symm) _
      have hv7 : W5.ownsRow (w.heap.size + 3) 9 1 (.slice (some ⟨g3, 0, none⟩) R.length e3) R.length (R.map vS) := by
        rw [← hW5]
        exact ownsRow_setCell_other (ownsRow_block HV3.out (fun q _ hq => hb7.block q hq)) (a := ⟨g1, bq, none⟩) (fun e => h13 (Option.some.inj e).symm) _
      have HV5 := Lib.hid hv5
      have HV6 := Lib.hid hv6
      have HV7 := Lib.hid hv7
      clear hv5 hv6 hv7 hW5 hK5
      have hbw5 : O < W5.heap.size := lt_of HO5.out
      have hr5w : w.heap.size + 1 < W5.heap.size := lt_of HR5.out
      obtain ⟨s0, s1, s2, s3⟩ := sigC HO5.out
      obtain ⟨u0, u1, u2, u3⟩ := sigC HR5.out
      have gr0 : W5.frozen? ⟨w.heap.size + 1, 0, none⟩ = false := free_of HR5.out _
      have gr1 : W5.frozen? ⟨w.heap.size + 1, 1, none⟩ = false := free_of HR5.out _
      have gr2 : W5.frozen? ⟨w.heap.size + 1, 2, none⟩ = false := free_of HR5.out _
      have gr3 : W5.frozen? ⟨w.heap.size + 1, 3, none⟩ = false := free_of HR5.out _
      go_wp2
      refine ret_whole (p := 6) (ty := 34) rfl (w.heap.size + 1) 34 _ (0, 0) _ rfl (set_of (set_of (set_of (set_of HR5.out 0 _) 1 _) 2 _) 3 _) Tryd.underlying34 rfl (by kernel_rfl) rfl ?_
      exact HEnd.out W5 _ _ _ _ (S.set bq y) (H) R _ _ (HKR.out W5 _ _ _ _) HV5.out HV6.out HV7.out HB5.out (by rw [List.length_set]; exact hL1) hL2 hL3 rfl
    · obtain ⟨sb', so', sc', hv1, hb1, hc1⟩ := (H1.out.below HB4.out).text HLS.out hbn
      simp only [Value.slice.injEq, Option.some.injEq, Addr.mk.injEq, true_and, and_true] at hv1
      obtain ⟨⟨rfl, rfl⟩, rfl⟩ := hv1
      obtain ⟨x, hx⟩ : ∃ x, S.getD bq [] = x := ⟨_, rfl⟩
      rw [hx] at hc1
      have hx32 : x.length = 32 := by rw [← hx]; exact getD_32 H32.out (by rw [HLS.out]; exact hbn)
      have hsz : (B x).size = 32 := hx32
      have hbI : (bq : Int) < (n : Int) := by omega
      have hgc := own_cell HV1.out (i := bq) (by rw [HLS.out]; exact hbn)
      have hgf := own_free HV1.out (i := bq) hbn
      unfold vS at hgc
      clear hx
      have hgc2 := own_cell HV2.out (i := bq) (by rw [HLH.out]; exact hbn)
      have hgf2 := own_free HV2.out (i := bq) hbn
      unfold vS at hgc2
      have hrb : (bq : Int).tmod (n : Int) = (bq : Int) := Int.tmod_eq_of_lt (by omega) hbI
      have hba : Below W4.heap.size W4 (W4.alloc (.cells #[.string ⟨#[111, 116, 104, 101, 114]⟩, .string (B x)] 9)) := (Below.refl _ _).alloc (Nat.le_refl _) _
      go_wp2
      refine wp_region_held_drew (S := (fun W : World => W.cell? ⟨O, 2, none⟩ = some (.slice (some ⟨g2, 0, none⟩) n e2) ∧ W.cell? ⟨w.heap.size, 1, none⟩ = some (.slice (some ⟨sb, so, none⟩) n sc) ∧ W.cell? ⟨w.heap.size, 2, none⟩ = some (.slice (some ⟨hb, ho, none⟩) n hc) ∧ W.cell? ⟨sb, so + bq, none⟩ = some (.string (B x)))) (by kernel_rfl) ⟨p2, q1, q2, hc1⟩ (fun hHeld => ?_)
      refine take_at 0 68 (oi := ?o42) (v := ?v42) ?hi42 ?hd42 (by kernel_rfl) (by kernel_rfl) (by kernel_rfl) ?hQ42 ?hw42 ?hy42 (by assumption) ?rest42
      case hi42 => simp only [List.getElem?_toArray, List.getElem?_cons_zero]; rfl
      case hd42 => rfl
      case hw42 => kernel_rfl
      case hy42 => intro W hW; (try dsimp only at hW); go_simp <;> with_reducible rfl
      case hQ42 => exact fun _ _ _ h => h
      try simp only [Act.put, List.setIfInBounds_toArray, List.set_cons_zero, List.set_cons_succ]
      refine take_at 1 69 (oi := ?o43) (v := ?v43) ?hi43 ?hd43 (by kernel_rfl) (by kernel_rfl) (by kernel_rfl) ?hQ43 ?hw43 ?hy43 (by assumption) ?rest43
      case hi43 => simp only [List.getElem?_toArray, List.getElem?_cons_succ, List.getElem?_cons_zero]; rfl
      case hd43 => rfl
      case hw43 => kernel_rfl
      case hy43 => intro W hW; (try dsimp only at hW); go_simp <;> with_reducible rfl
      case hQ43 => exact fun _ _ _ h => h
      try simp only [Act.put, List.setIfInBounds_toArray, List.set_cons_zero, List.set_cons_succ]
      refine take_at 2 70 (oi := ?o44) (v := ?v44) ?hi44 ?hd44 (by kernel_rfl) (by kernel_rfl) (by kernel_rfl) ?hQ44 ?hw44 ?hy44 (by assumption) ?rest44
      case hi44 => simp only [List.getElem?_toArray, List.getElem?_cons_succ, List.getElem?_cons_zero]; rfl
      case hd44 => rfl
      case hw44 => kernel_rfl
      case hy44 => intro W hW; (try dsimp only at hW); go_simp <;> with_reducible rfl
      case hQ44 => exact fun _ _ _ h => h
      try simp only [Act.put, List.setIfInBounds_toArray, List.set_cons_zero, List.set_cons_succ]
      refine take_at 3 71 (oi := ?o45) (v := ?v45) ?hi45 ?hd45 (by kernel_rfl) (by kernel_rfl) (by kernel_rfl) ?hQ45 ?hw45 ?hy45 (by assumption) ?rest45
      case hi45 => simp only [List.getElem?_toArray, List.getElem?_cons_succ, List.getElem?_cons_zero]; rfl
      case hd45 => rfl
      case hw45 => kernel_rfl
      case hy45 => intro W hW; (try dsimp only at hW); go_simp <;> with_reducible rfl
      case hQ45 => exact fun _ _ _ h => h
      try simp only [Act.put, List.setIfInBounds_toArray, List.set_cons_zero, List.set_cons_succ]
      refine take_at 4 72 (oi := ?o46) (v := ?v46) ?hi46 ?hd46 (by kernel_rfl) (by kernel_rfl) (by kernel_rfl) ?hQ46 ?hw46 ?hy46 (by assumption) ?rest46
      case hi46 => simp only [List.getElem?_toArray, List.getElem?_cons_succ, List.getElem?_cons_zero]; rfl
      case hd46 => rfl
      case hw46 => kernel_rfl
      case hy46 => intro W hW; (try dsimp only at hW); go_simp <;> with_reducible rfl
      case hQ46 => exact fun _ _ _ h => h
      try simp only [Act.put, List.setIfInBounds_toArray, List.set_cons_zero, List.set_cons_succ]
      refine take_at 5 73 (oi := ?o47) (v := ?v47) ?hi47 ?hd47 (by kernel_rfl) (by kernel_rfl) (by kernel_rfl) ?hQ47 ?hw47 ?hy47 (by assumption) ?rest47
      case hi47 => simp only [List.getElem?_toArray, List.getElem?_cons_succ, List.getElem?_cons_zero]; rfl
      case hd47 => rfl
      case hw47 => kernel_rfl
      case hy47 => intro W hW; (try dsimp only at hW); go_simp <;> with_reducible rfl
      case hQ47 => exact fun _ _ _ h => h
      try simp only [Act.put, List.setIfInBounds_toArray, List.set_cons_zero, List.set_cons_succ]
      refine take_at 6 74 (oi := ?o48) (v := ?v48) ?hi48 ?hd48 (by kernel_rfl) (by kernel_rfl) (by kernel_rfl) ?hQ48 ?hw48 ?hy48 (by assumption) ?rest48
      case hi48 => simp only [List.getElem?_toArray, List.getElem?_cons_succ, List.getElem?_cons_zero]; rfl
      case hd48 => rfl
      case hw48 => kernel_rfl
      case hy48 => intro W hW; (try dsimp only at hW); go_simp <;> with_reducible rfl
      case hQ48 => exact fun _ _ _ h => h
      try simp only [Act.put, List.setIfInBounds_toArray, List.set_cons_zero, List.set_cons_succ]
      refine take_at 7 75 (oi := ?o49) (v := ?v49) ?hi49 ?hd49 (by kernel_rfl) (by kernel_rfl) (by kernel_rfl) ?hQ49 ?hw49 ?hy49 (by assumption) ?rest49
      case hi49 => simp only [List.getElem?_toArray, List.getElem?_cons_succ, List.getElem?_cons_zero]; rfl
      case hd49 => rfl
      case hw49 => kernel_rfl
      case hy49 => intro W hW; (try dsimp only at hW); go_simp <;> with_reducible rfl
      case hQ49 => exact fun _ _ _ h => h
      try simp only [Act.put, List.setIfInBounds_toArray, List.set_cons_zero, List.set_cons_succ]
      refine take_at 8 76 (oi := ?o50) (v := ?v50) ?hi50 ?hd50 (by kernel_rfl) (by kernel_rfl) (by kernel_rfl) ?hQ50 ?hw50 ?hy50 (by assumption) ?rest50
      case hi50 => simp only [List.getElem?_toArray, List.getElem?_cons_succ, List.getElem?_cons_zero]; rfl
      case hd50 => rfl
      case hw50 => kernel_rfl
      case hy50 => intro W hW; (try dsimp only at hW); go_simp <;> with_reducible rfl
      case hQ50 => exact fun _ _ _ h => h
      try simp only [Act.put, List.setIfInBounds_toArray, List.set_cons_zero, List.set_cons_succ]
      refine take_at 9 77 (oi := ?o51) (v := ?v51) ?hi51 ?hd51 (by kernel_rfl) (by kernel_rfl) (by kernel_rfl) ?hQ51 ?hw51 ?hy51 (by assumption) ?rest51
      case hi51 => simp only [List.getElem?_toArray, List.getElem?_cons_succ, List.getElem?_cons_zero]; rfl
      case hd51 => rfl
      case hw51 => kernel_rfl
      case hy51 => intro W hW; (try dsimp only at hW); go_simp <;> with_reducible rfl
      case hQ51 => exact fun _ _ _ h => h
      try simp only [Act.put, List.setIfInBounds_toArray, List.set_cons_zero, List.set_cons_succ]
      refine take_at 10 78 (oi := ?o52) (v := ?v52) ?hi52 ?hd52 (by kernel_rfl) (by kernel_rfl) (by kernel_rfl) ?hQ52 ?hw52 ?hy52 (by assumption) ?rest52
      case hi52 => simp only [List.getElem?_toArray, List.getElem?_cons_succ, List.getElem?_cons_zero]; rfl
      case hd52 => rfl
      case hw52 => kernel_rfl
      case hy52 => intro W hW; (try dsimp only at hW); go_simp <;> with_reducible rfl
      case hQ52 => exact fun _ _ _ h => h
      try simp only [Act.put, List.setIfInBounds_toArray, List.set_cons_zero, List.set_cons_succ]
      refine take_at 11 79 (oi := ?o53) (v := ?v53) ?hi53 ?hd53 (by kernel_rfl) (by kernel_rfl) (by kernel_rfl) ?hQ53 ?hw53 ?hy53 (by assumption) ?rest53
      case hi53 => simp only [List.getElem?_toArray, List.getElem?_cons_succ, List.getElem?_cons_zero]; rfl
      case hd53 => rfl
      case hw53 => kernel_rfl
      case hy53 => intro W hW; (try dsimp only at hW); go_simp <;> with_reducible rfl
      case hQ53 => exact fun _ _ _ h => h
      try simp only [Act.put, List.setIfInBounds_toArray, List.set_cons_zero, List.set_cons_succ]
      refine wpAnyH_ready (rs := [12]) (by kernel_rfl) (by simp) ?_
      refine AllReadyH.cons rfl (fun K hK => ?_) AllReadyH.nil
      go_simp
      refine hK.out _ _ ⟨((hba.cell hbw).trans p2), ((hba.cell hs4w).trans q1), ((hba.cell hs4w).trans q2), ((hba.cell hb1).trans hc1)⟩ (fun hHeld => ?_)
      clear hK K
      try simp only [Act.put, List.setIfInBounds_toArray, List.set_cons_zero, List.set_cons_succ]
      refine wpAnyH_ready (rs := [13]) (by kernel_rfl) (by simp) ?_
      refine AllReadyH.cons rfl (fun K hK => ?_) AllReadyH.nil
      go_simp
      refine (ROther_drw x (by rw [hx32]; unfold maxLen; omega) W4).mono ?_
      rintro e w7 ⟨y, rfl, hb7⟩
      go_wp2_with fail
      refine hK.out _ _ ⟨((hb7.cell hbw).trans p2), ((hb7.cell hs4w).trans q1), ((hb7.cell hs4w).trans q2), ((hb7.cell hb1).trans hc1)⟩ (fun hHeld => ?_)
      clear hK K
      try simp only [Act.put, List.setIfInBounds_toArray, List.set_cons_zero, List.set_cons_succ]
      refine take_at 14 82 (oi := ?o54) (v := ?v54) ?hi54 ?hd54 (by kernel_rfl) (by kernel_rfl) (by kernel_rfl) ?hQ54 ?hw54 ?hy54 (by assumption) ?rest54
      case hi54 => simp only [List.getElem?_toArray, List.getElem?_cons_succ, List.getElem?_cons_zero]; rfl
      case hd54 => rfl
      case hw54 => kernel_rfl
      case hy54 => intro W hW; (try dsimp only at hW); go_simp <;> with_reducible rfl
      case hQ54 => exact fun _ _ _ h => h
      try simp only [Act.put, List.setIfInBounds_toArray, List.set_cons_zero, List.set_cons_succ]
      have hgc7 := (hb7.cell (p := ⟨g2, bq, none⟩) hg2z).trans hgc2
      have hgf7 := (hb7.frozen (p := ⟨g2, bq, none⟩) hg2z).trans hgf2
      refine wpAnyH_ready (rs := [15]) (by kernel_rfl) (by simp) ?_
      refine AllReadyH.cons rfl (fun K hK => ?_) AllReadyH.nil
      go_simp
      refine hK.out _ _ ⟨(cell_far (by omega) ((hb7.cell hbw).trans p2)), (cell_far (by omega) ((hb7.cell hs4w).trans q1)), (cell_far (by omega) ((hb7.cell hs4w).trans q2)), (cell_far (by omega) ((hb7.cell hb1).trans hc1))⟩ (fun hHeld => ?_)
      clear hK K
      try simp only [Act.put, List.setIfInBounds_toArray, List.set_cons_zero, List.set_cons_succ]
      refine wpAnyH_done (by kernel_rfl) ?_ _
      have HO6 := Lib.hid ((hb7.block _ (lt_of HO4.out)).trans HO4.out)
      have HR6 := Lib.hid ((hb7.block _ (lt_of HR4.out)).trans HR4.out)
      have HB6 := Lib.hid (HB4.out.next hb7)
      obtain ⟨W5, hW5⟩ : ∃ W5, w7.setCell ⟨g2, bq, none⟩ (.string (B y)) = W5 := ⟨_, rfl⟩
      rw [hW5]
      have hK5 : Kept (fun q => q = g2) w7 W5 := hW5 ▸ (((Kept.refl (fun q => q = g2) w7).setCell (p := ⟨g2, bq, none⟩) (.inr rfl) _))
      have HO5 := Lib.hid ((hK5.block _ (lt_of HO6.out) (fun e => by have : O = g2 := e; omega)).trans HO6.out)
      have HR5 := Lib.hid ((hK5.block _ (lt_of HR6.out) (fun e => by have : w.heap.size + 1 = g2 := e; omega)).trans HR6.out)
      have HB5 := Lib.hid (HB6.out.trans (hK5.below HB6.out.size (fun q h1 e => by have : q = g2 := e; omega)))
      have hv5 : W5.ownsRow (w.heap.size + 3) 9 1 (.slice (some ⟨g1, 0, none⟩) n e1) S.length (S.map vS) := by
        rw [← hW5]
        exact ownsRow_setCell_other (ownsRow_block HV1'.out (fun q _ hq => hb7.block q hq)) (a := ⟨g2, bq, none⟩) (fun e => h12 (Option.some.inj e)) _
      have hv6 : W5.ownsRow (w.heap.size + 3) 9 1 (.slice (some ⟨g2, 0, none⟩) n e2) (H.set bq y).length ((H.set bq y).map vS) := by
        rw [List.length_set, HLH.out, List.map_set, ← hW5]
        exact ((ownsRow_block HV2.out (fun q _ hq => hb7.block q hq)).stored bq (.string (B y))).1
      have hv7 : W5.ownsRow (w.heap.size + 3) 9 1 (.slice (some ⟨g3, 0, none⟩) R.length e3) R.length (R.map vS) := by
        rw [← hW5]
        exact ownsRow_setCell_other (ownsRow_block HV3.out (fun q _ hq => hb7.block q hq)) (a := ⟨g2, bq, none⟩) (fun e => h23 (Option.some.inj e).symm) _
      have HV5 := Lib.hid hv5
      have HV6 := Lib.hid hv6
      have HV7 := Lib.hid hv7
      clear hv5 hv6 hv7 hW5 hK5
      have hbw5 : O < W5.heap.size := lt_of HO5.out
      have hr5w : w.heap.size + 1 < W5.heap.size := lt_of HR5.out
      obtain ⟨s0, s1, s2, s3⟩ := sigC HO5.out
      obtain ⟨u0, u1, u2, u3⟩ := sigC HR5.out
      have gr0 : W5.frozen? ⟨w.heap.size + 1, 0, none⟩ = false := free_of HR5.out _
      have gr1 : W5.frozen? ⟨w.heap.size + 1, 1, none⟩ = false := free_of HR5.out _
      have gr2 : W5.frozen? ⟨w.heap.size + 1, 2, none⟩ = false := free_of HR5.out _
      have gr3 : W5.frozen? ⟨w.heap.size + 1, 3, none⟩ = false := free_of HR5.out _
      go_wp2
      refine ret_whole (p := 6) (ty := 34) rfl (w.heap.size + 1) 34 _ (0, 0) _ rfl (set_of (set_of (set_of (set_of HR5.out 0 _) 1 _) 2 _) 3 _) Tryd.underlying34 rfl (by kernel_rfl) rfl ?_
      exact HEnd.out W5 _ _ _ _ (S) (H.set bq y) R _ _ (HKR.out W5 _ _ _ _) HV5.out HV6.out HV7.out HB5.out hL1 (by rw [List.length_set]; exact hL2) hL3 rfl
    · have h1n : (1 : Int) ≤ (n : Int) := by omega
      have he1 : ¬ e1 = 1 := by omega
      go_wp2
      have hne : w.heap.size + 1 ≠ O := by omega
      have hKF := ((Kept.refl (fun q => w.heap.size ≤ q ∧ q < w.heap.size + 3) W4).setCell (p := ⟨O, 1, none⟩) (.inr ⟨by show w.heap.size ≤ O; omega, by show O < w.heap.size + 3; omega⟩) (.slice (some ⟨g1, 1, none⟩) (n - 1) (e1 - 1))).trans (HKR.out _ (.int .i64 (i : Int)) (.slice (some ⟨g1, 1, none⟩) (n - 1) (e1 - 1)) (.slice (some ⟨g2, 0, none⟩) n e2) (.slice (some ⟨g3, 0, none⟩) R.length e3))
      refine ret_whole (p := 6) (ty := 34) rfl (w.heap.size + 1) 34 _ (0, 0) _ rfl (set_of (set_of (set_of (set_of (set_other (p := ⟨O, 1, none⟩) HR4.out hne) 0 _) 1 _) 2 _) 3 _) Tryd.underlying34 rfl (by kernel_rfl) rfl ?_
      have hk : ∀ q, w.heap.size + 3 ≤ q → q < W4.heap.size → _ := fun q h1 h2 => hKF.block q h2 (fun h => by omega)
      exact ⟨_, _, S.drop 1, H, R, rfl, ⟨_, _, _, rfl, IsSl.rest (ownsRow_block HV1.out hk) HLS.out (by omega) (by unfold maxLen; omega), IsSl.of_owns (by rw [List.length_map]; exact ownsRow_block HV2'.out hk) (by rw [List.length_map]; exact hL2), IsSl.of_owns (by rw [List.length_map]; exact ownsRow_block HV3.out hk) (by rw [List.length_map]; exact hL3)⟩, HB4.out.trans (hKF.below HB4.out.size (fun q h1 h => by omega))⟩
    · obtain ⟨hb', ho', hc', hv1, hb1, hc1⟩ := (H2.out.below HB4.out).text HLH.out hn0
      simp only [Value.slice.injEq, Option.some.injEq, Addr.mk.injEq, true_and, and_true] at hv1
      obtain ⟨⟨rfl, rfl⟩, rfl⟩ := hv1
      obtain ⟨x, hx⟩ : ∃ x, H.getD 0 [] = x := ⟨_, rfl⟩
      rw [hx, Nat.add_zero] at hc1
      have hnI : (0 : Int) < (n : Int) := by omega
      have hz0 : w.heap.size + 3 ≤ W4.heap.size := by omega
      clear hx
      go_wp2
      go_region_law
        (first
          | (refine step_append_two rfl _ _ 32 rfl (w.heap.size + 3) 9 i0 (.string ⟨#[]⟩) 1 16 Tryd.underlying32 Hi.out Hz0.out Hz1.out Hz2.out rfl (by decide) (.slice (some ⟨g2, 0, none⟩) n e2) n (H.map vS) rfl (own_drew (HV2.out.alloc (.cells #[.string (B x)] 9))) ⟨W4.heap.size, 0, none⟩ 1 1 [vS x] rfl rfl (news_drew (news_one (new_of W4 (.cells #[.string (B x)] 9)))) (by simp [vS, Value.oneCell']) (by unfold maxLen; omega) (by omega) (by simp; omega) (by decide) ?_
             intro v5 w5 ho5 hg5' hw5
             have hg5 : (W4.alloc (.cells #[.string (B x)] 9)).grownBy w5 ((.slice (some ⟨g2, 0, none⟩) n e2) : Value).ownBlock := ⟨hg5'.os, hg5'.tape, hg5'.output, hg5'.size, hg5'.block⟩
             clear hg5'
             obtain ⟨hp5, ha5, hk5⟩ := grown_beside (w3 := W4) (HV2.out.alloc _) HV1'.out (fun q ha hb => h12 ((Option.some.inj hb).trans (Option.some.inj ha).symm)) ho5 hg5 hw5
             obtain ⟨hq5, hb5, _⟩ := grown_beside (w3 := W4) (HV2.out.alloc _) HV3.out (fun q ha hb => h23 ((Option.some.inj ha).trans (Option.some.inj hb).symm)) ho5 hg5 hw5
             rw [← map_snoc] at ho5
             obtain ⟨ra5, rc5, rfl⟩ := own_form ho5
             have HX5 := Lib.hid ho5
             have HP5 := Lib.hid hp5
             have HQ5 := Lib.hid hq5
             have hS5 : w5.heap[O]? = _ := (hk5 O (by omega) (lt_of HO4.out)).trans HO4.out
             have hR5 : w5.heap[w.heap.size + 1]? = _ := (hk5 _ (by omega) (lt_of HR4.out)).trans HR4.out
             have HB6 := Lib.hid (((HB4.out.alloc HB4.out.size _).grown hg5 (by simp; omega) (fun q hq => by have := (HV2.out.lt q hq).1; omega)))
             have hcs5 : w5.cell? ⟨O, 2, none⟩ = some (.slice (some ⟨g2, 0, none⟩) n e2) := cell_of hS5 2
             have hfs5 : w5.frozen? ⟨O, 2, none⟩ = false := free_of hS5 _
             have HS6 := Lib.hid hS5
             have HR6 := Lib.hid hR5
             clear ho5 hg5 hw5 hp5 ha5 hk5 hS5 hR5 hq5 hb5))
      all_goals
        obtain ⟨W5, hW5⟩ : ∃ W5, w5.setCell ⟨O, 2, none⟩ (.slice ra5 (n + 1) rc5) = W5 := ⟨_, rfl⟩
        rw [hW5]
        have hK6 : Kept (Licit.One O) w5 W5 := hW5 ▸ kept_set O 2 w5 _
        have hne : ∀ q, w.heap.size + 3 ≤ q → q < w5.heap.size → ¬ Licit.One O q := fun q hq _ e => by have : q = O := e; omega
        have HO5 := Lib.hid (hW5 ▸ set_of HS6.out 2 (.slice ra5 (n + 1) rc5))
        have HR5 := Lib.hid ((hK6.block _ (lt_of HR6.out) (fun e => by have : w.heap.size + 1 = O := e; omega)).trans HR6.out)
        have HB5 := Lib.hid (HB6.out.trans (hK6.below HB6.out.size (fun q h1 e => by have : q = O := e; omega)))
        have HX6 := Lib.hid (show W5.ownsRow (w.heap.size + 3) 9 1 (.slice ra5 (n + 1) rc5) (H ++ [x]).length ((H ++ [x]).map vS) by rw [List.length_append, HLH.out]; exact ownsRow_block HX5.out (fun q hq hl => hK6.block q hl (hne q hq hl)))
        have HP6 := Lib.hid (ownsRow_block HP5.out (fun q hq hl => hK6.block q hl (hne q hq hl)))
        have HQ6 := Lib.hid (ownsRow_block HQ5.out (fun q hq hl => hK6.block q hl (hne q hq hl)))
        clear hW5 hK6 hne hcs5 hfs5
        have hbw5 : O < W5.heap.size := lt_of HO5.out
        have hr5w : w.heap.size + 1 < W5.heap.size := lt_of HR5.out
        obtain ⟨s0, s1, s2, s3⟩ := sigC HO5.out
        obtain ⟨u0, u1, u2, u3⟩ := sigC HR5.out
        have gr0 : W5.frozen? ⟨w.heap.size + 1, 0, none⟩ = false := free_of HR5.out _
        have gr1 : W5.frozen? ⟨w.heap.size + 1, 1, none⟩ = false := free_of HR5.out _
        have gr2 : W5.frozen? ⟨w.heap.size + 1, 2, none⟩ = false := free_of HR5.out _
        have gr3 : W5.frozen? ⟨w.heap.size + 1, 3, none⟩ = false := free_of HR5.out _
        go_wp2
        refine ret_whole (p := 6) (ty := 34) rfl (w.heap.size + 1) 34 _ (0, 0) _ rfl (set_of (set_of (set_of (set_of HR5.out 0 _) 1 _) 2 _) 3 _) Tryd.underlying34 rfl (by kernel_rfl) rfl ?_
        exact HEnd.out W5 _ _ _ _ S (H ++ [x]) R _ _ (HKR.out W5 _ _ _ _) HP6.out HX6.out HQ6.out HB5.out hL1 (by rw [List.length_append]; rw [HLH.out]; unfold maxLen; simp; omega) hL3 rfl
    · obtain ⟨hb', ho', hc', hv1, hb1, hc1⟩ := (H2.out.below HB4.out).text HLH.out hn0
      simp only [Value.slice.injEq, Option.some.injEq, Addr.mk.injEq, true_and, and_true] at hv1
      obtain ⟨⟨rfl, rfl⟩, rfl⟩ := hv1
      obtain ⟨x, hx⟩ : ∃ x, H.getD 0 [] = x := ⟨_, rfl⟩
      rw [hx, Nat.add_zero] at hc1
      have hnI : (0 : Int) < (n : Int) := by omega
      have hz0 : w.heap.size + 3 ≤ W4.heap.size := by omega
      clear hx
      go_wp2
      go_region_law
        (first
          | (refine step_append_two rfl _ _ 32 rfl (w.heap.size + 3) 9 i0 (.string ⟨#[]⟩) 1 16 Tryd.underlying32 Hi.out Hz0.out Hz1.out Hz2.out rfl (by decide) (.slice (some ⟨g3, 0, none⟩) R.length e3) R.length (R.map vS) rfl (own_drew (HV3.out.alloc (.cells #[.string (B x)] 9))) ⟨W4.heap.size, 0, none⟩ 1 1 [vS x] rfl rfl (news_drew (news_one (new_of W4 (.cells #[.string (B x)] 9)))) (by simp [vS, Value.oneCell']) (by unfold maxLen; omega) (by omega) (by simp; omega) (by decide) ?_
             intro v5 w5 ho5 hg5' hw5
             have hg5 : (W4.alloc (.cells #[.string (B x)] 9)).grownBy w5 ((.slice (some ⟨g3, 0, none⟩) R.length e3) : Value).ownBlock := ⟨hg5'.os, hg5'.tape, hg5'.output, hg5'.size, hg5'.block⟩
             clear hg5'
             obtain ⟨hp5, ha5, hk5⟩ := grown_beside (w3 := W4) (HV3.out.alloc _) HV1'.out (fun q ha hb => h13 ((Option.some.inj hb).trans (Option.some.inj ha).symm)) ho5 hg5 hw5
             obtain ⟨hq5, hb5, _⟩ := grown_beside (w3 := W4) (HV3.out.alloc _) HV2'.out (fun q ha hb => h23 ((Option.some.inj hb).trans (Option.some.inj ha).symm)) ho5 hg5 hw5
             rw [← map_snoc] at ho5
             obtain ⟨ra5, rc5, rfl⟩ := own_form ho5
             have HX5 := Lib.hid ho5
             have HP5 := Lib.hid hp5
             have HQ5 := Lib.hid hq5
             have hS5 : w5.heap[O]? = _ := (hk5 O (by omega) (lt_of HO4.out)).trans HO4.out
             have hR5 : w5.heap[w.heap.size + 1]? = _ := (hk5 _ (by omega) (lt_of HR4.out)).trans HR4.out
             have HB6 := Lib.hid (((HB4.out.alloc HB4.out.size _).grown hg5 (by simp; omega) (fun q hq => by have := (HV3.out.lt q hq).1; omega)))
             have hcs5 : w5.cell? ⟨O, 3, none⟩ = some (.slice (some ⟨g3, 0, none⟩) R.length e3) := cell_of hS5 3
             have hfs5 : w5.frozen? ⟨O, 3, none⟩ = false := free_of hS5 _
             have HS6 := Lib.hid hS5
             have HR6 := Lib.hid hR5
             clear ho5 hg5 hw5 hp5 ha5 hk5 hS5 hR5 hq5 hb5))
      all_goals
        obtain ⟨W5, hW5⟩ : ∃ W5, w5.setCell ⟨O, 3, none⟩ (.slice ra5 (R.length + 1) rc5) = W5 := ⟨_, rfl⟩
        rw [hW5]
        have hK6 : Kept (Licit.One O) w5 W5 := hW5 ▸ kept_set O 3 w5 _
        have hne : ∀ q, w.heap.size + 3 ≤ q → q < w5.heap.size → ¬ Licit.One O q := fun q hq _ e => by have : q = O := e; omega
        have HO5 := Lib.hid (hW5 ▸ set_of HS6.out 3 (.slice ra5 (R.length + 1) rc5))
        have HR5 := Lib.hid ((hK6.block _ (lt_of HR6.out) (fun e => by have : w.heap.size + 1 = O := e; omega)).trans HR6.out)
        have HB5 := Lib.hid (HB6.out.trans (hK6.below HB6.out.size (fun q h1 e => by have : q = O := e; omega)))
        have HX6 := Lib.hid (show W5.ownsRow (w.heap.size + 3) 9 1 (.slice ra5 (R.length + 1) rc5) (R ++ [x]).length ((R ++ [x]).map vS) by rw [List.length_append, show (R).length = R.length from rfl]; exact ownsRow_block HX5.out (fun q hq hl => hK6.block q hl (hne q hq hl)))
        have HP6 := Lib.hid (ownsRow_block HP5.out (fun q hq hl => hK6.block q hl (hne q hq hl)))
        have HQ6 := Lib.hid (ownsRow_block HQ5.out (fun q hq hl => hK6.block q hl (hne q hq hl)))
        clear hW5 hK6 hne hcs5 hfs5
        have hbw5 : O < W5.heap.size := lt_of HO5.out
        have hr5w : w.heap.size + 1 < W5.heap.size := lt_of HR5.out
        obtain ⟨s0, s1, s2, s3⟩ := sigC HO5.out
        obtain ⟨u0, u1, u2, u3⟩ := sigC HR5.out
        have gr0 : W5.frozen? ⟨w.heap.size + 1, 0, none⟩ = false := free_of HR5.out _
        have gr1 : W5.frozen? ⟨w.heap.size + 1, 1, none⟩ = false := free_of HR5.out _
        have gr2 : W5.frozen? ⟨w.heap.size + 1, 2, none⟩ = false := free_of HR5.out _
        have gr3 : W5.frozen? ⟨w.heap.size + 1, 3, none⟩ = false := free_of HR5.out _
        go_wp2
        refine ret_whole (p := 6) (ty := 34) rfl (w.heap.size + 1) 34 _ (0, 0) _ rfl (set_of (set_of (set_of (set_of HR5.out 0 _) 1 _) 2 _) 3 _) Tryd.underlying34 rfl (by kernel_rfl) rfl ?_
        exact HEnd.out W5 _ _ _ _ S H (R ++ [x]) _ _ (HKR.out W5 _ _ _ _) HP6.out HQ6.out HX6.out HB5.out hL1 hL2 (by rw [List.length_append]; unfold maxLen; simp; omega) rfl
    · obtain ⟨sb', so', sc', hv1, hb1, hc1⟩ := (H1.out.below HB4.out).text HLS.out hbn
      simp only [Value.slice.injEq, Option.some.injEq, Addr.mk.injEq, true_and, and_true] at hv1
      obtain ⟨⟨rfl, rfl⟩, rfl⟩ := hv1
      obtain ⟨x, hx⟩ : ∃ x, S.getD bq [] = x := ⟨_, rfl⟩
      rw [hx] at hc1
      have hx32 : x.length = 32 := by rw [← hx]; exact getD_32 H32.out (by rw [HLS.out]; exact hbn)
      have hsz : (B x).size = 32 := hx32
      have hbI : (bq : Int) < (n : Int) := by omega
      have hgc := own_cell HV1.out (i := bq) (by rw [HLS.out]; exact hbn)
      have hgf := own_free HV1.out (i := bq) hbn
      unfold vS at hgc
      clear hx
      go_wp2
      refine wp_region_held_drew (S := (fun W : World => W.cell? ⟨O, 1, none⟩ = some (.slice (some ⟨g1, 0, none⟩) n e1) ∧ W.cell? ⟨w.heap.size, 1, none⟩ = some (.slice (some ⟨sb, so, none⟩) n sc) ∧ W.cell? ⟨sb, so + bq, none⟩ = some (.string (B x)))) (by kernel_rfl) ⟨p1, q1, hc1⟩ (fun hHeld => ?_)
      refine take_at 0 113 (oi := ?o55) (v := ?v55) ?hi55 ?hd55 (by kernel_rfl) (by kernel_rfl) (by kernel_rfl) ?hQ55 ?hw55 ?hy55 (by assumption) ?rest55
      case hi55 => simp only [List.getElem?_toArray, List.getElem?_cons_zero]; rfl
      case hd55 => rfl
      case hw55 => kernel_rfl
      case hy55 => intro W hW; (try dsimp only at hW); go_simp <;> with_reducible rfl
      case hQ55 => exact fun _ _ _ h => h
      try simp only [Act.put, List.setIfInBounds_toArray, List.set_cons_zero, List.set_cons_succ]
      refine take_at 1 114 (oi := ?o56) (v := ?v56) ?hi56 ?hd56 (by kernel_rfl) (by kernel_rfl) (by kernel_rfl) ?hQ56 ?hw56 ?hy56 (by assumption) ?rest56
      case hi56 => simp only [List.getElem?_toArray, List.getElem?_cons_succ, List.getElem?_cons_zero]; rfl
      case hd56 => rfl
      case hw56 => kernel_rfl
      case hy56 => intro W hW; (try dsimp only at hW); go_simp <;> with_reducible rfl
      case hQ56 => exact fun _ _ _ h => h
      try simp only [Act.put, List.setIfInBounds_toArray, List.set_cons_zero, List.set_cons_succ]
      refine take_at 2 115 (oi := ?o57) (v := ?v57) ?hi57 ?hd57 (by kernel_rfl) (by kernel_rfl) (by kernel_rfl) ?hQ57 ?hw57 ?hy57 (by assumption) ?rest57
      case hi57 => simp only [List.getElem?_toArray, List.getElem?_cons_succ, List.getElem?_cons_zero]; rfl
      case hd57 => rfl
      case hw57 => kernel_rfl
      case hy57 => intro W hW; (try dsimp only at hW); go_simp <;> with_reducible rfl
      case hQ57 => exact fun _ _ _ h => h
      try simp only [Act.put, List.setIfInBounds_toArray, List.set_cons_zero, List.set_cons_succ]
      refine take_at 3 116 (oi := ?o58) (v := ?v58) ?hi58 ?hd58 (by kernel_rfl) (by kernel_rfl) (by kernel_rfl) ?hQ58 ?hw58 ?hy58 (by assumption) ?rest58
      case hi58 => simp only [List.getElem?_toArray, List.getElem?_cons_succ, List.getElem?_cons_zero]; rfl
      case hd58 => rfl
      case hw58 => kernel_rfl
      case hy58 => intro W hW; (try dsimp only at hW); go_simp <;> with_reducible rfl
      case hQ58 => exact fun _ _ _ h => h
      try simp only [Act.put, List.setIfInBounds_toArray, List.set_cons_zero, List.set_cons_succ]
      refine take_at 4 117 (oi := ?o59) (v := ?v59) ?hi59 ?hd59 (by kernel_rfl) (by kernel_rfl) (by kernel_rfl) ?hQ59 ?hw59 ?hy59 (by assumption) ?rest59
      case hi59 => simp only [List.getElem?_toArray, List.getElem?_cons_succ, List.getElem?_cons_zero]; rfl
      case hd59 => rfl
      case hw59 => kernel_rfl
      case hy59 => intro W hW; (try dsimp only at hW); go_simp <;> with_reducible rfl
      case hQ59 => exact fun _ _ _ h => h
      try simp only [Act.put, List.setIfInBounds_toArray, List.set_cons_zero, List.set_cons_succ]
      refine take_at 5 118 (oi := ?o60) (v := ?v60) ?hi60 ?hd60 (by kernel_rfl) (by kernel_rfl) (by kernel_rfl) ?hQ60 ?hw60 ?hy60 (by assumption) ?rest60
      case hi60 => simp only [List.getElem?_toArray, List.getElem?_cons_succ, List.getElem?_cons_zero]; rfl
      case hd60 => rfl
      case hw60 => kernel_rfl
      case hy60 => intro W hW; (try dsimp only at hW); go_simp <;> with_reducible rfl
      case hQ60 => exact fun _ _ _ h => h
      try simp only [Act.put, List.setIfInBounds_toArray, List.set_cons_zero, List.set_cons_succ]
      refine take_at 6 119 (oi := ?o61) (v := ?v61) ?hi61 ?hd61 (by kernel_rfl) (by kernel_rfl) (by kernel_rfl) ?hQ61 ?hw61 ?hy61 (by assumption) ?rest61
      case hi61 => simp only [List.getElem?_toArray, List.getElem?_cons_succ, List.getElem?_cons_zero]; rfl
      case hd61 => rfl
      case hw61 => kernel_rfl
      case hy61 => intro W hW; (try dsimp only at hW); go_simp <;> with_reducible rfl
      case hQ61 => exact fun _ _ _ h => h
      try simp only [Act.put, List.setIfInBounds_toArray, List.set_cons_zero, List.set_cons_succ]
      refine take_at 7 120 (oi := ?o62) (v := ?v62) ?hi62 ?hd62 (by kernel_rfl) (by kernel_rfl) (by kernel_rfl) ?hQ62 ?hw62 ?hy62 (by assumption) ?rest62
      case hi62 => simp only [List.getElem?_toArray, List.getElem?_cons_succ, List.getElem?_cons_zero]; rfl
      case hd62 => rfl
      case hw62 => kernel_rfl
      case hy62 => intro W hW; (try dsimp only at hW); go_simp <;> with_reducible rfl
      case hQ62 => exact fun _ _ _ h => h
      try simp only [Act.put, List.setIfInBounds_toArray, List.set_cons_zero, List.set_cons_succ]
      refine take_at 8 121 (oi := ?o63) (v := ?v63) ?hi63 ?hd63 (by kernel_rfl) (by kernel_rfl) (by kernel_rfl) ?hQ63 ?hw63 ?hy63 (by assumption) ?rest63
      case hi63 => simp only [List.getElem?_toArray, List.getElem?_cons_succ, List.getElem?_cons_zero]; rfl
      case hd63 => rfl
      case hw63 => kernel_rfl
      case hy63 => intro W hW; (try dsimp only at hW); go_simp <;> with_reducible rfl
      case hQ63 => exact fun _ _ _ h => h
      try simp only [Act.put, List.setIfInBounds_toArray, List.set_cons_zero, List.set_cons_succ]
      refine take_at 9 122 (oi := ?o64) (v := ?v64) ?hi64 ?hd64 (by kernel_rfl) (by kernel_rfl) (by kernel_rfl) ?hQ64 ?hw64 ?hy64 (by assumption) ?rest64
      case hi64 => simp only [List.getElem?_toArray, List.getElem?_cons_succ, List.getElem?_cons_zero]; rfl
      case hd64 => rfl
      case hw64 => kernel_rfl
      case hy64 => intro W hW; (try dsimp only at hW); go_simp <;> with_reducible rfl
      case hQ64 => exact fun _ _ _ h => h
      try simp only [Act.put, List.setIfInBounds_toArray, List.set_cons_zero, List.set_cons_succ]
      refine wpAnyH_ready (rs := [10]) (by kernel_rfl) (by simp) ?_
      refine AllReadyH.cons rfl (fun K hK => ?_) AllReadyH.nil
      go_simp
      refine hK.out _ _ ⟨cell_far (by omega) p1, cell_far (by omega) q1, cell_far (by omega) hc1⟩ (fun hHeld => ?_)
      clear hK K
      try simp only [Act.put, List.setIfInBounds_toArray, List.set_cons_zero, List.set_cons_succ]
      refine wpAnyH_done (by kernel_rfl) ?_ _
      have HO6 := HO4
      have HR6 := HR4
      have HB6 := HB4
      obtain ⟨W5, hW5⟩ : ∃ W5, (W4.setCell ⟨g1, bq, none⟩ (.string (B x ++ ⟨#[120]⟩))).drew = W5 := ⟨_, rfl⟩
      rw [hW5]
      have hK5 : Kept (fun q => q = g1) W4 W5 := hW5 ▸ (((Kept.refl (fun q => q = g1) W4).setCell (p := ⟨g1, bq, none⟩) (.inr rfl) _).drew)
      have HO5 := Lib.hid ((hK5.block _ (lt_of HO6.out) (fun e => by have : O = g1 := e; omega)).trans HO6.out)
      have HR5 := Lib.hid ((hK5.block _ (lt_of HR6.out) (fun e => by have : w.heap.size + 1 = g1 := e; omega)).trans HR6.out)
      have HB5 := Lib.hid (HB6.out.trans (hK5.below HB6.out.size (fun q h1 e => by have : q = g1 := e; omega)))
      have hv5 : W5.ownsRow (w.heap.size + 3) 9 1 (.slice (some ⟨g1, 0, none⟩) n e1) (S.set bq (x ++ [120])).length ((S.set bq (x ++ [120])).map vS) := by
        rw [List.length_set, HLS.out, List.map_set, ← hW5]
        exact (HV1.out.stored bq (.string (B x ++ ⟨#[120]⟩))).1.drew
      have hv6 : W5.ownsRow (w.heap.size + 3) 9 1 (.slice (some ⟨g2, 0, none⟩) n e2) H.length (H.map vS) := by
        rw [← hW5]
        exact (ownsRow_setCell_other HV2'.out (a := ⟨g1, bq, none⟩) (fun e => h12 (Option.some.inj e).symm) _).drew
      have hv7 : W5.ownsRow (w.heap.size + 3) 9 1 (.slice (some ⟨g3, 0, none⟩) R.length e3) R.length (R.map vS) := by
        rw [← hW5]
        exact (ownsRow_setCell_other HV3.out (a := ⟨g1, bq, none⟩) (fun e => h13 (Option.some.inj e).symm) _).drew
      have HV5 := Lib.hid hv5
      have HV6 := Lib.hid hv6
      have HV7 := Lib.hid hv7
      clear hv5 hv6 hv7 hW5 hK5
      have hbw5 : O < W5.heap.size := lt_of HO5.out
      have hr5w : w.heap.size + 1 < W5.heap.size := lt_of HR5.out
      obtain ⟨s0, s1, s2, s3⟩ := sigC HO5.out
      obtain ⟨u0, u1, u2, u3⟩ := sigC HR5.out
      have gr0 : W5.frozen? ⟨w.heap.size + 1, 0, none⟩ = false := free_of HR5.out _
      have gr1 : W5.frozen? ⟨w.heap.size + 1, 1, none⟩ = false := free_of HR5.out _
      have gr2 : W5.frozen? ⟨w.heap.size + 1, 2, none⟩ = false := free_of HR5.out _
      have gr3 : W5.frozen? ⟨w.heap.size + 1, 3, none⟩ = false := free_of HR5.out _
      go_wp2
      refine ret_whole (p := 6) (ty := 34) rfl (w.heap.size + 1) 34 _ (0, 0) _ rfl (set_of (set_of (set_of (set_of HR5.out 0 _) 1 _) 2 _) 3 _) Tryd.underlying34 rfl (by kernel_rfl) rfl ?_
      exact HEnd.out W5 _ _ _ _ (S.set bq (x ++ [120])) H R _ _ (HKR.out W5 _ _ _ _) HV5.out HV6.out HV7.out HB5.out (by rw [List.length_set]; exact hL1) hL2 hL3 rfl
    · go_wp2
      have hne : w.heap.size + 1 ≠ O := by omega
      refine ret_whole (p := 6) (ty := 34) rfl (w.heap.size + 1) 34 _ (0, 0) _ rfl (set_of (set_of (set_of (set_of (set_other (p := ⟨O, 0, none⟩) HR4.out hne) 0 _) 1 _) 2 _) 3 _) Tryd.underlying34 rfl (by kernel_rfl) rfl ?_
      refine HEnd.out W4 _ _ _ _ S H R _ _ ((((Kept.refl _ W4).setCell (p := ⟨O, 0, none⟩) (.inr ⟨by show w.heap.size ≤ O; omega, by show O < w.heap.size + 3; omega⟩) _)).trans (HKR.out _ _ _ _ _)) HV1'.out HV2'.out HV3.out HB4.out hL1 hL2 hL3 rfl
    · obtain ⟨hb', ho', hc', hv1, hb1, hc1⟩ := (H2.out.below HB4.out).text HLH.out hn0
      simp only [Value.slice.injEq, Option.some.injEq, Addr.mk.injEq, true_and, and_true] at hv1
      obtain ⟨⟨rfl, rfl⟩, rfl⟩ := hv1
      obtain ⟨x, hx⟩ : ∃ x, H.getD 0 [] = x := ⟨_, rfl⟩
      rw [hx, Nat.add_zero] at hc1
      have hnI : (0 : Int) < (n : Int) := by omega
      have hrI : (0 : Int) < (R.length : Int) := by omega
      obtain ⟨rq, hrq⟩ : ∃ rq, at_ % R.length = rq := ⟨_, rfl⟩
      have hrn : rq < R.length := by rw [← hrq]; exact Nat.mod_lt _ hr0
      have hrm : (at_ : Int) % (R.length : Int) = (rq : Int) := by rw [← hrq]; simp
      have hrt : (at_ : Int).tmod (R.length : Int) = (rq : Int) := by rw [Int.tmod_eq_emod_of_nonneg (by omega), hrm]
      have hr1 : ¬ (R.length : Int) = 0 := by omega
      have hr2 : ¬ R = [] := fun e => by rw [e] at hr0; exact absurd hr0 (by simp)
      have hrnI : (rq : Int) < (R.length : Int) := by omega
      have hgc := own_cell HV3.out (i := rq) hrn
      have hgf := own_free HV3.out (i := rq) hrn
      unfold vS at hgc
      clear hx hrq
      go_wp2
      refine wp_region_held_drew (S := (fun W : World => W.cell? ⟨O, 3, none⟩ = some (.slice (some ⟨g3, 0, none⟩) R.length e3) ∧ W.cell? ⟨w.heap.size, 2, none⟩ = some (.slice (some ⟨hb, ho, none⟩) n hc) ∧ W.cell? ⟨hb, ho, none⟩ = some (.string (B x)))) (by kernel_rfl) ⟨p3, q2, hc1⟩ (fun hHeld => ?_)
      refine take_at 0 135 (oi := ?o65) (v := ?v65) ?hi65 ?hd65 (by kernel_rfl) (by kernel_rfl) (by kernel_rfl) ?hQ65 ?hw65 ?hy65 (by assumption) ?rest65
      case hi65 => simp only [List.getElem?_toArray, List.getElem?_cons_zero]; rfl
      case hd65 => rfl
      case hw65 => kernel_rfl
      case hy65 => intro W hW; (try dsimp only at hW); go_simp <;> with_reducible rfl
      case hQ65 => exact fun _ _ _ h => h
      try simp only [Act.put, List.setIfInBounds_toArray, List.set_cons_zero, List.set_cons_succ]
      refine take_at 1 136 (oi := ?o66) (v := ?v66) ?hi66 ?hd66 (by kernel_rfl) (by kernel_rfl) (by kernel_rfl) ?hQ66 ?hw66 ?hy66 (by assumption) ?rest66
      case hi66 => simp only [List.getElem?_toArray, List.getElem?_cons_succ, List.getElem?_cons_zero]; rfl
      case hd66 => rfl
      case hw66 => kernel_rfl
      case hy66 => intro W hW; (try dsimp only at hW); go_simp <;> with_reducible rfl
      case hQ66 => exact fun _ _ _ h => h
      try simp only [Act.put, List.setIfInBounds_toArray, List.set_cons_zero, List.set_cons_succ]
      refine take_at 2 137 (oi := ?o67) (v := ?v67) ?hi67 ?hd67 (by kernel_rfl) (by kernel_rfl) (by kernel_rfl) ?hQ67 ?hw67 ?hy67 (by assumption) ?rest67
      case hi67 => simp only [List.getElem?_toArray, List.getElem?_cons_succ, List.getElem?_cons_zero]; rfl
      case hd67 => rfl
      case hw67 => kernel_rfl
      case hy67 => intro W hW; (try dsimp only at hW); go_simp <;> with_reducible rfl
      case hQ67 => exact fun _ _ _ h => h
      try simp only [Act.put, List.setIfInBounds_toArray, List.set_cons_zero, List.set_cons_succ]
      refine take_at 3 138 (oi := ?o68) (v := ?v68) ?hi68 ?hd68 (by kernel_rfl) (by kernel_rfl) (by kernel_rfl) ?hQ68 ?hw68 ?hy68 (by assumption) ?rest68
      case hi68 => simp only [List.getElem?_toArray, List.getElem?_cons_succ, List.getElem?_cons_zero]; rfl
      case hd68 => rfl
      case hw68 => kernel_rfl
      case hy68 => intro W hW; (try dsimp only at hW); go_simp <;> with_reducible rfl
      case hQ68 => exact fun _ _ _ h => h
      try simp only [Act.put, List.setIfInBounds_toArray, List.set_cons_zero, List.set_cons_succ]
      refine take_at 4 139 (oi := ?o69) (v := ?v69) ?hi69 ?hd69 (by kernel_rfl) (by kernel_rfl) (by kernel_rfl) ?hQ69 ?hw69 ?hy69 (by assumption) ?rest69
      case hi69 => simp only [List.getElem?_toArray, List.getElem?_cons_succ, List.getElem?_cons_zero]; rfl
      case hd69 => rfl
      case hw69 => kernel_rfl
      case hy69 => intro W hW; (try dsimp only at hW); go_simp <;> with_reducible rfl
      case hQ69 => exact fun _ _ _ h => h
      try simp only [Act.put, List.setIfInBounds_toArray, List.set_cons_zero, List.set_cons_succ]
      refine take_at 5 140 (oi := ?o70) (v := ?v70) ?hi70 ?hd70 (by kernel_rfl) (by kernel_rfl) (by kernel_rfl) ?hQ70 ?hw70 ?hy70 (by assumption) ?rest70
      case hi70 => simp only [List.getElem?_toArray, List.getElem?_cons_succ, List.getElem?_cons_zero]; rfl
      case hd70 => rfl
      case hw70 => kernel_rfl
      case hy70 => intro W hW; (try dsimp only at hW); go_simp <;> with_reducible rfl
      case hQ70 => exact fun _ _ _ h => h
      try simp only [Act.put, List.setIfInBounds_toArray, List.set_cons_zero, List.set_cons_succ]
      refine take_at 6 141 (oi := ?o71) (v := ?v71) ?hi71 ?hd71 (by kernel_rfl) (by kernel_rfl) (by kernel_rfl) ?hQ71 ?hw71 ?hy71 (by assumption) ?rest71
      case hi71 => simp only [List.getElem?_toArray, List.getElem?_cons_succ, List.getElem?_cons_zero]; rfl
      case hd71 => rfl
      case hw71 => kernel_rfl
      case hy71 => intro W hW; (try dsimp only at hW); go_simp <;> with_reducible rfl
      case hQ71 => exact fun _ _ _ h => h
      try simp only [Act.put, List.setIfInBounds_toArray, List.set_cons_zero, List.set_cons_succ]
      refine take_at 7 142 (oi := ?o72) (v := ?v72) ?hi72 ?hd72 (by kernel_rfl) (by kernel_rfl) (by kernel_rfl) ?hQ72 ?hw72 ?hy72 (by assumption) ?rest72
      case hi72 => simp only [List.getElem?_toArray, List.getElem?_cons_succ, List.getElem?_cons_zero]; rfl
      case hd72 => rfl
      case hw72 => kernel_rfl
      case hy72 => intro W hW; (try dsimp only at hW); go_simp <;> with_reducible rfl
      case hQ72 => exact fun _ _ _ h => h
      try simp only [Act.put, List.setIfInBounds_toArray, List.set_cons_zero, List.set_cons_succ]
      refine take_at 8 143 (oi := ?o73) (v := ?v73) ?hi73 ?hd73 (by kernel_rfl) (by kernel_rfl) (by kernel_rfl) ?hQ73 ?hw73 ?hy73 (by assumption) ?rest73
      case hi73 => simp only [List.getElem?_toArray, List.getElem?_cons_succ, List.getElem?_cons_zero]; rfl
      case hd73 => rfl
      case hw73 => kernel_rfl
      case hy73 => intro W hW; (try dsimp only at hW); go_simp <;> with_reducible rfl
      case hQ73 => exact fun _ _ _ h => h
      try simp only [Act.put, List.setIfInBounds_toArray, List.set_cons_zero, List.set_cons_succ]
      refine take_at 9 144 (oi := ?o74) (v := ?v74) ?hi74 ?hd74 (by kernel_rfl) (by kernel_rfl) (by kernel_rfl) ?hQ74 ?hw74 ?hy74 (by assumption) ?rest74
      case hi74 => simp only [List.getElem?_toArray, List.getElem?_cons_succ, List.getElem?_cons_zero]; rfl
      case hd74 => rfl
      case hw74 => kernel_rfl
      case hy74 => intro W hW; (try dsimp only at hW); go_simp <;> with_reducible rfl
      case hQ74 => exact fun _ _ _ h => h
      try simp only [Act.put, List.setIfInBounds_toArray, List.set_cons_zero, List.set_cons_succ]
      refine take_at 10 145 (oi := ?o75) (v := ?v75) ?hi75 ?hd75 (by kernel_rfl) (by kernel_rfl) (by kernel_rfl) ?hQ75 ?hw75 ?hy75 (by assumption) ?rest75
      case hi75 => simp only [List.getElem?_toArray, List.getElem?_cons_succ, List.getElem?_cons_zero]; rfl
      case hd75 => rfl
      case hw75 => kernel_rfl
      case hy75 => intro W hW; (try dsimp only at hW); go_simp <;> with_reducible rfl
      case hQ75 => exact fun _ _ _ h => h
      try simp only [Act.put, List.setIfInBounds_toArray, List.set_cons_zero, List.set_cons_succ]
      refine take_at 11 146 (oi := ?o76) (v := ?v76) ?hi76 ?hd76 (by kernel_rfl) (by kernel_rfl) (by kernel_rfl) ?hQ76 ?hw76 ?hy76 (by assumption) ?rest76
      case hi76 => simp only [List.getElem?_toArray, List.getElem?_cons_succ, List.getElem?_cons_zero]; rfl
      case hd76 => rfl
      case hw76 => kernel_rfl
      case hy76 => intro W hW; (try dsimp only at hW); go_simp <;> with_reducible rfl
      case hQ76 => exact fun _ _ _ h => h
      try simp only [Act.put, List.setIfInBounds_toArray, List.set_cons_zero, List.set_cons_succ]
      refine wpAnyH_ready (rs := [12]) (by kernel_rfl) (by simp) ?_
      refine AllReadyH.cons rfl (fun K hK => ?_) AllReadyH.nil
      go_simp
      refine hK.out _ _ ⟨(cell_far (by omega) p3), (cell_far (by omega) q2), (cell_far (by omega) hc1)⟩ (fun hHeld => ?_)
      clear hK K
      try simp only [Act.put, List.setIfInBounds_toArray, List.set_cons_zero, List.set_cons_succ]
      refine wpAnyH_done (by kernel_rfl) ?_ _
      have HO6 := HO4
      have HR6 := HR4
      have HB6 := HB4
      obtain ⟨W5, hW5⟩ : ∃ W5, (W4.setCell ⟨g3, rq, none⟩ (.string (B x))).drew = W5 := ⟨_, rfl⟩
      rw [hW5]
      have hK5 : Kept (fun q => q = g3) W4 W5 := hW5 ▸ (((Kept.refl (fun q => q = g3) W4).setCell (p := ⟨g3, rq, none⟩) (.inr rfl) _).drew)
      have HO5 := Lib.hid ((hK5.block _ (lt_of HO6.out) (fun e => by have : O = g3 := e; omega)).trans HO6.out)
      have HR5 := Lib.hid ((hK5.block _ (lt_of HR6.out) (fun e => by have : w.heap.size + 1 = g3 := e; omega)).trans HR6.out)
      have HB5 := Lib.hid (HB6.out.trans (hK5.below HB6.out.size (fun q h1 e => by have : q = g3 := e; omega)))
      have hv5 : W5.ownsRow (w.heap.size + 3) 9 1 (.slice (some ⟨g1, 0, none⟩) n e1) S.length (S.map vS) := by
        rw [← hW5]
        exact (ownsRow_setCell_other HV1'.out (a := ⟨g3, rq, none⟩) (fun e => h13 (Option.some.inj e)) _).drew
      have hv6 : W5.ownsRow (w.heap.size + 3) 9 1 (.slice (some ⟨g2, 0, none⟩) n e2) H.length (H.map vS) := by
        rw [← hW5]
        exact (ownsRow_setCell_other HV2'.out (a := ⟨g3, rq, none⟩) (fun e => h23 (Option.some.inj e)) _).drew
      have hv7 : W5.ownsRow (w.heap.size + 3) 9 1 (.slice (some ⟨g3, 0, none⟩) R.length e3) (R.set rq x).length ((R.set rq x).map vS) := by
        rw [List.length_set, List.map_set, ← hW5]
        exact (HV3.out.stored rq (.string (B x))).1.drew
      have HV5 := Lib.hid hv5
      have HV6 := Lib.hid hv6
      have HV7 := Lib.hid hv7
      clear hv5 hv6 hv7 hW5 hK5
      have hbw5 : O < W5.heap.size := lt_of HO5.out
      have hr5w : w.heap.size + 1 < W5.heap.size := lt_of HR5.out
      obtain ⟨s0, s1, s2, s3⟩ := sigC HO5.out
      obtain ⟨u0, u1, u2, u3⟩ := sigC HR5.out
      have gr0 : W5.frozen? ⟨w.heap.size + 1, 0, none⟩ = false := free_of HR5.out _
      have gr1 : W5.frozen? ⟨w.heap.size + 1, 1, none⟩ = false := free_of HR5.out _
      have gr2 : W5.frozen? ⟨w.heap.size + 1, 2, none⟩ = false := free_of HR5.out _
      have gr3 : W5.frozen? ⟨w.heap.size + 1, 3, none⟩ = false := free_of HR5.out _
      go_wp2
      refine ret_whole (p := 6) (ty := 34) rfl (w.heap.size + 1) 34 _ (0, 0) _ rfl (set_of (set_of (set_of (set_of HR5.out 0 _) 1 _) 2 _) 3 _) Tryd.underlying34 rfl (by kernel_rfl) rfl ?_
      exact HEnd.out W5 _ _ _ _ S H (R.set rq x) _ _ (HKR.out W5 _ _ _ _) HV5.out HV6.out HV7.out HB5.out hL1 hL2 (by rw [List.length_set]; exact hL3) rfl
    · go_wp2
      have hne : w.heap.size + 1 ≠ O := by omega
      refine ret_whole (p := 6) (ty := 34) rfl (w.heap.size + 1) 34 _ (0, 0) _ rfl (set_of (set_of (set_of (set_of (set_other (p := ⟨O, 0, none⟩) HR4.out hne) 0 _) 1 _) 2 _) 3 _) Tryd.underlying34 rfl (by kernel_rfl) rfl ?_
      refine HEnd.out W4 _ _ _ _ S H R _ _ ((((Kept.refl _ W4).setCell (p := ⟨O, 0, none⟩) (.inr ⟨by show w.heap.size ≤ O; omega, by show O < w.heap.size + 3; omega⟩) _)).trans (HKR.out _ _ _ _ _)) HV1'.out HV2'.out HV3.out HB4.out hL1 hL2 hL3 rfl
    · go_wp2
      refine ret_whole (p := 6) (ty := 34) rfl (w.heap.size + 1) 34 _ (0, 0) _ rfl (set_of (set_of (set_of (set_of HR4.out 0 _) 1 _) 2 _) 3 _) Tryd.underlying34 rfl (by kernel_rfl) rfl ?_
      exact HEnd.out W4 _ _ _ _ S H R _ _ (HKR.out W4 _ _ _ _) HV1'.out HV2'.out HV3.out HB4.out hL1 hL2 hL3 rfl
end Go.Proofs.YtdkjehagkmkokaaDoor
