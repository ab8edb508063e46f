/- WellFormed, Same and Light of the reference of lamport. -/
import Derived.Test.YtdkjehagkmkokaaDoorWkRefSig
import Derived.Test.YtdkjehagkmkokaaDoorWkLam1
namespace Go.Proofs.YtdkjehagkmkokaaDoor
open Go Go.RowKit Licit

set_option maxHeartbeats 4000000 in
set_option maxRecDepth 100000 in
theorem WellF_any (v : Value) (i : Int) (S H R : List Bs) (w : World) (h : SigIs v i S H R w) :
    Calls Tryd.prog 33 #[v] w fun e w' => e = .returned (.bool (sigOk i S H R)) ∧ Below w.heap.size w w' := by
  obtain ⟨vs, vh, vr, rfl, hS, hH, hR⟩ := h
  have hB1 : Below w.heap.size w (w.alloc (.cells #[.int .i64 i, vs, vh, vr] 34)) := (Below.refl _ _).alloc (Nat.le_refl _) _
  have HS := Lib.hid (hS.below hB1)
  have HH := Lib.hid (hH.below hB1)
  have HR := Lib.hid (hR.below hB1)
  have hSl := hS.1
  have hHl := hH.1
  have hRl := hR.1
  rw [List.length_map] at hSl hHl hRl
  unfold maxLen at hSl hHl hRl
  obtain ⟨sa, sc, rfl⟩ := hS.formMap
  obtain ⟨ha, hc, rfl⟩ := hH.formMap
  obtain ⟨ra, rc, rfl⟩ := hR.formMap
  have HB1 := Lib.hid hB1
  clear hS hH hR hB1
  by_cases c1 : 0 ≤ i
  rotate_left
  · have d1 : decide (0 ≤ i) = false := by simpa using c1
    have hq : sigOk i S H R = false := by unfold sigOk; rw [decide_eq_false c1]; simp
    rw [hq]
    clear hq
    go_enter Tryd.func33, Tryd.ntmps33
    go_wp2
    go_ret
    exact ⟨rfl, HB1.out⟩
  have d1 : decide (0 ≤ i) = true := by simpa using c1
  by_cases c2 : i < 64
  rotate_left
  · have d2 : decide (i < 64) = false := by simpa using c2
    have hq : sigOk i S H R = false := by unfold sigOk; rw [decide_eq_false c2]; simp
    rw [hq]
    clear hq
    go_enter Tryd.func33, Tryd.ntmps33
    go_wp2
    go_ret
    exact ⟨rfl, HB1.out⟩
  have d2 : decide (i < 64) = true := by simpa using c2
  by_cases c3 : S.length = H.length
  rotate_left
  · have d3 : ((S.length : Int) == (H.length : Int)) = false := by simp; omega
    have hq : sigOk i S H R = false := by unfold sigOk; rw [decide_eq_false c3]; simp
    rw [hq]
    clear hq
    go_enter Tryd.func33, Tryd.ntmps33
    go_wp2
    go_ret
    exact ⟨rfl, HB1.out⟩
  have d3 : (S.length : Int) = (H.length : Int) := by omega
  have C3 := Lib.hid c3
  clear c3
  by_cases c4 : S.length ≤ 256
  rotate_left
  · have d4 : decide ((H.length : Int) ≤ 256) = false := by have := C3.out; simp; omega
    have hq : sigOk i S H R = false := by unfold sigOk; rw [decide_eq_false c4]; simp
    rw [hq]
    clear hq
    go_enter Tryd.func33, Tryd.ntmps33
    go_wp2
    go_ret
    exact ⟨rfl, HB1.out⟩
  have d4 : decide ((H.length : Int) ≤ 256) = true := by have := C3.out; simp; omega
  by_cases c5 : R.length ≤ 6
  rotate_left
  · have d5 : decide ((R.length : Int) ≤ 6) = false := by simp; omega
    have hq : sigOk i S H R = false := by unfold sigOk; rw [decide_eq_false c5]; simp
    rw [hq]
    clear hq
    go_enter Tryd.func33, Tryd.ntmps33
    go_wp2
    go_ret
    exact ⟨rfl, HB1.out⟩
  have d5 : decide ((R.length : Int) ≤ 6) = true := by simp; omega
  have hq : sigOk i S H R = (all32 S && all32 H && all32 R) := by
    unfold sigOk
    rw [decide_eq_true c1, decide_eq_true c2, decide_eq_true C3.out, decide_eq_true c4, decide_eq_true c5]
    simp
  rw [hq]
  have hCS := Digests_any _ _ _ HS.out
  have hCH := Digests_any _ _ _ HH.out
  have hCR := Digests_any _ _ _ HR.out
  cases hA : all32 S with
  | false =>
    rw [hA] at hCS
    have HCS := Lib.hid hCS
    clear HS HH HR hCS hCH hCR hq c1 c2 c4 c5 hA
    go_enter Tryd.func33, Tryd.ntmps33
    go_wp2_with (go_at_call 56; refine HCS.out.mono ?_; rintro e w' ⟨rfl, rfl⟩)
    go_ret
    exact ⟨rfl, HB1.out⟩
  | true =>
    cases hA2 : all32 H with
    | false =>
      rw [hA] at hCS
      rw [hA2] at hCH
      have HCS := Lib.hid hCS
      have HCH := Lib.hid hCH
      clear HS HH HR hCS hCH hCR hq c1 c2 c4 c5 hA hA2
      go_enter Tryd.func33, Tryd.ntmps33
      go_wp2_with fail
      refine HCS.out.mono ?_
      rintro e w' ⟨rfl, rfl⟩
      go_wp2_with fail
      refine HCH.out.mono ?_
      rintro e w' ⟨rfl, rfl⟩
      go_wp2
      go_ret
      exact ⟨rfl, HB1.out⟩
    | true =>
      rw [hA] at hCS
      rw [hA2] at hCH
      have HCS := Lib.hid hCS
      have HCH := Lib.hid hCH
      have HCR := Lib.hid hCR
      clear HS HH HR hCS hCH hCR hq c1 c2 c4 c5 hA hA2
      go_enter Tryd.func33, Tryd.ntmps33
      go_wp2_with fail
      refine HCS.out.mono ?_
      rintro e w' ⟨rfl, rfl⟩
      go_wp2_with fail
      refine HCH.out.mono ?_
      rintro e w' ⟨rfl, rfl⟩
      go_wp2_with fail
      refine HCR.out.mono ?_
      rintro e w' ⟨rfl, rfl⟩
      go_wp2
      go_ret
      exact ⟨rfl, HB1.out⟩

/-- Are two signatures one? -/
def sameSig (i : Int) (S H R : List Bs) (j : Int) (S' H' R' : List Bs) : Bool := decide (i = j) && decide (S = S') && decide (H = H') && decide (R = R')

set_option maxHeartbeats 1000000 in
set_option maxRecDepth 100000 in
theorem RSame_any (v u : Value) (i j : Int) (S H R S' H' R' : List Bs) (w : World) (h : SigIs v i S H R w) (h' : SigIs u j S' H' R' w) :
    Calls Tryd.prog 25 #[v, u] w fun e w' => e = .returned (.bool (sameSig i S H R j S' H' R')) ∧ Below w.heap.size w w' := by
  obtain ⟨vs, vh, vr, rfl, hS, hH, hR⟩ := h
  obtain ⟨us, uh, ur, rfl, hS', hH', hR'⟩ := h'
  obtain ⟨W, hW⟩ : ∃ W, (w.alloc (.cells #[.int .i64 i, vs, vh, vr] 34)).alloc (.cells #[.int .i64 j, us, uh, ur] 34) = W := ⟨_, rfl⟩
  have hB : Below w.heap.size w W := by rw [← hW]; exact ((Below.refl _ _).alloc (Nat.le_refl _) _).alloc (by simp) _
  have e1 : W.heap[w.heap.size]? = some (.cells #[.int .i64 i, vs, vh, vr] 34) := by rw [← hW]; exact old_of (new_of _ _)
  have e2 : W.heap[w.heap.size + 1]? = some (.cells #[.int .i64 j, us, uh, ur] 34) := by rw [← hW]; exact new_at (by simp) rfl
  have hTS := fun W' (hb : Below w.heap.size w W') => RTexts_any _ _ _ _ W' (hS.below hb) (hS'.below hb)
  have hTH := fun W' (hb : Below w.heap.size w W') => RTexts_any _ _ _ _ W' (hH.below hb) (hH'.below hb)
  have hTR := fun W' (hb : Below w.heap.size w W') => RTexts_any _ _ _ _ W' (hR.below hb) (hR'.below hb)
  have HB := Lib.hid hB
  have HTS := Lib.hid hTS
  have HTH := Lib.hid hTH
  have HTR := Lib.hid hTR
  have HE1 := Lib.hid e1
  have HE2 := Lib.hid e2
  have c10 := cell_of e1 0
  have c11 := cell_of e1 1
  have c20 := cell_of e2 0
  have c21 := cell_of e2 1
  clear hS hH hR hS' hH' hR' hTS hTH hTR hB e1 e2
  unfold sameSig
  by_cases c : i = j
  · subst c
    cases h1 : decide (S = S') with
    | false =>
      rw [h1] at HTS
      clear h1
      go_enter Tryd.func25, Tryd.ntmps25
      go_wp2_with (go_at_call 49; refine (HTS.out _ HB.out).mono ?_; rintro e w1 ⟨rfl, hb1⟩; have HB1 := Lib.hid (HB.out.next hb1); clear hb1)
      go_ret
      exact ⟨by simp, HB1.out⟩
    | true =>
      cases h2 : decide (H = H') with
      | false =>
        rw [h1] at HTS
        rw [h2] at HTH
        clear h1 h2
        go_enter Tryd.func25, Tryd.ntmps25
        go_wp2_with fail
        refine (HTS.out _ HB.out).mono ?_
        rintro e w1 ⟨rfl, hb1⟩
        have HB1 := Lib.hid (HB.out.next hb1)
        have g1 := (hb1.block _ (lt_of HE1.out)).trans HE1.out
        have g2 := (hb1.block _ (lt_of HE2.out)).trans HE2.out
        have c12 := cell_of g1 2
        have c22 := cell_of g2 2
        clear hb1 g1 g2
        go_wp2_with fail
        refine (HTH.out _ HB1.out).mono ?_
        rintro e w2 ⟨rfl, hb2⟩
        have HB2 := Lib.hid (HB1.out.next hb2)
        clear hb2
        go_wp2
        go_ret
        exact ⟨by simp, HB2.out⟩
      | true =>
        rw [h1] at HTS
        rw [h2] at HTH
        clear h1 h2
        go_enter Tryd.func25, Tryd.ntmps25
        go_wp2_with fail
        refine (HTS.out _ HB.out).mono ?_
        rintro e w1 ⟨rfl, hb1⟩
        have HB1 := Lib.hid (HB.out.next hb1)
        have g1 := (hb1.block _ (lt_of HE1.out)).trans HE1.out
        have g2 := (hb1.block _ (lt_of HE2.out)).trans HE2.out
        have c12 := cell_of g1 2
        have c22 := cell_of g2 2
        have HG1 := Lib.hid g1
        have HG2 := Lib.hid g2
        clear hb1 g1 g2
        go_wp2_with fail
        refine (HTH.out _ HB1.out).mono ?_
        rintro e w2 ⟨rfl, hb2⟩
        have HB2 := Lib.hid (HB1.out.next hb2)
        have g1 := (hb2.block _ (lt_of HG1.out)).trans HG1.out
        have g2 := (hb2.block _ (lt_of HG2.out)).trans HG2.out
        have c13 := cell_of g1 3
        have c23 := cell_of g2 3
        clear hb2 g1 g2
        go_wp2_with fail
        refine (HTR.out _ HB2.out).mono ?_
        rintro e w3 ⟨rfl, hb3⟩
        have HB3 := Lib.hid (HB2.out.next hb3)
        clear hb3
        go_wp2
        go_ret
        exact ⟨by simp, HB3.out⟩
  · go_enter Tryd.func25, Tryd.ntmps25
    go_wp2
    go_ret
    exact ⟨by simp [c], HB.out⟩

/-- Is a seed short, and a key not valid or small? -/
def lightB (seed : Bs) (b h : Int) : Bool := decide (seed.length ≤ 100) && (!(keyOk b h) || (decide (b ≤ 12) && decide (h ≤ 2)))

theorem Light_any (seed : Bs) (b h : Int) (w : World) : Gives 12 #[.string (B seed), .agg #[.int .i64 b, .int .i64 h]] w (.bool (lightB seed b h)) := by
  have hsz : (B seed).size = seed.length := rfl
  by_cases h1 : seed.length ≤ 100
  · have d1 : decide ((seed.length : Int) ≤ 100) = true := by simp; omega
    cases hk : keyOk b h with
    | false =>
      have HV := Lib.hid (fun W => RValid_no b h W hk)
      have hq : lightB seed b h = true := by simp [lightB, hk, h1]
      rw [hq]
      clear hq hk h1
      go_enter Tryd.func12, Tryd.ntmps12
      go_wp2_with (go_at_call 16; refine (HV.out _).mono ?_; rintro e w1 ⟨rfl, hb1⟩; have HB1 := Lib.hid (((Below.refl w.heap.size w).alloc (Nat.le_refl _) _).next hb1); clear hb1)
      go_ret
      exact ⟨rfl, HB1.out⟩
    | true =>
      have HV := Lib.hid (fun W => RValid_yes b h W hk)
      by_cases h2 : b ≤ 12
      · have d2 : decide (b ≤ 12) = true := by simpa using h2
        have hq : lightB seed b h = decide (h ≤ 2) := by simp [lightB, hk, h1, h2]
        rw [hq]
        clear hq hk h1 h2
        go_enter Tryd.func12, Tryd.ntmps12
        go_wp2_with (go_at_call 16; refine (HV.out _).mono ?_; rintro e w1 ⟨rfl, hb1⟩; have g := (hb1.block w.heap.size (by simp)).trans (new_of w _); have c0 := cell_of g 0; have c1 := cell_of g 1; have HB1 := Lib.hid (((Below.refl w.heap.size w).alloc (Nat.le_refl _) _).next hb1); clear hb1 g)
        go_ret
        exact ⟨rfl, HB1.out⟩
      · have d2 : decide (b ≤ 12) = false := by simpa using h2
        have hq : lightB seed b h = false := by simp [lightB, hk, h1, h2]
        rw [hq]
        clear hq hk h1 h2
        go_enter Tryd.func12, Tryd.ntmps12
        go_wp2_with (go_at_call 16; refine (HV.out _).mono ?_; rintro e w1 ⟨rfl, hb1⟩; have g := (hb1.block w.heap.size (by simp)).trans (new_of w _); have c0 := cell_of g 0; have c1 := cell_of g 1; have HB1 := Lib.hid (((Below.refl w.heap.size w).alloc (Nat.le_refl _) _).next hb1); clear hb1 g)
        go_ret
        exact ⟨rfl, HB1.out⟩
  · have d1 : decide ((seed.length : Int) ≤ 100) = false := by simp; omega
    have hq : lightB seed b h = false := by simp [lightB, h1]
    rw [hq]
    clear hq h1
    go_enter Tryd.func12, Tryd.ntmps12
    go_wp2
    go_ret
    exact ⟨rfl, (Below.refl _ _).alloc (Nat.le_refl _) _⟩
end Go.Proofs.YtdkjehagkmkokaaDoor
