/- Encode and Decode of package lamport, and of its reference, do what the plain functions say; and few, Few of the reference. -/
import Derived.Test.YtdkjehagkmkokaaDoorWkFormed
import Derived.Test.YtdkjehagkmkokaaDoorWkRefSig2
import Derived.Test.YtdkjehagkmkokaaDoorWkRefBits
import Derived.Test.YtdkjehagkmkokaaDoorWkMany
import Derived.Test.YtdkjehagkmkokaaDoorWkRefL
import Derived.Test.YtdkjehagkmkokaaDoorPlainSig
namespace Go.Proofs.YtdkjehagkmkokaaDoor
open Go Go.RowKit Licit

def encS (i : Int) (S H R : List Bs) : Bs := if sigOk i S H R = true then encSig i S H R else []
def encE (i : Int) (S H R : List Bs) : Int := if sigOk i S H R = true then 0 else 1
theorem enc32_len {l : List Bs} (h : all32 l = true) (hl : l.length ≤ 1024) : (eList eText l).1.length ≤ 100000000 := by
  have he : ∀ x ∈ l, (eText x).2 = 0 := fun x m => by unfold eText; rw [if_neg (by rw [all32_mem h x m]; omega)]
  unfold eList
  rw [if_neg (by omega)]
  have := eAll_len eText eText_len l (Lib.decDigits l.length ++ [59])
  have hd := dec_size (n := (l.length : Int)) (by omega) (by omega)
  rw [B_size, Int.toNat_natCast] at hd
  rw [List.length_append, List.length_singleton] at this
  omega
theorem num_len' (n : Int) : (num n).length ≤ 65600 := by
  unfold num
  by_cases h : n ≤ 9223372036854775807
  · exact eNum_len n h
  · unfold eNum; rw [if_pos (by omega)]; simp

set_option maxHeartbeats 2000000 in
set_option maxRecDepth 100000 in
theorem Encode_any (v : Value) (i : Int) (S H R : List Bs) (w : World) (h : SigIs v i S H R w) (ht : Tab w) :
    Calls Tryd.prog 31 #[v] w fun e w' => e = .returned (.tuple #[.string (B (encS i S H R)), .int .i64 (encE i S H R)]) ∧ Below w.heap.size w w' := by
  have hB1 : Below w.heap.size w (w.alloc (.cells v.cells 34)) := (Below.refl _ _).alloc (Nat.le_refl _) _
  have hF := Formed_any v i S H R _ (h.below hB1)
  have h1 := h.below hB1
  obtain ⟨vs, vh, vr, rfl, hS, hH, hR⟩ := h
  obtain ⟨sa, sc, rfl⟩ := hS.formMap
  obtain ⟨ha, hc, rfl⟩ := hH.formMap
  obtain ⟨ra, rc, rfl⟩ := hR.formMap
  have hcs : (Value.agg #[.int .i64 i, .slice sa S.length sc, .slice ha H.length hc, .slice ra R.length rc]).cells = #[.int .i64 i, .slice sa S.length sc, .slice ha H.length hc, .slice ra R.length rc] := rfl
  rw [hcs] at hF hB1 h1
  have H1 := Lib.hid h1
  have HB1 := Lib.hid hB1
  clear hS hH hR h1 hB1 hcs
  unfold encS encE
  cases hk : sigOk i S H R with
  | false =>
    rw [hk] at hF
    have HF := Lib.hid hF
    clear hF hk
    go_enter Tryd.func31, Tryd.ntmps31
    go_wp2_with fail
    refine HF.out.mono ?_
    rintro e w2 ⟨rfl, hb⟩
    have Hb := Lib.hid hb
    clear hb
    go_wp2
    go_ret2
    exact ⟨rfl, HB1.out.next Hb.out⟩
  | true =>
    rw [hk] at hF
    have HF := Lib.hid hF
    obtain ⟨k0, k1, k2, k3, k4, k5, k6, k7⟩ := sigOk_iff.1 hk
    have x1 := enc32_len k5 (by omega)
    have x2 := enc32_len k6 (by omega)
    have x3 := enc32_len k7 (by omega)
    have x0 := num_len' i
    have y0 : (B (num i)).size = (num i).length := rfl
    have y1 : (B (eList eText S).1).size = (eList eText S).1.length := rfl
    have y2 : (B (eList eText H).1).size = (eList eText H).1.length := rfl
    have y3 : (B (eList eText R).1).size = (eList eText R).1.length := rfl
    have hlS : ∀ x ∈ S, x.length ≤ maxLen := fun x m => max32 (all32_mem k5 x m)
    have hlH : ∀ x ∈ H, x.length ≤ maxLen := fun x m => max32 (all32_mem k6 x m)
    have hlR : ∀ x ∈ R, x.length ≤ maxLen := fun x m => max32 (all32_mem k7 x m)
    have HlS := Lib.hid hlS
    have HlH := Lib.hid hlH
    have HlR := Lib.hid hlR
    clear hF hk hlS hlH hlR k0 k1 k2 k3 k4 k5 k6 k7
    go_enter Tryd.func31, Tryd.ntmps31
    go_wp2_with fail
    refine HF.out.mono ?_
    rintro e w2 ⟨rfl, hb⟩
    have hk2 : w2.heap[w.heap.size]? = some (.cells #[.int .i64 i, .slice sa S.length sc, .slice ha H.length hc, .slice ra R.length rc] 34) := (hb.block _ (by simp)).trans (new_of _ _)
    have Hk2 := Lib.hid hk2
    have HB2 := Lib.hid (HB1.out.next hb)
    have H2 := Lib.hid (H1.out.below hb)
    have ht2 := ht.same HB2.out
    obtain ⟨c0, c1, c2, c3⟩ := sigC hk2
    clear hb hk2
    go_wp2_with fail
    refine (decimal_any48 i _ ht2).mono ?_
    rintro e w3 ⟨rfl, hb⟩
    have hk3 := (hb.block _ (lt_of Hk2.out)).trans Hk2.out
    have HB3 := Lib.hid (HB2.out.next hb)
    have H3 := Lib.hid (H2.out.below hb)
    clear c0 c1 c2 c3
    obtain ⟨c0, c1, c2, c3⟩ := sigC hk3
    clear hb hk3
    go_wp2
    have hb4 := (Below.refl w3.heap.size w3).alloc (Nat.le_refl _) (.cells #[.slice sa S.length sc, .slice ha H.length hc, .slice ra R.length rc] 32)
    have HB4 := Lib.hid (HB3.out.next hb4)
    have H4 := Lib.hid (H3.out.below hb4)
    have HS4 := Lib.hid (new_of w3 (.cells #[.slice sa S.length sc, .slice ha H.length hc, .slice ra R.length rc] 32))
    obtain ⟨W4, hW4⟩ : ∃ W4, w3.alloc (.cells #[.slice sa S.length sc, .slice ha H.length hc, .slice ra R.length rc] 32) = W4 := ⟨_, rfl⟩
    obtain ⟨q, hq⟩ : ∃ q, w3.heap.size = q := ⟨_, rfl⟩
    rw [hW4] at HB4 H4 HS4 ⊢
    rw [hq] at HS4 ⊢
    clear hW4 hq hb4 c0 c1 c2 c3
    go_loopw [4, 23] (fun o n wr => ∃ k : Nat, k ≤ 3 ∧ n = .int .i64 k ∧ Below W4.heap.size W4 wr ∧
      (k = 0 → o = .string (B (num i))) ∧ (k = 1 → o = .string (B (num i ++ (eList eText S).1))) ∧ (k = 2 → o = .string (B (num i ++ (eList eText S).1 ++ (eList eText H).1))) ∧ (k = 3 → o = .string (B (num i ++ (eList eText S).1 ++ (eList eText H).1 ++ (eList eText R).1)))) (fun _ n _ => 3 - (intOf n).toNat)
    case atStart => exact ⟨0, by omega, rfl, Below.refl _ _, fun _ => rfl, by omega, by omega, by omega⟩
    case round =>
      obtain ⟨k, hk, rfl, hbr, h0, h1, h2, h3⟩ := hrel
      have Hbr := Lib.hid hbr
      have H5 := Lib.hid (H4.out.below hbr)
      have HS5 := (hbr.block _ (lt_of HS4.out)).trans HS4.out
      have ht5 := ht.same (HB4.out.next hbr)
      have c0 : wr.cell? ⟨q, 0, none⟩ = some (.slice sa S.length sc) := cell_of HS5 0
      have c1 : wr.cell? ⟨q, 1, none⟩ = some (.slice ha H.length hc) := cell_of HS5 1
      have c2 : wr.cell? ⟨q, 2, none⟩ = some (.slice ra R.length rc) := cell_of HS5 2
      have H0 := Lib.hid h0
      have H1' := Lib.hid h1
      have H2' := Lib.hid h2
      have H3' := Lib.hid h3
      obtain ⟨vs, vh, vr, e, o1, o2, o3⟩ := H5.out
      simp only [Value.agg.injEq, Array.mk.injEq, List.cons.injEq, and_true, true_and] at e
      obtain ⟨rfl, rfl, rfl⟩ := e
      have O1 := Lib.hid o1
      have O2 := Lib.hid o2
      have O3 := Lib.hid o3
      clear hbr h0 h1 h2 h3 HS5 o1 o2 o3
      have hk4 : k = 0 ∨ k = 1 ∨ k = 2 ∨ k = 3 := by omega
      rcases hk4 with rfl | rfl | rfl | rfl
      · have ho := H0.out rfl
        subst ho
        go_wp2_with fail
        refine (encTexts_any _ S _ O1.out HlS.out ht5).mono ?_
        rintro e w6 ⟨rfl, hb⟩
        have Hb := Lib.hid (Hbr.out.next hb)
        clear hb
        go_wp2
        go_roundw
        case rel => exact ⟨1, by omega, rfl, Hb.out, by omega, fun _ => by simp only [B_append], by omega, by omega⟩
        case measure => simp [intOf]
      · have ho := H1'.out rfl
        subst ho
        have z1 : (B (num i ++ (eList eText S).1)).size = (num i).length + (eList eText S).1.length := List.length_append
        go_wp2_with fail
        refine (encTexts_any _ H _ O2.out HlH.out ht5).mono ?_
        rintro e w6 ⟨rfl, hb⟩
        have Hb := Lib.hid (Hbr.out.next hb)
        clear hb
        go_wp2
        go_roundw
        case rel => exact ⟨2, by omega, rfl, Hb.out, by omega, by omega, fun _ => by simp only [B_append, List.append_assoc], by omega⟩
        case measure => simp [intOf]
      · have ho := H2'.out rfl
        subst ho
        have z1 : (B (num i ++ (eList eText S).1 ++ (eList eText H).1)).size = (num i).length + (eList eText S).1.length + (eList eText H).1.length := by rw [B_size, List.length_append, List.length_append]
        have z2 : (B (num i ++ ((eList eText S).1 ++ (eList eText H).1))).size = (num i).length + (eList eText S).1.length + (eList eText H).1.length := by rw [B_size, List.length_append, List.length_append]; omega
        go_wp2_with fail
        refine (encTexts_any _ R _ O3.out HlR.out ht5).mono ?_
        rintro e w6 ⟨rfl, hb⟩
        have Hb := Lib.hid (Hbr.out.next hb)
        clear hb
        go_wp2
        go_roundw
        case rel => exact ⟨3, by omega, rfl, Hb.out, by omega, by omega, by omega, fun _ => by simp only [B_append, List.append_assoc]⟩
        case measure => simp [intOf]
      · have ho := H3'.out rfl
        subst ho
        go_wp2
        go_ret2
        have hes : encSig i S H R = num i ++ ((eList eText S).1 ++ ((eList eText H).1 ++ (eList eText R).1)) := by unfold encSig; simp only [List.append_assoc]
        rw [hes]
        exact ⟨rfl, HB4.out.next Hbr.out⟩

set_option maxHeartbeats 2000000 in
set_option maxRecDepth 100000 in
theorem REncode_any (v : Value) (i : Int) (S H R : List Bs) (w : World) (h : SigIs v i S H R w) :
    Calls Tryd.prog 32 #[v] w fun e w' => e = .returned (.tuple #[.string (B (encS i S H R)), .int .i64 (encE i S H R)]) ∧ Below w.heap.size w w' := by
  have hB1 : Below w.heap.size w (w.alloc (.cells v.cells 34)) := (Below.refl _ _).alloc (Nat.le_refl _) _
  have hF := WellF_any v i S H R _ (h.below hB1)
  have h1 := h.below hB1
  obtain ⟨vs, vh, vr, rfl, hS, hH, hR⟩ := h
  obtain ⟨sa, sc, rfl⟩ := hS.formMap
  obtain ⟨ha, hc, rfl⟩ := hH.formMap
  obtain ⟨ra, rc, rfl⟩ := hR.formMap
  have hcs : (Value.agg #[.int .i64 i, .slice sa S.length sc, .slice ha H.length hc, .slice ra R.length rc]).cells = #[.int .i64 i, .slice sa S.length sc, .slice ha H.length hc, .slice ra R.length rc] := rfl
  rw [hcs] at hF hB1 h1
  have H1 := Lib.hid h1
  have HB1 := Lib.hid hB1
  clear hS hH hR h1 hB1 hcs
  unfold encS encE
  cases hk : sigOk i S H R with
  | false =>
    rw [hk] at hF
    have HF := Lib.hid hF
    clear hF hk
    go_enter Tryd.func32, Tryd.ntmps32
    go_wp2_with fail
    refine HF.out.mono ?_
    rintro e w2 ⟨rfl, hb⟩
    have Hb := Lib.hid hb
    clear hb
    go_wp2
    go_ret2
    exact ⟨rfl, HB1.out.next Hb.out⟩
  | true =>
    rw [hk] at hF
    have HF := Lib.hid hF
    obtain ⟨k0, k1, k2, k3, k4, k5, k6, k7⟩ := sigOk_iff.1 hk
    have x1 := enc32_len k5 (by omega)
    have x2 := enc32_len k6 (by omega)
    have x3 := enc32_len k7 (by omega)
    have x0 := num_len' i
    have y0 : (B (num i)).size = (num i).length := rfl
    have y1 : (B (eList eText S).1).size = (eList eText S).1.length := rfl
    have y2 : (B (eList eText H).1).size = (eList eText H).1.length := rfl
    have y3 : (B (eList eText R).1).size = (eList eText R).1.length := rfl
    have HlS := Lib.hid (show ∀ x ∈ S, x.length ≤ maxLen from fun x m => max32 (all32_mem k5 x m))
    have HlH := Lib.hid (show ∀ x ∈ H, x.length ≤ maxLen from fun x m => max32 (all32_mem k6 x m))
    have HlR := Lib.hid (show ∀ x ∈ R, x.length ≤ maxLen from fun x m => max32 (all32_mem k7 x m))
    clear hF hk k0 k1 k2 k3 k4 k5 k6 k7
    go_enter Tryd.func32, Tryd.ntmps32
    go_wp2_with fail
    refine HF.out.mono ?_
    rintro e w2 ⟨rfl, hb⟩
    have hk2 : w2.heap[w.heap.size]? = some (.cells #[.int .i64 i, .slice sa S.length sc, .slice ha H.length hc, .slice ra R.length rc] 34) := (hb.block _ (by simp)).trans (new_of _ _)
    have Hk2 := Lib.hid hk2
    have HB2 := Lib.hid (HB1.out.next hb)
    have H2 := Lib.hid (H1.out.below hb)
    obtain ⟨c0, c1, c2, c3⟩ := sigC hk2
    clear hb hk2
    obtain ⟨vs, vh, vr, e, o1, o2, o3⟩ := H2.out
    simp only [Value.agg.injEq, Array.mk.injEq, List.cons.injEq, and_true, true_and] at e
    obtain ⟨rfl, rfl, rfl⟩ := e
    have O1 := Lib.hid o1
    have O2 := Lib.hid o2
    have O3 := Lib.hid o3
    clear o1 o2 o3
    go_wp2_with fail
    refine (rencTexts_any _ S _ O1.out HlS.out).mono ?_
    rintro e w3 ⟨rfl, hb⟩
    have Hk3 := Lib.hid ((hb.block _ (lt_of Hk2.out)).trans Hk2.out)
    have HB3 := Lib.hid (HB2.out.next hb)
    have O23 := Lib.hid (O2.out.below hb)
    have O33 := Lib.hid (O3.out.below hb)
    clear hb c0 c1 c2 c3
    obtain ⟨c0, c1, c2, c3⟩ := sigC Hk3.out
    go_wp2_with fail
    refine (rencTexts_any _ H _ O23.out HlH.out).mono ?_
    rintro e w4 ⟨rfl, hb⟩
    have Hk4 := Lib.hid ((hb.block _ (lt_of Hk3.out)).trans Hk3.out)
    have HB4 := Lib.hid (HB3.out.next hb)
    have O34 := Lib.hid (O33.out.below hb)
    clear hb c0 c1 c2 c3
    obtain ⟨c0, c1, c2, c3⟩ := sigC Hk4.out
    go_wp2_with fail
    refine (rencTexts_any _ R _ O34.out HlR.out).mono ?_
    rintro e w5 ⟨rfl, hb⟩
    have Hk5 := Lib.hid ((hb.block _ (lt_of Hk4.out)).trans Hk4.out)
    have HB5 := Lib.hid (HB4.out.next hb)
    clear hb c0 c1 c2 c3
    obtain ⟨c0, c1, c2, c3⟩ := sigC Hk5.out
    go_wp2_with fail
    refine (N_any i _).mono ?_
    rintro e w6 ⟨rfl, hb⟩
    have HB6 := Lib.hid (HB5.out.next hb)
    clear hb c0 c1 c2 c3
    go_wp2
    go_ret2
    exact ⟨by unfold encSig; rw [← B_append, ← B_append, ← B_append]; rfl, HB6.out⟩

/-- What Decode reads. -/
def dec1 (d : Bs) : Int × St := rdNum 0 63 (d, 0)
def dec2 (d : Bs) : List Bs × St := rdTexts 32 (dec1 d).2
def dec3 (d : Bs) : List Bs × St := rdTexts 32 (dec2 d).2
def dec4 (d : Bs) : List Bs × St := rdTexts 32 (dec3 d).2
def decOk (d : Bs) : Bool := decide (rdClose (dec4 d).2 = 0) && sigOk (dec1 d).1 (dec2 d).1 (dec3 d).1 (dec4 d).1
def decI (d : Bs) : Int := if decOk d = true then (dec1 d).1 else 0
def decS (d : Bs) : List Bs := if decOk d = true then (dec2 d).1 else []
def decH (d : Bs) : List Bs := if decOk d = true then (dec3 d).1 else []
def decR (d : Bs) : List Bs := if decOk d = true then (dec4 d).1 else []
def decE (d : Bs) : Int := if decOk d = true then 0 else 17
theorem sigNil (w : World) : SigIs (.agg #[.int .i64 0, .slice none 0 0, .slice none 0 0, .slice none 0 0]) 0 [] [] [] w :=
  ⟨_, _, _, rfl, ⟨by simp, .inl ⟨none, 0, rfl, rfl⟩⟩, ⟨by simp, .inl ⟨none, 0, rfl, rfl⟩⟩, ⟨by simp, .inl ⟨none, 0, rfl, rfl⟩⟩⟩
theorem kept4 (b : Nat) (w : World) (y0 y1 y2 y3 : Value) : Kept (Licit.One b) w ((((w.setCell ⟨b, 0, none⟩ y0).setCell ⟨b, 1, none⟩ y1).setCell ⟨b, 2, none⟩ y2).setCell ⟨b, 3, none⟩ y3) :=
  (((kept_set b 0 w y0).trans (kept_set b 1 _ y1)).trans (kept_set b 2 _ y2)).trans (kept_set b 3 _ y3)

set_option maxHeartbeats 4000000 in
set_option maxRecDepth 100000 in
theorem Decode_any (d : Bs) (w : World) (hd : d.length ≤ 1000000000) :
    Calls Tryd.prog 34 #[.string (B d)] w fun e w' => ∃ v, e = .returned (.tuple #[v, .int .i64 (decE d)]) ∧ SigIs v (decI d) (decS d) (decH d) (decR d) w' ∧ Below w.heap.size w w' := by
  have hW1b : Below w.heap.size w ((w.alloc (.cells #[.int .i64 0, .slice none 0 0, .slice none 0 0, .slice none 0 0] 34)).alloc (.cells #[.string (B d), .int .i64 0] 106)) := ((Below.refl _ _).alloc (Nat.le_refl _) _).alloc (by simp) _
  have hW1t : ((w.alloc (.cells #[.int .i64 0, .slice none 0 0, .slice none 0 0, .slice none 0 0] 34)).alloc (.cells #[.string (B d), .int .i64 0] 106)).heap[w.heap.size]? = some (.cells #[.int .i64 0, .slice none 0 0, .slice none 0 0, .slice none 0 0] 34) := old_of (new_of _ _)
  have hW1r : Rdr (w.heap.size + 1) (B d) 0 ((w.alloc (.cells #[.int .i64 0, .slice none 0 0, .slice none 0 0, .slice none 0 0] 34)).alloc (.cells #[.string (B d), .int .i64 0] 106)) := new_at (by simp) rfl
  have HW1b := Lib.hid hW1b
  have HW1t := Lib.hid hW1t
  have HW1r := Lib.hid hW1r
  clear hW1b hW1t hW1r
  obtain ⟨i, hi⟩ : ∃ i, (dec1 d).1 = i := ⟨_, rfl⟩
  obtain ⟨s1, hs1⟩ : ∃ s1, (dec1 d).2 = s1 := ⟨_, rfl⟩
  obtain ⟨S, hS⟩ : ∃ S, (dec2 d).1 = S := ⟨_, rfl⟩
  obtain ⟨s2, hs2⟩ : ∃ s2, (dec2 d).2 = s2 := ⟨_, rfl⟩
  obtain ⟨H, hH⟩ : ∃ H, (dec3 d).1 = H := ⟨_, rfl⟩
  obtain ⟨s3, hs3⟩ : ∃ s3, (dec3 d).2 = s3 := ⟨_, rfl⟩
  obtain ⟨R, hR⟩ : ∃ R, (dec4 d).1 = R := ⟨_, rfl⟩
  obtain ⟨s4, hs4⟩ : ∃ s4, (dec4 d).2 = s4 := ⟨_, rfl⟩
  have l1 : s1.1.length ≤ d.length := by rw [← hs1]; exact rdNum_len _ _ _
  have l2 : s2.1.length ≤ d.length := by rw [← hs2]; refine Nat.le_trans (texts_le _ _) ?_; rw [hs1]; exact l1
  have l3 : s3.1.length ≤ d.length := by rw [← hs3]; refine Nat.le_trans (texts_le _ _) ?_; rw [hs2]; exact l2
  have l4 : s4.1.length ≤ d.length := by rw [← hs4]; refine Nat.le_trans (texts_le _ _) ?_; rw [hs3]; exact l3
  have n1 : S.length ≤ 1024 := by rw [← hS]; exact texts_cnt _ _
  have n2 : H.length ≤ 1024 := by rw [← hH]; exact texts_cnt _ _
  have n3 : R.length ≤ 1024 := by rw [← hR]; exact texts_cnt _ _
  have C1 := Lib.hid (fun (W : World) (h : Rdr (w.heap.size + 1) (B d) 0 W) => number_any (w.heap.size + 1) (B d) 0 0 63 W h (by unfold maxLen; rw [B_size]; omega))
  have e1 : rdNum 0 63 ((B d).data.toList, 0) = (i, s1) := by rw [← hi, ← hs1]; rfl
  have e2 : rdTexts 32 ((B s1.1).data.toList, s1.2) = (S, s2) := by rw [← hS, ← hs2, ← hs1]; rfl
  have e3 : rdTexts 32 ((B s2.1).data.toList, s2.2) = (H, s3) := by rw [← hH, ← hs3, ← hs2]; rfl
  have e4 : rdTexts 32 ((B s3.1).data.toList, s3.2) = (R, s4) := by rw [← hR, ← hs4, ← hs3]; rfl
  have C2 := Lib.hid (fun (W : World) (h : Rdr (w.heap.size + 1) (B s1.1) s1.2 W) => texts_any (w.heap.size + 1) (B s1.1) s1.2 32 W h (by rw [B_size]; omega))
  have C3 := Lib.hid (fun (W : World) (h : Rdr (w.heap.size + 1) (B s2.1) s2.2 W) => texts_any (w.heap.size + 1) (B s2.1) s2.2 32 W h (by rw [B_size]; omega))
  have C4 := Lib.hid (fun (W : World) (h : Rdr (w.heap.size + 1) (B s3.1) s3.2 W) => texts_any (w.heap.size + 1) (B s3.1) s3.2 32 W h (by rw [B_size]; omega))
  have C5 := Lib.hid (fun (W : World) (h : Rdr (w.heap.size + 1) (B s4.1) s4.2 W) => close_any (w.heap.size + 1) (B s4.1) s4.2 W h)
  rw [e1] at C1
  rw [e2] at C2
  rw [e3] at C3
  rw [e4] at C4
  obtain ⟨CL, hCL⟩ : ∃ CL, rdClose s4 = CL := ⟨_, rfl⟩
  rw [show rdClose ((B s4.1).data.toList, s4.2) = CL from hCL] at C5
  have hok : decOk d = (decide (CL = 0) && sigOk i S H R) := by unfold decOk; rw [hs4, hCL, hi, hS, hH, hR]
  have Hok := Lib.hid hok
  have HI := Lib.hid (show decI d = if decOk d = true then i else 0 by unfold decI; rw [hi])
  have HS := Lib.hid (show decS d = if decOk d = true then S else [] by unfold decS; rw [hS])
  have HH := Lib.hid (show decH d = if decOk d = true then H else [] by unfold decH; rw [hH])
  have HR := Lib.hid (show decR d = if decOk d = true then R else [] by unfold decR; rw [hR])
  clear hi hs1 hS hs2 hH hs3 hR hs4 e1 e2 e3 e4 hCL hok l1 l2 l3 l4
  go_enter Tryd.func34, Tryd.ntmps34
  go_wp2_with fail
  refine (newReader_any (B d) _).mono ?_
  rintro e w1 ⟨rfl, rfl⟩
  go_wp2_with fail
  obtain ⟨W1, hW1⟩ : ∃ W1, (w.alloc (.cells #[.int .i64 0, .slice none 0 0, .slice none 0 0, .slice none 0 0] 34)).alloc (.cells #[.string (B d), .int .i64 0] 106) = W1 := ⟨_, rfl⟩
  have hz1 : w.heap.size + 2 = W1.heap.size := by rw [← hW1]; simp
  rw [hW1] at HW1b HW1t HW1r ⊢
  clear hW1
  refine (C1.out _ HW1r.out).mono ?_
  rintro e w2 ⟨rfl, hA, hK⟩
  have hz2 := hK.size
  have HA2 := Lib.hid hA
  have HT2 := Lib.hid ((hK.block w.heap.size (by omega) (fun e => by have : w.heap.size = w.heap.size + 1 := e; omega)).trans HW1t.out)
  have HB2 := Lib.hid (HW1b.out.trans (hK.below (by omega) (fun k hk e => by have : k = w.heap.size + 1 := e; omega)))
  clear hA hK
  go_wp2_with fail
  obtain ⟨b, hb⟩ : ∃ b, w2.heap.size = b := ⟨_, rfl⟩
  have hX3 := new_of w2 (.cells #[.int .i64 i, .slice none 0 0, .slice none 0 0, .slice none 0 0] 34)
  have hT3 := old_of (o' := .cells #[.int .i64 i, .slice none 0 0, .slice none 0 0, .slice none 0 0] 34) HT2.out
  have hA3 : Rdr (w.heap.size + 1) (B s1.1) s1.2 (w2.alloc (.cells #[.int .i64 i, .slice none 0 0, .slice none 0 0, .slice none 0 0] 34)) := HA2.out.alloc _
  have hB3 := HB2.out.alloc HB2.out.size (.cells #[.int .i64 i, .slice none 0 0, .slice none 0 0, .slice none 0 0] 34)
  obtain ⟨W3, hW3⟩ : ∃ W3, w2.alloc (.cells #[.int .i64 i, .slice none 0 0, .slice none 0 0, .slice none 0 0] 34) = W3 := ⟨_, rfl⟩
  have hz3 : b + 1 = W3.heap.size := by rw [← hW3]; simp [hb]
  rw [hb] at hX3
  rw [hW3] at hX3 hT3 hA3 hB3 ⊢
  rw [hb] at hz2 ⊢
  have HX3 := Lib.hid hX3
  have HT3 := Lib.hid hT3
  have HA3 := Lib.hid hA3
  have HB3 := Lib.hid hB3
  clear hW3 hb hX3 hT3 hA3 hB3
  refine (C2.out _ HA3.out).mono ?_
  rintro e w4 ⟨v4, rfl, ho, hA, hK⟩
  have hz4 := hK.size
  rw [List.length_map] at ho
  have hx4 := (hK.block b (by omega) (fun e => by have : b = w.heap.size + 1 := e; omega)).trans HX3.out
  have HT4 := Lib.hid ((hK.block w.heap.size (by omega) (fun e => by have : w.heap.size = w.heap.size + 1 := e; omega)).trans HT3.out)
  have HA4 := Lib.hid hA
  have HB4 := Lib.hid (HB3.out.trans (hK.below (by omega) (fun k hk e => by have : k = w.heap.size + 1 := e; omega)))
  obtain ⟨a4, p4, rfl⟩ := own_form ho
  have HO4 := Lib.hid ho
  have HX4 := Lib.hid hx4
  obtain ⟨c0, c1, c2, c3⟩ := sigC hx4
  have f1 := free_of hx4 1
  clear ho hA hK hx4
  go_wp2_with fail
  have hX5 := set_of HX4.out 1 (.slice a4 S.length p4)
  have hT5 : (w4.setCell ⟨b, 1, none⟩ (.slice a4 S.length p4)).heap[w.heap.size]? = _ := set_other HT4.out (by show w.heap.size ≠ b; omega)
  have hA5 : Rdr (w.heap.size + 1) (B s2.1) s2.2 (w4.setCell ⟨b, 1, none⟩ (.slice a4 S.length p4)) := set_other HA4.out (by show w.heap.size + 1 ≠ b; omega)
  have hO5 := ownsRow_set (p := ⟨b, 1, none⟩) (v' := .slice a4 S.length p4) HO4.out (by show b < W3.heap.size; omega)
  have hB5 := HB4.out.setCell (p := ⟨b, 1, none⟩) (by show w.heap.size ≤ b; omega) (.slice a4 S.length p4)
  obtain ⟨W5, hW5⟩ : ∃ W5, w4.setCell ⟨b, 1, none⟩ (.slice a4 S.length p4) = W5 := ⟨_, rfl⟩
  have hz5 : w4.heap.size = W5.heap.size := by rw [← hW5]; simp
  rw [hW5] at hX5 hT5 hA5 hO5 hB5 ⊢
  have HX5 := Lib.hid hX5
  have HT5 := Lib.hid hT5
  have HA5 := Lib.hid hA5
  have HO5 := Lib.hid hO5
  have HB5 := Lib.hid hB5
  clear hW5 hX5 hT5 hA5 hO5 hB5 c0 c1 c2 c3 f1
  refine (C3.out _ HA5.out).mono ?_
  rintro e w6 ⟨v6, rfl, ho, hA, hK⟩
  have hz6 := hK.size
  rw [List.length_map] at ho
  have hx6 := (hK.block b (by omega) (fun e => by have : b = w.heap.size + 1 := e; omega)).trans HX5.out
  have HT6 := Lib.hid ((hK.block w.heap.size (by omega) (fun e => by have : w.heap.size = w.heap.size + 1 := e; omega)).trans HT5.out)
  have HA6 := Lib.hid hA
  have HB6 := Lib.hid (HB5.out.trans (hK.below (by omega) (fun k hk e => by have : k = w.heap.size + 1 := e; omega)))
  have HO6 := Lib.hid (ownsRow_kept HO5.out hK (fun k hk e => by have : k = w.heap.size + 1 := e; omega))
  obtain ⟨a6, p6, rfl⟩ := own_form ho
  have HP6 := Lib.hid ho
  have HX6 := Lib.hid hx6
  obtain ⟨c0, c1, c2, c3⟩ := sigC hx6
  have f1 := free_of hx6 2
  clear ho hA hK hx6
  go_wp2_with fail
  have hX7 := set_of HX6.out 2 (.slice a6 H.length p6)
  have hT7 : (w6.setCell ⟨b, 2, none⟩ (.slice a6 H.length p6)).heap[w.heap.size]? = _ := set_other HT6.out (by show w.heap.size ≠ b; omega)
  have hA7 : Rdr (w.heap.size + 1) (B s3.1) s3.2 (w6.setCell ⟨b, 2, none⟩ (.slice a6 H.length p6)) := set_other HA6.out (by show w.heap.size + 1 ≠ b; omega)
  have hO7 := ownsRow_set (p := ⟨b, 2, none⟩) (v' := .slice a6 H.length p6) HO6.out (by show b < W3.heap.size; omega)
  have hP7 := ownsRow_set (p := ⟨b, 2, none⟩) (v' := .slice a6 H.length p6) HP6.out (by show b < W5.heap.size; omega)
  have hB7 := HB6.out.setCell (p := ⟨b, 2, none⟩) (by show w.heap.size ≤ b; omega) (.slice a6 H.length p6)
  obtain ⟨W7, hW7⟩ : ∃ W7, w6.setCell ⟨b, 2, none⟩ (.slice a6 H.length p6) = W7 := ⟨_, rfl⟩
  have hz7 : w6.heap.size = W7.heap.size := by rw [← hW7]; simp
  rw [hW7] at hX7 hT7 hA7 hO7 hP7 hB7 ⊢
  have HX7 := Lib.hid hX7
  have HT7 := Lib.hid hT7
  have HA7 := Lib.hid hA7
  have HO7 := Lib.hid hO7
  have HP7 := Lib.hid hP7
  have HB7 := Lib.hid hB7
  clear hW7 hX7 hT7 hA7 hO7 hP7 hB7 c0 c1 c2 c3 f1
  refine (C4.out _ HA7.out).mono ?_
  rintro e w8 ⟨v8, rfl, ho, hA, hK⟩
  have hz8 := hK.size
  rw [List.length_map] at ho
  have hx8 := (hK.block b (by omega) (fun e => by have : b = w.heap.size + 1 := e; omega)).trans HX7.out
  have HT8 := Lib.hid ((hK.block w.heap.size (by omega) (fun e => by have : w.heap.size = w.heap.size + 1 := e; omega)).trans HT7.out)
  have HA8 := Lib.hid hA
  have HB8 := Lib.hid (HB7.out.trans (hK.below (by omega) (fun k hk e => by have : k = w.heap.size + 1 := e; omega)))
  have HO8 := Lib.hid (ownsRow_kept HO7.out hK (fun k hk e => by have : k = w.heap.size + 1 := e; omega))
  have HP8 := Lib.hid (ownsRow_kept HP7.out hK (fun k hk e => by have : k = w.heap.size + 1 := e; omega))
  obtain ⟨a8, p8, rfl⟩ := own_form ho
  have HQ8 := Lib.hid ho
  have HX8 := Lib.hid hx8
  obtain ⟨c0, c1, c2, c3⟩ := sigC hx8
  have f1 := free_of hx8 3
  clear ho hA hK hx8
  go_wp2_with fail
  have hX9 := set_of HX8.out 3 (.slice a8 R.length p8)
  have hT9 : (w8.setCell ⟨b, 3, none⟩ (.slice a8 R.length p8)).heap[w.heap.size]? = _ := set_other HT8.out (by show w.heap.size ≠ b; omega)
  have hA9 : Rdr (w.heap.size + 1) (B s4.1) s4.2 (w8.setCell ⟨b, 3, none⟩ (.slice a8 R.length p8)) := set_other HA8.out (by show w.heap.size + 1 ≠ b; omega)
  have hO9 := ownsRow_set (p := ⟨b, 3, none⟩) (v' := .slice a8 R.length p8) HO8.out (by show b < W3.heap.size; omega)
  have hP9 := ownsRow_set (p := ⟨b, 3, none⟩) (v' := .slice a8 R.length p8) HP8.out (by show b < W5.heap.size; omega)
  have hQ9 := ownsRow_set (p := ⟨b, 3, none⟩) (v' := .slice a8 R.length p8) HQ8.out (by show b < W7.heap.size; omega)
  have hB9 := HB8.out.setCell (p := ⟨b, 3, none⟩) (by show w.heap.size ≤ b; omega) (.slice a8 R.length p8)
  obtain ⟨W9, hW9⟩ : ∃ W9, w8.setCell ⟨b, 3, none⟩ (.slice a8 R.length p8) = W9 := ⟨_, rfl⟩
  have hz9 : w8.heap.size = W9.heap.size := by rw [← hW9]; simp
  rw [hW9] at hX9 hT9 hA9 hO9 hP9 hQ9 hB9 ⊢
  have HX9 := Lib.hid hX9
  have HT9 := Lib.hid hT9
  have HA9 := Lib.hid hA9
  have HB9 := Lib.hid hB9
  have HSig := Lib.hid (show SigIs (.agg #[.int .i64 i, .slice a4 S.length p4, .slice a6 H.length p6, .slice a8 R.length p8]) i S H R W9 from
    ⟨_, _, _, rfl, IsSl.of_owns (by rw [List.length_map]; exact hO9) (by rw [List.length_map]; unfold maxLen; omega), IsSl.of_owns (by rw [List.length_map]; exact hP9) (by rw [List.length_map]; unfold maxLen; omega), IsSl.of_owns (by rw [List.length_map]; exact hQ9) (by rw [List.length_map]; unfold maxLen; omega)⟩)
  have HO9 := Lib.hid hO9
  have HP9 := Lib.hid hP9
  have HQ9 := Lib.hid hQ9
  have hwW3 : w.heap.size < W3.heap.size := by omega
  have hwW5 : w.heap.size < W5.heap.size := by omega
  have hwW7 : w.heap.size < W7.heap.size := by omega
  clear hW9 hX9 hT9 hA9 hO9 hP9 hQ9 hB9 c0 c1 c2 c3 f1
  have hbw : b < W9.heap.size := by omega
  refine (C5.out _ HA9.out).mono ?_
  rintro e w10 ⟨rfl, rfl⟩
  have hFm := Formed_any _ i S H R _ HSig.out
  obtain ⟨c0, c1, c2, c3⟩ := sigC HX9.out
  obtain ⟨d0, d1, d2, d3⟩ := sigC HT9.out
  have g0 := free_of HT9.out 0
  have g1 := free_of HT9.out 1
  have g2 := free_of HT9.out 2
  have g3 := free_of HT9.out 3
  by_cases hc : CL = 0
  · subst hc
    cases hk : sigOk i S H R with
    | true =>
      rw [hk] at hFm
      have HFm := Lib.hid hFm
      have hok : decOk d = true := by rw [Hok.out, hk]; rfl
      have q1 := HI.out
      have q2 := HS.out
      have q3 := HH.out
      have q4 := HR.out
      rw [hok, if_pos rfl] at q1 q2 q3 q4
      have Q1 := Lib.hid q1
      have Q2 := Lib.hid q2
      have Q3 := Lib.hid q3
      have Q4 := Lib.hid q4
      have Q5 := Lib.hid (show decE d = 0 by unfold decE; rw [hok]; rfl)
      clear hk hFm hok q1 q2 q3 q4
      go_wp2_with fail
      refine HFm.out.mono ?_
      rintro e w11 ⟨rfl, hb⟩
      have hx := (hb.block b hbw).trans HX9.out
      have ht := (hb.block w.heap.size (by omega)).trans HT9.out
      have HX := Lib.hid hx
      have HT := Lib.hid ht
      have HOf := Lib.hid (ownsRow_block HO9.out (fun k _ hk => hb.block k hk))
      have HPf := Lib.hid (ownsRow_block HP9.out (fun k _ hk => hb.block k hk))
      have HQf := Lib.hid (ownsRow_block HQ9.out (fun k _ hk => hb.block k hk))
      have HB := Lib.hid (HB9.out.next hb)
      clear c0 c1 c2 c3 d0 d1 d2 d3 g0 g1 g2 g3
      obtain ⟨c0, c1, c2, c3⟩ := sigC hx
      obtain ⟨d0, d1, d2, d3⟩ := sigC ht
      have g0 := free_of ht 0
      have g1 := free_of ht 1
      have g2 := free_of ht 2
      have g3 := free_of ht 3
      clear hx ht hb
      go_wp2
      have hK := kept4 w.heap.size w11 (.int .i64 i) (.slice a4 S.length p4) (.slice a6 H.length p6) (.slice a8 R.length p8)
      have hBf := HB.out.trans (hK.below HB.out.size (fun k hk e => by have : k = w.heap.size := e; omega))
      refine ret_whole2 (p := 2) (t' := 3) (ty := 34) rfl w.heap.size 34 _ (0, 0) _ rfl (set_of (set_of (set_of (set_of HT.out 0 _) 1 _) 2 _) 3 _) Tryd.underlying34 rfl (by kernel_rfl) rfl ?_
      refine ⟨_, by rw [Q5.out]; rfl, ?_, hBf⟩
      rw [Q1.out, Q2.out, Q3.out, Q4.out]
      refine ⟨_, _, _, rfl, IsSl.of_owns (by rw [List.length_map]; exact ownsRow_set (ownsRow_set (ownsRow_set (ownsRow_set HOf.out (by exact hwW3)) (by exact hwW3)) (by exact hwW3)) (by exact hwW3)) (by rw [List.length_map]; unfold maxLen; omega),
        IsSl.of_owns (by rw [List.length_map]; exact ownsRow_set (ownsRow_set (ownsRow_set (ownsRow_set HPf.out (by exact hwW5)) (by exact hwW5)) (by exact hwW5)) (by exact hwW5)) (by rw [List.length_map]; unfold maxLen; omega),
        IsSl.of_owns (by rw [List.length_map]; exact ownsRow_set (ownsRow_set (ownsRow_set (ownsRow_set HQf.out (by exact hwW7)) (by exact hwW7)) (by exact hwW7)) (by exact hwW7)) (by rw [List.length_map]; unfold maxLen; omega)⟩
    | false =>
      rw [hk] at hFm
      have HFm := Lib.hid hFm
      have hok : decOk d = false := by rw [Hok.out, hk]; rfl
      have q1 := HI.out
      have q2 := HS.out
      have q3 := HH.out
      have q4 := HR.out
      rw [hok, if_neg (by decide)] at q1 q2 q3 q4
      have Q1 := Lib.hid q1
      have Q2 := Lib.hid q2
      have Q3 := Lib.hid q3
      have Q4 := Lib.hid q4
      have Q5 := Lib.hid (show decE d = 17 by unfold decE; rw [hok]; rfl)
      clear hk hFm hok q1 q2 q3 q4
      go_wp2_with fail
      refine HFm.out.mono ?_
      rintro e w11 ⟨rfl, hb⟩
      have ht := (hb.block w.heap.size (by omega)).trans HT9.out
      have HT := Lib.hid ht
      have HB := Lib.hid (HB9.out.next hb)
      clear c0 c1 c2 c3 d0 d1 d2 d3 g0 g1 g2 g3
      obtain ⟨d0, d1, d2, d3⟩ := sigC ht
      have g0 := free_of ht 0
      have g1 := free_of ht 1
      have g2 := free_of ht 2
      have g3 := free_of ht 3
      clear ht hb
      go_wp2
      have hK := kept4 w.heap.size w11 (.int .i64 0) (.slice none 0 0) (.slice none 0 0) (.slice none 0 0)
      have hBf := HB.out.trans (hK.below HB.out.size (fun k hk e => by have : k = w.heap.size := e; omega))
      refine ret_whole2 (p := 2) (t' := 3) (ty := 34) rfl w.heap.size 34 _ (0, 0) _ rfl (set_of (set_of (set_of (set_of HT.out 0 _) 1 _) 2 _) 3 _) Tryd.underlying34 rfl (by kernel_rfl) rfl ?_
      refine ⟨_, by rw [Q5.out]; rfl, ?_, hBf⟩
      rw [Q1.out, Q2.out, Q3.out, Q4.out]
      exact sigNil _
  · have hok : decOk d = false := by rw [Hok.out, decide_eq_false hc]; rfl
    have q1 := HI.out
    have q2 := HS.out
    have q3 := HH.out
    have q4 := HR.out
    rw [hok, if_neg (by decide)] at q1 q2 q3 q4
    have Q1 := Lib.hid q1
    have Q2 := Lib.hid q2
    have Q3 := Lib.hid q3
    have Q4 := Lib.hid q4
    have Q5 := Lib.hid (show decE d = 17 by unfold decE; rw [hok]; rfl)
    have hcl : (CL == 0) = false := by simpa using hc
    clear hok q1 q2 q3 q4 hFm
    go_wp2
    have hK := kept4 w.heap.size W9 (.int .i64 0) (.slice none 0 0) (.slice none 0 0) (.slice none 0 0)
    have hBf := HB9.out.trans (hK.below HB9.out.size (fun k hk e => by have : k = w.heap.size := e; omega))
    refine ret_whole2 (p := 2) (t' := 3) (ty := 34) rfl w.heap.size 34 _ (0, 0) _ rfl (set_of (set_of (set_of (set_of HT9.out 0 _) 1 _) 2 _) 3 _) Tryd.underlying34 rfl (by kernel_rfl) rfl ?_
    refine ⟨_, by rw [Q5.out]; rfl, ?_, hBf⟩
    rw [Q1.out, Q2.out, Q3.out, Q4.out]
    exact sigNil _

end Go.Proofs.YtdkjehagkmkokaaDoor
