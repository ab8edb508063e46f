/- Parts of the proofs: WkSigText. No condition beyond those at each theorem. -/
import Derived.Deep.DeepCutAuto
import Derived.Test.YtknpbekoenbphaaGreatDoorPk35
set_option linter.unusedVariables false
set_option linter.unusedSimpArgs false
set_option maxHeartbeats 16000000
set_option maxRecDepth 100000
namespace Go.Proofs.YtknpbekoenbphaaGreatDoor
open Go Go.RowKit Licit
def kyq (i : Int) (S H R : List Bs) : Bs := if kbx i S H R = true then kfx i S H R else []
def encE (i : Int) (S H R : List Bs) : Int := if kbx i S H R = true then 0 else 1
theorem kc4 {l : List Bs} (h : kb1 l = true) (hl : l.length ≤ 1024) : (ka7 kar l).1.length ≤ 100000000 := by
 have he : ∀ x ∈ l, (kar x).2 = 0 := fun x m => by unfold kar; rw [if_neg (by rw [kch h x m]; omega)]
 unfold ka7
 rw [if_neg (by omega)]
 have := kma kar kh5 l (Lib.decDigits l.length ++ [59])
 have hd := kdr (n := (l.length : Int)) (by omega) (by omega)
 rw [kbt, Int.toNat_natCast] at hd
 rw [List.length_append, List.length_singleton] at this
 omega
theorem kmx (n : Int) : (num n).length ≤ 65600 := by
 unfold num
 by_cases h : n ≤ 9223372036854775807
 · exact kxl n h
 · unfold ke2; rw [if_pos (by omega)]; simp
theorem ksj (v : Value) (i : Int) (S H R : List Bs) (w : World) (h : kec v i S H R w) (ht : Tab w) :
 Calls Tryz.prog 108 #[v] w fun e w' => e = .returned (.tuple #[.string (B (kyq i S H R)), .int .i64 (encE i S H R)]) ∧ Below w.heap.size w w' := by
 have hB1 : Below w.heap.size w (w.alloc (.cells v.cells 43)) := (Below.refl _ _).alloc (Nat.le_refl _) _
 have hF := klo v i S H R _ (h.below hB1)
 have h1 := h.below hB1
 obtain ⟨vs, vh, vr, rfl, hS, hH, hR⟩ := h
 obtain ⟨sa, sc, rfl⟩ := hS.formMap
 obtain ⟨ha, hc, rfl⟩ := hH.formMap
 obtain ⟨ra, rc, rfl⟩ := hR.formMap
 have hcs : (Value.agg #[.int .i64 i, .slice sa S.length sc, .slice ha H.length hc, .slice ra R.length rc]).cells = #[.int .i64 i, .slice sa S.length sc, .slice ha H.length hc, .slice ra R.length rc] := rfl
 rw [hcs] at hF hB1 h1
 have H1 := hdd h1
 have HB1 := hdd hB1
 clear hS hH hR h1 hB1 hcs
 unfold kyq encE
 cases hk : kbx i S H R with
 | false =>
   rw [hk] at hF
   have HF := hdd hF
   clear hF hk
   go_enter Tryz.func108, Tryz.ntmps108
   go_wp2_with fail
   refine HF.out.mono ?_
   rintro e w2 ⟨rfl, hb⟩
   have Hb := hdd hb
   clear hb
   go_wp2
   go_ret2
   exact ⟨rfl, HB1.out.next Hb.out⟩
 | true =>
   rw [hk] at hF
   have HF := hdd hF
   obtain ⟨k0, k1, k2, k3, k4, k5, k6, k7⟩ := kgc.1 hk
   have x1 := kc4 k5 (by omega)
   have x2 := kc4 k6 (by omega)
   have x3 := kc4 k7 (by omega)
   have x0 := kmx i
   have y0 : (B (num i)).size = (num i).length := rfl
   have y1 : (B (ka7 kar S).1).size = (ka7 kar S).1.length := rfl
   have y2 : (B (ka7 kar H).1).size = (ka7 kar H).1.length := rfl
   have y3 : (B (ka7 kar R).1).size = (ka7 kar R).1.length := rfl
   have hlS : ∀ x ∈ S, x.length ≤ maxLen := fun x m => kgw (kch k5 x m)
   have hlH : ∀ x ∈ H, x.length ≤ maxLen := fun x m => kgw (kch k6 x m)
   have hlR : ∀ x ∈ R, x.length ≤ maxLen := fun x m => kgw (kch k7 x m)
   have HlS := hdd hlS
   have HlH := hdd hlH
   have HlR := hdd hlR
   clear hF hk hlS hlH hlR k0 k1 k2 k3 k4 k5 k6 k7
   go_enter Tryz.func108, Tryz.ntmps108
   go_wp2_with fail
   refine HF.out.mono ?_
   rintro e w2 ⟨rfl, hb⟩
   have hk2 : w2.heap[w.heap.size]? = some (.cells #[.int .i64 i, .slice sa S.length sc, .slice ha H.length hc, .slice ra R.length rc] 43) := (hb.block _ (by simp)).trans (kak _ _)
   have Hk2 := hdd hk2
   have HB2 := hdd (HB1.out.next hb)
   have H2 := hdd (H1.out.below hb)
   have ht2 := ht.same HB2.out
   obtain ⟨c0, c1, c2, c3⟩ := kf1 hk2
   clear hb hk2
   go_wp2_with fail
   refine (kd6 i _ ht2).mono ?_
   rintro e w3 ⟨rfl, hb⟩
   have hk3 := (hb.block _ (kac Hk2.out)).trans Hk2.out
   have HB3 := hdd (HB2.out.next hb)
   have H3 := hdd (H2.out.below hb)
   clear c0 c1 c2 c3
   obtain ⟨c0, c1, c2, c3⟩ := kf1 hk3
   clear hb hk3
   go_wp2
   have hb4 := (Below.refl w3.heap.size w3).alloc (Nat.le_refl _) (.cells #[.slice sa S.length sc, .slice ha H.length hc, .slice ra R.length rc] 39)
   have HB4 := hdd (HB3.out.next hb4)
   have H4 := hdd (H3.out.below hb4)
   have HS4 := hdd (kak w3 (.cells #[.slice sa S.length sc, .slice ha H.length hc, .slice ra R.length rc] 39))
   obtain ⟨W4, hW4⟩ : ∃ W4, w3.alloc (.cells #[.slice sa S.length sc, .slice ha H.length hc, .slice ra R.length rc] 39) = W4 := ⟨_, rfl⟩
   obtain ⟨q, hq⟩ : ∃ q, w3.heap.size = q := ⟨_, rfl⟩
   rw [hW4] at HB4 H4 HS4 ⊢
   rw [hq] at HS4 ⊢
   clear hW4 hq hb4 c0 c1 c2 c3
   go_loopw [4, 23] (fun o n wr => ∃ k : Nat, k ≤ 3 ∧ n = .int .i64 k ∧ Below W4.heap.size W4 wr ∧
    (k = 0 → o = .string (B (num i))) ∧ (k = 1 → o = .string (B (num i ++ (ka7 kar S).1))) ∧ (k = 2 → o = .string (B (num i ++ (ka7 kar S).1 ++ (ka7 kar H).1))) ∧ (k = 3 → o = .string (B (num i ++ (ka7 kar S).1 ++ (ka7 kar H).1 ++ (ka7 kar R).1)))) (fun _ n _ => 3 - (intOf n).toNat)
   case atStart => exact ⟨0, by omega, rfl, Below.refl _ _, fun _ => rfl, by omega, by omega, by omega⟩
   case round =>
    obtain ⟨k, hk, rfl, hbr, h0, h1, h2, h3⟩ := hrel
    have Hbr := hdd hbr
    have H5 := hdd (H4.out.below hbr)
    have HS5 := (hbr.block _ (kac HS4.out)).trans HS4.out
    have ht5 := ht.same (HB4.out.next hbr)
    have c0 : wr.cell? ⟨q, 0, none⟩ = some (.slice sa S.length sc) := kab HS5 0
    have c1 : wr.cell? ⟨q, 1, none⟩ = some (.slice ha H.length hc) := kab HS5 1
    have c2 : wr.cell? ⟨q, 2, none⟩ = some (.slice ra R.length rc) := kab HS5 2
    have H0 := hdd h0
    have H1' := hdd h1
    have H2' := hdd h2
    have H3' := hdd h3
    obtain ⟨vs, vh, vr, e, o1, o2, o3⟩ := H5.out
    simp only [Value.agg.injEq, Array.mk.injEq, List.cons.injEq, and_true, true_and] at e
    obtain ⟨rfl, rfl, rfl⟩ := e
    have O1 := hdd o1
    have O2 := hdd o2
    have O3 := hdd o3
    clear hbr h0 h1 h2 h3 HS5 o1 o2 o3
    have hk4 : k = 0 ∨ k = 1 ∨ k = 2 ∨ k = 3 := by omega
    rcases hk4 with rfl | rfl | rfl | rfl
    · have ho := H0.out rfl
      subst ho
      go_wp2_with fail
      refine (kd2 _ S _ O1.out HlS.out ht5).mono ?_
      rintro e w6 ⟨rfl, hb⟩
      have Hb := hdd (Hbr.out.next hb)
      clear hb
      go_wp2
      go_roundw
      case rel => exact ⟨1, by omega, rfl, Hb.out, by omega, fun _ => by simp only [ka9], by omega, by omega⟩
      case measure => simp [intOf]
    · have ho := H1'.out rfl
      subst ho
      have z1 : (B (num i ++ (ka7 kar S).1)).size = (num i).length + (ka7 kar S).1.length := List.length_append
      go_wp2_with fail
      refine (kd2 _ H _ O2.out HlH.out ht5).mono ?_
      rintro e w6 ⟨rfl, hb⟩
      have Hb := hdd (Hbr.out.next hb)
      clear hb
      go_wp2
      go_roundw
      case rel => exact ⟨2, by omega, rfl, Hb.out, by omega, by omega, fun _ => by simp only [ka9, List.append_assoc], by omega⟩
      case measure => simp [intOf]
    · have ho := H2'.out rfl
      subst ho
      have z1 : (B (num i ++ (ka7 kar S).1 ++ (ka7 kar H).1)).size = (num i).length + (ka7 kar S).1.length + (ka7 kar H).1.length := by rw [kbt, List.length_append, List.length_append]
      have z2 : (B (num i ++ ((ka7 kar S).1 ++ (ka7 kar H).1))).size = (num i).length + (ka7 kar S).1.length + (ka7 kar H).1.length := by rw [kbt, List.length_append, List.length_append]; omega
      go_wp2_with fail
      refine (kd2 _ R _ O3.out HlR.out ht5).mono ?_
      rintro e w6 ⟨rfl, hb⟩
      have Hb := hdd (Hbr.out.next hb)
      clear hb
      go_wp2
      go_roundw
      case rel => exact ⟨3, by omega, rfl, Hb.out, by omega, by omega, by omega, fun _ => by simp only [ka9, List.append_assoc]⟩
      case measure => simp [intOf]
    · have ho := H3'.out rfl
      subst ho
      go_wp2
      go_ret2
      have hes : kfx i S H R = num i ++ ((ka7 kar S).1 ++ ((ka7 kar H).1 ++ (ka7 kar R).1)) := by unfold kfx; simp only [List.append_assoc]
      rw [hes]
      exact ⟨rfl, HB4.out.next Hbr.out⟩
def kvo (d : Bs) : Int × St := ka3 0 63 (d, 0)
def kvr (d : Bs) : List Bs × St := ka5 32 (kvo d).2
def kvs (d : Bs) : List Bs × St := ka5 32 (kvr d).2
def kvp (d : Bs) : List Bs × St := ka5 32 (kvs d).2
def kdn (d : Bs) : Bool := decide (ka4 (kvp d).2 = 0) && kbx (kvo d).1 (kvr d).1 (kvs d).1 (kvp d).1
def k3f (d : Bs) : Int := if kdn d = true then (kvo d).1 else 0
def kp0 (d : Bs) : List Bs := if kdn d = true then (kvr d).1 else []
def kpz (d : Bs) : List Bs := if kdn d = true then (kvs d).1 else []
def decR (d : Bs) : List Bs := if kdn d = true then (kvp d).1 else []
def kj4 (d : Bs) : Int := if kdn d = true then 0 else 17
def kyx (base : Nat) (v : Value) (i : Int) (S H R : List Bs) (w : World) : Prop := ∃ vs vh vr : Value, v = .agg #[.int .i64 i, vs, vh, vr] ∧
 w.ownsRow base 9 1 vs S.length (S.map vS) ∧ w.ownsRow base 9 1 vh H.length (H.map vS) ∧ w.ownsRow base 9 1 vr R.length (R.map vS)
theorem kyx.is {base : Nat} {v : Value} {i : Int} {S H R : List Bs} {w : World} (h : kyx base v i S H R w) (h1 : S.length ≤ 1024) (h2 : H.length ≤ 1024) (h3 : R.length ≤ 1024) : kec v i S H R w := by
 obtain ⟨vs, vh, vr, rfl, o1, o2, o3⟩ := h
 exact ⟨vs, vh, vr, rfl, IsSl.of_owns (by rw [List.length_map]; exact o1) (by rw [List.length_map]; unfold maxLen; omega), IsSl.of_owns (by rw [List.length_map]; exact o2) (by rw [List.length_map]; unfold maxLen; omega), IsSl.of_owns (by rw [List.length_map]; exact o3) (by rw [List.length_map]; unfold maxLen; omega)⟩
theorem kyx.keep {base : Nat} {v : Value} {i : Int} {S H R : List Bs} {w w' : World} (h : kyx base v i S H R w) (hb : ∀ q, base ≤ q → q < w.heap.size → w'.heap[q]? = w.heap[q]?) : kyx base v i S H R w' := by
 obtain ⟨vs, vh, vr, rfl, o1, o2, o3⟩ := h
 exact ⟨vs, vh, vr, rfl, kaf o1 hb, kaf o2 hb, kaf o3 hb⟩
theorem kl4 (base : Nat) (w : World) : kyx base (.agg #[.int .i64 0, .slice none 0 0, .slice none 0 0, .slice none 0 0]) 0 [] [] [] w :=
 ⟨_, _, _, rfl, World.ownsRow_nil _ _ _ _, World.ownsRow_nil _ _ _ _, World.ownsRow_nil _ _ _ _⟩
theorem kis (d : Bs) : (kp0 d).length ≤ 1024 ∧ (kpz d).length ≤ 1024 ∧ (decR d).length ≤ 1024 := by
 unfold kp0 kpz decR
 refine ⟨?_, ?_, ?_⟩ <;> split <;> first | exact kb6 _ _ | simp
theorem kr3 (b : Nat) (w : World) (y0 y1 y2 y3 : Value) : ka1 (Licit.One b) w ((((w.setCell ⟨b, 0, none⟩ y0).setCell ⟨b, 1, none⟩ y1).setCell ⟨b, 2, none⟩ y2).setCell ⟨b, 3, none⟩ y3) :=
 (((kau b 0 w y0).trans (kau b 1 _ y1)).trans (kau b 2 _ y2)).trans (kau b 3 _ y3)
theorem ksd (d : Bs) (w : World) (hd : d.length ≤ 1000000000) :
 Calls Tryz.prog 106 #[.string (B d)] w fun e w' => ∃ v, e = .returned (.tuple #[v, .int .i64 (kj4 d)]) ∧ kyx w.heap.size v (k3f d) (kp0 d) (kpz d) (decR d) w' ∧ Below w.heap.size w w' := by
 have hW1b : Below w.heap.size w ((w.alloc (.cells #[.int .i64 0, .slice none 0 0, .slice none 0 0, .slice none 0 0] 43)).alloc (.cells #[.string (B d), .int .i64 0] 200)) := ((Below.refl _ _).alloc (Nat.le_refl _) _).alloc (by simp) _
 have hW1t : ((w.alloc (.cells #[.int .i64 0, .slice none 0 0, .slice none 0 0, .slice none 0 0] 43)).alloc (.cells #[.string (B d), .int .i64 0] 200)).heap[w.heap.size]? = some (.cells #[.int .i64 0, .slice none 0 0, .slice none 0 0, .slice none 0 0] 43) := kaq (kak _ _)
 have hW1r : Rdr (w.heap.size + 1) (B d) 0 ((w.alloc (.cells #[.int .i64 0, .slice none 0 0, .slice none 0 0, .slice none 0 0] 43)).alloc (.cells #[.string (B d), .int .i64 0] 200)) := kaj (by simp) rfl
 have HW1b := hdd hW1b
 have HW1t := hdd hW1t
 have HW1r := hdd hW1r
 clear hW1b hW1t hW1r
 obtain ⟨i, hi⟩ : ∃ i, (kvo d).1 = i := ⟨_, rfl⟩
 obtain ⟨s1, hs1⟩ : ∃ s1, (kvo d).2 = s1 := ⟨_, rfl⟩
 obtain ⟨S, hS⟩ : ∃ S, (kvr d).1 = S := ⟨_, rfl⟩
 obtain ⟨s2, hs2⟩ : ∃ s2, (kvr d).2 = s2 := ⟨_, rfl⟩
 obtain ⟨H, hH⟩ : ∃ H, (kvs d).1 = H := ⟨_, rfl⟩
 obtain ⟨s3, hs3⟩ : ∃ s3, (kvs d).2 = s3 := ⟨_, rfl⟩
 obtain ⟨R, hR⟩ : ∃ R, (kvp d).1 = R := ⟨_, rfl⟩
 obtain ⟨s4, hs4⟩ : ∃ s4, (kvp d).2 = s4 := ⟨_, rfl⟩
 have l1 : s1.1.length ≤ d.length := by rw [← hs1]; exact kbz _ _ _
 have l2 : s2.1.length ≤ d.length := by rw [← hs2]; refine Nat.le_trans (kdv _ _) ?_; rw [hs1]; exact l1
 have l3 : s3.1.length ≤ d.length := by rw [← hs3]; refine Nat.le_trans (kdv _ _) ?_; rw [hs2]; exact l2
 have l4 : s4.1.length ≤ d.length := by rw [← hs4]; refine Nat.le_trans (kdv _ _) ?_; rw [hs3]; exact l3
 have n1 : S.length ≤ 1024 := by rw [← hS]; exact kb6 _ _
 have n2 : H.length ≤ 1024 := by rw [← hH]; exact kb6 _ _
 have n3 : R.length ≤ 1024 := by rw [← hR]; exact kb6 _ _
 have C1 := hdd (fun (W : World) (h : Rdr (w.heap.size + 1) (B d) 0 W) => kdj (w.heap.size + 1) (B d) 0 0 63 W h (by unfold maxLen; rw [kbt]; omega))
 have e1 : ka3 0 63 ((B d).data.toList, 0) = (i, s1) := by rw [← hi, ← hs1]; rfl
 have e2 : ka5 32 ((B s1.1).data.toList, s1.2) = (S, s2) := by rw [← hS, ← hs2, ← hs1]; rfl
 have e3 : ka5 32 ((B s2.1).data.toList, s2.2) = (H, s3) := by rw [← hH, ← hs3, ← hs2]; rfl
 have e4 : ka5 32 ((B s3.1).data.toList, s3.2) = (R, s4) := by rw [← hR, ← hs4, ← hs3]; rfl
 have C2 := hdd (fun (W : World) (h : Rdr (w.heap.size + 1) (B s1.1) s1.2 W) => kff (w.heap.size + 1) (B s1.1) s1.2 32 W h (by rw [kbt]; omega))
 have C3 := hdd (fun (W : World) (h : Rdr (w.heap.size + 1) (B s2.1) s2.2 W) => kff (w.heap.size + 1) (B s2.1) s2.2 32 W h (by rw [kbt]; omega))
 have C4 := hdd (fun (W : World) (h : Rdr (w.heap.size + 1) (B s3.1) s3.2 W) => kff (w.heap.size + 1) (B s3.1) s3.2 32 W h (by rw [kbt]; omega))
 have C5 := hdd (fun (W : World) (h : Rdr (w.heap.size + 1) (B s4.1) s4.2 W) => kj6 (w.heap.size + 1) (B s4.1) s4.2 W h)
 rw [e1] at C1
 rw [e2] at C2
 rw [e3] at C3
 rw [e4] at C4
 obtain ⟨CL, hCL⟩ : ∃ CL, ka4 s4 = CL := ⟨_, rfl⟩
 rw [show ka4 ((B s4.1).data.toList, s4.2) = CL from hCL] at C5
 have hok : kdn d = (decide (CL = 0) && kbx i S H R) := by unfold kdn; rw [hs4, hCL, hi, hS, hH, hR]
 have Hok := hdd hok
 have HI := hdd (show k3f d = if kdn d = true then i else 0 by unfold k3f; rw [hi])
 have HS := hdd (show kp0 d = if kdn d = true then S else [] by unfold kp0; rw [hS])
 have HH := hdd (show kpz d = if kdn d = true then H else [] by unfold kpz; rw [hH])
 have HR := hdd (show decR d = if kdn d = true then R else [] by unfold decR; rw [hR])
 clear hi hs1 hS hs2 hH hs3 hR hs4 e1 e2 e3 e4 hCL hok l1 l2 l3 l4
 go_enter Tryz.func106, Tryz.ntmps106
 go_wp2_with fail
 refine (kfr (B d) _).mono ?_
 rintro e w1 ⟨rfl, rfl⟩
 go_wp2_with fail
 obtain ⟨W1, hW1⟩ : ∃ W1, (w.alloc (.cells #[.int .i64 0, .slice none 0 0, .slice none 0 0, .slice none 0 0] 43)).alloc (.cells #[.string (B d), .int .i64 0] 200) = W1 := ⟨_, rfl⟩
 have hz1 : w.heap.size + 2 = W1.heap.size := by rw [← hW1]; simp
 rw [hW1] at HW1b HW1t HW1r ⊢
 clear hW1
 refine (C1.out _ HW1r.out).mono ?_
 rintro e w2 ⟨rfl, hA, hK⟩
 have hz2 := hK.size
 have HA2 := hdd hA
 have HT2 := hdd ((hK.block w.heap.size (by omega) (fun e => by have : w.heap.size = w.heap.size + 1 := e; omega)).trans HW1t.out)
 have HB2 := hdd (HW1b.out.trans (hK.below (by omega) (fun k hk e => by have : k = w.heap.size + 1 := e; omega)))
 clear hA hK
 go_wp2_with fail
 obtain ⟨b, hb⟩ : ∃ b, w2.heap.size = b := ⟨_, rfl⟩
 have hX3 := kak w2 (.cells #[.int .i64 i, .slice none 0 0, .slice none 0 0, .slice none 0 0] 43)
 have hT3 := kaq (o' := .cells #[.int .i64 i, .slice none 0 0, .slice none 0 0, .slice none 0 0] 43) HT2.out
 have hA3 : Rdr (w.heap.size + 1) (B s1.1) s1.2 (w2.alloc (.cells #[.int .i64 i, .slice none 0 0, .slice none 0 0, .slice none 0 0] 43)) := HA2.out.alloc _
 have hB3 := HB2.out.alloc HB2.out.size (.cells #[.int .i64 i, .slice none 0 0, .slice none 0 0, .slice none 0 0] 43)
 obtain ⟨W3, hW3⟩ : ∃ W3, w2.alloc (.cells #[.int .i64 i, .slice none 0 0, .slice none 0 0, .slice none 0 0] 43) = W3 := ⟨_, rfl⟩
 have hz3 : b + 1 = W3.heap.size := by rw [← hW3]; simp [hb]
 rw [hb] at hX3
 rw [hW3] at hX3 hT3 hA3 hB3 ⊢
 rw [hb] at hz2 ⊢
 have HX3 := hdd hX3
 have HT3 := hdd hT3
 have HA3 := hdd hA3
 have HB3 := hdd hB3
 clear hW3 hb hX3 hT3 hA3 hB3
 refine (C2.out _ HA3.out).mono ?_
 rintro e w4 ⟨v4, rfl, ho, hA, hK⟩
 have hz4 := hK.size
 rw [List.length_map] at ho
 have hx4 := (hK.block b (by omega) (fun e => by have : b = w.heap.size + 1 := e; omega)).trans HX3.out
 have HT4 := hdd ((hK.block w.heap.size (by omega) (fun e => by have : w.heap.size = w.heap.size + 1 := e; omega)).trans HT3.out)
 have HA4 := hdd hA
 have HB4 := hdd (HB3.out.trans (hK.below (by omega) (fun k hk e => by have : k = w.heap.size + 1 := e; omega)))
 obtain ⟨a4, p4, rfl⟩ := kah ho
 have HO4 := hdd ho
 have HX4 := hdd hx4
 obtain ⟨c0, c1, c2, c3⟩ := kf1 hx4
 have f1 := kai hx4 1
 clear ho hA hK hx4
 go_wp2_with fail
 have hX5 := set_of HX4.out 1 (.slice a4 S.length p4)
 have hT5 : (w4.setCell ⟨b, 1, none⟩ (.slice a4 S.length p4)).heap[w.heap.size]? = _ := ka0 HT4.out (by show w.heap.size ≠ b; omega)
 have hA5 : Rdr (w.heap.size + 1) (B s2.1) s2.2 (w4.setCell ⟨b, 1, none⟩ (.slice a4 S.length p4)) := ka0 HA4.out (by show w.heap.size + 1 ≠ b; omega)
 have hO5 := kap (p := ⟨b, 1, none⟩) (v' := .slice a4 S.length p4) HO4.out (by show b < W3.heap.size; omega)
 have hB5 := HB4.out.setCell (p := ⟨b, 1, none⟩) (by show w.heap.size ≤ b; omega) (.slice a4 S.length p4)
 obtain ⟨W5, hW5⟩ : ∃ W5, w4.setCell ⟨b, 1, none⟩ (.slice a4 S.length p4) = W5 := ⟨_, rfl⟩
 have hz5 : w4.heap.size = W5.heap.size := by rw [← hW5]; simp
 rw [hW5] at hX5 hT5 hA5 hO5 hB5 ⊢
 have HX5 := hdd hX5
 have HT5 := hdd hT5
 have HA5 := hdd hA5
 have HO5 := hdd hO5
 have HB5 := hdd hB5
 clear hW5 hX5 hT5 hA5 hO5 hB5 c0 c1 c2 c3 f1
 refine (C3.out _ HA5.out).mono ?_
 rintro e w6 ⟨v6, rfl, ho, hA, hK⟩
 have hz6 := hK.size
 rw [List.length_map] at ho
 have hx6 := (hK.block b (by omega) (fun e => by have : b = w.heap.size + 1 := e; omega)).trans HX5.out
 have HT6 := hdd ((hK.block w.heap.size (by omega) (fun e => by have : w.heap.size = w.heap.size + 1 := e; omega)).trans HT5.out)
 have HA6 := hdd hA
 have HB6 := hdd (HB5.out.trans (hK.below (by omega) (fun k hk e => by have : k = w.heap.size + 1 := e; omega)))
 have HO6 := hdd (kag HO5.out hK (fun k hk e => by have : k = w.heap.size + 1 := e; omega))
 obtain ⟨a6, p6, rfl⟩ := kah ho
 have HP6 := hdd ho
 have HX6 := hdd hx6
 obtain ⟨c0, c1, c2, c3⟩ := kf1 hx6
 have f1 := kai hx6 2
 clear ho hA hK hx6
 go_wp2_with fail
 have hX7 := set_of HX6.out 2 (.slice a6 H.length p6)
 have hT7 : (w6.setCell ⟨b, 2, none⟩ (.slice a6 H.length p6)).heap[w.heap.size]? = _ := ka0 HT6.out (by show w.heap.size ≠ b; omega)
 have hA7 : Rdr (w.heap.size + 1) (B s3.1) s3.2 (w6.setCell ⟨b, 2, none⟩ (.slice a6 H.length p6)) := ka0 HA6.out (by show w.heap.size + 1 ≠ b; omega)
 have hO7 := kap (p := ⟨b, 2, none⟩) (v' := .slice a6 H.length p6) HO6.out (by show b < W3.heap.size; omega)
 have hP7 := kap (p := ⟨b, 2, none⟩) (v' := .slice a6 H.length p6) HP6.out (by show b < W5.heap.size; omega)
 have hB7 := HB6.out.setCell (p := ⟨b, 2, none⟩) (by show w.heap.size ≤ b; omega) (.slice a6 H.length p6)
 obtain ⟨W7, hW7⟩ : ∃ W7, w6.setCell ⟨b, 2, none⟩ (.slice a6 H.length p6) = W7 := ⟨_, rfl⟩
 have hz7 : w6.heap.size = W7.heap.size := by rw [← hW7]; simp
 rw [hW7] at hX7 hT7 hA7 hO7 hP7 hB7 ⊢
 have HX7 := hdd hX7
 have HT7 := hdd hT7
 have HA7 := hdd hA7
 have HO7 := hdd hO7
 have HP7 := hdd hP7
 have HB7 := hdd hB7
 clear hW7 hX7 hT7 hA7 hO7 hP7 hB7 c0 c1 c2 c3 f1
 refine (C4.out _ HA7.out).mono ?_
 rintro e w8 ⟨v8, rfl, ho, hA, hK⟩
 have hz8 := hK.size
 rw [List.length_map] at ho
 have hx8 := (hK.block b (by omega) (fun e => by have : b = w.heap.size + 1 := e; omega)).trans HX7.out
 have HT8 := hdd ((hK.block w.heap.size (by omega) (fun e => by have : w.heap.size = w.heap.size + 1 := e; omega)).trans HT7.out)
 have HA8 := hdd hA
 have HB8 := hdd (HB7.out.trans (hK.below (by omega) (fun k hk e => by have : k = w.heap.size + 1 := e; omega)))
 have HO8 := hdd (kag HO7.out hK (fun k hk e => by have : k = w.heap.size + 1 := e; omega))
 have HP8 := hdd (kag HP7.out hK (fun k hk e => by have : k = w.heap.size + 1 := e; omega))
 obtain ⟨a8, p8, rfl⟩ := kah ho
 have HQ8 := hdd ho
 have HX8 := hdd hx8
 obtain ⟨c0, c1, c2, c3⟩ := kf1 hx8
 have f1 := kai hx8 3
 clear ho hA hK hx8
 go_wp2_with fail
 have hX9 := set_of HX8.out 3 (.slice a8 R.length p8)
 have hT9 : (w8.setCell ⟨b, 3, none⟩ (.slice a8 R.length p8)).heap[w.heap.size]? = _ := ka0 HT8.out (by show w.heap.size ≠ b; omega)
 have hA9 : Rdr (w.heap.size + 1) (B s4.1) s4.2 (w8.setCell ⟨b, 3, none⟩ (.slice a8 R.length p8)) := ka0 HA8.out (by show w.heap.size + 1 ≠ b; omega)
 have hO9 := kap (p := ⟨b, 3, none⟩) (v' := .slice a8 R.length p8) HO8.out (by show b < W3.heap.size; omega)
 have hP9 := kap (p := ⟨b, 3, none⟩) (v' := .slice a8 R.length p8) HP8.out (by show b < W5.heap.size; omega)
 have hQ9 := kap (p := ⟨b, 3, none⟩) (v' := .slice a8 R.length p8) HQ8.out (by show b < W7.heap.size; omega)
 have hB9 := HB8.out.setCell (p := ⟨b, 3, none⟩) (by show w.heap.size ≤ b; omega) (.slice a8 R.length p8)
 obtain ⟨W9, hW9⟩ : ∃ W9, w8.setCell ⟨b, 3, none⟩ (.slice a8 R.length p8) = W9 := ⟨_, rfl⟩
 have hz9 : w8.heap.size = W9.heap.size := by rw [← hW9]; simp
 rw [hW9] at hX9 hT9 hA9 hO9 hP9 hQ9 hB9 ⊢
 have HX9 := hdd hX9
 have HT9 := hdd hT9
 have HA9 := hdd hA9
 have HB9 := hdd hB9
 have HSig := hdd (show kec (.agg #[.int .i64 i, .slice a4 S.length p4, .slice a6 H.length p6, .slice a8 R.length p8]) i S H R W9 from
  ⟨_, _, _, rfl, IsSl.of_owns (by rw [List.length_map]; exact hO9) (by rw [List.length_map]; unfold maxLen; omega), IsSl.of_owns (by rw [List.length_map]; exact hP9) (by rw [List.length_map]; unfold maxLen; omega), IsSl.of_owns (by rw [List.length_map]; exact hQ9) (by rw [List.length_map]; unfold maxLen; omega)⟩)
 have HO9 := hdd hO9
 have HP9 := hdd hP9
 have HQ9 := hdd hQ9
 have hwW3 : w.heap.size < W3.heap.size := by omega
 have hwW5 : w.heap.size < W5.heap.size := by omega
 have hwW7 : w.heap.size < W7.heap.size := by omega
 clear hW9 hX9 hT9 hA9 hO9 hP9 hQ9 hB9 c0 c1 c2 c3 f1
 have hbw : b < W9.heap.size := by omega
 refine (C5.out _ HA9.out).mono ?_
 rintro e w10 ⟨rfl, rfl⟩
 have hFm := klo _ i S H R _ HSig.out
 obtain ⟨c0, c1, c2, c3⟩ := kf1 HX9.out
 obtain ⟨d0, d1, d2, d3⟩ := kf1 HT9.out
 have g0 := kai HT9.out 0
 have g1 := kai HT9.out 1
 have g2 := kai HT9.out 2
 have g3 := kai HT9.out 3
 by_cases hc : CL = 0
 · subst hc
   cases hk : kbx i S H R with
   | true =>
     rw [hk] at hFm
     have HFm := hdd hFm
     have hok : kdn d = true := by rw [Hok.out, hk]; rfl
     have q1 := HI.out
     have q2 := HS.out
     have q3 := HH.out
     have q4 := HR.out
     rw [hok, if_pos rfl] at q1 q2 q3 q4
     have Q1 := hdd q1
     have Q2 := hdd q2
     have Q3 := hdd q3
     have Q4 := hdd q4
     have Q5 := hdd (show kj4 d = 0 by unfold kj4; rw [hok]; rfl)
     clear hk hFm hok q1 q2 q3 q4
     go_wp2_with fail
     refine HFm.out.mono ?_
     rintro e w11 ⟨rfl, hb⟩
     have hx := (hb.block b hbw).trans HX9.out
     have ht := (hb.block w.heap.size (by omega)).trans HT9.out
     have HX := hdd hx
     have HT := hdd ht
     have HOf := hdd (kaf HO9.out (fun k _ hk => hb.block k hk))
     have HPf := hdd (kaf HP9.out (fun k _ hk => hb.block k hk))
     have HQf := hdd (kaf HQ9.out (fun k _ hk => hb.block k hk))
     have HB := hdd (HB9.out.next hb)
     clear c0 c1 c2 c3 d0 d1 d2 d3 g0 g1 g2 g3
     obtain ⟨c0, c1, c2, c3⟩ := kf1 hx
     obtain ⟨d0, d1, d2, d3⟩ := kf1 ht
     have g0 := kai ht 0
     have g1 := kai ht 1
     have g2 := kai ht 2
     have g3 := kai ht 3
     clear hx ht hb
     go_wp2
     have hK := kr3 w.heap.size w11 (.int .i64 i) (.slice a4 S.length p4) (.slice a6 H.length p6) (.slice a8 R.length p8)
     have hBf := HB.out.trans (hK.below HB.out.size (fun k hk e => by have : k = w.heap.size := e; omega))
     refine kam (p := 2) (t' := 3) (ty := 43) rfl w.heap.size 43 _ (0, 0) _ rfl (set_of (set_of (set_of (set_of HT.out 0 _) 1 _) 2 _) 3 _) Tryz.underlying43 rfl (by kernel_rfl) rfl ?_
     refine ⟨_, by rw [Q5.out]; rfl, ?_, hBf⟩
     rw [Q1.out, Q2.out, Q3.out, Q4.out]
     refine ⟨_, _, _, rfl, kan (kap (kap (kap (kap HOf.out (by exact hwW3)) (by exact hwW3)) (by exact hwW3)) (by exact hwW3)) (Nat.le_of_lt hwW3),
      kan (kap (kap (kap (kap HPf.out (by exact hwW5)) (by exact hwW5)) (by exact hwW5)) (by exact hwW5)) (Nat.le_of_lt hwW5),
      kan (kap (kap (kap (kap HQf.out (by exact hwW7)) (by exact hwW7)) (by exact hwW7)) (by exact hwW7)) (Nat.le_of_lt hwW7)⟩
   | false =>
     rw [hk] at hFm
     have HFm := hdd hFm
     have hok : kdn d = false := by rw [Hok.out, hk]; rfl
     have q1 := HI.out
     have q2 := HS.out
     have q3 := HH.out
     have q4 := HR.out
     rw [hok, if_neg (by decide)] at q1 q2 q3 q4
     have Q1 := hdd q1
     have Q2 := hdd q2
     have Q3 := hdd q3
     have Q4 := hdd q4
     have Q5 := hdd (show kj4 d = 17 by unfold kj4; rw [hok]; rfl)
     clear hk hFm hok q1 q2 q3 q4
     go_wp2_with fail
     refine HFm.out.mono ?_
     rintro e w11 ⟨rfl, hb⟩
     have ht := (hb.block w.heap.size (by omega)).trans HT9.out
     have HT := hdd ht
     have HB := hdd (HB9.out.next hb)
     clear c0 c1 c2 c3 d0 d1 d2 d3 g0 g1 g2 g3
     obtain ⟨d0, d1, d2, d3⟩ := kf1 ht
     have g0 := kai ht 0
     have g1 := kai ht 1
     have g2 := kai ht 2
     have g3 := kai ht 3
     clear ht hb
     go_wp2
     have hK := kr3 w.heap.size w11 (.int .i64 0) (.slice none 0 0) (.slice none 0 0) (.slice none 0 0)
     have hBf := HB.out.trans (hK.below HB.out.size (fun k hk e => by have : k = w.heap.size := e; omega))
     refine kam (p := 2) (t' := 3) (ty := 43) rfl w.heap.size 43 _ (0, 0) _ rfl (set_of (set_of (set_of (set_of HT.out 0 _) 1 _) 2 _) 3 _) Tryz.underlying43 rfl (by kernel_rfl) rfl ?_
     refine ⟨_, by rw [Q5.out]; rfl, ?_, hBf⟩
     rw [Q1.out, Q2.out, Q3.out, Q4.out]
     exact kl4 _ _
 · have hok : kdn d = false := by rw [Hok.out, decide_eq_false hc]; rfl
   have q1 := HI.out
   have q2 := HS.out
   have q3 := HH.out
   have q4 := HR.out
   rw [hok, if_neg (by decide)] at q1 q2 q3 q4
   have Q1 := hdd q1
   have Q2 := hdd q2
   have Q3 := hdd q3
   have Q4 := hdd q4
   have Q5 := hdd (show kj4 d = 17 by unfold kj4; rw [hok]; rfl)
   have hcl : (CL == 0) = false := by simpa using hc
   clear hok q1 q2 q3 q4 hFm
   go_wp2
   have hK := kr3 w.heap.size W9 (.int .i64 0) (.slice none 0 0) (.slice none 0 0) (.slice none 0 0)
   have hBf := HB9.out.trans (hK.below HB9.out.size (fun k hk e => by have : k = w.heap.size := e; omega))
   refine kam (p := 2) (t' := 3) (ty := 43) rfl w.heap.size 43 _ (0, 0) _ rfl (set_of (set_of (set_of (set_of HT9.out 0 _) 1 _) 2 _) 3 _) Tryz.underlying43 rfl (by kernel_rfl) rfl ?_
   refine ⟨_, by rw [Q5.out]; rfl, ?_, hBf⟩
   rw [Q1.out, Q2.out, Q3.out, Q4.out]
   exact kl4 _ _
end Go.Proofs.YtknpbekoenbphaaGreatDoor
