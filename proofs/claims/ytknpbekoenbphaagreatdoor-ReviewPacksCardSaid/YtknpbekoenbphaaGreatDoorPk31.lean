/- Parts of the proofs: WkRvP. No condition beyond those at each theorem. -/
import Derived.Test.YtknpbekoenbphaaGreatDoorPk28
import Derived.Test.YtknpbekoenbphaaGreatDoorPk30
set_option linter.unusedVariables false
set_option linter.unusedSimpArgs false
set_option maxHeartbeats 16000000
set_option maxRecDepth 100000
namespace Go.Proofs.YtknpbekoenbphaaGreatDoor
open Go Go.RowKit Licit
theorem k0s (d : Bs) : (dv1 d).2.1.length ≤ d.length ∧ (dv2 d).2.1.length ≤ d.length ∧ (dv3 d).2.1.length ≤ d.length ∧ (dv4 d).2.1.length ≤ d.length ∧ (dv5 d).2.1.length ≤ d.length ∧ (dv6 d).2.1.length ≤ d.length ∧ (dv7 d).2.1.length ≤ d.length ∧
 (dv8 d).2.1.length ≤ d.length ∧ (dv9 d).2.1.length ≤ d.length ∧ (kkz d).2.1.length ≤ d.length ∧ (kll d).2.1.length ≤ d.length ∧ (kms d).2.1.length ≤ d.length ∧ (kof d).2.1.length ≤ d.length ∧ (khc d).2.1.length ≤ d.length := by
 have h1 : (dv1 d).2.1.length ≤ d.length := kbz _ _ _
 have h2 := Nat.le_trans (kbh 32 (dv1 d).2) h1
 have h3 := Nat.le_trans (kbz 0 63 (dv2 d).2) h2
 have h4 := Nat.le_trans (kdv 32 (dv3 d).2) h3
 have h5 := Nat.le_trans (kbh 32 (dv4 d).2) h4
 have h6 := Nat.le_trans (kbz 0 512 (dv5 d).2) h5
 have h7 := Nat.le_trans (kbz 0 512 (dv6 d).2) h6
 have h8 := Nat.le_trans (kbh 200 (dv7 d).2) h7
 have h9 := Nat.le_trans (kbh 200 (dv8 d).2) h8
 have h10 := Nat.le_trans (kbh 200 (dv9 d).2) h9
 have h11 := Nat.le_trans (kbh 200 (kkz d).2) h10
 have h12 := Nat.le_trans (kbh 200 (kll d).2) h11
 have h13 := Nat.le_trans (kbz 0 1000 (kms d).2) h12
 have h14 := Nat.le_trans (kdv 32 (kof d).2) h13
 exact ⟨h1, h2, h3, h4, h5, h6, h7, h8, h9, h10, h11, h12, h13, h14⟩
theorem kbl {most : Int} (st : St) : (kao most st).1.length ≤ most.toNat := by
 unfold kao
 split
 · simp
 · split
   · split
     · simp
     · split
       · simp
       · split
         · simp
         · rw [List.length_take]; omega
   · simp
theorem kk8 {most : Int} : ∀ (k : Nat) (st : St), ∀ x ∈ (kbi (kao most) k st).1, x.length ≤ most.toNat
 | 0, _, x, hx => by simp [kbi] at hx
 | k + 1, st, x, hx => by
   unfold kbi at hx
   split at hx
   · simp at hx
   · rcases List.mem_cons.1 hx with rfl | hx
     · exact kbl st
     · exact kk8 k _ x hx
theorem kek {most : Int} (st : St) : ∀ x ∈ (ka5 most st).1, x.length ≤ most.toNat := by
 intro x hx
 unfold ka5 kco at hx
 dsimp only at hx
 split at hx
 · simp at hx
 · exact kk8 _ _ x hx
def kip (d : Bs) : Rv.Ev := (⟨(dv1 d).1, (dv2 d).1, (dv3 d).1, (dv4 d).1, (dv5 d).1, (dv6 d).1, (dv7 d).1, (dv8 d).1, (dv9 d).1, (kkz d).1, (kll d).1, (kms d).1, (kof d).1, (khc d).1, Rv.sg0⟩ : Rv.Ev)
def ky7 (d : Bs) : Bool := decide (ka4 (khc d).2 = 0) && Rv.validB (kip d)
def vdV (d : Bs) : Rv.Ev := if ky7 d = true then kip d else Rv.ev0
def vdF (d : Bs) : Int := if ky7 d = true then 0 else 17
theorem kqe (d : Bs) : kvn (kip d) := by
 have h : ∀ n : Nat, n ≤ 200 → n ≤ 1000000000 := fun n hn => by omega
 refine ⟨h _ ?_, h _ ?_, h _ ?_, h _ ?_, h _ ?_, h _ ?_, h _ ?_, fun x hx => h _ ?_, fun x hx => h _ ?_⟩
 · exact Nat.le_trans (kbl (most := 32) _) (by decide)
 · exact Nat.le_trans (kbl (most := 32) _) (by decide)
 · exact Nat.le_trans (kbl (most := 200) _) (by decide)
 · exact Nat.le_trans (kbl (most := 200) _) (by decide)
 · exact Nat.le_trans (kbl (most := 200) _) (by decide)
 · exact Nat.le_trans (kbl (most := 200) _) (by decide)
 · exact Nat.le_trans (kbl (most := 200) _) (by decide)
 · exact Nat.le_trans (kek (most := 32) _ x hx) (by decide)
 · exact Nat.le_trans (kek (most := 32) _ x hx) (by decide)
theorem kkb (d : Bs) (w : World) (hd : d.length ≤ 1000000000) : Calls Tryz.prog 41 #[.string (B d)] w fun en w' => ∃ v, en = .returned (.tuple #[v, .int .i64 (vdF d)]) ∧ (∀ W : World, (∀ k, w.heap.size ≤ k → k < w'.heap.size → W.heap[k]? = w'.heap[k]?) → kc1 v (vdV d) W) ∧ Below w.heap.size w w' := by
 obtain ⟨l1, l2, l3, l4, l5, l6, l7, l8, l9, l10, l11, l12, l13, l14⟩ := k0s d
 have hz : ∀ n : Nat, n ≤ d.length → n ≤ 281474976710656 := fun n hn => by omega
 have hz2 : ∀ n : Nat, n ≤ d.length → n ≤ maxLen := fun n hn => by unfold maxLen; omega
 obtain ⟨t, ht⟩ : ∃ t, w.heap.size = t := ⟨_, rfl⟩
 obtain ⟨r, hr⟩ : ∃ r, t + 1 = r := ⟨_, rfl⟩
 have C1 := hdd (fun (W : World) (h : Rdr r (B d) 0 W) => show Calls Tryz.prog 98 #[.pointer (some ⟨r, 0, none⟩), .int .i64 0, .int .i64 5] W (kg6 r W (.int .i64 (dv1 d).1) (dv1 d).2) from kdj r (B d) 0 0 5 W h (hz2 _ (Nat.le_refl _)))
 have C2 := hdd (fun (W : World) (h : Rdr r (B (dv1 d).2.1) (dv1 d).2.2 W) => show Calls Tryz.prog 99 #[.pointer (some ⟨r, 0, none⟩), .int .i64 32] W (kg6 r W (.string (B (dv2 d).1)) (dv2 d).2) from kex r _ _ 32 W h (hz _ l1))
 have C3 := hdd (fun (W : World) (h : Rdr r (B (dv2 d).2.1) (dv2 d).2.2 W) => show Calls Tryz.prog 98 #[.pointer (some ⟨r, 0, none⟩), .int .i64 0, .int .i64 63] W (kg6 r W (.int .i64 (dv3 d).1) (dv3 d).2) from kdj r _ _ 0 63 W h (hz2 _ l2))
 have C4 := hdd (fun (W : World) (h : Rdr r (B (dv3 d).2.1) (dv3 d).2.2 W) => show Calls Tryz.prog 100 #[.pointer (some ⟨r, 0, none⟩), .int .i64 32] W (fun en w' => ∃ v, en = .returned v ∧ w'.ownsRow W.heap.size 9 1 v (dv4 d).1.length ((dv4 d).1.map vS) ∧ Rdr r (B (dv4 d).2.1) (dv4 d).2.2 w' ∧ ka1 (Licit.One r) W w') from (kff r _ _ 32 W h (hz _ l3)).mono fun en w' ⟨v, h1, h2, h3, h4⟩ => ⟨v, h1, by rw [List.length_map] at h2; exact h2, h3, h4⟩)
 have C5 := hdd (fun (W : World) (h : Rdr r (B (dv4 d).2.1) (dv4 d).2.2 W) => show Calls Tryz.prog 99 #[.pointer (some ⟨r, 0, none⟩), .int .i64 32] W (kg6 r W (.string (B (dv5 d).1)) (dv5 d).2) from kex r _ _ 32 W h (hz _ l4))
 have C6 := hdd (fun (W : World) (h : Rdr r (B (dv5 d).2.1) (dv5 d).2.2 W) => show Calls Tryz.prog 98 #[.pointer (some ⟨r, 0, none⟩), .int .i64 0, .int .i64 512] W (kg6 r W (.int .i64 (dv6 d).1) (dv6 d).2) from kdj r _ _ 0 512 W h (hz2 _ l5))
 have C7 := hdd (fun (W : World) (h : Rdr r (B (dv6 d).2.1) (dv6 d).2.2 W) => show Calls Tryz.prog 98 #[.pointer (some ⟨r, 0, none⟩), .int .i64 0, .int .i64 512] W (kg6 r W (.int .i64 (dv7 d).1) (dv7 d).2) from kdj r _ _ 0 512 W h (hz2 _ l6))
 have C8 := hdd (fun (W : World) (h : Rdr r (B (dv7 d).2.1) (dv7 d).2.2 W) => show Calls Tryz.prog 99 #[.pointer (some ⟨r, 0, none⟩), .int .i64 200] W (kg6 r W (.string (B (dv8 d).1)) (dv8 d).2) from kex r _ _ 200 W h (hz _ l7))
 have C9 := hdd (fun (W : World) (h : Rdr r (B (dv8 d).2.1) (dv8 d).2.2 W) => show Calls Tryz.prog 99 #[.pointer (some ⟨r, 0, none⟩), .int .i64 200] W (kg6 r W (.string (B (dv9 d).1)) (dv9 d).2) from kex r _ _ 200 W h (hz _ l8))
 have C10 := hdd (fun (W : World) (h : Rdr r (B (dv9 d).2.1) (dv9 d).2.2 W) => show Calls Tryz.prog 99 #[.pointer (some ⟨r, 0, none⟩), .int .i64 200] W (kg6 r W (.string (B (kkz d).1)) (kkz d).2) from kex r _ _ 200 W h (hz _ l9))
 have C11 := hdd (fun (W : World) (h : Rdr r (B (kkz d).2.1) (kkz d).2.2 W) => show Calls Tryz.prog 99 #[.pointer (some ⟨r, 0, none⟩), .int .i64 200] W (kg6 r W (.string (B (kll d).1)) (kll d).2) from kex r _ _ 200 W h (hz _ l10))
 have C12 := hdd (fun (W : World) (h : Rdr r (B (kll d).2.1) (kll d).2.2 W) => show Calls Tryz.prog 99 #[.pointer (some ⟨r, 0, none⟩), .int .i64 200] W (kg6 r W (.string (B (kms d).1)) (kms d).2) from kex r _ _ 200 W h (hz _ l11))
 have C13 := hdd (fun (W : World) (h : Rdr r (B (kms d).2.1) (kms d).2.2 W) => show Calls Tryz.prog 98 #[.pointer (some ⟨r, 0, none⟩), .int .i64 0, .int .i64 1000] W (kg6 r W (.int .i64 (kof d).1) (kof d).2) from kdj r _ _ 0 1000 W h (hz2 _ l12))
 have C14 := hdd (fun (W : World) (h : Rdr r (B (kof d).2.1) (kof d).2.2 W) => show Calls Tryz.prog 100 #[.pointer (some ⟨r, 0, none⟩), .int .i64 32] W (fun en w' => ∃ v, en = .returned v ∧ w'.ownsRow W.heap.size 9 1 v (khc d).1.length ((khc d).1.map vS) ∧ Rdr r (B (khc d).2.1) (khc d).2.2 w' ∧ ka1 (Licit.One r) W w') from (kff r _ _ 32 W h (hz _ l13)).mono fun en w' ⟨v, h1, h2, h3, h4⟩ => ⟨v, h1, by rw [List.length_map] at h2; exact h2, h3, h4⟩)
 have C15 := hdd (fun (W : World) (h : Rdr r (B (khc d).2.1) (khc d).2.2 W) => show Calls Tryz.prog 101 #[.pointer (some ⟨r, 0, none⟩)] W (fun en w' => en = .returned (.int .i64 (ka4 (khc d).2)) ∧ W = w') from kj6 r _ _ W h)
 have hW1 : ∀ W, W = (w.alloc (.cells evZ 45)).alloc (.cells #[.string (B d), .int .i64 0] 200) → Below w.heap.size w W ∧ W.heap[t]? = some (.cells evZ 45 (0, 0)) ∧ Rdr r (B d) 0 W := by
  rintro _ rfl
  subst hr
  subst ht
  exact ⟨((Below.refl _ _).alloc (Nat.le_refl _) _).alloc (by simp) _, kaq (kak _ _), kaj (by simp) rfl⟩
 go_enter Tryz.func41, Tryz.ntmps41
 go_upto_region 2 with (first | (go_at_call 97; refine (kfr (B d) _).mono ?_; rintro en w0 ⟨rfl, rfl⟩) | fail)
 show Code.wp _ _ _ _ ((w.alloc (.cells evZ 45)).alloc (.cells #[.string (B d), .int .i64 0] 200))
 generalize hw1 : (w.alloc (.cells evZ 45)).alloc (.cells #[.string (B d), .int .i64 0] 200) = w1
 obtain ⟨hb, hT, hR⟩ := hW1 w1 hw1.symm
 clear hw1 hW1
 have HR0 := hdd hR
 have HT0 := hdd hT
 have HB0 := hdd hb
 have hz1 : w.heap.size + 2 ≤ w1.heap.size := by have := kac hR; omega
 clear hR hT hb
 go_upto_region 3 with (first
  | (go_at_call 98; refine (C1.out _ HR0.out).mono ?_
     rintro en u1 ⟨rfl, hA, hK⟩
     have HRu1 := hdd hA
     have HTu1 := hdd ((hK.block t (kac HT0.out) (fun e => by have : t = r := e; omega)).trans HT0.out)
     have HBu1 := hdd (HB0.out.trans (hK.below HB0.out.size (fun q hq e => by have : q = r := e; omega)))
     clear hA hK)
  | (refine kaa rfl 45 _ _ rfl u1.heap.size rfl (evC (dvK d 1) kal kal kal kal kal) rfl 45 evZ (kaj rfl rfl) (by kernel_rfl) rfl (kax _ _ _ _ _ _ rfl rfl rfl rfl rfl) ?_
     intro w2 hw2 hk2
     have HE1 := hdd hw2
     have HBk := hdd (show Below u1.heap.size u1 w2 from ((Below.refl _ _).alloc (Nat.le_refl _) _).trans (hk2.below (B := u1.heap.size) (by simp) (fun q hq e => by have : q = u1.heap.size := e; omega)))
     clear hw2 hk2)
  | fail)
 have HR1 := hdd (show Rdr r (B (dv1 d).2.1) (dv1 d).2.2 w2 from kad HBk.out (kac HRu1.out) HRu1.out)
 have HT1 := bhh HBk.out HTu1
 have HB1 := hdd (HBu1.out.next HBk.out)
 have hrb := kac HRu1.out
 have htb := kac HTu1.out
 obtain ⟨b, hb⟩ : ∃ b, u1.heap.size = b := ⟨_, rfl⟩
 rw [hb] at HE1 hrb htb ⊢
 have hbr : ¬ b = r := by omega
 have hbt : ¬ b = t := by omega
 have htr : ¬ t = r := by omega
 clear hb HRu1 HTu1 HBu1 HR0 HT0 HB0 HBk C1
 try simp only [Act.put]
 go_upto_region 4 with (first
  | (go_at_call 99; refine (C2.out _ HR1.out).mono ?_
     rintro en u2 ⟨rfl, hA, hK⟩
     have HRu2 := hdd hA
     have HEu2 := hdd ((hK.block b (kac HE1.out) (fun e => hbr e)).trans HE1.out)
     have HTu2 := hdd ((hK.block t (kac HT1.out) (fun e => htr e)).trans HT1.out)
     have HBu2 := hdd (HB1.out.trans (hK.below HB1.out.size (fun q hq e => by have : q = r := e; omega)))
     clear hA hK)
  | (refine kae rfl 9 _ _ rfl b 1 rfl (.string (B (dv2 d).1)) rfl rfl rfl _ 45 HEu2.out (by simp) (by kernel_rfl) ?_
     intro w2 hw hk
     have HE2 := hdd (show w2.heap[b]? = some (.cells (evC (dvK d 2) kal kal kal kal kal) 45 (0, 0)) from hw)
     have HR2 := hdd (show Rdr r (B (dv2 d).2.1) (dv2 d).2.2 w2 from (hk.block r (kac HRu2.out) (fun e => hbr (Eq.symm e))).trans HRu2.out)
     have HT2 := hdd ((hk.block t (kac HTu2.out) (fun e => hbt (Eq.symm e))).trans HTu2.out)
     have HB2 := hdd (HBu2.out.trans (hk.below HBu2.out.size (fun q hq e => by have : q = b := e; omega)))
     clear hw hk)
  | fail)
 clear HRu2 HEu2 HTu2 HBu2 HR1 HE1 HT1 HB1
 try simp only [Act.put]
 go_upto_region 5 with (first
  | (go_at_call 98; refine (C3.out _ HR2.out).mono ?_
     rintro en u3 ⟨rfl, hA, hK⟩
     have HRu3 := hdd hA
     have HEu3 := hdd ((hK.block b (kac HE2.out) (fun e => hbr e)).trans HE2.out)
     have HTu3 := hdd ((hK.block t (kac HT2.out) (fun e => htr e)).trans HT2.out)
     have HBu3 := hdd (HB2.out.trans (hK.below HB2.out.size (fun q hq e => by have : q = r := e; omega)))
     clear hA hK)
  | (refine kae rfl 3 _ _ rfl b 2 rfl (.int .i64 (dv3 d).1) rfl rfl rfl _ 45 HEu3.out (by simp) (by kernel_rfl) ?_
     intro w3 hw hk
     have HE3 := hdd (show w3.heap[b]? = some (.cells (evC (dvK d 3) kal kal kal kal kal) 45 (0, 0)) from hw)
     have HR3 := hdd (show Rdr r (B (dv3 d).2.1) (dv3 d).2.2 w3 from (hk.block r (kac HRu3.out) (fun e => hbr (Eq.symm e))).trans HRu3.out)
     have HT3 := hdd ((hk.block t (kac HTu3.out) (fun e => hbt (Eq.symm e))).trans HTu3.out)
     have HB3 := hdd (HBu3.out.trans (hk.below HBu3.out.size (fun q hq e => by have : q = b := e; omega)))
     clear hw hk)
  | fail)
 clear HRu3 HEu3 HTu3 HBu3 HR2 HE2 HT2 HB2
 try simp only [Act.put]
 go_upto_region 6 with (first
  | (go_at_call 100; refine (C4.out _ HR3.out).mono ?_
     rintro en u4 ⟨v4, rfl, ho, hA, hK⟩
     obtain ⟨a4, c4, rfl⟩ := kah ho
     have HW4 := hdd ho
     have HRu4 := hdd hA
     have HEu4 := hdd ((hK.block b (kac HE3.out) (fun e => hbr e)).trans HE3.out)
     have HTu4 := hdd ((hK.block t (kac HT3.out) (fun e => htr e)).trans HT3.out)
     have HBu4 := hdd (HB3.out.trans (hK.below HB3.out.size (fun q hq e => by have : q = r := e; omega)))
     clear hA hK ho)
  | (refine kae rfl 39 _ _ rfl b 3 rfl (.slice a4 (dv4 d).1.length c4) rfl rfl rfl _ 45 HEu4.out (by simp) (by kernel_rfl) ?_
     intro w4 hw hk
     have HE4 := hdd (show w4.heap[b]? = some (.cells (evC (dvK d 4) (.slice a4 (dv4 d).1.length c4) kal kal kal kal) 45 (0, 0)) from hw)
     have HR4 := hdd (show Rdr r (B (dv4 d).2.1) (dv4 d).2.2 w4 from (hk.block r (kac HRu4.out) (fun e => hbr (Eq.symm e))).trans HRu4.out)
     have HT4 := hdd ((hk.block t (kac HTu4.out) (fun e => hbt (Eq.symm e))).trans HTu4.out)
     have HB4 := hdd (HBu4.out.trans (hk.below HBu4.out.size (fun q hq e => by have : q = b := e; omega)))
     have HO4 := hdd (kan (kag (kan HW4.out (show b + 1 ≤ _ from HE3.out |> kac)) hk (fun q hq e => by have : q = b := e; omega)) (Nat.le_refl _))
     clear hw hk)
  | fail)
 clear HRu4 HEu4 HTu4 HBu4 HR3 HE3 HT3 HB3
 try simp only [Act.put]
 go_upto_region 7 with (first
  | (go_at_call 99; refine (C5.out _ HR4.out).mono ?_
     rintro en u5 ⟨rfl, hA, hK⟩
     have HRu5 := hdd hA
     have HEu5 := hdd ((hK.block b (kac HE4.out) (fun e => hbr e)).trans HE4.out)
     have HTu5 := hdd ((hK.block t (kac HT4.out) (fun e => htr e)).trans HT4.out)
     have HBu5 := hdd (HB4.out.trans (hK.below HB4.out.size (fun q hq e => by have : q = r := e; omega)))
     have HOu5 := hdd (kag HO4.out hK (fun q hq e => by have : q = r := e; omega))
     clear hA hK)
  | (refine kae rfl 9 _ _ rfl b 4 rfl (.string (B (dv5 d).1)) rfl rfl rfl _ 45 HEu5.out (by simp) (by kernel_rfl) ?_
     intro w5 hw hk
     have HE5 := hdd (show w5.heap[b]? = some (.cells (evC (dvK d 5) (.slice a4 (dv4 d).1.length c4) kal kal kal kal) 45 (0, 0)) from hw)
     have HR5 := hdd (show Rdr r (B (dv5 d).2.1) (dv5 d).2.2 w5 from (hk.block r (kac HRu5.out) (fun e => hbr (Eq.symm e))).trans HRu5.out)
     have HT5 := hdd ((hk.block t (kac HTu5.out) (fun e => hbt (Eq.symm e))).trans HTu5.out)
     have HB5 := hdd (HBu5.out.trans (hk.below HBu5.out.size (fun q hq e => by have : q = b := e; omega)))
     have HO5 := hdd (kag HOu5.out hk (fun q hq e => by have : q = b := e; omega))
     clear hw hk)
  | fail)
 clear HRu5 HEu5 HTu5 HBu5 HR4 HE4 HT4 HB4 HOu5 HO4
 try simp only [Act.put]
 go_upto_region 8 with (first
  | (go_at_call 98; refine (C6.out _ HR5.out).mono ?_
     rintro en u6 ⟨rfl, hA, hK⟩
     have HRu6 := hdd hA
     have HEu6 := hdd ((hK.block b (kac HE5.out) (fun e => hbr e)).trans HE5.out)
     have HTu6 := hdd ((hK.block t (kac HT5.out) (fun e => htr e)).trans HT5.out)
     have HBu6 := hdd (HB5.out.trans (hK.below HB5.out.size (fun q hq e => by have : q = r := e; omega)))
     have HOu6 := hdd (kag HO5.out hK (fun q hq e => by have : q = r := e; omega))
     clear hA hK)
  | (refine kae rfl 3 _ _ rfl b 5 rfl (.int .i64 (dv6 d).1) rfl rfl rfl _ 45 HEu6.out (by simp) (by kernel_rfl) ?_
     intro w6 hw hk
     have HE6 := hdd (show w6.heap[b]? = some (.cells (evC (dvK d 6) (.slice a4 (dv4 d).1.length c4) kal kal kal kal) 45 (0, 0)) from hw)
     have HR6 := hdd (show Rdr r (B (dv6 d).2.1) (dv6 d).2.2 w6 from (hk.block r (kac HRu6.out) (fun e => hbr (Eq.symm e))).trans HRu6.out)
     have HT6 := hdd ((hk.block t (kac HTu6.out) (fun e => hbt (Eq.symm e))).trans HTu6.out)
     have HB6 := hdd (HBu6.out.trans (hk.below HBu6.out.size (fun q hq e => by have : q = b := e; omega)))
     have HO6 := hdd (kag HOu6.out hk (fun q hq e => by have : q = b := e; omega))
     clear hw hk)
  | fail)
 clear HRu6 HEu6 HTu6 HBu6 HR5 HE5 HT5 HB5 HOu6 HO5
 try simp only [Act.put]
 go_upto_region 9 with (first
  | (go_at_call 98; refine (C7.out _ HR6.out).mono ?_
     rintro en u7 ⟨rfl, hA, hK⟩
     have HRu7 := hdd hA
     have HEu7 := hdd ((hK.block b (kac HE6.out) (fun e => hbr e)).trans HE6.out)
     have HTu7 := hdd ((hK.block t (kac HT6.out) (fun e => htr e)).trans HT6.out)
     have HBu7 := hdd (HB6.out.trans (hK.below HB6.out.size (fun q hq e => by have : q = r := e; omega)))
     have HOu7 := hdd (kag HO6.out hK (fun q hq e => by have : q = r := e; omega))
     clear hA hK)
  | (refine kae rfl 3 _ _ rfl b 6 rfl (.int .i64 (dv7 d).1) rfl rfl rfl _ 45 HEu7.out (by simp) (by kernel_rfl) ?_
     intro w7 hw hk
     have HE7 := hdd (show w7.heap[b]? = some (.cells (evC (dvK d 7) (.slice a4 (dv4 d).1.length c4) kal kal kal kal) 45 (0, 0)) from hw)
     have HR7 := hdd (show Rdr r (B (dv7 d).2.1) (dv7 d).2.2 w7 from (hk.block r (kac HRu7.out) (fun e => hbr (Eq.symm e))).trans HRu7.out)
     have HT7 := hdd ((hk.block t (kac HTu7.out) (fun e => hbt (Eq.symm e))).trans HTu7.out)
     have HB7 := hdd (HBu7.out.trans (hk.below HBu7.out.size (fun q hq e => by have : q = b := e; omega)))
     have HO7 := hdd (kag HOu7.out hk (fun q hq e => by have : q = b := e; omega))
     clear hw hk)
  | fail)
 clear HRu7 HEu7 HTu7 HBu7 HR6 HE6 HT6 HB6 HOu7 HO6
 try simp only [Act.put]
 have hm7 := HB7.out.size
 have hl7 := kac HE7.out
 have hMn := kak w7 (.cells #[.pointer (some ⟨b, 7, none⟩), .pointer (some ⟨b, 8, none⟩), .pointer (some ⟨b, 9, none⟩), .pointer (some ⟨b, 10, none⟩), .pointer (some ⟨b, 11, none⟩)] 157)
 have hbn : Below w7.heap.size w7 (w7.alloc (.cells #[.pointer (some ⟨b, 7, none⟩), .pointer (some ⟨b, 8, none⟩), .pointer (some ⟨b, 9, none⟩), .pointer (some ⟨b, 10, none⟩), .pointer (some ⟨b, 11, none⟩)] 157)) := (Below.refl _ _).alloc (Nat.le_refl _) _
 have hR7 := hdd (show Rdr r (B (dv7 d).2.1) (dv7 d).2.2 _ from kad hbn (kac HR7.out) HR7.out)
 have hE7 := bhh hbn HE7
 have hT7 := bhh hbn HT7
 have hB7 := hdd (HB7.out.next hbn)
 have hO7 := hdd (kca HO7.out fun q hq => hbn.block q (HO7.out.lt q hq).2)
 have hM7 := hdd hMn
 obtain ⟨m, hm⟩ : ∃ m, w7.heap.size = m := ⟨_, rfl⟩
 have hmr : ¬ m = r := by omega
 have hmb : ¬ m = b := by omega
 rw [hm] at hM7
 clear hMn hbn hl7 hm7 HR7 HE7 HT7 HB7 HO7 C2 C3 C4 C5 C6 C7
 go_wp2
 go_loopw [7, 40] (fun _ n wr => ∃ k : Nat, k ≤ 5 ∧ n = .int .i64 k ∧ Rdr r (B (sK d k).1) (sK d k).2 wr ∧ wr.heap[b]? = some (.cells (cK d a4 c4 k) 45 (0, 0)) ∧ wr.heap[t]? = some (.cells evZ 45 (0, 0)) ∧ Below w.heap.size w wr ∧ wr.ownsRow (b + 1) 9 1 (.slice a4 (dv4 d).1.length c4) (dv4 d).1.length ((dv4 d).1.map vS) ∧
  wr.heap[m]? = some (.cells #[.pointer (some ⟨b, 7, none⟩), .pointer (some ⟨b, 8, none⟩), .pointer (some ⟨b, 9, none⟩), .pointer (some ⟨b, 10, none⟩), .pointer (some ⟨b, 11, none⟩)] 157 (0, 0))) (fun _ n _ => 5 - (intOf n).toNat)
 case atStart => exact ⟨0, by omega, rfl, hR7.out, hE7.out, hT7.out, hB7.out, hO7.out, hM7.out⟩
 case round =>
  obtain ⟨k, hk, rfl, hrr, hee, htt, hbb, hoo, hmm⟩ := hrel
  by_cases hlt : k < 5
  · clear hk
    rcases (show k = 0 ∨ k = 1 ∨ k = 2 ∨ k = 3 ∨ k = 4 by omega) with rfl | rfl | rfl | rfl | rfl
    · have HR7 := hdd (show Rdr r (B (dv7 d).2.1) (dv7 d).2.2 wr from hrr)
      have HE7 := hdd (show wr.heap[b]? = some (.cells (evC (dvK d 7) (.slice a4 (dv4 d).1.length c4) kal kal kal kal) 45 (0, 0)) from hee)
      have HT7 := hdd htt
      have HB7 := hdd hbb
      have HO7 := hdd hoo
      have HM7 := hdd hmm
      clear hrr hee htt hbb hoo
      have cm : wr.cell? ⟨m, 0, none⟩ = some (.pointer (some ⟨b, 7, none⟩)) := by rw [kab hmm]; rfl
      clear hmm
      go_wp2_with (first
       | (go_at_call 99; refine (C8.out _ HR7.out).mono ?_
          rintro en u8 ⟨rfl, hA, hK⟩
          have HRu8 := hdd hA
          have HEu8 := hdd ((hK.block b (kac HE7.out) (fun e => hbr e)).trans HE7.out)
          have HTu8 := hdd ((hK.block t (kac HT7.out) (fun e => htr e)).trans HT7.out)
          have HBu8 := hdd (HB7.out.trans (hK.below HB7.out.size (fun q hq e => by have : q = r := e; omega)))
          have HOu8 := hdd (kag HO7.out hK (fun q hq e => by have : q = r := e; omega))
          have HMu8 := hdd ((hK.block m (kac HM7.out) (fun e => hmr e)).trans HM7.out)
          clear hA hK)
       | (refine kae rfl 9 _ _ rfl b 7 rfl (.string (B (dv8 d).1)) rfl rfl rfl _ 45 HEu8.out (by simp) (by kernel_rfl) ?_
          intro w8 hw hk
          have HE8 := hdd (show w8.heap[b]? = some (.cells (evC (dvK d 8) (.slice a4 (dv4 d).1.length c4) kal kal kal kal) 45 (0, 0)) from hw)
          have HR8 := hdd (show Rdr r (B (dv8 d).2.1) (dv8 d).2.2 w8 from (hk.block r (kac HRu8.out) (fun e => hbr (Eq.symm e))).trans HRu8.out)
          have HT8 := hdd ((hk.block t (kac HTu8.out) (fun e => hbt (Eq.symm e))).trans HTu8.out)
          have HB8 := hdd (HBu8.out.trans (hk.below HBu8.out.size (fun q hq e => by have : q = b := e; omega)))
          have HO8 := hdd (kag HOu8.out hk (fun q hq e => by have : q = b := e; omega))
          have HM8 := hdd ((hk.block m (kac HMu8.out) (fun e => hmb e)).trans HMu8.out)
          clear hw hk)
       | fail)
      go_roundw
      case rel => exact ⟨1, by omega, by go_num, HR8.out, HE8.out, HT8.out, HB8.out, HO8.out, HM8.out⟩
      case measure => first | (simp [intOf]; done) | (simp [intOf]; omega)
    · have HR8 := hdd (show Rdr r (B (dv8 d).2.1) (dv8 d).2.2 wr from hrr)
      have HE8 := hdd (show wr.heap[b]? = some (.cells (evC (dvK d 8) (.slice a4 (dv4 d).1.length c4) kal kal kal kal) 45 (0, 0)) from hee)
      have HT8 := hdd htt
      have HB8 := hdd hbb
      have HO8 := hdd hoo
      have HM8 := hdd hmm
      clear hrr hee htt hbb hoo
      have cm : wr.cell? ⟨m, 1, none⟩ = some (.pointer (some ⟨b, 8, none⟩)) := by rw [kab hmm]; rfl
      clear hmm
      go_wp2_with (first
       | (go_at_call 99; refine (C9.out _ HR8.out).mono ?_
          rintro en u9 ⟨rfl, hA, hK⟩
          have HRu9 := hdd hA
          have HEu9 := hdd ((hK.block b (kac HE8.out) (fun e => hbr e)).trans HE8.out)
          have HTu9 := hdd ((hK.block t (kac HT8.out) (fun e => htr e)).trans HT8.out)
          have HBu9 := hdd (HB8.out.trans (hK.below HB8.out.size (fun q hq e => by have : q = r := e; omega)))
          have HOu9 := hdd (kag HO8.out hK (fun q hq e => by have : q = r := e; omega))
          have HMu9 := hdd ((hK.block m (kac HM8.out) (fun e => hmr e)).trans HM8.out)
          clear hA hK)
       | (refine kae rfl 9 _ _ rfl b 8 rfl (.string (B (dv9 d).1)) rfl rfl rfl _ 45 HEu9.out (by simp) (by kernel_rfl) ?_
          intro w9 hw hk
          have HE9 := hdd (show w9.heap[b]? = some (.cells (evC (dvK d 9) (.slice a4 (dv4 d).1.length c4) kal kal kal kal) 45 (0, 0)) from hw)
          have HR9 := hdd (show Rdr r (B (dv9 d).2.1) (dv9 d).2.2 w9 from (hk.block r (kac HRu9.out) (fun e => hbr (Eq.symm e))).trans HRu9.out)
          have HT9 := hdd ((hk.block t (kac HTu9.out) (fun e => hbt (Eq.symm e))).trans HTu9.out)
          have HB9 := hdd (HBu9.out.trans (hk.below HBu9.out.size (fun q hq e => by have : q = b := e; omega)))
          have HO9 := hdd (kag HOu9.out hk (fun q hq e => by have : q = b := e; omega))
          have HM9 := hdd ((hk.block m (kac HMu9.out) (fun e => hmb e)).trans HMu9.out)
          clear hw hk)
       | fail)
      go_roundw
      case rel => exact ⟨2, by omega, by go_num, HR9.out, HE9.out, HT9.out, HB9.out, HO9.out, HM9.out⟩
      case measure => first | (simp [intOf]; done) | (simp [intOf]; omega)
    · have HR9 := hdd (show Rdr r (B (dv9 d).2.1) (dv9 d).2.2 wr from hrr)
      have HE9 := hdd (show wr.heap[b]? = some (.cells (evC (dvK d 9) (.slice a4 (dv4 d).1.length c4) kal kal kal kal) 45 (0, 0)) from hee)
      have HT9 := hdd htt
      have HB9 := hdd hbb
      have HO9 := hdd hoo
      have HM9 := hdd hmm
      clear hrr hee htt hbb hoo
      have cm : wr.cell? ⟨m, 2, none⟩ = some (.pointer (some ⟨b, 9, none⟩)) := by rw [kab hmm]; rfl
      clear hmm
      go_wp2_with (first
       | (go_at_call 99; refine (C10.out _ HR9.out).mono ?_
          rintro en u10 ⟨rfl, hA, hK⟩
          have HRu10 := hdd hA
          have HEu10 := hdd ((hK.block b (kac HE9.out) (fun e => hbr e)).trans HE9.out)
          have HTu10 := hdd ((hK.block t (kac HT9.out) (fun e => htr e)).trans HT9.out)
          have HBu10 := hdd (HB9.out.trans (hK.below HB9.out.size (fun q hq e => by have : q = r := e; omega)))
          have HOu10 := hdd (kag HO9.out hK (fun q hq e => by have : q = r := e; omega))
          have HMu10 := hdd ((hK.block m (kac HM9.out) (fun e => hmr e)).trans HM9.out)
          clear hA hK)
       | (refine kae rfl 9 _ _ rfl b 9 rfl (.string (B (kkz d).1)) rfl rfl rfl _ 45 HEu10.out (by simp) (by kernel_rfl) ?_
          intro w10 hw hk
          have HE10 := hdd (show w10.heap[b]? = some (.cells (evC (dvK d 10) (.slice a4 (dv4 d).1.length c4) kal kal kal kal) 45 (0, 0)) from hw)
          have HR10 := hdd (show Rdr r (B (kkz d).2.1) (kkz d).2.2 w10 from (hk.block r (kac HRu10.out) (fun e => hbr (Eq.symm e))).trans HRu10.out)
          have HT10 := hdd ((hk.block t (kac HTu10.out) (fun e => hbt (Eq.symm e))).trans HTu10.out)
          have HB10 := hdd (HBu10.out.trans (hk.below HBu10.out.size (fun q hq e => by have : q = b := e; omega)))
          have HO10 := hdd (kag HOu10.out hk (fun q hq e => by have : q = b := e; omega))
          have HM10 := hdd ((hk.block m (kac HMu10.out) (fun e => hmb e)).trans HMu10.out)
          clear hw hk)
       | fail)
      go_roundw
      case rel => exact ⟨3, by omega, by go_num, HR10.out, HE10.out, HT10.out, HB10.out, HO10.out, HM10.out⟩
      case measure => first | (simp [intOf]; done) | (simp [intOf]; omega)
    · have HR10 := hdd (show Rdr r (B (kkz d).2.1) (kkz d).2.2 wr from hrr)
      have HE10 := hdd (show wr.heap[b]? = some (.cells (evC (dvK d 10) (.slice a4 (dv4 d).1.length c4) kal kal kal kal) 45 (0, 0)) from hee)
      have HT10 := hdd htt
      have HB10 := hdd hbb
      have HO10 := hdd hoo
      have HM10 := hdd hmm
      clear hrr hee htt hbb hoo
      have cm : wr.cell? ⟨m, 3, none⟩ = some (.pointer (some ⟨b, 10, none⟩)) := by rw [kab hmm]; rfl
      clear hmm
      go_wp2_with (first
       | (go_at_call 99; refine (C11.out _ HR10.out).mono ?_
          rintro en u11 ⟨rfl, hA, hK⟩
          have HRu11 := hdd hA
          have HEu11 := hdd ((hK.block b (kac HE10.out) (fun e => hbr e)).trans HE10.out)
          have HTu11 := hdd ((hK.block t (kac HT10.out) (fun e => htr e)).trans HT10.out)
          have HBu11 := hdd (HB10.out.trans (hK.below HB10.out.size (fun q hq e => by have : q = r := e; omega)))
          have HOu11 := hdd (kag HO10.out hK (fun q hq e => by have : q = r := e; omega))
          have HMu11 := hdd ((hK.block m (kac HM10.out) (fun e => hmr e)).trans HM10.out)
          clear hA hK)
       | (refine kae rfl 9 _ _ rfl b 10 rfl (.string (B (kll d).1)) rfl rfl rfl _ 45 HEu11.out (by simp) (by kernel_rfl) ?_
          intro w11 hw hk
          have HE11 := hdd (show w11.heap[b]? = some (.cells (evC (dvK d 11) (.slice a4 (dv4 d).1.length c4) kal kal kal kal) 45 (0, 0)) from hw)
          have HR11 := hdd (show Rdr r (B (kll d).2.1) (kll d).2.2 w11 from (hk.block r (kac HRu11.out) (fun e => hbr (Eq.symm e))).trans HRu11.out)
          have HT11 := hdd ((hk.block t (kac HTu11.out) (fun e => hbt (Eq.symm e))).trans HTu11.out)
          have HB11 := hdd (HBu11.out.trans (hk.below HBu11.out.size (fun q hq e => by have : q = b := e; omega)))
          have HO11 := hdd (kag HOu11.out hk (fun q hq e => by have : q = b := e; omega))
          have HM11 := hdd ((hk.block m (kac HMu11.out) (fun e => hmb e)).trans HMu11.out)
          clear hw hk)
       | fail)
      go_roundw
      case rel => exact ⟨4, by omega, by go_num, HR11.out, HE11.out, HT11.out, HB11.out, HO11.out, HM11.out⟩
      case measure => first | (simp [intOf]; done) | (simp [intOf]; omega)
    · have HR11 := hdd (show Rdr r (B (kll d).2.1) (kll d).2.2 wr from hrr)
      have HE11 := hdd (show wr.heap[b]? = some (.cells (evC (dvK d 11) (.slice a4 (dv4 d).1.length c4) kal kal kal kal) 45 (0, 0)) from hee)
      have HT11 := hdd htt
      have HB11 := hdd hbb
      have HO11 := hdd hoo
      have HM11 := hdd hmm
      clear hrr hee htt hbb hoo
      have cm : wr.cell? ⟨m, 4, none⟩ = some (.pointer (some ⟨b, 11, none⟩)) := by rw [kab hmm]; rfl
      clear hmm
      go_wp2_with (first
       | (go_at_call 99; refine (C12.out _ HR11.out).mono ?_
          rintro en u12 ⟨rfl, hA, hK⟩
          have HRu12 := hdd hA
          have HEu12 := hdd ((hK.block b (kac HE11.out) (fun e => hbr e)).trans HE11.out)
          have HTu12 := hdd ((hK.block t (kac HT11.out) (fun e => htr e)).trans HT11.out)
          have HBu12 := hdd (HB11.out.trans (hK.below HB11.out.size (fun q hq e => by have : q = r := e; omega)))
          have HOu12 := hdd (kag HO11.out hK (fun q hq e => by have : q = r := e; omega))
          have HMu12 := hdd ((hK.block m (kac HM11.out) (fun e => hmr e)).trans HM11.out)
          clear hA hK)
       | (refine kae rfl 9 _ _ rfl b 11 rfl (.string (B (kms d).1)) rfl rfl rfl _ 45 HEu12.out (by simp) (by kernel_rfl) ?_
          intro w12 hw hk
          have HE12 := hdd (show w12.heap[b]? = some (.cells (evC (dvK d 12) (.slice a4 (dv4 d).1.length c4) kal kal kal kal) 45 (0, 0)) from hw)
          have HR12 := hdd (show Rdr r (B (kms d).2.1) (kms d).2.2 w12 from (hk.block r (kac HRu12.out) (fun e => hbr (Eq.symm e))).trans HRu12.out)
          have HT12 := hdd ((hk.block t (kac HTu12.out) (fun e => hbt (Eq.symm e))).trans HTu12.out)
          have HB12 := hdd (HBu12.out.trans (hk.below HBu12.out.size (fun q hq e => by have : q = b := e; omega)))
          have HO12 := hdd (kag HOu12.out hk (fun q hq e => by have : q = b := e; omega))
          have HM12 := hdd ((hk.block m (kac HMu12.out) (fun e => hmb e)).trans HMu12.out)
          clear hw hk)
       | fail)
      go_roundw
      case rel => exact ⟨5, by omega, by go_num, HR12.out, HE12.out, HT12.out, HB12.out, HO12.out, HM12.out⟩
      case measure => first | (simp [intOf]; done) | (simp [intOf]; omega)
  · obtain rfl : k = 5 := by omega
    have HR12 := hdd (show Rdr r (B (kms d).2.1) (kms d).2.2 wr from hrr)
    have HE12 := hdd (show wr.heap[b]? = some (.cells (evC (dvK d 12) (.slice a4 (dv4 d).1.length c4) kal kal kal kal) 45 (0, 0)) from hee)
    have HT12 := hdd htt
    have HB12 := hdd hbb
    have HO12 := hdd hoo
    clear hrr hee htt hbb hoo hmm hlt hk
    go_upto_region 15 with (first
     | (go_at_call 98; refine (C13.out _ HR12.out).mono ?_
        rintro en u13 ⟨rfl, hA, hK⟩
        have HRu13 := hdd hA
        have HEu13 := hdd ((hK.block b (kac HE12.out) (fun e => hbr e)).trans HE12.out)
        have HTu13 := hdd ((hK.block t (kac HT12.out) (fun e => htr e)).trans HT12.out)
        have HBu13 := hdd (HB12.out.trans (hK.below HB12.out.size (fun q hq e => by have : q = r := e; omega)))
        have HOu13 := hdd (kag HO12.out hK (fun q hq e => by have : q = r := e; omega))
        clear hA hK)
     | (refine kae rfl 3 _ _ rfl b 12 rfl (.int .i64 (kof d).1) rfl rfl rfl _ 45 HEu13.out (by simp) (by kernel_rfl) ?_
        intro w13 hw hk
        have HE13 := hdd (show w13.heap[b]? = some (.cells (evC (dvK d 13) (.slice a4 (dv4 d).1.length c4) kal kal kal kal) 45 (0, 0)) from hw)
        have HR13 := hdd (show Rdr r (B (kof d).2.1) (kof d).2.2 w13 from (hk.block r (kac HRu13.out) (fun e => hbr (Eq.symm e))).trans HRu13.out)
        have HT13 := hdd ((hk.block t (kac HTu13.out) (fun e => hbt (Eq.symm e))).trans HTu13.out)
        have HB13 := hdd (HBu13.out.trans (hk.below HBu13.out.size (fun q hq e => by have : q = b := e; omega)))
        have HO13 := hdd (kag HOu13.out hk (fun q hq e => by have : q = b := e; omega))
        clear hw hk)
     | fail)
    clear HRu13 HEu13 HTu13 HBu13 HR12 HE12 HT12 HB12 HOu13 HO12
    try simp only [Act.put]
    go_upto_region 16 with (first
     | (go_at_call 100; refine (C14.out _ HR13.out).mono ?_
        rintro en u14 ⟨v14, rfl, ho, hA, hK⟩
        obtain ⟨a14, c14, rfl⟩ := kah ho
        have HW14 := hdd ho
        have HRu14 := hdd hA
        have HEu14 := hdd ((hK.block b (kac HE13.out) (fun e => hbr e)).trans HE13.out)
        have HTu14 := hdd ((hK.block t (kac HT13.out) (fun e => htr e)).trans HT13.out)
        have HBu14 := hdd (HB13.out.trans (hK.below HB13.out.size (fun q hq e => by have : q = r := e; omega)))
        have HOu14 := hdd (kag HO13.out hK (fun q hq e => by have : q = r := e; omega))
        clear hA hK ho)
     | (refine kae rfl 39 _ _ rfl b 13 rfl (.slice a14 (khc d).1.length c14) rfl rfl rfl _ 45 HEu14.out (by simp) (by kernel_rfl) ?_
        intro w14 hw hk
        have HE14 := hdd (show w14.heap[b]? = some (.cells (evC (dvK d 14) (.slice a4 (dv4 d).1.length c4) (.slice a14 (khc d).1.length c14) kal kal kal) 45 (0, 0)) from hw)
        have HR14 := hdd (show Rdr r (B (khc d).2.1) (khc d).2.2 w14 from (hk.block r (kac HRu14.out) (fun e => hbr (Eq.symm e))).trans HRu14.out)
        have HT14 := hdd ((hk.block t (kac HTu14.out) (fun e => hbt (Eq.symm e))).trans HTu14.out)
        have HB14 := hdd (HBu14.out.trans (hk.below HBu14.out.size (fun q hq e => by have : q = b := e; omega)))
        have HO14 := hdd (kag HOu14.out hk (fun q hq e => by have : q = b := e; omega))
        have HQ14 := hdd (kag (kan HW14.out (show b + 1 ≤ _ from HE13.out |> kac)) hk (fun q hq e => by have : q = b := e; omega))
        clear hw hk)
     | fail)
    clear HRu14 HEu14 HTu14 HBu14 HR13 HE13 HT13 HB13 HOu14 HO13
    try simp only [Act.put]
    have hX : ∀ W : World, Below w14.heap.size w14 W → W.heap[b]? = some (.cells (evC (dvK d 14) (.slice a4 (dv4 d).1.length c4) (.slice a14 (khc d).1.length c14) kal kal kal) 45 (0, 0)) := fun W hb => kad hb (kac HE14.out) HE14.out
    have HX := hdd hX
    have n4 := kb6 32 (dv3 d).2
    have n14 := kb6 32 (kof d).2
    have HI2 := hdd (fun (W : World) (h1 : W.ownsRow (b + 1) 9 1 (.slice a4 (dv4 d).1.length c4) (dv4 d).1.length ((dv4 d).1.map vS)) (h2 : W.ownsRow (b + 1) 9 1 (.slice a14 (khc d).1.length c14) (khc d).1.length ((khc d).1.map vS)) => show kc1 (.agg (evC (dvK d 14) (.slice a4 (dv4 d).1.length c4) (.slice a14 (khc d).1.length c14) kal kal kal)) (kip d) W from ⟨kqe d, _, _, _, _, none, 0, none, 0, none, 0, rfl,
     IsSl.of_owns (by rw [List.length_map]; exact h1) (by rw [List.length_map]; exact Nat.le_trans n4 (by decide)), IsSl.of_owns (by rw [List.length_map]; exact h2) (by rw [List.length_map]; exact Nat.le_trans n14 (by decide)), (kfc _), (kfc _), (kfc _)⟩)
    have HI := hdd (fun (W : World) (hb : Below w14.heap.size w14 W) => show kc1 (.agg (evC (dvK d 14) (.slice a4 (dv4 d).1.length c4) (.slice a14 (khc d).1.length c14) kal kal kal)) (kip d) W from ⟨kqe d, _, _, _, _, none, 0, none, 0, none, 0, rfl,
     (IsSl.of_owns (by rw [List.length_map]; exact HO14.out) (by rw [List.length_map]; exact Nat.le_trans n4 (by decide))).below hb, (IsSl.of_owns (by rw [List.length_map]; exact HQ14.out) (by rw [List.length_map]; exact Nat.le_trans n14 (by decide))).below hb, (kfc _), (kfc _), (kfc _)⟩)
    clear hX n4 n14 C13 C14
    have hd0 : ky7 d = (decide (ka4 (khc d).2 = 0) && Rv.validB (kip d)) := rfl
    by_cases hc : ka4 (khc d).2 = 0
    rotate_left
    · have hF : vdF d = 17 ∧ vdV d = Rv.ev0 := by unfold vdF vdV; rw [hd0, decide_eq_false hc]; exact ⟨rfl, rfl⟩
      have HF := hdd hF
      have d1 : (ka4 (khc d).2 == 0) = false := beq_eq_false_iff_ne.2 hc
      have d2 : (ka4 (khc d).2 != 0) = true := by rw [bne, d1]; rfl
      clear hF hd0 hc
      go_wp2_with (first
       | (go_at_call 101; refine (C15.out _ HR14.out).mono ?_; rintro en w15 ⟨rfl, rfl⟩)
       | (refine kaa rfl 45 _ _ rfl t rfl evZ rfl 45 evZ HT14.out (by kernel_rfl) rfl (kax _ _ _ _ _ _ rfl rfl rfl rfl rfl) ?_
          intro wE hwE hkE
          have HWE := hdd hwE
          have HBE := hdd (HB14.out.trans (hkE.below HB14.out.size (fun q hq e => by have : q = t := e; omega)))
          clear hwE hkE)
       | fail)
      refine kam rfl t 45 _ (0, 0) _ rfl HWE.out rfl rfl (by kernel_rfl) rfl ?_
      rw [HF.out.1, HF.out.2]
      exact ⟨_, rfl, fun W _ => kcf _, HBE.out⟩
    · cases hv : Rv.validB (kip d) with
      | false =>
        have hF : vdF d = 17 ∧ vdV d = Rv.ev0 := by unfold vdF vdV; rw [hd0, hv]; simp
        have HF := hdd hF
        have HV := hdd (fun (W : World) (hb : Below w14.heap.size w14 W) => by
         have := kf8 _ _ W (HI.out W hb)
         rwa [show Rv.validE (kip d) = 1 by unfold Rv.validE; rw [hv]; rfl] at this)
        have HCl := hdd hc
        clear hF hd0 hv hc
        rw [HCl.out] at C15
        go_wp2_with (first
         | (go_at_call 101; refine (C15.out _ HR14.out).mono ?_; rintro en w15 ⟨rfl, rfl⟩)
         | (refine kbf (by kernel_rfl) 45 _ rfl b 0 rfl (evC (dvK d 14) (.slice a4 (dv4 d).1.length c4) (.slice a14 (khc d).1.length c14) kal kal kal).toList _ (kbe HE14.out) rfl rfl (by kernel_rfl) ?_)
         | (go_at_call 39; refine (HV.out _ (Below.refl _ _)).mono ?_; rintro en w16 ⟨rfl, hb⟩
            have HB16 := hdd hb
            have HT16 := bhh HB16.out HT14
            have HB17 := hdd (HB14.out.next HB16.out)
            clear hb)
         | (refine kaa rfl 45 _ _ rfl t rfl evZ rfl 45 evZ HT16.out (by kernel_rfl) rfl (kax _ _ _ _ _ _ rfl rfl rfl rfl rfl) ?_
            intro wE hwE hkE
            have HWE := hdd hwE
            have HBE := hdd (HB17.out.trans (hkE.below HB17.out.size (fun q hq e => by have : q = t := e; omega)))
            clear hwE hkE)
         | fail)
        refine kam rfl t 45 _ (0, 0) _ rfl HWE.out rfl rfl (by kernel_rfl) rfl ?_
        rw [HF.out.1, HF.out.2]
        exact ⟨_, rfl, fun W _ => kcf _, HBE.out⟩
      | true =>
        have hF : vdF d = 0 ∧ vdV d = kip d := by unfold vdF vdV; rw [hd0, hv, hc]; exact ⟨rfl, rfl⟩
        have HF := hdd hF
        have HV := hdd (fun (W : World) (hb : Below w14.heap.size w14 W) => by
         have := kf8 _ _ W (HI.out W hb)
         rwa [show Rv.validE (kip d) = 0 by unfold Rv.validE; rw [hv]; rfl] at this)
        have HCl := hdd hc
        clear hF hd0 hv hc
        rw [HCl.out] at C15
        go_wp2_with (first
         | (go_at_call 101; refine (C15.out _ HR14.out).mono ?_; rintro en w15 ⟨rfl, rfl⟩)
         | (refine kbf (by kernel_rfl) 45 _ rfl b 0 rfl (evC (dvK d 14) (.slice a4 (dv4 d).1.length c4) (.slice a14 (khc d).1.length c14) kal kal kal).toList _ (kbe HE14.out) rfl rfl (by kernel_rfl) ?_)
         | (go_at_call 39; refine (HV.out _ (Below.refl _ _)).mono ?_; rintro en w16 ⟨rfl, hb⟩
            have HB16 := hdd hb
            have HT16 := bhh HB16.out HT14
            have HB17 := hdd (HB14.out.next HB16.out)
            have HE16 := hdd (HX.out _ HB16.out)
            clear hb)
         | (refine wpList_load_row rfl 45 _ rfl b rfl 45 (evC (dvK d 14) (.slice a4 (dv4 d).1.length c4) (.slice a14 (khc d).1.length c14) kal kal kal) (0, 0) _ HE16.out rfl rfl (by kernel_rfl) ?_)
         | (refine kaa rfl 45 _ _ rfl t rfl (evC (dvK d 14) (.slice a4 (dv4 d).1.length c4) (.slice a14 (khc d).1.length c14) kal kal kal) rfl 45 evZ HT16.out (by kernel_rfl) rfl (kax _ _ _ _ _ _ rfl rfl rfl rfl rfl) ?_
            intro wE hwE hkE
            have HWE := hdd hwE
            have HKE := hdd hkE
            have HBE := hdd (HB17.out.trans (hkE.below HB17.out.size (fun q hq e => by have : q = t := e; omega)))
            clear hwE hkE)
         | fail)
        refine kam rfl t 45 _ (0, 0) _ rfl HWE.out rfl rfl (by kernel_rfl) rfl ?_
        rw [HF.out.1, HF.out.2]
        have hr1 := (kag (kca HO14.out fun q hq => HB16.out.block q (HO14.out.lt q hq).2) HKE.out (fun q hq e => by have : q = t := e; omega))
        have hr2 := (kag (kca HQ14.out fun q hq => HB16.out.block q (HQ14.out.lt q hq).2) HKE.out (fun q hq e => by have : q = t := e; omega))
        exact ⟨_, rfl, fun W hW => HI2.out W (kca hr1 fun q hq => hW q (by have := (hr1.lt q hq).1; omega) (hr1.lt q hq).2) (kca hr2 fun q hq => hW q (by have := (hr2.lt q hq).1; omega) (hr2.lt q hq).2), HBE.out⟩
end Go.Proofs.YtknpbekoenbphaaGreatDoor
