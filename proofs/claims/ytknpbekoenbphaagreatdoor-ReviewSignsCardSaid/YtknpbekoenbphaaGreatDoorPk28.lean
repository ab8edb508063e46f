/- Parts of the proofs: WkRvP, WkRefSig, WkRefSig2, WkRr4, LawKitAll, LawKit48. No condition beyond those at each theorem. -/
import Derived.Deep.DeepHandedRow
import Derived.Deep.Grids
import Derived.Lib.LaidTab
import Derived.Lib.SmallJoins
import Derived.OpenShut
import Derived.ProofKit
import Derived.Shelf.Abstract
import Derived.Stop.LaidErr
import Derived.Test.YtknpbekoenbphaaGreatDoorCards
import Derived.Test.YtknpbekoenbphaaGreatDoorTie
import Derived.Test.YtknpbekoenbphaaGreatDoorPk26
set_option linter.unusedVariables false
set_option linter.unusedSimpArgs false
set_option maxHeartbeats 16000000
set_option maxRecDepth 100000
namespace Go.Proofs.YtknpbekoenbphaaGreatDoor
open Go Go.RowKit Licit
def dv1 (d : Bs) : Int × St := ka3 0 5 (d, 0)
def dv2 (d : Bs) : Bs × St := kao 32 (dv1 d).2
def dv3 (d : Bs) : Int × St := ka3 0 63 (dv2 d).2
def dv4 (d : Bs) : List Bs × St := ka5 32 (dv3 d).2
def dv5 (d : Bs) : Bs × St := kao 32 (dv4 d).2
def dv6 (d : Bs) : Int × St := ka3 0 512 (dv5 d).2
def dv7 (d : Bs) : Int × St := ka3 0 512 (dv6 d).2
def dv8 (d : Bs) : Bs × St := kao 200 (dv7 d).2
def dv9 (d : Bs) : Bs × St := kao 200 (dv8 d).2
def kkz (d : Bs) : Bs × St := kao 200 (dv9 d).2
def kll (d : Bs) : Bs × St := kao 200 (kkz d).2
def kms (d : Bs) : Bs × St := kao 200 (kll d).2
def kof (d : Bs) : Int × St := ka3 0 1000 (kms d).2
def khc (d : Bs) : List Bs × St := ka5 32 (kof d).2
theorem kca {w w' : World} {base : Nat} {t : TypeId} {size : Nat} {v : Value} {n : Nat} {xs : List Value} (h : w.ownsRow base t size v n xs) (hb : ∀ q, v.ownBlock = some q → w'.heap[q]? = w.heap[q]?) : w'.ownsRow base t size v n xs := by
 refine ⟨h.1, ?_⟩
 rcases h.2 with ⟨rfl, h0⟩ | ⟨g, cap, cur, rfl, h1, h2, h3⟩
 · exact .inl ⟨rfl, h0⟩
 · exact .inr ⟨g, cap, cur, rfl, h1, (hb g rfl).trans h2, h3⟩
def dvK (d : Bs) : Nat → Rv.Ev
 | 0 => (⟨0, [], 0, [], [], 0, 0, [], [], [], [], [], 0, [], Rv.sg0⟩ : Rv.Ev)
 | 1 => (⟨(dv1 d).1, [], 0, [], [], 0, 0, [], [], [], [], [], 0, [], Rv.sg0⟩ : Rv.Ev)
 | 2 => (⟨(dv1 d).1, (dv2 d).1, 0, [], [], 0, 0, [], [], [], [], [], 0, [], Rv.sg0⟩ : Rv.Ev)
 | 3 => (⟨(dv1 d).1, (dv2 d).1, (dv3 d).1, [], [], 0, 0, [], [], [], [], [], 0, [], Rv.sg0⟩ : Rv.Ev)
 | 4 => (⟨(dv1 d).1, (dv2 d).1, (dv3 d).1, (dv4 d).1, [], 0, 0, [], [], [], [], [], 0, [], Rv.sg0⟩ : Rv.Ev)
 | 5 => (⟨(dv1 d).1, (dv2 d).1, (dv3 d).1, (dv4 d).1, (dv5 d).1, 0, 0, [], [], [], [], [], 0, [], Rv.sg0⟩ : Rv.Ev)
 | 6 => (⟨(dv1 d).1, (dv2 d).1, (dv3 d).1, (dv4 d).1, (dv5 d).1, (dv6 d).1, 0, [], [], [], [], [], 0, [], Rv.sg0⟩ : Rv.Ev)
 | 7 => (⟨(dv1 d).1, (dv2 d).1, (dv3 d).1, (dv4 d).1, (dv5 d).1, (dv6 d).1, (dv7 d).1, [], [], [], [], [], 0, [], Rv.sg0⟩ : Rv.Ev)
 | 8 => (⟨(dv1 d).1, (dv2 d).1, (dv3 d).1, (dv4 d).1, (dv5 d).1, (dv6 d).1, (dv7 d).1, (dv8 d).1, [], [], [], [], 0, [], Rv.sg0⟩ : Rv.Ev)
 | 9 => (⟨(dv1 d).1, (dv2 d).1, (dv3 d).1, (dv4 d).1, (dv5 d).1, (dv6 d).1, (dv7 d).1, (dv8 d).1, (dv9 d).1, [], [], [], 0, [], Rv.sg0⟩ : Rv.Ev)
 | 10 => (⟨(dv1 d).1, (dv2 d).1, (dv3 d).1, (dv4 d).1, (dv5 d).1, (dv6 d).1, (dv7 d).1, (dv8 d).1, (dv9 d).1, (kkz d).1, [], [], 0, [], Rv.sg0⟩ : Rv.Ev)
 | 11 => (⟨(dv1 d).1, (dv2 d).1, (dv3 d).1, (dv4 d).1, (dv5 d).1, (dv6 d).1, (dv7 d).1, (dv8 d).1, (dv9 d).1, (kkz d).1, (kll d).1, [], 0, [], Rv.sg0⟩ : Rv.Ev)
 | 12 => (⟨(dv1 d).1, (dv2 d).1, (dv3 d).1, (dv4 d).1, (dv5 d).1, (dv6 d).1, (dv7 d).1, (dv8 d).1, (dv9 d).1, (kkz d).1, (kll d).1, (kms d).1, 0, [], Rv.sg0⟩ : Rv.Ev)
 | 13 => (⟨(dv1 d).1, (dv2 d).1, (dv3 d).1, (dv4 d).1, (dv5 d).1, (dv6 d).1, (dv7 d).1, (dv8 d).1, (dv9 d).1, (kkz d).1, (kll d).1, (kms d).1, (kof d).1, [], Rv.sg0⟩ : Rv.Ev)
 | _ => (⟨(dv1 d).1, (dv2 d).1, (dv3 d).1, (dv4 d).1, (dv5 d).1, (dv6 d).1, (dv7 d).1, (dv8 d).1, (dv9 d).1, (kkz d).1, (kll d).1, (kms d).1, (kof d).1, (khc d).1, Rv.sg0⟩ : Rv.Ev)
def sK (d : Bs) : Nat → St
 | 0 => (dv7 d).2
 | 1 => (dv8 d).2
 | 2 => (dv9 d).2
 | 3 => (kkz d).2
 | 4 => (kll d).2
 | _ => (kms d).2
def cK (d : Bs) (a4 : Option Addr) (c4 : Nat) : Nat → Array Value
 | 0 => (evC (dvK d 7) (.slice a4 (dv4 d).1.length c4) kal kal kal kal)
 | 1 => (evC (dvK d 8) (.slice a4 (dv4 d).1.length c4) kal kal kal kal)
 | 2 => (evC (dvK d 9) (.slice a4 (dv4 d).1.length c4) kal kal kal kal)
 | 3 => (evC (dvK d 10) (.slice a4 (dv4 d).1.length c4) kal kal kal kal)
 | 4 => (evC (dvK d 11) (.slice a4 (dv4 d).1.length c4) kal kal kal kal)
 | _ => (evC (dvK d 12) (.slice a4 (dv4 d).1.length c4) kal kal kal kal)
theorem kbf {P : Program} {ops : Array Oper} {rest : List Oper} {op : Oper} {a : Act} {w : World} {Q : Exit → Act → World → Prop} (hw : Region.wanted op (yielded ops a.tmps) = true) (ty : TypeId) (x : Operand) (ho : op.op = .load ty x)
 (b o : Nat) (hx : a.eval x = .pointer (some ⟨b, o, none⟩)) (cs : List Value) (d : TypeDesc) (hc : w.rangeAt b o cs)
 (hu : P.underlying ty = some d) (hd : d.isRow = true) (hi : (P.info? ty).map (·.size) = some cs.length)
 (h : wpList P ops Q rest (a.put op.dst (.agg cs.toArray)) w) : wpList P ops Q (op :: rest) a w :=
 BigFrame.wpList_want hw fun _ hK => wp_load_mid ty x ho b o hx cs d hc hu hd hi (hK _ _ h)
theorem kbe {W : World} {b : Nat} {cs : Array Value} {T : TypeId} {fr : Nat × Nat} (h : W.heap[b]? = some (.cells cs T fr)) : W.rangeAt b 0 cs.toList := fun j v hj => by
 rw [kab h, Nat.zero_add, ← Array.getElem?_toList]; exact hj
theorem kfc (w : World) : IsSl kal ([].map vS) w := ⟨by simp, .inl ⟨none, 0, rfl, rfl⟩⟩
theorem kcf (w : World) : kc1 (.agg evZ) Rv.ev0 w :=
 ⟨⟨by decide, by decide, by decide, by decide, by decide, by decide, by decide, by decide, by decide⟩, none, 0, none, 0, none, 0, none, 0, none, 0, rfl, kfc w, kfc w, kfc w, kfc w, kfc w⟩
theorem dr {B : Nat} {w w' : World} (h : Below B w w') : Below B w w'.drew := ⟨h.os, h.tape, h.output, h.size, h.block⟩
theorem kza {xs ys : List Bs} {k : Nat} (_ : k < xs.length) (hk2 : k < ys.length) (h : xs.getD k [] ≠ ys.getD k []) : xs ≠ ys := by
 rintro rfl
 exact h rfl
theorem ks3 {xs ys : List Bs} {k : Nat} (hk : k < xs.length) (hk2 : k < ys.length) (h : xs.take k = ys.take k) (hx : xs.getD k [] = ys.getD k []) : xs.take (k + 1) = ys.take (k + 1) := by
 rw [List.getD_eq_getElem?_getD, List.getElem?_eq_getElem hk, List.getD_eq_getElem?_getD, List.getElem?_eq_getElem hk2] at hx
 simp only [Option.getD_some] at hx
 rw [List.take_add_one, List.take_add_one, h, List.getElem?_eq_getElem hk, List.getElem?_eq_getElem hk2, hx]
theorem ke5 (v u : Value) (xs ys : List Bs) (w : World) (h : IsSl v (xs.map vS) w) (h' : IsSl u (ys.map vS) w) : Calls Tryz.prog 64 #[v, u] w fun e w' => e = .returned (.bool (decide (xs = ys))) ∧ Below w.heap.size w w' := by
 obtain ⟨a, cap, rfl⟩ := h.formMap
 obtain ⟨a', cap', rfl⟩ := h'.formMap
 have hmx := h.1
 have hmy := h'.1
 rw [List.length_map] at hmx hmy
 unfold maxLen at hmx hmy
 have H := hdd h
 have H' := hdd h'
 clear h h'
 by_cases hl : xs.length = ys.length
 · have hle : ((xs.length : Int) == (ys.length : Int)) = true := by simp; omega
   go_enter Tryz.func64, Tryz.ntmps64
   go_wp2
   go_loopw [5] (fun n wr => Below w.heap.size w wr ∧ ∃ k : Nat, k ≤ xs.length ∧ n = .int .i64 k ∧ xs.take k = ys.take k) (fun n _ => xs.length - (intOf n).toNat)
   case atStart => exact ⟨Below.refl _ _, 0, by omega, rfl, rfl⟩
   case round =>
    obtain ⟨hB, k, hk, rfl, hA⟩ := hrel
    have HA := hdd hA
    have HB := hdd hB
    clear hA hB
    by_cases hlt : k < xs.length
    · have hlt2 : k < ys.length := by omega
      obtain ⟨b, off, c1, hv, hb, hc⟩ := (H.out.below HB.out).text rfl hlt
      simp only [Value.slice.injEq, true_and] at hv
      obtain ⟨rfl, rfl⟩ := hv
      obtain ⟨b', off', c2, hv, hb', hc'⟩ := (H'.out.below HB.out).text rfl hlt2
      simp only [Value.slice.injEq, true_and] at hv
      obtain ⟨rfl, rfl⟩ := hv
      obtain ⟨x, hx⟩ : ∃ x, xs.getD k [] = x := ⟨_, rfl⟩
      obtain ⟨y, hy⟩ : ∃ y, ys.getD k [] = y := ⟨_, rfl⟩
      rw [hx] at hc
      rw [hy] at hc'
      have Hx := hdd hx
      have Hy := hdd hy
      have hi1 : (k : Int) < (xs.length : Int) := by omega
      have hi2 : (k : Int) < (ys.length : Int) := by omega
      clear hx hy
      by_cases hxy : x = y
      · have hq : ((B x).toList == (B y).toList) = true := by rw [hxy]; simp
        go_wp2
        go_region
        go_wp2
        go_roundw
        case rel => exact ⟨dr HB.out, k + 1, by omega, by go_num, ks3 hlt hlt2 HA.out (by rw [Hx.out, Hy.out]; exact hxy)⟩
        case measure => simp [intOf]; omega
      · have hq : ((B x).toList == (B y).toList) = false := by
         rw [ByteArray.toList_eq, ByteArray.toList_eq, B_list, B_list]; simpa using hxy
        go_wp2
        go_region
        go_wp2
        go_ret
        refine ⟨?_, dr HB.out⟩
        rw [decide_eq_false (kza hlt hlt2 (by rw [Hx.out, Hy.out]; exact hxy))]
        rfl
    · obtain rfl : k = xs.length := by omega
      have hA := HA.out
      rw [List.take_length, hl, List.take_length] at hA
      have HA := hdd hA
      clear hA
      go_wp2
      go_ret
      refine ⟨?_, HB.out⟩
      rw [decide_eq_true HA.out]
      rfl
 · have hle : ((xs.length : Int) == (ys.length : Int)) = false := by simp; omega
   go_enter Tryz.func64, Tryz.ntmps64
   go_wp2
   go_ret
   refine ⟨?_, Below.refl _ _⟩
   rw [decide_eq_false (fun e => hl (by rw [e]))]
   rfl
theorem kf1 {w : World} {r : Nat} {x0 x1 x2 x3 : Value} {T : TypeId} (h : w.heap[r]? = some (.cells #[x0, x1, x2, x3] T)) : w.cell? ⟨r, 0, none⟩ = some x0 ∧ w.cell? ⟨r, 1, none⟩ = some x1 ∧ w.cell? ⟨r, 2, none⟩ = some x2 ∧ w.cell? ⟨r, 3, none⟩ = some x3 := ⟨kab h 0, kab h 1, kab h 2, kab h 3⟩
def kl3 (i : Int) (S H R : List Bs) (j : Int) (S' H' R' : List Bs) : Bool := decide (i = j) && decide (S = S') && decide (H = H') && decide (R = R')
theorem ks4 (v u : Value) (i j : Int) (S H R S' H' R' : List Bs) (w : World) (h : kec v i S H R w) (h' : kec u j S' H' R' w) :
 Calls Tryz.prog 65 #[v, u] w fun e w' => e = .returned (.bool (kl3 i S H R j S' H' R')) ∧ Below w.heap.size w w' := by
 obtain ⟨vs, vh, vr, rfl, hS, hH, hR⟩ := h
 obtain ⟨us, uh, ur, rfl, hS', hH', hR'⟩ := h'
 obtain ⟨W, hW⟩ : ∃ W, (w.alloc (.cells #[.int .i64 i, vs, vh, vr] 43)).alloc (.cells #[.int .i64 j, us, uh, ur] 43) = W := ⟨_, rfl⟩
 have hB : Below w.heap.size w W := by rw [← hW]; exact ((Below.refl _ _).alloc (Nat.le_refl _) _).alloc (by simp) _
 have e1 : W.heap[w.heap.size]? = some (.cells #[.int .i64 i, vs, vh, vr] 43) := by rw [← hW]; exact kaq (kak _ _)
 have e2 : W.heap[w.heap.size + 1]? = some (.cells #[.int .i64 j, us, uh, ur] 43) := by rw [← hW]; exact kaj (by simp) rfl
 have hTS := fun W' (hb : Below w.heap.size w W') => ke5 _ _ _ _ W' (hS.below hb) (hS'.below hb)
 have hTH := fun W' (hb : Below w.heap.size w W') => ke5 _ _ _ _ W' (hH.below hb) (hH'.below hb)
 have hTR := fun W' (hb : Below w.heap.size w W') => ke5 _ _ _ _ W' (hR.below hb) (hR'.below hb)
 have HB := hdd hB
 have HTS := hdd hTS
 have HTH := hdd hTH
 have HTR := hdd hTR
 have HE1 := hdd e1
 have HE2 := hdd e2
 have c10 := kab e1 0
 have c11 := kab e1 1
 have c20 := kab e2 0
 have c21 := kab e2 1
 clear hS hH hR hS' hH' hR' hTS hTH hTR hB e1 e2
 unfold kl3
 by_cases c : i = j
 · subst c
   cases h1 : decide (S = S') with
   | false =>
     rw [h1] at HTS
     clear h1
     go_enter Tryz.func65, Tryz.ntmps65
     go_wp2_with (go_at_call 64; refine (HTS.out _ HB.out).mono ?_; rintro e w1 ⟨rfl, hb1⟩; have HB1 := hdd (HB.out.next hb1); clear hb1)
     go_ret
     exact ⟨by simp, HB1.out⟩
   | true =>
     cases h2 : decide (H = H') with
     | false =>
       rw [h1] at HTS
       rw [h2] at HTH
       clear h1 h2
       go_enter Tryz.func65, Tryz.ntmps65
       go_wp2_with fail
       refine (HTS.out _ HB.out).mono ?_
       rintro e w1 ⟨rfl, hb1⟩
       have HB1 := hdd (HB.out.next hb1)
       have g1 := (hb1.block _ (kac HE1.out)).trans HE1.out
       have g2 := (hb1.block _ (kac HE2.out)).trans HE2.out
       have c12 := kab g1 2
       have c22 := kab g2 2
       clear hb1 g1 g2
       go_wp2_with fail
       refine (HTH.out _ HB1.out).mono ?_
       rintro e w2 ⟨rfl, hb2⟩
       have HB2 := hdd (HB1.out.next hb2)
       clear hb2
       go_wp2
       go_ret
       exact ⟨by simp, HB2.out⟩
     | true =>
       rw [h1] at HTS
       rw [h2] at HTH
       clear h1 h2
       go_enter Tryz.func65, Tryz.ntmps65
       go_wp2_with fail
       refine (HTS.out _ HB.out).mono ?_
       rintro e w1 ⟨rfl, hb1⟩
       have HB1 := hdd (HB.out.next hb1)
       have g1 := (hb1.block _ (kac HE1.out)).trans HE1.out
       have g2 := (hb1.block _ (kac HE2.out)).trans HE2.out
       have c12 := kab g1 2
       have c22 := kab g2 2
       have HG1 := hdd g1
       have HG2 := hdd g2
       clear hb1 g1 g2
       go_wp2_with fail
       refine (HTH.out _ HB1.out).mono ?_
       rintro e w2 ⟨rfl, hb2⟩
       have HB2 := hdd (HB1.out.next hb2)
       have g1 := (hb2.block _ (kac HG1.out)).trans HG1.out
       have g2 := (hb2.block _ (kac HG2.out)).trans HG2.out
       have c13 := kab g1 3
       have c23 := kab g2 3
       clear hb2 g1 g2
       go_wp2_with fail
       refine (HTR.out _ HB2.out).mono ?_
       rintro e w3 ⟨rfl, hb3⟩
       have HB3 := hdd (HB2.out.next hb3)
       clear hb3
       go_wp2
       go_ret
       exact ⟨by simp, HB3.out⟩
 · go_enter Tryz.func65, Tryz.ntmps65
   go_wp2
   go_ret
   exact ⟨by simp [c], HB.out⟩
theorem keo (v u : Value) (e : Rv.Ev) (w : World) (h : kc1 v e w) (h' : kc1 u e w) : Calls Tryz.prog 20 #[v, u] w fun en w' => en = .returned (.bool true) ∧ Below w.heap.size w w' := by
 obtain ⟨ho, na, nc, ta, tc, sa, sc, ha, hc, ra, rc, rfl, hN, hT, hS, hH, hR⟩ := h
 obtain ⟨-, na', nc', ta', tc', sa', sc', ha', hc', ra', rc', rfl, hN', hT', hS', hH', hR'⟩ := h'
 have hb0 : Below w.heap.size w ((w.alloc (.cells (evS e na nc ta tc sa sc ha hc ra rc) 45)).alloc (.cells (evS e na' nc' ta' tc' sa' sc' ha' hc' ra' rc') 45)) := ((Below.refl _ _).alloc (Nat.le_refl _) _).alloc (by simp) _
 have hA : ((w.alloc (.cells (evS e na nc ta tc sa sc ha hc ra rc) 45)).alloc (.cells (evS e na' nc' ta' tc' sa' sc' ha' hc' ra' rc') 45)).heap[w.heap.size]? = some (.cells (evS e na nc ta tc sa sc ha hc ra rc) 45 (0, 0)) := kaq (kak _ _)
 have hB : ((w.alloc (.cells (evS e na nc ta tc sa sc ha hc ra rc) 45)).alloc (.cells (evS e na' nc' ta' tc' sa' sc' ha' hc' ra' rc') 45)).heap[w.heap.size + 1]? = some (.cells (evS e na' nc' ta' tc' sa' sc' ha' hc' ra' rc') 45 (0, 0)) := kaj (by simp) rfl
 have HTn := hdd (ke5 _ _ e.names e.names _ (hN.below hb0) (hN'.below hb0))
 have HB0 := hdd hb0
 have HA := hdd hA
 have HBb := hdd hB
 have HN1 := hdd (fun (W : World) (hb : Below w.heap.size w W) => ke5 _ _ e.targets e.targets W (hT.below hb) (hT'.below hb))
 have HS1 := hdd (fun (W : World) (hb : Below w.heap.size w W) => ks4 _ _ e.sg.i e.sg.i e.sg.S e.sg.H e.sg.R e.sg.S e.sg.H e.sg.R W ⟨_, _, _, rfl, hS.below hb, hH.below hb, hR.below hb⟩ ⟨_, _, _, rfl, hS'.below hb, hH'.below hb, hR'.below hb⟩)
 have hss : kl3 e.sg.i e.sg.S e.sg.H e.sg.R e.sg.i e.sg.S e.sg.H e.sg.R = true := by simp [kl3]
 have HSS := hdd hss
 clear hN hT hS hH hR hN' hT' hS' hH' hR' ho hb0 hA hB hss
 go_enter Tryz.func20, Tryz.ntmps20
 go_wp2_with fail
 refine (HTn.out).mono ?_
 rintro en w1 ⟨rfl, hb1⟩
 try simp only [decide_true]
 have hA1 := kad hb1 (kac HA.out) HA.out
 have hB1 := kad hb1 (kac HBb.out) HBb.out
 obtain ⟨-, -, -, -, e4, e5, e6, e7, e8, e9, e10, e11, e12, e13, -⟩ := ka6 hA1
 obtain ⟨-, -, -, -, g4, g5, g6, g7, g8, g9, g10, g11, g12, g13, -⟩ := ka6 hB1
 have HA1 := hdd hA1
 have HB1 := hdd hB1
 have HBw := hdd (HB0.out.next hb1)
 clear hA1 hB1 hb1 HA HBb HTn HB0
 go_wp2_with fail
 refine (HN1.out w1 HBw.out).mono ?_
 rintro en w2 ⟨rfl, hb2⟩
 try simp only [decide_true]
 have HA2 := bhh hb2 HA1
 have HB2 := bhh hb2 HB1
 have HBx := hdd (HBw.out.next hb2)
 clear hb2 HA1 HB1 HN1 HBw e4 e5 e6 e7 e8 e9 e10 e11 e12 e13 g4 g5 g6 g7 g8 g9 g10 g11 g12 g13
 obtain ⟨-, -, -, -, -, -, -, -, -, -, -, -, -, -, e14, e15, e16, e17⟩ := ka6 HA2.out
 obtain ⟨-, -, -, -, -, -, -, -, -, -, -, -, -, -, g14, g15, g16, g17⟩ := ka6 HB2.out
 go_wp2_with fail
 refine (HS1.out w2 HBx.out).mono ?_
 rintro en w3 ⟨rfl, hb3⟩
 rw [HSS.out]
 have HB3 := hdd (HBx.out.next hb3)
 clear hb3
 go_wp2_with fail
 go_ret
 exact ⟨rfl, HB3.out⟩
def kk3 (v : Value) (e : Rv.Ev) (w : World) : Prop := ∃ na nc ta tc sa sc ha hc ra rc, v = evW e na nc ta tc sa sc ha hc ra rc ∧
 IsSl (.slice na e.names.length nc) (e.names.map vS) w ∧ IsSl (.slice ta e.targets.length tc) (e.targets.map vS) w ∧ IsSl (.slice sa e.sg.S.length sc) (e.sg.S.map vS) w ∧ IsSl (.slice ha e.sg.H.length hc) (e.sg.H.map vS) w ∧ IsSl (.slice ra e.sg.R.length rc) (e.sg.R.map vS) w
theorem kk3.is {v : Value} {e : Rv.Ev} {w : World} (h : kk3 v e w) (ho : kvn e) : kc1 v e w := ⟨ho, h⟩
end Go.Proofs.YtknpbekoenbphaaGreatDoor
namespace Go.Proofs.YtknpbekoenbphaaGreatDoor
open Go Go.RowKit Licit
open Go.ChangeShapes Go.WideShapes Go.ChangeAt
theorem own : ownKnob Tryz.prog.godebug = none := by kernel_rfl
theorem kzl : laidOutB Tryz.prog = true := by kernel_rfl
abbrev kp8 : List (String × DataW Unit) := [("math/bits.deBruijn32tab", Rows.laid_math_bits_deBruijn32tab), ("math/bits.deBruijn64tab", Rows.laid_math_bits_deBruijn64tab), ("internal/strconv.uint64pow10", Rows.laid_internal_strconv_uint64pow10)]
theorem kqc {W : World} (h : laidMetH Tryz.prog kp8 W) : Tab W := by
 have h' : laidMet Tryz.prog kp8 W := h
 have h2 := h'.tail.tail
 have ht : Lib.TabIs Tryz.prog W "internal/strconv.uint64pow10" .u64 Lib.pow10Tab :=
  Lib.tabIs_of_head (rest := []) (g := 0) (t := 293) (e := 209) (n := 20) kqg (by kernel_rfl) Tryz.underlying293 Tryz.underlying209 (by kernel_rfl) (by kernel_rfl) h2
 exact ⟨ht, World.block_lt_of_cell? W _ (ht.cell kqg 0 (by decide))⟩
theorem kmq {H : Type} {enc : TypeId × Value → H} {W W' : World} (hb : Below W.heap.size W W') (ts : List TypeId) : ∀ (vs : List Value) (ds : List (DataW H)) (ps : List MemPlace),
 ts.all (fun t => Tryz.prog.readableRec t && decide (t < Tryz.prog.types.size)) = true → DataW.TrodAll enc Tryz.prog W 0 (fun _ => true) true ts vs ds ps → (∀ x ∈ ps, x.block < W.heap.size) →
 DataW.TrodAll enc Tryz.prog W' 0 (fun b => decide (b < W.heap.size)) true ts vs ds ps := by
 induction ts with
 | nil =>
   intro vs ds ps _ h _
   obtain ⟨rfl, rfl, rfl⟩ := trodAll_nil h
   exact trodAll_mk0
 | cons t ts ih =>
   intro vs ds ps hr h hlt
   obtain ⟨v, vs', d, ds', p, q, rfl, rfl, rfl, h0, h1⟩ := trodAll_cons h
   simp only [List.all_cons, Bool.and_eq_true, decide_eq_true_eq] at hr
   exact trodAll_cons_mk (Below.trod kzl hr.1.1 hr.1.2 h0 hb (fun x hx => hlt x (List.mem_append_left _ hx)))
    (ih vs' ds' q hr.2 h1 (fun x hx => hlt x (List.mem_append_right _ hx)))
theorem kjl {H : Type} {enc : TypeId × Value → H} {f : Func} {s : ChangeSpec} {W W' : World} {args : Array Value} {ds gs : List (DataW H)} {before : List MemPlace}
 (hW : DataW.Whole enc Tryz.prog f.params.toList s.vars false W args.toList ds gs before) (hv : s.vars = []) (hres : f.resultTypes.toList = [4])
 (hr : f.params.toList.all (fun t => Tryz.prog.readableRec t && decide (t < Tryz.prog.types.size)) = true)
 (hs : s.fn H (ds ++ []) = { results := [.lit (.bool true)], args := ds }) (hb : Below W.heap.size W W') :
 s.post enc Tryz.prog f false true false false W args (.bool true) W' := by
 have hlt : ∀ x ∈ before, x.block < W.heap.size := fun x hx => by simpa using hW.lt x hx
 have hW' := hW
 obtain ⟨p, q, hA, hV, rfl, _, _⟩ := hW
 rw [hv] at hV
 obtain ⟨rfl, rfl⟩ := trodVars_none hV
 have hs' : s.fn H (ds ++ []) = { results := [.lit (.bool true)], args := ds } := hs
 refine ⟨ds, [], p ++ [], [], p, [], hW', ?_, ?_, ?_, hb.frame _, fun h => by cases h⟩
 · rw [hres, hs']
   have h1 : f.resultTypes.size = 1 := by rw [← Array.length_toList, hres]; rfl
   rw [h1]
   exact trodAll_mk1 (shut_bool Tryz.underlying4 _)
 · rw [hs']
   exact kmq hb _ _ _ _ hr hA (fun x hx => hlt x (by simpa using hx))
 · rw [hs', hv]; rfl
def kzr (cs : Array Value) : Obj → Obj
 | .cells _ t frozen => .cells cs t frozen
 | o => o
noncomputable def kcc (os : Os) : World :=
 let w := World.holding Tryz.prog os ⟨#[], #[], []⟩
 { w with heap := ((w.heap.modify 0 (kzr #[.int .u64 1, .int .u64 10, .int .u64 100, .int .u64 1000, .int .u64 10000, .int .u64 100000, .int .u64 1000000, .int .u64 10000000, .int .u64 100000000, .int .u64 1000000000, .int .u64 10000000000, .int .u64 100000000000, .int .u64 1000000000000, .int .u64 10000000000000, .int .u64 100000000000000, .int .u64 1000000000000000, .int .u64 10000000000000000, .int .u64 100000000000000000, .int .u64 1000000000000000000, .int .u64 10000000000000000000])).modify 1 (kzr #[.int .u8 0, .int .u8 1, .int .u8 28, .int .u8 2, .int .u8 29, .int .u8 14, .int .u8 24, .int .u8 3, .int .u8 30, .int .u8 22, .int .u8 20, .int .u8 15, .int .u8 25, .int .u8 17, .int .u8 4, .int .u8 8, .int .u8 31, .int .u8 27, .int .u8 13, .int .u8 23, .int .u8 21, .int .u8 19, .int .u8 16, .int .u8 7, .int .u8 26, .int .u8 12, .int .u8 18, .int .u8 6, .int .u8 11, .int .u8 5, .int .u8 10, .int .u8 9])).modify 2 (kzr #[.int .u8 0, .int .u8 1, .int .u8 56, .int .u8 2, .int .u8 57, .int .u8 49, .int .u8 28, .int .u8 3, .int .u8 61, .int .u8 58, .int .u8 42, .int .u8 50, .int .u8 38, .int .u8 29, .int .u8 17, .int .u8 4, .int .u8 62, .int .u8 47, .int .u8 59, .int .u8 36, .int .u8 45, .int .u8 43, .int .u8 51, .int .u8 22, .int .u8 53, .int .u8 39, .int .u8 33, .int .u8 30, .int .u8 24, .int .u8 18, .int .u8 12, .int .u8 5, .int .u8 63, .int .u8 55, .int .u8 48, .int .u8 27, .int .u8 60, .int .u8 41, .int .u8 37, .int .u8 16, .int .u8 46, .int .u8 35, .int .u8 44, .int .u8 21, .int .u8 52, .int .u8 32, .int .u8 23, .int .u8 11, .int .u8 54, .int .u8 26, .int .u8 40, .int .u8 15, .int .u8 34, .int .u8 20, .int .u8 31, .int .u8 10, .int .u8 25, .int .u8 14, .int .u8 19, .int .u8 9, .int .u8 13, .int .u8 8, .int .u8 7, .int .u8 6]) }
end Go.Proofs.YtknpbekoenbphaaGreatDoor
namespace Go.Proofs.YtknpbekoenbphaaGreatDoor
open Go Go.RowKit Licit
open Go.ChangeShapes Go.WideShapes Go.ChangeAt
open Go.ChangeMaps (open_string)
section
variable {H : Type} {enc : TypeId × Value → H} {P : Program} {W : World} {base : Nat} {sp : Nat → Bool} {held : Bool} {r : Reach} {b0 : Nat} {v : Value} {d : DataW H} {ps : List MemPlace}
def vB (t : Bool) : Value := .bool t
end
end Go.Proofs.YtknpbekoenbphaaGreatDoor
