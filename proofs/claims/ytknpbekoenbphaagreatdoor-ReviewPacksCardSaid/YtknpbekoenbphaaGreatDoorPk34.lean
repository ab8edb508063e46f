/- Parts of the proofs: PlainAll, WkRefEnc, WkLam1, WkFew, WkRr4, LawKitAll, LawKit50. No condition beyond those at each theorem. -/
import Derived.Test.YtknpbekoenbphaaGreatDoorPk28
set_option linter.unusedVariables false
set_option linter.unusedSimpArgs false
set_option maxHeartbeats 16000000
set_option maxRecDepth 100000
namespace Licit
open Go Go.Lib
def kqi (s : Bs) (l : List Int) (t : List Bs) : Bool := decide ((∀ x ∈ t, x.length ≤ 200) ∧ s.length ≤ 500 ∧ l.length ≤ 30 ∧ t.length ≤ 10)
end Licit
namespace Go.Proofs.YtknpbekoenbphaaGreatDoor
open Go Go.RowKit Licit
theorem kk4 (n : Int) (w : World) :
 Calls Tryz.prog 155 #[.int .i64 n] w fun e w' => e = .returned (.tuple #[.string (B (ke2 n).1), .int .i64 (ke2 n).2]) ∧ Below w.heap.size w w' := by
 by_cases hn : n < 0 ∨ 281474976710656 < n
 · have R : ke2 n = ([], 3) := by simp [ke2, hn]
   have HR := hdd R
   clear R
   go_enter Tryz.func155, Tryz.ntmps155
   go_wp2_with fail
   all_goals go_ret2
   all_goals exact ⟨by rw [HR.out]; rfl, Below.refl _ _⟩
 · have R : ke2 n = (Lib.decDigits n.toNat ++ [59], 0) := by simp [ke2, hn]
   have HR := hdd R
   clear R
   have b0 : 0 ≤ n := by omega
   have b1 : n ≤ 281474976710656 := by omega
   have hsz := kf3 b0 (by omega)
   have HD := hdd (fun w => khf (n.toNat + 1) n w b0 (by omega) (by omega))
   clear hn
   go_enter Tryz.func155, Tryz.ntmps155
   go_wp2_with (go_at_call 170; refine (HD.out _).mono ?_; rintro e w' ⟨rfl, hb⟩)
   go_ret2
   exact ⟨by rw [HR.out, ← ka9]; rfl, hb⟩
theorem kmv (n : Int) (w : World) : kcg 86 #[.int .i64 n] w (.string (B (num n))) := by
 have HT := hdd (kk4 n w)
 go_enter Tryz.func86, Tryz.ntmps86
 go_wp2_with (go_at_call 155; refine HT.out.mono ?_; rintro e w1 ⟨rfl, hb1⟩; have Hb1 := hdd hb1; clear hb1)
 go_ret
 exact ⟨rfl, Hb1.out⟩
def kjf (q : Nat) (xs : List Bs) : Bool := xs.all fun x => decide (x.length ≤ q)
def kqi (m : Nat) (xs : List Bs) : Bool := decide (xs.length ≤ m) && kjf 40 xs
theorem klt (q : Nat) (xs : List Bs) (k : Nat) (hk : k < xs.length) (h : kjf q (xs.take k) = true) : kjf q (xs.take (k + 1)) = decide ((xs.getD k []).length ≤ q) := by
 unfold kjf at *
 rw [List.take_add_one, List.all_append, h, List.getElem?_eq_getElem hk, List.getD_eq_getElem?_getD, List.getElem?_eq_getElem hk]
 simp
theorem kpu (q : Nat) (xs : List Bs) (k : Nat) (hk : k < xs.length) (h : ¬ (xs.getD k []).length ≤ q) : kjf q xs = false := by
 unfold kjf
 rw [List.all_eq_false]
 refine ⟨xs.getD k [], ?_, by simpa using h⟩
 rw [List.getD_eq_getElem?_getD, List.getElem?_eq_getElem hk]
 exact List.getElem_mem _
theorem kok (v : Value) (xs : List Bs) (w : World) (h : IsSl v (xs.map vS) w) : Calls Tryz.prog 148 #[v] w fun e w' => e = .returned (.bool (kqi 260 xs)) ∧ w' = w := by
 obtain ⟨a, cap, rfl⟩ := h.formMap
 have hmx := h.1
 rw [List.length_map] at hmx
 unfold maxLen at hmx
 have H := hdd h
 clear h
 unfold kqi
 by_cases hm : 260 < xs.length
 · have d1 : decide (260 < (xs.length : Int)) = true := by simp; omega
   rw [decide_eq_false (show ¬ xs.length ≤ 260 by omega)]
   go_enter Tryz.func148, Tryz.ntmps148
   go_wp2
   go_ret
   exact ⟨rfl, rfl⟩
 have d1 : decide (260 < (xs.length : Int)) = false := by simp; omega
 rw [decide_eq_true (show xs.length ≤ 260 by omega), Bool.true_and]
 go_enter Tryz.func148, Tryz.ntmps148
 go_wp2
 go_loopw [3] (fun n wr => wr = w ∧ ∃ k : Nat, k ≤ xs.length ∧ n = .int .i64 k ∧ kjf 40 (xs.take k) = true) (fun n _ => xs.length - (intOf n).toNat)
 case atStart => exact ⟨rfl, 0, by omega, rfl, by simp [kjf]⟩
 case round =>
  obtain ⟨rfl, k, hk, rfl, hA⟩ := hrel
  have HA := hdd hA
  clear hA
  by_cases hlt : k < xs.length
  · have h2 := H.out
    obtain ⟨b, off, cap', hv, hb, hc⟩ := h2.text rfl hlt
    simp only [Value.slice.injEq, true_and] at hv
    obtain ⟨rfl, rfl⟩ := hv
    obtain ⟨x, hx⟩ : ∃ x, xs.getD k [] = x := ⟨_, rfl⟩
    rw [hx] at hc
    obtain ⟨m, hm⟩ : ∃ m : Nat, (B x).size = m := ⟨_, rfl⟩
    have hml : m = (xs.getD k []).length := by rw [hx, ← hm]; rfl
    have Hm := hdd hml
    have Hx := hdd hx
    clear hx hml h2
    by_cases h40 : 40 < m
    · have hq : decide (40 < (m : Int)) = true := by simp; omega
      go_wp2
      go_ret
      rw [kpu 40 xs k hlt (by rw [← Hm.out]; omega)]
      exact ⟨rfl, rfl⟩
    · have hq : decide (40 < (m : Int)) = false := by simp; omega
      go_wp2
      go_roundw
      case rel => exact ⟨trivial, k + 1, by omega, by go_num, by rw [klt 40 xs k hlt HA.out, ← Hm.out]; simpa using h40⟩
      case measure => simp [intOf]; omega
  · obtain rfl : k = xs.length := by omega
    have hA := HA.out
    rw [List.take_length] at hA
    go_wp2
    go_ret
    rw [hA]
    exact ⟨rfl, rfl⟩
theorem ky2 (v : Value) (i : Int) (S H R : List Bs) (w : World) (h : kec v i S H R w) :
 Calls Tryz.prog 79 #[v] w fun e w' => e = .returned (.bool (kqi 260 S && kqi 260 H && kqi 260 R)) ∧ Below w.heap.size w w' := by
 obtain ⟨vs, vh, vr, rfl, hS, hH, hR⟩ := h
 have hB1 : Below w.heap.size w (w.alloc (.cells #[.int .i64 i, vs, vh, vr] 43)) := (Below.refl _ _).alloc (Nat.le_refl _) _
 have F1 := hdd (fun W (hb : Below w.heap.size w W) => kok vs S W (hS.below hb))
 have F2 := hdd (fun W (hb : Below w.heap.size w W) => kok vh H W (hH.below hb))
 have F3 := hdd (fun W (hb : Below w.heap.size w W) => kok vr R W (hR.below hb))
 obtain ⟨sa, sc, rfl⟩ := hS.formMap
 obtain ⟨ha, hc, rfl⟩ := hH.formMap
 obtain ⟨ra, rc, rfl⟩ := hR.formMap
 have HB1 := hdd hB1
 obtain ⟨c0, c1, c2, c3⟩ := kf1 (kak w (.cells #[.int .i64 i, .slice sa S.length sc, .slice ha H.length hc, .slice ra R.length rc] 43))
 obtain ⟨b1, e1⟩ : ∃ b, kqi 260 S = b := ⟨_, rfl⟩
 obtain ⟨b2, e2⟩ : ∃ b, kqi 260 H = b := ⟨_, rfl⟩
 obtain ⟨b3, e3⟩ : ∃ b, kqi 260 R = b := ⟨_, rfl⟩
 rw [e1] at F1
 rw [e2] at F2
 rw [e3] at F3
 rw [e1, e2, e3]
 clear e1 e2 e3 hB1 hS hH hR
 cases b1 with
 | false =>
   go_enter Tryz.func79, Tryz.ntmps79
   go_wp2_with fail
   refine (F1.out _ HB1.out).mono ?_
   rintro e w1 ⟨rfl, rfl⟩
   go_wp2
   go_ret
   exact ⟨rfl, HB1.out⟩
 | true =>
   go_enter Tryz.func79, Tryz.ntmps79
   go_wp2_with fail
   refine (F1.out _ HB1.out).mono ?_
   rintro e w1 ⟨rfl, rfl⟩
   go_wp2_with fail
   refine (F2.out _ HB1.out).mono ?_
   rintro e w1 ⟨rfl, rfl⟩
   cases b2 with
   | false =>
     go_wp2
     go_ret
     exact ⟨rfl, HB1.out⟩
   | true =>
     go_wp2_with fail
     refine (F3.out _ HB1.out).mono ?_
     rintro e w1 ⟨rfl, rfl⟩
     go_wp2
     go_ret
     exact ⟨rfl, HB1.out⟩
def shB (m : Nat) (xs : List Bs) : Bool := decide (xs.length ≤ m) && kjf 300 xs
theorem kj5 {m : Nat} {xs : List Bs} (h : shB m xs = true) : xs.length ≤ m ∧ ∀ x ∈ xs, x.length ≤ 300 := by
 unfold shB kjf at h
 simp only [Bool.and_eq_true, decide_eq_true_eq, List.all_eq_true] at h
 exact h
theorem kih (v : Value) (xs : List Bs) (w : World) (h : IsSl v (xs.map vS) w) : Calls Tryz.prog 78 #[v] w fun e w' => e = .returned (.bool (shB 20 xs)) ∧ w' = w := by
 obtain ⟨a, cap, rfl⟩ := h.formMap
 have hmx := h.1
 rw [List.length_map] at hmx
 unfold maxLen at hmx
 have H := hdd h
 clear h
 unfold shB
 by_cases hm : 20 < xs.length
 · have d1 : decide (20 < (xs.length : Int)) = true := by simp; omega
   rw [decide_eq_false (show ¬ xs.length ≤ 20 by omega)]
   go_enter Tryz.func78, Tryz.ntmps78
   go_wp2
   go_ret
   exact ⟨rfl, rfl⟩
 have d1 : decide (20 < (xs.length : Int)) = false := by simp; omega
 rw [decide_eq_true (show xs.length ≤ 20 by omega), Bool.true_and]
 go_enter Tryz.func78, Tryz.ntmps78
 go_wp2
 go_loopw [3] (fun n wr => wr = w ∧ ∃ k : Nat, k ≤ xs.length ∧ n = .int .i64 k ∧ kjf 300 (xs.take k) = true) (fun n _ => xs.length - (intOf n).toNat)
 case atStart => exact ⟨rfl, 0, by omega, rfl, by simp [kjf]⟩
 case round =>
  obtain ⟨rfl, k, hk, rfl, hA⟩ := hrel
  have HA := hdd hA
  clear hA
  by_cases hlt : k < xs.length
  · have h2 := H.out
    obtain ⟨b, off, cap', hv, hb, hc⟩ := h2.text rfl hlt
    simp only [Value.slice.injEq, true_and] at hv
    obtain ⟨rfl, rfl⟩ := hv
    obtain ⟨x, hx⟩ : ∃ x, xs.getD k [] = x := ⟨_, rfl⟩
    rw [hx] at hc
    obtain ⟨m, hm⟩ : ∃ m : Nat, (B x).size = m := ⟨_, rfl⟩
    have hml : m = (xs.getD k []).length := by rw [hx, ← hm]; rfl
    have Hm := hdd hml
    have Hx := hdd hx
    clear hx hml h2
    by_cases h300 : 300 < m
    · have hq : decide (300 < (m : Int)) = true := by simp; omega
      go_wp2
      go_ret
      rw [kpu 300 xs k hlt (by rw [← Hm.out]; omega)]
      exact ⟨rfl, rfl⟩
    · have hq : decide (300 < (m : Int)) = false := by simp; omega
      go_wp2
      go_roundw
      case rel => exact ⟨trivial, k + 1, by omega, by go_num, by rw [klt 300 xs k hlt HA.out, ← Hm.out]; simpa using h300⟩
      case measure => simp [intOf]; omega
  · obtain rfl : k = xs.length := by omega
    have hA := HA.out
    rw [List.take_length] at hA
    go_wp2
    go_ret
    rw [hA]
    exact ⟨rfl, rfl⟩
def kei (e : Rv.Ev) : Bool := shB 20 e.names && shB 20 e.targets && shB 20 [e.author, e.root, e.pkg, e.digest, e.question, e.scope, e.answer] && (kqi 260 e.sg.S && kqi 260 e.sg.H && kqi 260 e.sg.R)
theorem kjh {e : Rv.Ev} (h : kei e = true) : kvn e := by
 unfold kei at h
 rw [Bool.and_eq_true, Bool.and_eq_true, Bool.and_eq_true] at h
 have h1 := (kj5 h.1.1.1).2
 have h2 := (kj5 h.1.1.2).2
 have h3 := (kj5 h.1.2).2
 have g : ∀ x : Bs, x.length ≤ 300 → x.length ≤ 1000000000 := fun x hx => by omega
 exact ⟨g _ (h3 _ (by simp)), g _ (h3 _ (by simp)), g _ (h3 _ (by simp)), g _ (h3 _ (by simp)), g _ (h3 _ (by simp)), g _ (h3 _ (by simp)), g _ (h3 _ (by simp)), fun x hx => g x (h1 x hx), fun x hx => g x (h2 x hx)⟩
theorem khs (v : Value) (e : Rv.Ev) (w : World) (h : kk3 v e w) : Calls Tryz.prog 31 #[v] w fun en w' => en = .returned (.bool (kei e)) ∧ Below w.heap.size w w' := by
 obtain ⟨na, nc, ta, tc, sa, sc, ha, hc, ra, rc, rfl, hN, hT, hS, hH, hR⟩ := h
 have hb0 : Below w.heap.size w (w.alloc (.cells (evS e na nc ta tc sa sc ha hc ra rc) 45)) := (Below.refl _ _).alloc (Nat.le_refl _) _
 obtain ⟨e0, e1, e2, e3, e4, e5, e6, e7, e8, e9, e10, e11, e12, e13, e14, e15, e16, e17⟩ := ka6 (kak w (.cells (evS e na nc ta tc sa sc ha hc ra rc) 45))
 have Q1 := hdd (kih _ _ _ (hN.below hb0))
 have Q2 := hdd (kih _ _ _ (hT.below hb0))
 have Q3 := hdd (fun (W : World) (cs : Array Value) (l : List Bs) (n : Nat) (hn : l.length = n) (h0 : 0 < n) (hm : n ≤ 1000) (hc : l.map vS = cs.toList) => by
  subst hn
  have hs := kd7 (cap := l.length) (kak W (.cells cs 9)) hc (by rw [List.length_map]; unfold maxLen; omega) (by rw [List.length_map]; exact h0)
  rw [List.length_map] at hs
  exact kih _ l _ hs)
 have Q4 := hdd (fun (W : World) (hb : Below w.heap.size w W) => ky2 _ e.sg.i e.sg.S e.sg.H e.sg.R W ⟨_, _, _, rfl, hS.below hb, hH.below hb, hR.below hb⟩)
 have q3 := (Q3.out (w.alloc (.cells (evS e na nc ta tc sa sc ha hc ra rc) 45)) #[.string (B e.author), .string (B e.root), .string (B e.pkg), .string (B e.digest), .string (B e.question), .string (B e.scope), .string (B e.answer)] [e.author, e.root, e.pkg, e.digest, e.question, e.scope, e.answer] 7 rfl (by decide) (by decide) rfl)
 rw [World.size_alloc] at q3
 have Q3' := hdd q3
 have HB0 := hdd hb0
 clear hN hT hS hH hR hb0 Q3 q3
 go_enter Tryz.func31, Tryz.ntmps31
 go_wp2_with fail
 refine (Q1.out).mono ?_
 rintro en w1 ⟨rfl, rfl⟩
 cases hq1 : shB 20 e.names
 · go_wp2_with fail
   go_ret
   exact ⟨by unfold kei; simp [*], HB0.out⟩
 go_wp2_with fail
 refine (Q2.out).mono ?_
 rintro en w1 ⟨rfl, rfl⟩
 cases hq2 : shB 20 e.targets
 · go_wp2_with fail
   go_ret
   exact ⟨by unfold kei; simp [*], HB0.out⟩
 go_wp2_with fail
 refine (Q3'.out).mono ?_
 rintro en w1 ⟨rfl, rfl⟩
 have HC := hdd (show Below w.heap.size w ((w.alloc (.cells (evS e na nc ta tc sa sc ha hc ra rc) 45)).alloc (.cells #[.string (B e.author), .string (B e.root), .string (B e.pkg), .string (B e.digest), .string (B e.question), .string (B e.scope), .string (B e.answer)] 9)) from HB0.out.alloc (by simp) _)
 have hE : ((w.alloc (.cells (evS e na nc ta tc sa sc ha hc ra rc) 45)).alloc (.cells #[.string (B e.author), .string (B e.root), .string (B e.pkg), .string (B e.digest), .string (B e.question), .string (B e.scope), .string (B e.answer)] 9)).heap[w.heap.size]? = some (.cells (evS e na nc ta tc sa sc ha hc ra rc) 45 (0, 0)) := kaq (kak _ _)
 clear e0 e1 e2 e3 e4 e5 e6 e7 e8 e9 e10 e11 e12 e13 e14 e15 e16 e17
 obtain ⟨-, -, -, -, -, -, -, -, -, -, -, -, -, -, e14, e15, e16, e17⟩ := ka6 hE
 clear hE
 cases hq3 : shB 20 [e.author, e.root, e.pkg, e.digest, e.question, e.scope, e.answer]
 · go_wp2_with fail
   go_ret
   exact ⟨by unfold kei; simp [*], HC.out⟩
 go_wp2_with fail
 refine (Q4.out _ HC.out).mono ?_
 rintro en w4 ⟨rfl, hb⟩
 have HD := hdd (HC.out.next hb)
 clear hb
 go_wp2_with fail
 go_ret
 exact ⟨by unfold kei; simp [*], HD.out⟩
end Go.Proofs.YtknpbekoenbphaaGreatDoor
namespace Licit
open Go Go.RowKit
open Go.ChangeShapes Go.WideShapes Go.ChangeAt
section
variable {P : Program} {H : Type} {enc : TypeId × Value → H} {W : World} {r : Reach} {b0 base : Nat} {sp : Nat → Bool} {held : Bool} {t e : TypeId} {v : Value} {d : DataW H} {ps : List MemPlace}
theorem k1g {a : Addr} {x : Value} (h : W.cell? a = some x) (i : Nat) : a.add i = ⟨a.block, a.off + i, none⟩ := by
 have hs : a.spot = none := by
  unfold World.cell? at h
  split at h
  · cases hs : a.spot with
    | none => rfl
    | some s => simp [hs] at h
  · cases h
 unfold Addr.add
 cases a with
 | mk b o s =>
   simp only at hs
   subst hs
   split
   · rename_i h0; subst h0; rfl
   · rfl
theorem kmw {a : Addr} {cap : Nat} {xs : List Value} (hm : xs.length ≤ maxLen) (hc : ∀ i, i < xs.length → W.cell? (a.add i) = xs[i]?) : IsSl (.slice (some a) xs.length cap) xs W := by
 refine ⟨hm, ?_⟩
 by_cases h0 : xs.length = 0
 · exact .inl ⟨_, cap, by rw [h0], List.eq_nil_of_length_eq_zero h0⟩
 · have hx0 := hc 0 (by omega)
   have hadd : a.add 0 = a := by simp [Addr.add]
   rw [hadd, List.getElem?_eq_getElem (by omega)] at hx0
   have hA := fun i => k1g hx0 i
   have ha : a = ⟨a.block, a.off, none⟩ := by have := hA 0; rw [hadd] at this; exact this
   refine .inr ⟨a.block, a.off, cap, by rw [← ha], by omega, fun i hi => ?_⟩
   rw [← hA i]
   exact hc i hi
theorem kfd {fuel : Nat} {y : DataW H × List MemPlace} (ht : P.underlying t = some (.slice e)) (he : P.underlying e = some .string) (hc : P.cellsOf e = 1) (hf : DataW.trod enc P W base (fun _ => true) held fuel t [v] = some y) :
 ∃ xs : List Bs, IsSl v (xs.map vS) W ∧ ∀ x ∈ xs, x.length ≤ maxLen := by
 rcases open_strings ht he hc hf with ⟨hcs, hx⟩ | ⟨a, len', cap', zs, hcs, _, hl, hm, hz, hx, hcell, hwz⟩
 · simp only [List.cons.injEq, and_true] at hcs
   subst hcs
   exact ⟨[], ⟨by simp, .inl ⟨none, 0, rfl, rfl⟩⟩, by simp⟩
 · simp only [List.cons.injEq, and_true] at hcs
   subst hcs
   simp only [if_true] at hz
   have hlen : (((zs.take len').map fun s => s.data.toList).map vS).length = len' := by simp; omega
   refine ⟨(zs.take len').map fun s => s.data.toList, ?_, fun x hx => ?_⟩
   · have := kmw (W := W) (a := a) (cap := cap') (xs := ((zs.take len').map fun s => s.data.toList).map vS) (by rw [hlen]; omega) (fun i hi => by
      rw [hlen] at hi
      rw [hcell i (by omega)]
      simp [vS, hi, List.getD, List.getElem?_eq_getElem (show i < zs.length by omega), kxx])
     rwa [hlen] at this
   · obtain ⟨s, hs, rfl⟩ := List.mem_map.1 hx
     exact hwz s (List.mem_of_mem_take hs)
end
end Licit
namespace Go.Proofs.YtknpbekoenbphaaGreatDoor
open Go Go.RowKit Licit
open Go.ChangeShapes Go.WideShapes Go.ChangeAt
section
variable {H : Type} {enc : TypeId × Value → H} {P : Program} {W : World} {base : Nat} {sp : Nat → Bool} {held : Bool} {r : Reach} {b0 : Nat} {v : Value} {d : DataW H} {ps : List MemPlace}
theorem kkt {t : TypeId} {fs : Array Field} {fuel : Nat} {cs : List Value} {x : DataW H × List MemPlace} (ht : P.underlying t = some (.struct fs)) (h : DataW.trod enc P W base sp held fuel t cs = some x) :
 ∃ n, cs.length = P.cellsOf t ∧ ∀ (i : Nat) (f : Field), fs[i]? = some f → ∃ y, DataW.trod enc P W base sp held n f.type ((cs.drop f.offset).take (P.cellsOf f.type)) = some y := by
 obtain ⟨xs, n, _, rfl, hl, hlen, hf⟩ := DataW.trod_struct ht h
 refine ⟨n, hl, fun i f hi => ?_⟩
 have hlt : i < fs.size := by
  rcases Nat.lt_or_ge i fs.size with h | h
  · exact h
  · rw [Array.getElem?_eq_none h] at hi; cases hi
 exact ⟨xs[i]'(by omega), by rw [hf i f hi]; exact List.getElem?_eq_getElem (by omega)⟩
theorem ktj {t : TypeId} {f0 f1 f2 f3 f4 f5 f6 f7 f8 f9 f10 f11 f12 f13 : Field} {fuel : Nat} {cs : List Value} {x : DataW H × List MemPlace} (ht : P.underlying t = some (.struct #[f0, f1, f2, f3, f4, f5, f6, f7, f8, f9, f10, f11, f12, f13])) (h : DataW.trod enc P W base sp held fuel t cs = some x) :
 ∃ n, cs.length = P.cellsOf t ∧ (∃ y, DataW.trod enc P W base sp held n f0.type ((cs.drop f0.offset).take (P.cellsOf f0.type)) = some y) ∧ (∃ y, DataW.trod enc P W base sp held n f1.type ((cs.drop f1.offset).take (P.cellsOf f1.type)) = some y) ∧ (∃ y, DataW.trod enc P W base sp held n f2.type ((cs.drop f2.offset).take (P.cellsOf f2.type)) = some y) ∧ (∃ y, DataW.trod enc P W base sp held n f3.type ((cs.drop f3.offset).take (P.cellsOf f3.type)) = some y) ∧ (∃ y, DataW.trod enc P W base sp held n f4.type ((cs.drop f4.offset).take (P.cellsOf f4.type)) = some y) ∧ (∃ y, DataW.trod enc P W base sp held n f5.type ((cs.drop f5.offset).take (P.cellsOf f5.type)) = some y) ∧ (∃ y, DataW.trod enc P W base sp held n f6.type ((cs.drop f6.offset).take (P.cellsOf f6.type)) = some y) ∧ (∃ y, DataW.trod enc P W base sp held n f7.type ((cs.drop f7.offset).take (P.cellsOf f7.type)) = some y) ∧ (∃ y, DataW.trod enc P W base sp held n f8.type ((cs.drop f8.offset).take (P.cellsOf f8.type)) = some y) ∧ (∃ y, DataW.trod enc P W base sp held n f9.type ((cs.drop f9.offset).take (P.cellsOf f9.type)) = some y) ∧ (∃ y, DataW.trod enc P W base sp held n f10.type ((cs.drop f10.offset).take (P.cellsOf f10.type)) = some y) ∧ (∃ y, DataW.trod enc P W base sp held n f11.type ((cs.drop f11.offset).take (P.cellsOf f11.type)) = some y) ∧ (∃ y, DataW.trod enc P W base sp held n f12.type ((cs.drop f12.offset).take (P.cellsOf f12.type)) = some y) ∧ (∃ y, DataW.trod enc P W base sp held n f13.type ((cs.drop f13.offset).take (P.cellsOf f13.type)) = some y) := by
 obtain ⟨n, hl, hF⟩ := kkt ht h
 exact ⟨n, hl, hF 0 f0 rfl, hF 1 f1 rfl, hF 2 f2 rfl, hF 3 f3 rfl, hF 4 f4 rfl, hF 5 f5 rfl, hF 6 f6 rfl, hF 7 f7 rfl, hF 8 f8 rfl, hF 9 f9 rfl, hF 10 f10 rfl, hF 11 f11 rfl, hF 12 f12 rfl, hF 13 f13 rfl⟩
theorem kww {t : TypeId} {f0 f1 f2 f3 : Field} {fuel : Nat} {cs : List Value} {x : DataW H × List MemPlace} (ht : P.underlying t = some (.struct #[f0, f1, f2, f3])) (h : DataW.trod enc P W base sp held fuel t cs = some x) :
 ∃ n, cs.length = P.cellsOf t ∧ (∃ y, DataW.trod enc P W base sp held n f0.type ((cs.drop f0.offset).take (P.cellsOf f0.type)) = some y) ∧ (∃ y, DataW.trod enc P W base sp held n f1.type ((cs.drop f1.offset).take (P.cellsOf f1.type)) = some y) ∧ (∃ y, DataW.trod enc P W base sp held n f2.type ((cs.drop f2.offset).take (P.cellsOf f2.type)) = some y) ∧ (∃ y, DataW.trod enc P W base sp held n f3.type ((cs.drop f3.offset).take (P.cellsOf f3.type)) = some y) := by
 obtain ⟨n, hl, hF⟩ := kkt ht h
 exact ⟨n, hl, hF 0 f0 rfl, hF 1 f1 rfl, hF 2 f2 rfl, hF 3 f3 rfl⟩
theorem k1i {α : Type} {l : List α} (h : l.length = 18) : ∃ c0 c1 c2 c3 c4 c5 c6 c7 c8 c9 c10 c11 c12 c13 c14 c15 c16 c17, l = [c0, c1, c2, c3, c4, c5, c6, c7, c8, c9, c10, c11, c12, c13, c14, c15, c16, c17] := by
 match l, h with
 | [c0, c1, c2, c3, c4, c5, c6, c7, c8, c9, c10, c11, c12, c13, c14, c15, c16, c17], _ => exact ⟨c0, c1, c2, c3, c4, c5, c6, c7, c8, c9, c10, c11, c12, c13, c14, c15, c16, c17, rfl⟩
theorem kre {fuel : Nat} {cs : List Value} {x : DataW H × List MemPlace} (hf : DataW.trod enc Tryz.prog W base (fun _ => true) held fuel 45 cs = some x) : cs.length = 18 ∧ ∃ e, kk3 (.agg cs.toArray) e W := by
 obtain ⟨n, hl, ⟨y0, h0⟩, ⟨y1, h1⟩, ⟨y2, h2⟩, ⟨y3, h3⟩, ⟨y4, h4⟩, ⟨y5, h5⟩, ⟨y6, h6⟩, ⟨y7, h7⟩, ⟨y8, h8⟩, ⟨y9, h9⟩, ⟨y10, h10⟩, ⟨y11, h11⟩, ⟨y12, h12⟩, ⟨y13, h13⟩⟩ := ktj Tryz.underlying45 hf
 have e1 : Tryz.prog.cellsOf 9 = 1 := by kernel_rfl
 have e2 : Tryz.prog.cellsOf 3 = 1 := by kernel_rfl
 have e3 : Tryz.prog.cellsOf 39 = 1 := by kernel_rfl
 have e4 : Tryz.prog.cellsOf 41 = 2 := by kernel_rfl
 have e5 : Tryz.prog.cellsOf 43 = 4 := by kernel_rfl
 have e6 : Tryz.prog.cellsOf 45 = 18 := by kernel_rfl
 obtain ⟨c0, c1, c2, c3, c4, c5, c6, c7, c8, c9, c10, c11, c12, c13, c14, c15, c16, c17, rfl⟩ := k1i (hl.trans e6)
 refine ⟨rfl, ?_⟩
 simp only [e1, e2, e3, e4, e5, List.drop_zero, List.drop_succ_cons, List.take_succ_cons, List.take_zero] at h0 h1 h2 h3 h4 h5 h6 h7 h8 h9 h10 h11 h12 h13
 obtain ⟨i0, g0, _, _⟩ := DataW.trod_int Tryz.underlying3 h0
 obtain ⟨s1, g1, _, _⟩ := DataW.trod_string Tryz.underlying9 h1
 obtain ⟨i2, g2, _, _⟩ := DataW.trod_int Tryz.underlying3 h2
 obtain ⟨l3, g3, _⟩ := kfd Tryz.underlying39 Tryz.underlying9 (by kernel_rfl) h3
 obtain ⟨s4, g4, _, _⟩ := DataW.trod_string Tryz.underlying9 h4
 obtain ⟨z0, z1, k, _, _, k0, k1⟩ := trod_struct2 Tryz.underlying41 h5
 simp only [e2, List.drop_zero, List.drop_succ_cons, List.take_succ_cons, List.take_zero] at k0 k1
 obtain ⟨i5, g5, _, _⟩ := DataW.trod_int Tryz.underlying3 k0
 obtain ⟨i6, g6, _, _⟩ := DataW.trod_int Tryz.underlying3 k1
 obtain ⟨s7, g7, _, _⟩ := DataW.trod_string Tryz.underlying9 h6
 obtain ⟨s8, g8, _, _⟩ := DataW.trod_string Tryz.underlying9 h7
 obtain ⟨s9, g9, _, _⟩ := DataW.trod_string Tryz.underlying9 h8
 obtain ⟨s10, g10, _, _⟩ := DataW.trod_string Tryz.underlying9 h9
 obtain ⟨s11, g11, _, _⟩ := DataW.trod_string Tryz.underlying9 h10
 obtain ⟨i12, g12, _, _⟩ := DataW.trod_int Tryz.underlying3 h11
 obtain ⟨l13, g13, _⟩ := kfd Tryz.underlying39 Tryz.underlying9 (by kernel_rfl) h12
 obtain ⟨m, _, ⟨q0, p0⟩, ⟨q1, p1⟩, ⟨q2, p2⟩, ⟨q3, p3⟩⟩ := kww Tryz.underlying43 h13
 simp only [e2, e3, List.drop_zero, List.drop_succ_cons, List.take_succ_cons, List.take_zero] at p0 p1 p2 p3
 obtain ⟨i14, g14, _, _⟩ := DataW.trod_int Tryz.underlying3 p0
 obtain ⟨l15, g15, _⟩ := kfd Tryz.underlying39 Tryz.underlying9 (by kernel_rfl) p1
 obtain ⟨l16, g16, _⟩ := kfd Tryz.underlying39 Tryz.underlying9 (by kernel_rfl) p2
 obtain ⟨l17, g17, _⟩ := kfd Tryz.underlying39 Tryz.underlying9 (by kernel_rfl) p3
 simp only [List.cons.injEq, and_true] at g0 g1 g2 g4 g5 g6 g7 g8 g9 g10 g11 g12 g14
 obtain ⟨a3, b3, rfl⟩ := g3.formMap
 obtain ⟨a13, b13, rfl⟩ := g13.formMap
 obtain ⟨a15, b15, rfl⟩ := g15.formMap
 obtain ⟨a16, b16, rfl⟩ := g16.formMap
 obtain ⟨a17, b17, rfl⟩ := g17.formMap
 refine ⟨⟨i0, s1.data.toList, i2, l3, s4.data.toList, i5, i6, s7.data.toList, s8.data.toList, s9.data.toList, s10.data.toList, s11.data.toList, i12, l13, ⟨i14, l15, l16, l17⟩⟩, a3, b3, a13, b13, a15, b15, a16, b16, a17, b17, ?_, g3, g13, g15, g16, g17⟩
 rw [g0, g1, g2, g4, g5, g6, g7, g8, g9, g10, g11, g12, g14]
 simp only [evW, evS, evV, evC, kxx]
theorem kmy (hval : Value.okWide Tryz.prog W r b0 45 v) (hd : DataW.Trod enc Tryz.prog W base (fun _ => true) held 45 v d ps) : ∃ e, kk3 v e W := by
 obtain ⟨cs, rfl, _⟩ := okWide_struct Tryz.underlying45 hval
 obtain ⟨fuel, hf⟩ := hd
 exact (kre hf).2
end
end Go.Proofs.YtknpbekoenbphaaGreatDoor
