/- Grow of package mountain does what the plain function says. -/
import Derived.Test.YtfklmjcjjdliiaaDoorWkMt7
import Derived.Test.YtfklmjcjjdliiaaDoorFrmRange
namespace Go.Proofs.YtfklmjcjjdliiaaDoor
open Go Go.RowKit Licit

attribute [local go_sem] Oper.semAt_some

theorem Steps_any (a b : Nat) (w : World) :
    Calls Tryd.prog 62 #[.int .i64 (a : Int), .int .i64 (b : Int)] w fun e w' => e = .returned (.func (.func 81) #[] #[.pointer (some ⟨w.heap.size, 0, none⟩), .pointer (some ⟨w.heap.size + 1, 0, none⟩)]) ∧ w' = (w.alloc (.cells #[.int .i64 (a : Int)] 3)).alloc (.cells #[.int .i64 (b : Int)] 3) := by
  go_enter Tryd.func62, Tryd.ntmps62
  go_wp2
  go_ret
  exact ⟨rfl, rfl⟩
theorem Steps_stops (n : Nat) (hn : 1 ≤ n) (Bf Bt a b : Nat) (hab : a ≤ b) (hb : b ≤ 1048576) (w : World)
    (hf : w.heap[Bf]? = some (.cells #[.int .i64 (a : Int)] 3)) (ht : w.heap[Bt]? = some (.cells #[.int .i64 (b : Int)] 3)) (hz : Tz w) :
    SeqStopsK Fence.wide n Tryd.prog 81 #[.pointer (some ⟨Bf, 0, none⟩), .pointer (some ⟨Bt, 0, none⟩)] (fun x : Stp b => #[Value.int .i64 (x.1.1 : Int), .int .i64 (x.1.2 : Int)]) (KpS Bf Bt) (fun ys => ys.map (·.1) = pairsL a (stepsL a b)) (fun _ => True) (stepsL a b).length w :=
  fun l J Jx W hW _ _ hY h0 => Steps1_in n hn l Bf Bt a b hab hb J Jx W hY (below_heap hW (lt_of hf) hf) (below_heap hW (lt_of ht) ht) (hz.same hW) h0

def growE (l : List Bs) (i : Int) : Int := if checkM l = 0 then (if 0 ≤ i ∧ i ≤ (l.length : Int) then 0 else 3) else checkM l
def growP (l : List Bs) (i : Int) : List Bs := if growE l i = 0 then growN l i.toNat l.length else []
def stepPeak (l : List Bs) (x : Nat × Nat) : Bs := peakN x.2 ((l.drop x.1).take (2 ^ x.2))
theorem stepPeak_all (l : List Bs) : ∀ (hs : List Nat) (a : Nat), (pairsL a hs).map (stepPeak l) = cutsL hs (l.drop a)
  | [], _ => rfl
  | h :: hs, a => by
    rw [pairsL, List.map_cons, stepPeak_all l hs, cutsL, List.drop_drop]
    rfl

theorem len_sum2 : ∀ hs : List Nat, hs.length ≤ sum2 hs
  | [] => Nat.le_refl _
  | h :: hs => by
    have := len_sum2 hs
    have := Nat.two_pow_pos h
    simp only [List.length_cons, sum2]
    omega
theorem stepsL_few (a b : Nat) (h : a ≤ b) : (stepsL a b).length ≤ b - a := by
  have h1 := len_sum2 (stepsL a b)
  rw [sum2_steps _ _ _ (Nat.le_refl _) h] at h1
  exact h1

/-- What a range over steps holds: block A is the box of what was appended. -/
def StInv {b : Nat} (f : Nat × Nat → Bs) (A : Nat) (W0 : World) (pre : List (Stp b)) (W : World) : Prop :=
  Kept (One A) W0 W ∧ ∃ v, W.heap[A]? = some (.cells #[v] 22) ∧ W.ownsRow W0.heap.size 9 1 v pre.length ((pre.map fun x => f x.1).map vS)
theorem cells_ne' {W : World} {r : Nat} {cs : Array Value} {T : TypeId} {fr : Nat × Nat} (h : W.heap[r]? = some (.cells cs T fr)) {q : Nat} (hq : ∃ o : Obj, W.heap[q]? = some o ∧ o.isCells = false) : r ≠ q := by
  rintro rfl
  obtain ⟨o, h1, h2⟩ := hq
  rw [h] at h1
  cases h1
  cases h2
theorem StInv.own {b : Nat} (f : Nat × Nat → Bs) (A : Nat) (W0 : World) : OwnFrom W0.heap.size (fun (pre : List (Stp b)) W => StInv f A W0 pre W) := by
  rintro pre W W' row ⟨hK, v, hb, ho⟩ hg hr
  refine ⟨hK.grown hg (fun k hk => .inl (hr k hk).1), v, ?_, ?_⟩
  · rw [hg.block A (lt_of hb) (fun e => cells_ne' hb (hr A e.symm).2 rfl)]
    exact hb
  · refine ho.kept hg ?_
    rcases id ho.2 with ⟨rfl, _⟩ | ⟨g, cap, cur, rfl, _, hh, _⟩
    · exact .inl rfl
    · refine .inr fun e => ?_
      have e' : row = some g := e.symm
      exact cells_ne' hh (hr g e').2 rfl

set_option maxHeartbeats 8000000 in
set_option maxRecDepth 100000 in
theorem MtGrow_any (v : Value) (l : List Bs) (i : Int) (w : World) (h : IsSl v (l.map vS) w) (hcv : SlCap v) (ht : Tab w) (hz : Tz w) :
    Calls Tryd.prog 32 #[v, .int .i64 i] w fun e w' => ∃ v', e = .returned (.tuple #[v', .int .i64 (growE l i)]) ∧ w'.ownsRow w.heap.size 9 1 v' (growP l i).length ((growP l i).map vS) ∧ Below w.heap.size w w' := by
  obtain ⟨i0, hi, hz0, hz1, hz2⟩ := info_parts Tryd.infoStr
  have Hi := Lib.hid hi
  have Hz0 := Lib.hid hz0
  have Hz1 := Lib.hid hz1
  have Hz2 := Lib.hid hz2
  clear hi hz0 hz1 hz2
  have HC := Lib.hid (fun W (hb : Below w.heap.size w W) => check_any v l W (h.below hb))
  have H := Lib.hid h
  obtain ⟨a0, cap0, rfl⟩ := h.formMap
  have hcap : l.length ≤ cap0 := hcv
  have hmx := h.1
  rw [List.length_map] at hmx
  unfold maxLen at hmx
  have HX1 := Lib.hid (new_of w (.cells #[.slice a0 l.length cap0] 22))
  have HB1 := Lib.hid ((Below.refl w.heap.size w).alloc (Nat.le_refl _) (.cells #[.slice a0 l.length cap0] 22))
  clear h hcv
  obtain ⟨C, hC⟩ : ∃ C, checkM l = C := ⟨_, rfl⟩
  rw [hC] at HC
  by_cases hc : C = 0
  rotate_left
  · have hs : growE l i = C := by unfold growE; rw [hC, if_neg hc]
    have hp : growP l i = [] := by unfold growP; rw [hs, if_neg hc]
    rw [hs, hp]
    have hcl : (C == 0) = false := by simpa using hc
    clear hC hs hp
    go_enter Tryd.func32, Tryd.ntmps32
    go_wp2_with fail
    refine (HC.out _ HB1.out).mono ?_
    rintro e w1 ⟨rfl, rfl⟩
    go_wp2
    go_ret2
    exact ⟨_, rfl, World.ownsRow_nil _ _ _ _, HB1.out⟩
  subst hc
  obtain ⟨hl, h32⟩ := checkM_iff.1 hC
  have HL32 := Lib.hid (all32_get h32)
  by_cases h0 : i < 0
  · have hs : growE l i = 3 := by unfold growE; rw [hC, if_pos rfl, if_neg (by omega)]
    have hp : growP l i = [] := by unfold growP; rw [hs]; rfl
    rw [hs, hp]
    have d1 : decide (i < 0) = true := by simpa using h0
    clear hC hs hp
    go_enter Tryd.func32, Tryd.ntmps32
    go_wp2_with fail
    refine (HC.out _ HB1.out).mono ?_
    rintro e w1 ⟨rfl, rfl⟩
    go_wp2
    go_ret2
    exact ⟨_, rfl, World.ownsRow_nil _ _ _ _, HB1.out⟩
  obtain ⟨j, rfl⟩ : ∃ j : Nat, i = (j : Int) := ⟨i.toNat, by omega⟩
  have d1 : decide ((j : Int) < 0) = false := by simp
  by_cases hjl : l.length < j
  · have hs : growE l (j : Int) = 3 := by unfold growE; rw [hC, if_pos rfl, if_neg (by omega)]
    have hp : growP l (j : Int) = [] := by unfold growP; rw [hs]; rfl
    rw [hs, hp]
    have d2 : decide ((l.length : Int) < (j : Int)) = true := by simp; omega
    clear hC hs hp
    go_enter Tryd.func32, Tryd.ntmps32
    go_wp2_with fail
    refine (HC.out _ HB1.out).mono ?_
    rintro e w1 ⟨rfl, rfl⟩
    go_wp2
    go_ret2
    exact ⟨_, rfl, World.ownsRow_nil _ _ _ _, HB1.out⟩
  have d2 : decide ((l.length : Int) < (j : Int)) = false := by simp; omega
  have hs : growE l (j : Int) = 0 := by unfold growE; rw [hC, if_pos rfl, if_pos (by omega)]
  have hp : growP l (j : Int) = growN l j l.length := by unfold growP; rw [hs, if_pos rfl, Int.toNat_natCast]
  rw [hs, hp]
  clear hC hs hp h32
  refine callsIn_wide.1 (callsIn_of_wp_marks (F := Fence.wide) (n := 9) Tryd.func32 rfl trivial (wpIn_wide.2 ?_) rfl)
  simp only [Tryd.ntmps32, List.size_toArray, List.length_cons, List.length_nil, Nat.reduceAdd, Nat.reduceSub, Array.replicate_succ, Array.replicate_zero, List.push_toArray, List.append_toArray, List.nil_append, List.cons_append]
  go_wp2_with fail
  refine (HC.out _ HB1.out).mono ?_
  rintro e w1 ⟨rfl, rfl⟩
  go_wp2_with fail
  refine (Steps_any _ _ _).mono ?_
  rintro e w1 ⟨rfl, rfl⟩
  go_wp2_with fail
  obtain ⟨W0, hW0⟩ : ∃ W0, W0 = (((w.alloc (.cells #[.slice a0 l.length cap0] 22)).alloc (.cells #[.slice none 0 0] 22)).alloc (.cells #[.int .i64 (j : Int)] 3)).alloc (.cells #[.int .i64 (l.length : Int)] 3) := ⟨_, rfl⟩
  have hWB : Below w.heap.size w W0 := by rw [hW0]; exact ((((Below.refl _ _).alloc (Nat.le_refl _) _).alloc (by simp) _).alloc (by simp; omega) _).alloc (by simp; omega) _
  have hWl : W0.heap[w.heap.size]? = some (.cells #[.slice a0 l.length cap0] 22) := by rw [hW0]; exact old_of (old_of (old_of (new_of _ _)))
  have hWA : W0.heap[w.heap.size + 1]? = some (.cells #[.slice none 0 0] 22) := by rw [hW0]; exact old_of (old_of (new_at (by simp) rfl))
  have hWf : W0.heap[w.heap.size + 1 + 1]? = some (.cells #[.int .i64 (j : Int)] 3) := by rw [hW0]; exact old_of (new_at (by simp) rfl)
  have hWt : W0.heap[w.heap.size + 1 + 1 + 1]? = some (.cells #[.int .i64 (l.length : Int)] 3) := by rw [hW0]; exact new_at (by simp) rfl
  have hWz : W0.heap.size = w.heap.size + 4 := by rw [hW0]; simp
  rw [← hW0]
  have HWB := Lib.hid hWB
  have HWl := Lib.hid hWl
  have HWA := Lib.hid hWA
  have HWf := Lib.hid hWf
  have HWt := Lib.hid hWt
  have HWz := Lib.hid hWz
  have hgz := hz.lt
  have hz0 : Tz W0 := hz.same hWB
  have HZ0 := Lib.hid hz0
  have Hgz := Lib.hid hgz
  clear hW0 hWB hWl hWA hWf hWt hWz HX1 hz0 hgz
  refine wpIn_wide.1 (wpIn_rangeFunc_ownG (F := Fence.wide) (n := 9) rfl (by decide) (gf := 81) (lb := #[.pointer (some ⟨w.heap.size + 1 + 1, 0, none⟩), .pointer (some ⟨w.heap.size + 1 + 1 + 1, 0, none⟩)]) rfl trivial (enters_of Tryd.func81 (by kernel_rfl) rfl)
    (Steps_stops (9 - 1) (by decide) (w.heap.size + 1 + 1) (w.heap.size + 1 + 1 + 1) j l.length (by omega) (by omega) W0 HWf.out HWt.out HZ0.out)
    (fun h1 h2 => ⟨h2.1.trans h1.1, h2.2.1.trans h1.2.1, h2.2.2.trans h1.2.2⟩) (fun W l o o' hl _ _ _ => ⟨World.putObj_heap_other (by have := HWz.out; omega), World.putObj_heap_other (by have := HWz.out; omega), World.putObj_heap_other (by have := HWz.out; have := Hgz.out; omega)⟩) (Below.refl _ _) (fun _ => rfl)
    (fun pre W => StInv (stepPeak l) (w.heap.size + 1) W0 pre W) (fun _ _ _ => False) (StInv.own _ _ _) (fun _ _ _ _ _ hs _ _ => hs)
    ⟨Kept.refl _ _, _, HWA.out, World.ownsRow_nil _ _ _ _⟩
    (fun x => { tmps := #[.slice a0 l.length cap0, .int .i64 (j : Int), .pointer (some ⟨w.heap.size, 0, none⟩), undef, .slice none 0 0, .int .i64 0, .int .i64 0, .pointer (some ⟨w.heap.size + 1, 0, none⟩), .int .i64 (x.1.1 : Int), .int .i64 (x.1.2 : Int), .slice a0 l.length cap0, .int .i64 0, .int .i64 0, .bool false, undef, .int .i64 (j : Int), .bool false, .bool false, .int .i64 (j : Int), .slice a0 l.length cap0, .int .i64 (l.length : Int), .bool false, .bool false, .int .i64 (j : Int), .slice a0 l.length cap0, .int .i64 (l.length : Int), .func (.func 81) #[] #[.pointer (some ⟨w.heap.size + 1 + 1, 0, none⟩), .pointer (some ⟨w.heap.size + 1 + 1 + 1, 0, none⟩)], .int .i64 (x.1.1 : Int), .int .i64 (x.1.2 : Int), undef, undef, undef, undef, undef, undef, undef, undef, undef, undef, undef, undef], defers := [] }) ?assign ?body ?done ?stop)
  case assign =>
    intro l x W K hK
    dsimp only at hK
    gi_wp2
    exact hK
  case stop =>
    rintro D c pre W _ _ h _
    exact h.elim
  case done =>
    rintro D ys W hD hys ⟨hK0, v, hbx, hrow⟩ hKD
    have hg : (ys.map fun x => stepPeak l x.1) = growN l j l.length := by
      have e : (ys.map fun x => stepPeak l x.1) = (ys.map (·.1)).map (stepPeak l) := by simp [Function.comp_def]
      rw [e, hys, stepPeak_all]
      rfl
    have hyl : ys.length = (growN l j l.length).length := by rw [← hg, List.length_map]
    rw [hyl, hg] at hrow
    have hA0 : w.heap.size + 1 < W0.heap.size := by have := HWz.out; omega
    have hbW : Below w.heap.size w W := HWB.out.trans (hK0.below (by have := HWz.out; omega) (fun k hk e => by have : k = w.heap.size + 1 := e; omega))
    obtain ⟨ra, rc, rfl⟩ := own_form hrow
    have hcb := cell_of hbx 0
    have HBW := Lib.hid hbW
    have Hrow := Lib.hid hrow
    have HKD := Lib.hid hKD
    have HDD := Lib.hid hD
    clear hys hg hyl hrow hbW hKD hD hbx hK0
    dsimp only
    go_wp2
    refine leaves_marks [D] W ⟨by simp, by simpa using HKD.out⟩ fun w4 hw4 => ?_
    refine ⟨_, results_tmp2 rfl _ _ _, _, rfl, ?_, ?_⟩
    · obtain ⟨h1, h2, h3, h4, h5⟩ := hw4
      refine ownsRow_base (own_at Hrow.out (fun q hq => ?_)) (by have := HWz.out; omega)
      obtain ⟨_, cs, hc⟩ := own_block Hrow.out hq
      refine h5 q (lt_of hc) (fun hm => ?_)
      rw [List.mem_singleton] at hm
      subst hm
      rw [HKD.out] at hc
      cases hc
    · obtain ⟨h1, h2, h3, h4, h5⟩ := hw4
      have hB := HBW.out
      exact ⟨h1.trans hB.os, h2.trans hB.tape, h3.trans hB.output, Nat.le_trans hB.size h4, fun k hk => (h5 k (Nat.lt_of_lt_of_le hk hB.size) (fun hm => by rw [List.mem_singleton] at hm; have := HDD.out; have := HWz.out; omega)).trans (hB.block k hk)⟩
  case body =>
    rintro lp pre ⟨⟨f, h⟩, hx, hh20⟩ W ⟨hK, v, hbx, hrow⟩ hpre
    dsimp only at hx hh20 ⊢
    have hK0 := hK
    obtain ⟨p2, hp2⟩ : ∃ p2, 2 ^ h = p2 := ⟨_, rfl⟩
    have hp20 : 0 < p2 := by rw [← hp2]; exact Nat.two_pow_pos h
    have hfp : f + p2 ≤ l.length := by rw [← hp2]; exact hx
    have hh10 : h ≤ 10 := pow_le_1024 (show 2 ^ h ≤ l.length by omega) hl
    have hpi : (1 : Int) * 2 ^ h = (p2 : Int) := by rw [← hp2]; simp
    have hpi' : (2 : Int) ^ h = (p2 : Int) := by rw [← hp2]; simp
    have hw1 : IntKind.i64.wrap (p2 : Int) = (p2 : Int) := by rw [IntKind.wrap_i64]; omega
    have hw2 : IntKind.i64.wrap ((f : Int) + (p2 : Int)) = (f : Int) + (p2 : Int) := by rw [IntKind.wrap_i64]; omega
    have hkm : min h 64 = h := by omega
    have hk64 : h ≤ 64 := by omega
    have hi1 : (f : Int) ≤ (f : Int) + (p2 : Int) := by omega
    have hi3 : (f : Int) + (p2 : Int) ≤ (cap0 : Int) := by omega
    have hi4 : (0 : Int) ≤ (f : Int) + (p2 : Int) := by omega
    have hn2 : ((f : Int) + (p2 : Int)).toNat = f + p2 := by omega
    have hn3 : f + p2 - f = p2 := by omega
    have hcf : ¬ cap0 = f := by omega
    obtain ⟨b, off, cap', hv⟩ := sl_some H.out (by rw [List.length_map]; omega)
    rw [List.length_map] at hv
    simp only [Value.slice.injEq, true_and] at hv
    obtain ⟨rfl, rfl⟩ := hv
    obtain ⟨z, hz'⟩ : ∃ z, stepPeak l (f, h) = z := ⟨_, rfl⟩
    have hstep : (pre.map fun x => stepPeak l x.1) ++ [z] = (pre ++ [(⟨(f, h), hx, hh20⟩ : Stp l.length)]).map fun x => stepPeak l x.1 := by simp [← hz']
    have hA0 : w.heap.size + 1 < W0.heap.size := by have := HWz.out; omega
    have hS : ∀ Wc, Kept (Licit.One (w.heap.size + 1)) W0 Wc → (fun W' : World => W'.cell? ⟨w.heap.size, 0, none⟩ = some (.slice (some ⟨b, off, none⟩) l.length cap0)) Wc := fun Wc hk =>
      (hk.cell (b := w.heap.size) (o := 0) (by omega) (fun e => by have : w.heap.size = w.heap.size + 1 := e; omega)).trans (cell_of HWl.out 0)
    have hBc : ∀ Wc, Kept (Licit.One (w.heap.size + 1)) W0 Wc → Below w.heap.size w Wc := fun Wc hk => HWB.out.trans (hk.below (by omega) (fun k hk e => by have : k = w.heap.size + 1 := e; omega))
    have hPk : ∀ Wc, Kept (Licit.One (w.heap.size + 1)) W0 Wc → Gives 45 #[.slice (some ⟨b, off + f, none⟩) p2 (cap0 - f)] Wc (.string (B z)) := fun Wc hk => by
      have := peak_any h (.slice (some ⟨b, off + f, none⟩) p2 (cap0 - f)) ((l.drop f).take p2) Wc (sl_part (H.out.below (hBc Wc hk)) rfl hfp hp20 _) (show p2 ≤ cap0 - f by omega) (by rw [List.length_take, List.length_drop, hp2]; omega) (by omega) (fun z hz => max32 (HL32.out z (List.mem_of_mem_drop (List.mem_of_mem_take hz)))) (ht.same (hBc Wc hk))
      rw [← hz']
      unfold stepPeak
      rw [hp2]
      exact this
    have hEnd : ∀ (v3 : Value) (W10 W11 : World), Kept (Licit.One (w.heap.size + 1)) W0 W11 → KeepsOthers W W10 → W10.heap[w.heap.size + 1]? = some (.cells #[v] 22) → W10.ownsRow W0.heap.size 9 1 v3 (pre.length + 1) ((pre.map fun x => stepPeak l x.1).map vS ++ [vS z]) →
        W11.heap[w.heap.size + 1]? = some (.cells (#[v].setIfInBounds 0 v3) 22) → Kept (Licit.One (w.heap.size + 1)) W10 W11 →
        KeepsFrom W0.heap.size W W11 ∧ KpS (w.heap.size + 1 + 1) (w.heap.size + 1 + 1 + 1) W W11 ∧ StInv (stepPeak l) (w.heap.size + 1) W0 (pre ++ [(⟨(f, h), hx, hh20⟩ : Stp l.length)]) W11 := by
      intro v3 W10 W11 h1 h2 h3 h4 h5 h6
      have hz := HWz.out
      have hg := Hgz.out
      refine ⟨(h2.trans (others_kept h6 h3)).from _, ⟨(h1.block _ (by omega) (fun e => by have : w.heap.size + 1 + 1 = w.heap.size + 1 := e; omega)).trans (hK0.block _ (by omega) (fun e => by have : w.heap.size + 1 + 1 = w.heap.size + 1 := e; omega)).symm, (h1.block _ (by omega) (fun e => by have : w.heap.size + 1 + 1 + 1 = w.heap.size + 1 := e; omega)).trans (hK0.block _ (by omega) (fun e => by have : w.heap.size + 1 + 1 + 1 = w.heap.size + 1 := e; omega)).symm, (h1.block _ (by omega) (fun e => by have : 1 = w.heap.size + 1 := e; omega)).trans (hK0.block _ (by omega) (fun e => by have : 1 = w.heap.size + 1 := e; omega)).symm⟩, h1, v3, h5, ?_⟩
      rw [← hstep, List.length_append, List.map_append]
      refine ownsRow_block h4 (fun q hq hlt => h6.block q hlt (fun e => by have : q = w.heap.size + 1 := e; omega))
    have hpl : pre.length ≤ 1024 := by have := stepsL_few j l.length (by omega); omega
    obtain ⟨Wd, hWd⟩ : ∃ Wd, W.drew = Wd := ⟨_, rfl⟩
    have HWd := Lib.hid (show Below W.heap.size W Wd from hWd ▸ ⟨rfl, rfl, rfl, Nat.le_refl _, fun _ _ => rfl⟩)
    have hKd := hK0.trans (Kept.of_below HWd.out)
    have Hbd := Lib.hid (below_heap HWd.out (lt_of hbx) hbx)
    have HS := Lib.hid hS
    have HKd := Lib.hid hKd
    have HEnd := Lib.hid hEnd
    have HPk := Lib.hid hPk
    clear hstep hS hBc hPk hEnd hKd hK hp2 hz'
    gi_wp2
    refine wpIn_region_any (by kernel_rfl) ?_
    refine wpAnyIn_round lp (no_defer (by rfl)) ?_ _ _ _ _ (wpAny_of_held (S := fun W' : World => W'.cell? ⟨w.heap.size, 0, none⟩ = some (.slice (some ⟨b, off, none⟩) l.length cap0)) _ _ _ _ ?_)
    · rintro ⟨a, w, h⟩
      exact h
    change wpAnyH _ _ _ _ _ _ _ _ W.drew
    rw [hWd]
    clear hWd
    have hHeld := HS.out _ HKd.out
    refine take_at 1 30 (oi := ?o1) (v := ?v1) ?hi1 ?hd1 (by kernel_rfl) (by kernel_rfl) (by kernel_rfl) ?hQ1 ?hw1 ?hy1 (by assumption) ?rest1
    case hi1 => simp only [List.getElem?_toArray, List.getElem?_cons_succ, List.getElem?_cons_zero]; rfl
    case hd1 => rfl
    case hw1 => kernel_rfl
    case hy1 => intro W hW; (try dsimp only at hW); go_simp <;> with_reducible rfl
    case hQ1 => exact fun _ _ _ h => h
    try simp only [Act.put, List.setIfInBounds_toArray, List.set_cons_zero, List.set_cons_succ]
    refine take_at 2 31 (oi := ?o2) (v := ?v2) ?hi2 ?hd2 (by kernel_rfl) (by kernel_rfl) (by kernel_rfl) ?hQ2 ?hw2 ?hy2 (by assumption) ?rest2
    case hi2 => simp only [List.getElem?_toArray, List.getElem?_cons_succ, List.getElem?_cons_zero]; rfl
    case hd2 => rfl
    case hw2 => kernel_rfl
    case hy2 => intro W hW; (try dsimp only at hW); go_simp <;> with_reducible rfl
    case hQ2 => exact fun _ _ _ h => h
    try simp only [Act.put, List.setIfInBounds_toArray, List.set_cons_zero, List.set_cons_succ]
    refine take_at 3 32 (oi := ?o3) (v := ?v3) ?hi3 ?hd3 (by kernel_rfl) (by kernel_rfl) (by kernel_rfl) ?hQ3 ?hw3 ?hy3 (by assumption) ?rest3
    case hi3 => simp only [List.getElem?_toArray, List.getElem?_cons_succ, List.getElem?_cons_zero]; rfl
    case hd3 => rfl
    case hw3 => kernel_rfl
    case hy3 => intro W hW; (try dsimp only at hW); go_simp <;> with_reducible rfl
    case hQ3 => exact fun _ _ _ h => h
    try simp only [Act.put, List.setIfInBounds_toArray, List.set_cons_zero, List.set_cons_succ]
    refine take_at 4 33 (oi := ?o4) (v := ?v4) ?hi4 ?hd4 (by kernel_rfl) (by kernel_rfl) (by kernel_rfl) ?hQ4 ?hw4 ?hy4 (by assumption) ?rest4
    case hi4 => simp only [List.getElem?_toArray, List.getElem?_cons_succ, List.getElem?_cons_zero]; rfl
    case hd4 => rfl
    case hw4 => kernel_rfl
    case hy4 => intro W hW; (try dsimp only at hW); go_simp <;> with_reducible rfl
    case hQ4 => exact fun _ _ _ h => h
    try simp only [Act.put, List.setIfInBounds_toArray, List.set_cons_zero, List.set_cons_succ]
    refine take_at 5 34 (oi := ?o5) (v := ?v5) ?hi5 ?hd5 (by kernel_rfl) (by kernel_rfl) (by kernel_rfl) ?hQ5 ?hw5 ?hy5 (by assumption) ?rest5
    case hi5 => simp only [List.getElem?_toArray, List.getElem?_cons_succ, List.getElem?_cons_zero]; rfl
    case hd5 => rfl
    case hw5 => kernel_rfl
    case hy5 => intro W hW; (try dsimp only at hW); go_simp <;> with_reducible rfl
    case hQ5 => exact fun _ _ _ h => h
    try simp only [Act.put, List.setIfInBounds_toArray, List.set_cons_zero, List.set_cons_succ]
    refine take_at 6 35 (oi := ?o6) (v := ?v6) ?hi6 ?hd6 (by kernel_rfl) (by kernel_rfl) (by kernel_rfl) ?hQ6 ?hw6 ?hy6 (by assumption) ?rest6
    case hi6 => simp only [List.getElem?_toArray, List.getElem?_cons_succ, List.getElem?_cons_zero]; rfl
    case hd6 => rfl
    case hw6 => kernel_rfl
    case hy6 => intro W hW; (try dsimp only at hW); go_simp <;> with_reducible rfl
    case hQ6 => exact fun _ _ _ h => h
    try simp only [Act.put, List.setIfInBounds_toArray, List.set_cons_zero, List.set_cons_succ]
    refine take_at 7 36 (oi := ?o7) (v := ?v7) ?hi7 ?hd7 (by kernel_rfl) (by kernel_rfl) (by kernel_rfl) ?hQ7 ?hw7 ?hy7 (by assumption) ?rest7
    case hi7 => simp only [List.getElem?_toArray, List.getElem?_cons_succ, List.getElem?_cons_zero]; rfl
    case hd7 => rfl
    case hw7 => kernel_rfl
    case hy7 => intro W hW; (try dsimp only at hW); go_simp <;> with_reducible rfl
    case hQ7 => exact fun _ _ _ h => h
    try simp only [Act.put, List.setIfInBounds_toArray, List.set_cons_zero, List.set_cons_succ]
    refine wpAnyH_ready (rs := [0, 8]) (by kernel_rfl) (by simp) ?_
    refine AllReadyH.cons rfl (fun K hK => ?_) ?_
    · skip
      have hcb := cell_of Hbd.out 0
      go_simp
      clear hcb
      refine hK.out _ _ (HS.out _ HKd.out) (fun hHeld => ?_)
      clear hK K
      try simp only [Act.put, List.setIfInBounds_toArray, List.set_cons_zero, List.set_cons_succ]
      refine wpAnyH_ready (rs := [8]) (by kernel_rfl) (by simp) ?_
      refine AllReadyH.cons rfl (fun K hK => ?_) AllReadyH.nil
      go_simp
      refine (HPk.out _ HKd.out).mono ?_
      rintro e W8 ⟨rfl, hb8⟩
      have HW8 := Lib.hid (HWd.out.next hb8)
      clear hb8
      have HK8 := Lib.hid (hK0.trans (Kept.of_below HW8.out))
      have Hb8 := Lib.hid (below_heap HW8.out (lt_of hbx) hbx)
      refine hK.out _ _ (HS.out _ HK8.out) (fun hHeld => ?_)
      clear hK K
      try simp only [Act.put, List.setIfInBounds_toArray, List.set_cons_zero, List.set_cons_succ]
      refine wpAnyH_ready (rs := [9]) (by kernel_rfl) (by simp) ?_
      refine AllReadyH.cons rfl (fun K hK => ?_) AllReadyH.nil
      go_simp
      obtain ⟨W9, h9⟩ : ∃ W9, W8.alloc (.cells #[.string (B z)] 9) = W9 := ⟨_, rfl⟩
      rw [h9]
      have HW9 := Lib.hid (show Below W.heap.size W W9 from h9 ▸ HW8.out.alloc HW8.out.size _)
      have HK9 := Lib.hid (hK0.trans (Kept.of_below HW9.out))
      have Hb9 := Lib.hid (below_heap HW9.out (lt_of hbx) hbx)
      have Hn9 := Lib.hid (show W9.heap[W8.heap.size]? = some (.cells #[.string (B z)] 9) from h9 ▸ new_of _ _)
      clear h9
      refine hK.out _ _ (HS.out _ HK9.out) (fun hHeld => ?_)
      clear hK K
      try simp only [Act.put, List.setIfInBounds_toArray, List.set_cons_zero, List.set_cons_succ]
      refine wpAnyH_ready (rs := [10]) (by kernel_rfl) (by simp) ?_
      refine AllReadyH.cons rfl (fun K hK => ?_) AllReadyH.nil
      refine step_append_own rfl _ _ 22 rfl W0.heap.size 9 i0 (.string ⟨#[]⟩) 1 16 Tryd.underlying22 Hi.out Hz0.out Hz1.out Hz2.out rfl (by decide) v pre.length ((pre.map fun x => stepPeak l x.1).map vS) rfl (ownsRow_block hrow (fun q _ hq => HW9.out.block q hq)) ⟨W8.heap.size, 0, none⟩ 1 1 [vS z] rfl rfl (news_one Hn9.out) (by simp [vS, Value.oneCell']) (by unfold maxLen; omega) (by omega) HK9.out.size ?_
      intro v3 W10 ho3 hg3 _
      have ho9 := ownsRow_block hrow (fun q _ hq => HW9.out.block q hq)
      have hown := fun q hq => (ho9.lt q hq).1
      have HK10 := Lib.hid (HK9.out.grown hg3 (fun q hq => .inl (hown q hq)))
      have Hb10 := Lib.hid ((hg3.block _ (lt_of Hb9.out) (fun e => by have := hown _ e.symm; omega)).trans Hb9.out)
      have HO10 := Lib.hid ((others_below HW9.out).trans (others_own ho9 hg3))
      have HR10 := Lib.hid ho3
      clear ho3 hg3 ho9 hown
      refine hK.out _ _ (HS.out _ HK10.out) (fun hHeld => ?_)
      clear hK K
      try simp only [Act.put, List.setIfInBounds_toArray]
      refine wpAnyH_ready (rs := [11]) (by kernel_rfl) (by simp) ?_
      refine AllReadyH.cons rfl (fun K hK => ?_) AllReadyH.nil
      refine step_store_one rfl 22 _ _ rfl (w.heap.size + 1) 0 rfl v3 rfl (own_cells HR10.out) (own_oneCell HR10.out) _ _ Hb10.out (by simp) (by kernel_rfl) ?_
      intro W11 hb11 hk11
      have HK11 := Lib.hid (HK10.out.trans (hk11.mono (fun _ _ e => e)))
      refine hK.out _ _ (HS.out _ HK11.out) (fun hHeld => ?_)
      clear hK K
      try simp only [Act.put]
      refine wpAnyH_done (by kernel_rfl) ?_ _
      exact HEnd.out v3 W10 W11 HK11.out HO10.out Hb10.out HR10.out hb11 hk11
    refine AllReadyH.cons rfl (fun K hK => ?_) AllReadyH.nil
    go_simp
    refine (HPk.out _ HKd.out).mono ?_
    rintro e W8 ⟨rfl, hb8⟩
    have HW8 := Lib.hid (HWd.out.next hb8)
    clear hb8
    have HK8 := Lib.hid (hK0.trans (Kept.of_below HW8.out))
    have Hb8 := Lib.hid (below_heap HW8.out (lt_of hbx) hbx)
    refine hK.out _ _ (HS.out _ HK8.out) (fun hHeld => ?_)
    clear hK K
    try simp only [Act.put, List.setIfInBounds_toArray, List.set_cons_zero, List.set_cons_succ]
    refine wpAnyH_ready (rs := [0, 9]) (by kernel_rfl) (by simp) ?_
    refine AllReadyH.cons rfl (fun K hK => ?_) ?_
    · skip
      have hcb := cell_of Hb8.out 0
      go_simp
      clear hcb
      refine hK.out _ _ (HS.out _ HK8.out) (fun hHeld => ?_)
      clear hK K
      try simp only [Act.put, List.setIfInBounds_toArray, List.set_cons_zero, List.set_cons_succ]
      refine wpAnyH_ready (rs := [9]) (by kernel_rfl) (by simp) ?_
      refine AllReadyH.cons rfl (fun K hK => ?_) AllReadyH.nil
      go_simp
      obtain ⟨W9, h9⟩ : ∃ W9, W8.alloc (.cells #[.string (B z)] 9) = W9 := ⟨_, rfl⟩
      rw [h9]
      have HW9 := Lib.hid (show Below W.heap.size W W9 from h9 ▸ HW8.out.alloc HW8.out.size _)
      have HK9 := Lib.hid (hK0.trans (Kept.of_below HW9.out))
      have Hb9 := Lib.hid (below_heap HW9.out (lt_of hbx) hbx)
      have Hn9 := Lib.hid (show W9.heap[W8.heap.size]? = some (.cells #[.string (B z)] 9) from h9 ▸ new_of _ _)
      clear h9
      refine hK.out _ _ (HS.out _ HK9.out) (fun hHeld => ?_)
      clear hK K
      try simp only [Act.put, List.setIfInBounds_toArray, List.set_cons_zero, List.set_cons_succ]
      refine wpAnyH_ready (rs := [10]) (by kernel_rfl) (by simp) ?_
      refine AllReadyH.cons rfl (fun K hK => ?_) AllReadyH.nil
      refine step_append_own rfl _ _ 22 rfl W0.heap.size 9 i0 (.string ⟨#[]⟩) 1 16 Tryd.underlying22 Hi.out Hz0.out Hz1.out Hz2.out rfl (by decide) v pre.length ((pre.map fun x => stepPeak l x.1).map vS) rfl (ownsRow_block hrow (fun q _ hq => HW9.out.block q hq)) ⟨W8.heap.size, 0, none⟩ 1 1 [vS z] rfl rfl (news_one Hn9.out) (by simp [vS, Value.oneCell']) (by unfold maxLen; omega) (by omega) HK9.out.size ?_
      intro v3 W10 ho3 hg3 _
      have ho9 := ownsRow_block hrow (fun q _ hq => HW9.out.block q hq)
      have hown := fun q hq => (ho9.lt q hq).1
      have HK10 := Lib.hid (HK9.out.grown hg3 (fun q hq => .inl (hown q hq)))
      have Hb10 := Lib.hid ((hg3.block _ (lt_of Hb9.out) (fun e => by have := hown _ e.symm; omega)).trans Hb9.out)
      have HO10 := Lib.hid ((others_below HW9.out).trans (others_own ho9 hg3))
      have HR10 := Lib.hid ho3
      clear ho3 hg3 ho9 hown
      refine hK.out _ _ (HS.out _ HK10.out) (fun hHeld => ?_)
      clear hK K
      try simp only [Act.put, List.setIfInBounds_toArray]
      refine wpAnyH_ready (rs := [11]) (by kernel_rfl) (by simp) ?_
      refine AllReadyH.cons rfl (fun K hK => ?_) AllReadyH.nil
      refine step_store_one rfl 22 _ _ rfl (w.heap.size + 1) 0 rfl v3 rfl (own_cells HR10.out) (own_oneCell HR10.out) _ _ Hb10.out (by simp) (by kernel_rfl) ?_
      intro W11 hb11 hk11
      have HK11 := Lib.hid (HK10.out.trans (hk11.mono (fun _ _ e => e)))
      refine hK.out _ _ (HS.out _ HK11.out) (fun hHeld => ?_)
      clear hK K
      try simp only [Act.put]
      refine wpAnyH_done (by kernel_rfl) ?_ _
      exact HEnd.out v3 W10 W11 HK11.out HO10.out Hb10.out HR10.out hb11 hk11
    refine AllReadyH.cons rfl (fun K hK => ?_) AllReadyH.nil
    go_simp
    obtain ⟨W9, h9⟩ : ∃ W9, W8.alloc (.cells #[.string (B z)] 9) = W9 := ⟨_, rfl⟩
    rw [h9]
    have HW9 := Lib.hid (show Below W.heap.size W W9 from h9 ▸ HW8.out.alloc HW8.out.size _)
    have HK9 := Lib.hid (hK0.trans (Kept.of_below HW9.out))
    have Hb9 := Lib.hid (below_heap HW9.out (lt_of hbx) hbx)
    have Hn9 := Lib.hid (show W9.heap[W8.heap.size]? = some (.cells #[.string (B z)] 9) from h9 ▸ new_of _ _)
    clear h9
    refine hK.out _ _ (HS.out _ HK9.out) (fun hHeld => ?_)
    clear hK K
    try simp only [Act.put, List.setIfInBounds_toArray, List.set_cons_zero, List.set_cons_succ]
    refine wpAnyH_ready (rs := [0]) (by kernel_rfl) (by simp) ?_
    refine AllReadyH.cons rfl (fun K hK => ?_) AllReadyH.nil
    have hcb := cell_of Hb9.out 0
    go_simp
    clear hcb
    refine hK.out _ _ (HS.out _ HK9.out) (fun hHeld => ?_)
    clear hK K
    try simp only [Act.put, List.setIfInBounds_toArray, List.set_cons_zero, List.set_cons_succ]
    refine wpAnyH_ready (rs := [10]) (by kernel_rfl) (by simp) ?_
    refine AllReadyH.cons rfl (fun K hK => ?_) AllReadyH.nil
    refine step_append_own rfl _ _ 22 rfl W0.heap.size 9 i0 (.string ⟨#[]⟩) 1 16 Tryd.underlying22 Hi.out Hz0.out Hz1.out Hz2.out rfl (by decide) v pre.length ((pre.map fun x => stepPeak l x.1).map vS) rfl (ownsRow_block hrow (fun q _ hq => HW9.out.block q hq)) ⟨W8.heap.size, 0, none⟩ 1 1 [vS z] rfl rfl (news_one Hn9.out) (by simp [vS, Value.oneCell']) (by unfold maxLen; omega) (by omega) HK9.out.size ?_
    intro v3 W10 ho3 hg3 _
    have ho9 := ownsRow_block hrow (fun q _ hq => HW9.out.block q hq)
    have hown := fun q hq => (ho9.lt q hq).1
    have HK10 := Lib.hid (HK9.out.grown hg3 (fun q hq => .inl (hown q hq)))
    have Hb10 := Lib.hid ((hg3.block _ (lt_of Hb9.out) (fun e => by have := hown _ e.symm; omega)).trans Hb9.out)
    have HO10 := Lib.hid ((others_below HW9.out).trans (others_own ho9 hg3))
    have HR10 := Lib.hid ho3
    clear ho3 hg3 ho9 hown
    refine hK.out _ _ (HS.out _ HK10.out) (fun hHeld => ?_)
    clear hK K
    try simp only [Act.put, List.setIfInBounds_toArray]
    refine wpAnyH_ready (rs := [11]) (by kernel_rfl) (by simp) ?_
    refine AllReadyH.cons rfl (fun K hK => ?_) AllReadyH.nil
    refine step_store_one rfl 22 _ _ rfl (w.heap.size + 1) 0 rfl v3 rfl (own_cells HR10.out) (own_oneCell HR10.out) _ _ Hb10.out (by simp) (by kernel_rfl) ?_
    intro W11 hb11 hk11
    have HK11 := Lib.hid (HK10.out.trans (hk11.mono (fun _ _ e => e)))
    refine hK.out _ _ (HS.out _ HK11.out) (fun hHeld => ?_)
    clear hK K
    try simp only [Act.put]
    refine wpAnyH_done (by kernel_rfl) ?_ _
    exact HEnd.out v3 W10 W11 HK11.out HO10.out Hb10.out HR10.out hb11 hk11
end Go.Proofs.YtfklmjcjjdliiaaDoor
