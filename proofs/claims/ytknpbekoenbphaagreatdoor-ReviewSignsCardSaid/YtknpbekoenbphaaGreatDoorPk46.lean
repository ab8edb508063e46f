/- Parts of the proofs: WkRvR, WkLam3, WkChunk. No condition beyond those at each theorem. -/
import Derived.Test.YtknpbekoenbphaaGreatDoorPk45
set_option linter.unusedVariables false
set_option linter.unusedSimpArgs false
set_option maxHeartbeats 16000000
set_option maxRecDepth 100000
namespace Go.Proofs.YtknpbekoenbphaaGreatDoor
open Go Go.RowKit Licit
theorem kik {v : Value} {xs : List Bs} {w : World} (h : IsSl v (xs.map vS) w) : v.oneCell' = true := by
 obtain ⟨a, c, rfl⟩ := h.formMap; rfl
theorem kmb {i : Int} {vs vh vr : Value} {S H R : List Bs} {w : World} (h1 : IsSl vs (S.map vS) w) (h2 : IsSl vh (H.map vS) w) (h3 : IsSl vr (R.map vS) w) : (#[.int .i64 i, vs, vh, vr] : Array Value).all (·.oneCell') = true := by
 obtain ⟨_, _, rfl⟩ := h1.formMap
 obtain ⟨_, _, rfl⟩ := h2.formMap
 obtain ⟨_, _, rfl⟩ := h3.formMap
 simp only [List.all_toArray, List.all_cons, List.all_nil]
 rfl
structure k0a (e : Rv.Ev) : Prop where
 names : e.names.length ≤ 100000
 targets : e.targets.length ≤ 100000
 S : e.sg.S.length ≤ 100000
 H : e.sg.H.length ≤ 100000
 R : e.sg.R.length ≤ 100000
theorem kw7 (v : Value) (e : Rv.Ev) (w : World) (h : kc1 v e w) (hl : k0a e) : Calls Tryz.prog 67 #[v] w fun en w' => ∃ v', en = .returned v' ∧ (∀ W : World, (∀ k, w.heap.size ≤ k → k < w'.heap.size → W.heap[k]? = w'.heap[k]?) → kc1 v' e W) ∧ Below w.heap.size w w' := by
 have HI := hdd h
 obtain ⟨ho, na, nc, ta, tc, sa, sc, ha, hc, ra, rc, rfl, hN, hT, hS, hH, hR⟩ := h
 obtain ⟨l1, l2, l3, l4, l5⟩ := hl
 obtain ⟨t, ht⟩ : ∃ t, w.heap.size = t := ⟨_, rfl⟩
 obtain ⟨u, hu⟩ : ∃ u, t + 1 = u := ⟨_, rfl⟩
 obtain ⟨m, hm⟩ : ∃ m, u + 1 = m := ⟨_, rfl⟩
 have C := hdd (fun (W : World) (x : Value) (xs : List Bs) (bb : Bool) (hx : SlQ (m + 1) w bb x xs W) (hb : Below w.heap.size w W) (hlen : xs.length ≤ 100000) => krf x xs W (hx.is hb hlen) hlen)
 have q1 : SlQ (m + 1) w false (.slice na e.names.length nc) e.names w := hN
 have q2 : SlQ (m + 1) w false (.slice ta e.targets.length tc) e.targets w := hT
 have q3 : SlQ (m + 1) w false (.slice sa e.sg.S.length sc) e.sg.S w := hS
 have q4 : SlQ (m + 1) w false (.slice ha e.sg.H.length hc) e.sg.H w := hH
 have q5 : SlQ (m + 1) w false (.slice ra e.sg.R.length rc) e.sg.R w := hR
 have HO := hdd (fun (W : World) (vn vt vs vh vr : Value) (h1 : SlQ (m + 1) w true vn e.names W) (h2 : SlQ (m + 1) w true vt e.targets W) (h3 : SlQ (m + 1) w true vs e.sg.S W) (h4 : SlQ (m + 1) w true vh e.sg.H W) (h5 : SlQ (m + 1) w true vr e.sg.R W) => show kc1 (.agg (evC e vn vt vs vh vr)) e W by
  have i1 := kli h1 l1
  have i2 := kli h2 l2
  have i3 := kli h3 l3
  have i4 := kli h4 l4
  have i5 := kli h5 l5
  obtain ⟨a1, c1, rfl⟩ := kah h1
  obtain ⟨a2, c2, rfl⟩ := kah h2
  obtain ⟨a3, c3, rfl⟩ := kah h3
  obtain ⟨a4, c4, rfl⟩ := kah h4
  obtain ⟨a5, c5, rfl⟩ := kah h5
  exact ⟨ho, _, _, _, _, _, _, _, _, _, _, rfl, i1, i2, i3, i4, i5⟩)
 have hA : ∀ W, W = ((w.alloc (.cells (evS e na nc ta tc sa sc ha hc ra rc) 45)).alloc (.cells evZ 45)).alloc (.cells #[.pointer (some ⟨t, 3, none⟩), .pointer (some ⟨t, 13, none⟩), .pointer (some ⟨t, 15, none⟩), .pointer (some ⟨t, 16, none⟩), .pointer (some ⟨t, 17, none⟩)] 182) → Below w.heap.size w W ∧ W.heap[t]? = some (.cells (evS e na nc ta tc sa sc ha hc ra rc) 45 (0, 0)) ∧ W.heap[u]? = some (.cells evZ 45 (0, 0)) ∧ W.heap[m]? = some (.cells #[.pointer (some ⟨t, 3, none⟩), .pointer (some ⟨t, 13, none⟩), .pointer (some ⟨t, 15, none⟩), .pointer (some ⟨t, 16, none⟩), .pointer (some ⟨t, 17, none⟩)] 182 (0, 0)) := by
  rintro _ rfl
  subst hm
  subst hu
  subst ht
  exact ⟨(((Below.refl _ _).alloc (Nat.le_refl _) _).alloc (by simp) _).alloc (by simp; omega) _, kaq (kaq (kak _ _)), kaq (kaj (by simp) rfl), kaj (by simp) rfl⟩
 clear hN hT hS hH hR
 go_enter Tryz.func67, Tryz.ntmps67
 go_upto_region 2 with fail
 try simp only [World.size_alloc]
 have hu' : w.heap.size + 1 = u := by omega
 have hm' : w.heap.size + 1 + 1 = m := by omega
 try simp only [hm', hu', ht]
 show Code.wp _ _ _ _ (((w.alloc (.cells (evS e na nc ta tc sa sc ha hc ra rc) 45)).alloc (.cells evZ 45)).alloc (.cells #[.pointer (some ⟨t, 3, none⟩), .pointer (some ⟨t, 13, none⟩), .pointer (some ⟨t, 15, none⟩), .pointer (some ⟨t, 16, none⟩), .pointer (some ⟨t, 17, none⟩)] 182))
 generalize hw1 : ((w.alloc (.cells (evS e na nc ta tc sa sc ha hc ra rc) 45)).alloc (.cells evZ 45)).alloc (.cells #[.pointer (some ⟨t, 3, none⟩), .pointer (some ⟨t, 13, none⟩), .pointer (some ⟨t, 15, none⟩), .pointer (some ⟨t, 16, none⟩), .pointer (some ⟨t, 17, none⟩)] 182) = w1
 obtain ⟨hb1, hT1, hU1, hM1⟩ := hA w1 hw1.symm
 have hq1 := q1.below (hb1)
 have hq2 := q2.below (hb1)
 have hq3 := q3.below (hb1)
 have hq4 := q4.below (hb1)
 have hq5 := q5.below (hb1)
 have HBT := hdd (And.intro ht (And.intro hu hm))
 clear hw1 hA q1 q2 q3 q4 q5 hu' hm' ht hu hm
 go_loopw [4, 15] (fun _ n wr => ∃ k : Nat, k ≤ 5 ∧ n = .int .i64 k ∧ ∃ vn vt vs vh vr, Below w.heap.size w wr ∧ wr.heap[t]? = some (.cells (evC e vn vt vs vh vr) 45 (0, 0)) ∧ wr.heap[u]? = some (.cells evZ 45 (0, 0)) ∧ wr.heap[m]? = some (.cells #[.pointer (some ⟨t, 3, none⟩), .pointer (some ⟨t, 13, none⟩), .pointer (some ⟨t, 15, none⟩), .pointer (some ⟨t, 16, none⟩), .pointer (some ⟨t, 17, none⟩)] 182 (0, 0)) ∧ SlQ (m + 1) w (Nat.ble 1 k) vn e.names wr ∧ SlQ (m + 1) w (Nat.ble 2 k) vt e.targets wr ∧ SlQ (m + 1) w (Nat.ble 3 k) vs e.sg.S wr ∧ SlQ (m + 1) w (Nat.ble 4 k) vh e.sg.H wr ∧ SlQ (m + 1) w (Nat.ble 5 k) vr e.sg.R wr) (fun _ n _ => 5 - (intOf n).toNat)
 case atStart => exact ⟨0, by omega, rfl, _, _, _, _, _, hb1, hT1, hU1, hM1, hq1, hq2, hq3, hq4, hq5⟩
 case round =>
  obtain ⟨wl, rfl⟩ : ∃ W, W = wr := ⟨_, rfl⟩
  obtain ⟨k, hk, rfl, vn, vt, vs, vh, vr, hb, hT, hU, hM, q1, q2, q3, q4, q5⟩ := hrel
  have hmw := kac hM
  by_cases hlt : k < 5
  · clear hk
    rcases (show k = 0 ∨ k = 1 ∨ k = 2 ∨ k = 3 ∨ k = 4 by omega) with rfl | rfl | rfl | rfl | rfl
    · have cm : wl.cell? ⟨m, 0, none⟩ = some (.pointer (some ⟨t, 3, none⟩)) := by rw [kab hM]; rfl
      have ct : wl.cell? ⟨t, 3, none⟩ = some vn := by rw [kab hT]; rfl
      have HBb := hdd hb
      have HTt := hdd hT
      have HUu := hdd hU
      have HMm := hdd hM
      have HQ := hdd (And.intro q1 (And.intro q2 (And.intro q3 (And.intro q4 q5))))
      have HCl := hdd (C.out wl vn e.names _ q1 hb l1)
      clear hb hT hU hM q1 q2 q3 q4 q5 hlt
      go_wp2_with (first
       | (go_at_call 136; refine (HCl.out).mono ?_
          rintro en wc ⟨xv, rfl, hw, hbc⟩
          have HTc := bhh hbc HTt
          have HXc := hdd hw
          have HBc := hdd hbc
          clear hw hbc)
       | (refine kae rfl 39 _ _ rfl t 3 rfl xv rfl (by obtain ⟨_, _, e⟩ := kah HXc.out; rw [e]; rfl) (by obtain ⟨_, _, e⟩ := kah HXc.out; rw [e]; rfl) _ 45 HTc.out (by simp) (by kernel_rfl) ?_
          intro ws hw hk
          have HTs := hdd (show ws.heap[t]? = some (.cells (evC e xv vt vs vh vr) 45 (0, 0)) from hw)
          have HKs := hdd hk
          clear hw hk)
       | fail)
      go_roundw
      case rel =>
       obtain ⟨ht, hu, hm⟩ := HBT.out
       obtain ⟨q1, q2, q3, q4, q5⟩ := HQ.out
       have hw0 := HBb.out.size
       have hwc := HBc.out.size
       have hxs := kag (kan HXc.out (show m + 1 ≤ _ from hmw)) HKs.out (fun q hq e => by have : q = t := e; omega)
       refine ⟨1, by omega, by go_num, xv, vt, vs, vh, vr, (HBb.out.next HBc.out).trans (HKs.out.below (HBb.out.next HBc.out).size (fun q hq e => by have : q = t := e; omega)), HTs.out, (HKs.out.block u (Nat.lt_of_lt_of_le (kac HUu.out) hwc) (fun e => by have : u = t := e; omega)).trans (kad HBc.out (kac HUu.out) HUu.out), (HKs.out.block m (Nat.lt_of_lt_of_le (kac HMm.out) hwc) (fun e => by have : m = t := e; omega)).trans (kad HBc.out (kac HMm.out) HMm.out), hxs, (q2.below HBc.out).kept HKs.out (fun q hq e => by have : q = t := e; omega), (q3.below HBc.out).kept HKs.out (fun q hq e => by have : q = t := e; omega), (q4.below HBc.out).kept HKs.out (fun q hq e => by have : q = t := e; omega), (q5.below HBc.out).kept HKs.out (fun q hq e => by have : q = t := e; omega)⟩
      case measure => first | (simp [intOf]; done) | (simp [intOf]; omega)
    · have cm : wl.cell? ⟨m, 1, none⟩ = some (.pointer (some ⟨t, 13, none⟩)) := by rw [kab hM]; rfl
      have ct : wl.cell? ⟨t, 13, none⟩ = some vt := by rw [kab hT]; rfl
      have HBb := hdd hb
      have HTt := hdd hT
      have HUu := hdd hU
      have HMm := hdd hM
      have HQ := hdd (And.intro q1 (And.intro q2 (And.intro q3 (And.intro q4 q5))))
      have HCl := hdd (C.out wl vt e.targets _ q2 hb l2)
      clear hb hT hU hM q1 q2 q3 q4 q5 hlt
      go_wp2_with (first
       | (go_at_call 136; refine (HCl.out).mono ?_
          rintro en wc ⟨xv, rfl, hw, hbc⟩
          have HTc := bhh hbc HTt
          have HXc := hdd hw
          have HBc := hdd hbc
          clear hw hbc)
       | (refine kae rfl 39 _ _ rfl t 13 rfl xv rfl (by obtain ⟨_, _, e⟩ := kah HXc.out; rw [e]; rfl) (by obtain ⟨_, _, e⟩ := kah HXc.out; rw [e]; rfl) _ 45 HTc.out (by simp) (by kernel_rfl) ?_
          intro ws hw hk
          have HTs := hdd (show ws.heap[t]? = some (.cells (evC e vn xv vs vh vr) 45 (0, 0)) from hw)
          have HKs := hdd hk
          clear hw hk)
       | fail)
      go_roundw
      case rel =>
       obtain ⟨ht, hu, hm⟩ := HBT.out
       obtain ⟨q1, q2, q3, q4, q5⟩ := HQ.out
       have hw0 := HBb.out.size
       have hwc := HBc.out.size
       have hxs := kag (kan HXc.out (show m + 1 ≤ _ from hmw)) HKs.out (fun q hq e => by have : q = t := e; omega)
       refine ⟨2, by omega, by go_num, vn, xv, vs, vh, vr, (HBb.out.next HBc.out).trans (HKs.out.below (HBb.out.next HBc.out).size (fun q hq e => by have : q = t := e; omega)), HTs.out, (HKs.out.block u (Nat.lt_of_lt_of_le (kac HUu.out) hwc) (fun e => by have : u = t := e; omega)).trans (kad HBc.out (kac HUu.out) HUu.out), (HKs.out.block m (Nat.lt_of_lt_of_le (kac HMm.out) hwc) (fun e => by have : m = t := e; omega)).trans (kad HBc.out (kac HMm.out) HMm.out), (q1.below HBc.out).kept HKs.out (fun q hq e => by have : q = t := e; omega), hxs, (q3.below HBc.out).kept HKs.out (fun q hq e => by have : q = t := e; omega), (q4.below HBc.out).kept HKs.out (fun q hq e => by have : q = t := e; omega), (q5.below HBc.out).kept HKs.out (fun q hq e => by have : q = t := e; omega)⟩
      case measure => first | (simp [intOf]; done) | (simp [intOf]; omega)
    · have cm : wl.cell? ⟨m, 2, none⟩ = some (.pointer (some ⟨t, 15, none⟩)) := by rw [kab hM]; rfl
      have ct : wl.cell? ⟨t, 15, none⟩ = some vs := by rw [kab hT]; rfl
      have HBb := hdd hb
      have HTt := hdd hT
      have HUu := hdd hU
      have HMm := hdd hM
      have HQ := hdd (And.intro q1 (And.intro q2 (And.intro q3 (And.intro q4 q5))))
      have HCl := hdd (C.out wl vs e.sg.S _ q3 hb l3)
      clear hb hT hU hM q1 q2 q3 q4 q5 hlt
      go_wp2_with (first
       | (go_at_call 136; refine (HCl.out).mono ?_
          rintro en wc ⟨xv, rfl, hw, hbc⟩
          have HTc := bhh hbc HTt
          have HXc := hdd hw
          have HBc := hdd hbc
          clear hw hbc)
       | (refine kae rfl 39 _ _ rfl t 15 rfl xv rfl (by obtain ⟨_, _, e⟩ := kah HXc.out; rw [e]; rfl) (by obtain ⟨_, _, e⟩ := kah HXc.out; rw [e]; rfl) _ 45 HTc.out (by simp) (by kernel_rfl) ?_
          intro ws hw hk
          have HTs := hdd (show ws.heap[t]? = some (.cells (evC e vn vt xv vh vr) 45 (0, 0)) from hw)
          have HKs := hdd hk
          clear hw hk)
       | fail)
      go_roundw
      case rel =>
       obtain ⟨ht, hu, hm⟩ := HBT.out
       obtain ⟨q1, q2, q3, q4, q5⟩ := HQ.out
       have hw0 := HBb.out.size
       have hwc := HBc.out.size
       have hxs := kag (kan HXc.out (show m + 1 ≤ _ from hmw)) HKs.out (fun q hq e => by have : q = t := e; omega)
       refine ⟨3, by omega, by go_num, vn, vt, xv, vh, vr, (HBb.out.next HBc.out).trans (HKs.out.below (HBb.out.next HBc.out).size (fun q hq e => by have : q = t := e; omega)), HTs.out, (HKs.out.block u (Nat.lt_of_lt_of_le (kac HUu.out) hwc) (fun e => by have : u = t := e; omega)).trans (kad HBc.out (kac HUu.out) HUu.out), (HKs.out.block m (Nat.lt_of_lt_of_le (kac HMm.out) hwc) (fun e => by have : m = t := e; omega)).trans (kad HBc.out (kac HMm.out) HMm.out), (q1.below HBc.out).kept HKs.out (fun q hq e => by have : q = t := e; omega), (q2.below HBc.out).kept HKs.out (fun q hq e => by have : q = t := e; omega), hxs, (q4.below HBc.out).kept HKs.out (fun q hq e => by have : q = t := e; omega), (q5.below HBc.out).kept HKs.out (fun q hq e => by have : q = t := e; omega)⟩
      case measure => first | (simp [intOf]; done) | (simp [intOf]; omega)
    · have cm : wl.cell? ⟨m, 3, none⟩ = some (.pointer (some ⟨t, 16, none⟩)) := by rw [kab hM]; rfl
      have ct : wl.cell? ⟨t, 16, none⟩ = some vh := by rw [kab hT]; rfl
      have HBb := hdd hb
      have HTt := hdd hT
      have HUu := hdd hU
      have HMm := hdd hM
      have HQ := hdd (And.intro q1 (And.intro q2 (And.intro q3 (And.intro q4 q5))))
      have HCl := hdd (C.out wl vh e.sg.H _ q4 hb l4)
      clear hb hT hU hM q1 q2 q3 q4 q5 hlt
      go_wp2_with (first
       | (go_at_call 136; refine (HCl.out).mono ?_
          rintro en wc ⟨xv, rfl, hw, hbc⟩
          have HTc := bhh hbc HTt
          have HXc := hdd hw
          have HBc := hdd hbc
          clear hw hbc)
       | (refine kae rfl 39 _ _ rfl t 16 rfl xv rfl (by obtain ⟨_, _, e⟩ := kah HXc.out; rw [e]; rfl) (by obtain ⟨_, _, e⟩ := kah HXc.out; rw [e]; rfl) _ 45 HTc.out (by simp) (by kernel_rfl) ?_
          intro ws hw hk
          have HTs := hdd (show ws.heap[t]? = some (.cells (evC e vn vt vs xv vr) 45 (0, 0)) from hw)
          have HKs := hdd hk
          clear hw hk)
       | fail)
      go_roundw
      case rel =>
       obtain ⟨ht, hu, hm⟩ := HBT.out
       obtain ⟨q1, q2, q3, q4, q5⟩ := HQ.out
       have hw0 := HBb.out.size
       have hwc := HBc.out.size
       have hxs := kag (kan HXc.out (show m + 1 ≤ _ from hmw)) HKs.out (fun q hq e => by have : q = t := e; omega)
       refine ⟨4, by omega, by go_num, vn, vt, vs, xv, vr, (HBb.out.next HBc.out).trans (HKs.out.below (HBb.out.next HBc.out).size (fun q hq e => by have : q = t := e; omega)), HTs.out, (HKs.out.block u (Nat.lt_of_lt_of_le (kac HUu.out) hwc) (fun e => by have : u = t := e; omega)).trans (kad HBc.out (kac HUu.out) HUu.out), (HKs.out.block m (Nat.lt_of_lt_of_le (kac HMm.out) hwc) (fun e => by have : m = t := e; omega)).trans (kad HBc.out (kac HMm.out) HMm.out), (q1.below HBc.out).kept HKs.out (fun q hq e => by have : q = t := e; omega), (q2.below HBc.out).kept HKs.out (fun q hq e => by have : q = t := e; omega), (q3.below HBc.out).kept HKs.out (fun q hq e => by have : q = t := e; omega), hxs, (q5.below HBc.out).kept HKs.out (fun q hq e => by have : q = t := e; omega)⟩
      case measure => first | (simp [intOf]; done) | (simp [intOf]; omega)
    · have cm : wl.cell? ⟨m, 4, none⟩ = some (.pointer (some ⟨t, 17, none⟩)) := by rw [kab hM]; rfl
      have ct : wl.cell? ⟨t, 17, none⟩ = some vr := by rw [kab hT]; rfl
      have HBb := hdd hb
      have HTt := hdd hT
      have HUu := hdd hU
      have HMm := hdd hM
      have HQ := hdd (And.intro q1 (And.intro q2 (And.intro q3 (And.intro q4 q5))))
      have HCl := hdd (C.out wl vr e.sg.R _ q5 hb l5)
      clear hb hT hU hM q1 q2 q3 q4 q5 hlt
      go_wp2_with (first
       | (go_at_call 136; refine (HCl.out).mono ?_
          rintro en wc ⟨xv, rfl, hw, hbc⟩
          have HTc := bhh hbc HTt
          have HXc := hdd hw
          have HBc := hdd hbc
          clear hw hbc)
       | (refine kae rfl 39 _ _ rfl t 17 rfl xv rfl (by obtain ⟨_, _, e⟩ := kah HXc.out; rw [e]; rfl) (by obtain ⟨_, _, e⟩ := kah HXc.out; rw [e]; rfl) _ 45 HTc.out (by simp) (by kernel_rfl) ?_
          intro ws hw hk
          have HTs := hdd (show ws.heap[t]? = some (.cells (evC e vn vt vs vh xv) 45 (0, 0)) from hw)
          have HKs := hdd hk
          clear hw hk)
       | fail)
      go_roundw
      case rel =>
       obtain ⟨ht, hu, hm⟩ := HBT.out
       obtain ⟨q1, q2, q3, q4, q5⟩ := HQ.out
       have hw0 := HBb.out.size
       have hwc := HBc.out.size
       have hxs := kag (kan HXc.out (show m + 1 ≤ _ from hmw)) HKs.out (fun q hq e => by have : q = t := e; omega)
       refine ⟨5, by omega, by go_num, vn, vt, vs, vh, xv, (HBb.out.next HBc.out).trans (HKs.out.below (HBb.out.next HBc.out).size (fun q hq e => by have : q = t := e; omega)), HTs.out, (HKs.out.block u (Nat.lt_of_lt_of_le (kac HUu.out) hwc) (fun e => by have : u = t := e; omega)).trans (kad HBc.out (kac HUu.out) HUu.out), (HKs.out.block m (Nat.lt_of_lt_of_le (kac HMm.out) hwc) (fun e => by have : m = t := e; omega)).trans (kad HBc.out (kac HMm.out) HMm.out), (q1.below HBc.out).kept HKs.out (fun q hq e => by have : q = t := e; omega), (q2.below HBc.out).kept HKs.out (fun q hq e => by have : q = t := e; omega), (q3.below HBc.out).kept HKs.out (fun q hq e => by have : q = t := e; omega), (q4.below HBc.out).kept HKs.out (fun q hq e => by have : q = t := e; omega), hxs⟩
      case measure => first | (simp [intOf]; done) | (simp [intOf]; omega)
  · obtain rfl : k = 5 := by omega
    have HBb := hdd hb
    have HTt := hdd hT
    have HUu := hdd hU
    have HQ := hdd (And.intro q1 (And.intro q2 (And.intro q3 (And.intro q4 q5))))
    obtain ⟨f1, c1, rfl⟩ := kah (show wl.ownsRow (m + 1) _ _ _ _ _ from q1)
    obtain ⟨f2, c2, rfl⟩ := kah (show wl.ownsRow (m + 1) _ _ _ _ _ from q2)
    obtain ⟨f3, c3, rfl⟩ := kah (show wl.ownsRow (m + 1) _ _ _ _ _ from q3)
    obtain ⟨f4, c4, rfl⟩ := kah (show wl.ownsRow (m + 1) _ _ _ _ _ from q4)
    obtain ⟨f5, c5, rfl⟩ := kah (show wl.ownsRow (m + 1) _ _ _ _ _ from q5)
    have HOne := hdd (evS1 e f1 c1 f2 c2 f3 c3 f4 c4 f5 c5)
    clear hb hT hU hM q1 q2 q3 q4 q5 hlt hk
    go_wp2_with (first
     | (refine wpList_load_row rfl 45 _ rfl t rfl 45 (evS e f1 c1 f2 c2 f3 c3 f4 c4 f5 c5) (0, 0) _ HTt.out rfl rfl (by kernel_rfl) ?_)
     | (refine kaa rfl 45 _ _ rfl u rfl (evS e f1 c1 f2 c2 f3 c3 f4 c4 f5 c5) rfl 45 evZ HUu.out (by kernel_rfl) rfl HOne.out ?_
        intro wE hwE hkE
        have HWE := hdd hwE
        have HKE := hdd hkE
        clear hwE hkE)
     | fail)
    refine kcr rfl u 45 _ (0, 0) _ rfl HWE.out rfl rfl (by kernel_rfl) rfl ?_
    obtain ⟨ht, hu, hm⟩ := HBT.out
    obtain ⟨q1, q2, q3, q4, q5⟩ := HQ.out
    have hS : ∀ q, m + 1 ≤ q → ¬ Licit.One u q := fun q hq e => by have : q = u := e; omega
    have hbE := HBb.out.trans (HKE.out.below HBb.out.size (fun q hq e => by have : q = u := e; omega))
    refine ⟨_, rfl, fun W hW => ?_, hbE⟩
    have hsz := hbE.size
    have p1 := kag q1 HKE.out hS
    have p2 := kag q2 HKE.out hS
    have p3 := kag q3 HKE.out hS
    have p4 := kag q4 HKE.out hS
    have p5 := kag q5 HKE.out hS
    exact HO.out W _ _ _ _ _ (kca p1 fun q hq => hW q (by have := (p1.lt q hq).1; omega) (p1.lt q hq).2) (kca p2 fun q hq => hW q (by have := (p2.lt q hq).1; omega) (p2.lt q hq).2) (kca p3 fun q hq => hW q (by have := (p3.lt q hq).1; omega) (p3.lt q hq).2) (kca p4 fun q hq => hW q (by have := (p4.lt q hq).1; omega) (p4.lt q hq).2) (kca p5 fun q hq => hW q (by have := (p5.lt q hq).1; omega) (p5.lt q hq).2)
def k20 (xs : List Bs) (w : World) (e : Ending) (w' : World) : Prop := ∃ v, e = .returned v ∧ w'.ownsRow w.heap.size 9 1 v xs.length (xs.map vS) ∧ Below w.heap.size w w'
theorem ko0 (x y : Bs) (hx : x.length ≤ maxLen) (hy : y.length ≤ maxLen) (W : World) : Calls Tryz.prog 48 #[.slice (some ⟨W.heap.size, 0, none⟩) 3 3] (W.alloc (.cells #[.string ⟨#[110, 111, 100, 101]⟩, .string (B x), .string (B y)] 9)) fun e w' => e = .returned (.string (B (kep x y))) ∧ Below W.heap.size W w' :=
 kcg.alloc (kj8 (l := [ky9, x, y]) 3 rfl (by decide) rfl (by decide) (by intro z hz; simp at hz; rcases hz with rfl | rfl | rfl; decide; exact hx; exact hy) W)
theorem kp7 {B : Nat} {w w' : World} (h : Below B w.drew w') : Below B w w' := ⟨h.os, h.tape, h.output, h.size, h.block⟩
theorem ksl (x y : Bs) (hx : x.length ≤ maxLen) (hy : y.length ≤ maxLen) (W : World) : Calls Tryz.prog 48 #[.slice (some ⟨W.heap.size, 0, none⟩) 3 3] (W.alloc (.cells #[.string ⟨#[110, 111, 100, 101]⟩, .string (B x), .string (B y)] 9)).drew fun e w' => e = .returned (.string (B (kep x y))) ∧ Below W.heap.size W w' :=
 (ko0 x y hx hy W.drew).mono fun _ _ ⟨h1, h2⟩ => ⟨h1, kp7 h2⟩
theorem kss (v : Value) (xs : List Bs) (w : World) (h : IsSl v (xs.map vS) w) (hl : ∀ x ∈ xs, x.length ≤ maxLen) (hn : xs.length ≤ 100000) :
 Calls Tryz.prog 139 #[v] w (k20 (ko5 xs) w) := by
 obtain ⟨i0, hi, hz0, hz1, hz2⟩ := info_parts Tryz.infoStr
 have Hi := hdd hi
 have Hz0 := hdd hz0
 have Hz1 := hdd hz1
 have Hz2 := hdd hz2
 clear hi hz0 hz1 hz2
 obtain ⟨a, cap, rfl⟩ := h.formMap
 have H := hdd h
 have HL := hdd hl
 clear h hl
 go_enter Tryz.func139, Tryz.ntmps139
 go_wp2
 go_loopw [3, 4] (fun v n wr => ∃ k : Nat, k ≤ xs.length / 2 ∧ n = .int .i64 ((2 * k : Nat) : Int) ∧ wr.ownsRow w.heap.size 9 1 v k ((kfv xs k).map vS) ∧ Below w.heap.size w wr) (fun _ n _ => xs.length - (intOf n).toNat)
 case atStart => exact ⟨0, by omega, rfl, World.ownsRow_nil _ _ _ _, Below.refl _ _⟩
 case round =>
  obtain ⟨k, hk, rfl, hO, hB⟩ := hrel
  obtain ⟨J, hJ⟩ : ∃ J, 2 * k = J := ⟨_, rfl⟩
  rw [hJ]
  have HJ := hdd hJ
  have hJl : J ≤ 100000 := by omega
  by_cases hlt : J + 1 < xs.length
  · have hsl' : IsSl (.slice a (xs.map vS).length cap) (xs.map vS) w := by rw [List.length_map]; exact H.out
    obtain ⟨b, off, rfl, hbw, hc0⟩ := hsl'.at (k := J) (by rw [List.length_map]; omega)
    obtain ⟨b', off', hbb, _, hc1⟩ := hsl'.at (k := J + 1) (by rw [List.length_map]; omega)
    simp only [Option.some.injEq, Addr.mk.injEq] at hbb
    obtain ⟨rfl, rfl, _⟩ := hbb
    obtain ⟨J1, hJ1⟩ : ∃ J1, J + 1 = J1 := ⟨_, rfl⟩
    rw [List.getElem_map] at hc0 hc1
    obtain ⟨x0, hx0⟩ : ∃ x, xs[J] = x := ⟨_, rfl⟩
    obtain ⟨x1, hx1⟩ : ∃ x, xs[J + 1] = x := ⟨_, rfl⟩
    rw [hx0] at hc0
    rw [hx1] at hc1
    rw [← Nat.add_assoc, Nat.add_assoc, hJ1] at hc1
    unfold vS at hc0 hc1
    have hcw0 := hdd hc0
    have hcw1 := hdd hc1
    rw [← hB.cell (p := ⟨b, off + J, none⟩) hbw] at hc0
    rw [← hB.cell (p := ⟨b, off + J1, none⟩) hbw] at hc1
    have hbl : b < wr.heap.size := Nat.lt_of_lt_of_le hbw hB.size
    have hl0 := HL.out x0 (by rw [← hx0]; exact List.getElem_mem _)
    have hl1 := HL.out x1 (by rw [← hx1]; exact List.getElem_mem _)
    have hstep : kfv xs (k + 1) = kfv xs k ++ [kep x0 x1] := by
     rw [kpn, hJ, ← hx0, ← hx1]
     simp [List.getD_eq_getElem?_getD, show J < xs.length by omega, hlt]
    have hw1 : IntKind.i64.wrap ((J : Int) + 1) = (J1 : Int) := by rw [IntKind.wrap_i64]; omega
    have hw2 : IntKind.i64.wrap (J1 : Int) = (J1 : Int) := by rw [IntKind.wrap_i64]; omega
    have hs1 : (J : Int) + 1 = (J1 : Int) := by omega
    have hi0 : (J : Int) < (xs.length : Int) := by omega
    have hi1 : (J1 : Int) < (xs.length : Int) := by omega
    have HST := hdd hstep
    have HO := hdd hO
    have HB := hdd hB
    have hbz := hB.size
    clear hsl' hx0 hx1 hJ hJ1 hstep hO hB
    go_wp2
    go_region_held3 (fun W => W.cell? ⟨b, off + J, none⟩ = some (.string (B x0)) ∧ W.cell? ⟨b, off + J1, none⟩ = some (.string (B x1)))
     (first | go_keep)
     (first
       | (go_at_call 48; refine (ksl x0 x1 hl0 hl1 wr).mono ?_; rintro e w2 ⟨rfl, hbd⟩; have hk0 := (hbd.cell (p := ⟨b, off + J, none⟩) hbl).trans hc0; have hk1 := (hbd.cell (p := ⟨b, off + J1, none⟩) hbl).trans hc1; have hz2 := hbd.size; have hbl2 : b < w2.heap.size := (by omega); have HO2 := hdd (kaf HO.out (fun q _ hq => hbd.block q hq)); have HB2 := hdd (HB.out.next hbd); clear hbd)
       | (refine kck rfl _ _ 39 rfl w.heap.size 9 i0 (.string ⟨#[]⟩) 1 16 Tryz.underlying39 Hi.out Hz0.out Hz1.out Hz2.out rfl (by decide) _ k ((kfv xs k).map vS) rfl (HO2.out.alloc _) ⟨w2.heap.size, 0, none⟩ 1 1 [vS (kep x0 x1)] rfl rfl (kbm (kak _ _)) (by simp [vS, Value.oneCell']) (by unfold maxLen; omega) (by omega) (by simp; omega) ?_; intro v3 w3 ho3 hg3 _; rw [← kdq, ← HST.out] at ho3; have hb3 : Below w.heap.size w w3 := ((HB2.out.alloc HB2.out.size _).grown hg3 (by simp; omega) (fun q hq => by have := HO2.out.lt q hq; exact this.1)); have hm0 := (hb3.cell (p := ⟨b, off + J, none⟩) hbw).trans hcw0.out; have hm1 := (hb3.cell (p := ⟨b, off + J1, none⟩) hbw).trans hcw1.out; have HO3 := hdd ho3; have HB3 := hdd hb3; clear ho3 hb3 hg3))
    all_goals
     go_wp2
     go_roundw
     case rel => exact ⟨k + 1, by have := HJ.out; omega, by have := HJ.out; simp; omega, HO3.out, HB3.out⟩
     case measure => simp [intOf]; omega
  · obtain ⟨a, cap2, rfl⟩ := kah hO
    have hk2 : k = xs.length / 2 := by omega
    have HK := hdd hk2
    have HO := hdd hO
    have HB := hdd hB
    clear hO hB hk2 hJ
    go_wp2
    go_ret
    refine ⟨_, rfl, ?_, HB.out⟩
    rw [kkg]
    unfold ko5
    rw [← HK.out]
    exact HO.out
theorem kpb (seed : Bs) (b h : Nat) (w : World) (hs : seed.length ≤ maxLen) (hb : b ≤ 256) (hh : h ≤ 6) :
 Calls Tryz.prog 138 #[.string (B seed), .agg #[.int .i64 (b : Int), .int .i64 (h : Int)]] w (k20 (kyb seed b h) w) := by
 obtain ⟨i0, hi, hz0, hz1, hz2⟩ := info_parts Tryz.infoStr
 have Hi := hdd hi
 have Hz0 := hdd hz0
 have Hz1 := hdd hz1
 have Hz2 := hdd hz2
 clear hi hz0 hz1 hz2
 have hp : 2 ^ h ≤ 64 := Nat.le_trans (Nat.pow_le_pow_right (by decide) hh) (by decide)
 obtain ⟨n, hn⟩ : ∃ n, 2 ^ h = n := ⟨_, rfl⟩
 rw [hn] at hp
 have HCnt := hdd (fun W => kgr (b : Int) h W hh)
 rw [hn] at HCnt
 have HN := hdd hn
 clear hn
 go_enter Tryz.func138, Tryz.ntmps138
 go_wp2
 go_loopw [5, 6] (fun v i wr => ∃ k : Nat, k ≤ n ∧ i = .int .i64 k ∧ wr.ownsRow (w.heap.size + 1) 9 1 v k ((kdf seed b k).map vS) ∧ wr.heap[w.heap.size]? = some (.cells #[.int .i64 (b : Int), .int .i64 (h : Int)] 41) ∧ Below w.heap.size w wr) (fun _ i _ => n - (intOf i).toNat)
 case atStart => exact ⟨0, by omega, rfl, World.ownsRow_nil _ _ _ _, kak _ _, (Below.refl _ _).alloc (Nat.le_refl _) _⟩
 case round =>
  obtain ⟨k, hk, rfl, hO, hK, hB⟩ := hrel
  have hc0 : wr.cell? ⟨w.heap.size, 0, none⟩ = some (.int .i64 (b : Int)) := by rw [kab hK]; rfl
  have hc1 : wr.cell? ⟨w.heap.size, 1, none⟩ = some (.int .i64 (h : Int)) := by rw [kab hK]; rfl
  have hzw := kac hK
  have HO := hdd hO
  have HB := hdd hB
  have HK := hdd hK
  clear hO hB hK
  by_cases hlt : k < n
  · go_wp2_with fail
    refine (HCnt.out _).mono ?_
    rintro e w1 ⟨rfl, hb1⟩
    have hd0 := (hb1.cell (p := ⟨w.heap.size, 0, none⟩) hzw).trans hc0
    have hz1 := hb1.size
    have Hb1 := hdd hb1
    clear hb1
    go_wp2_with fail
    refine (ktd seed b (k : Int) _ hs hb).mono ?_
    rintro e w2 ⟨rfl, hb2⟩
    have hb3 := Hb1.out.next hb2
    have HO2 := hdd (kaf HO.out (fun q _ hq => hb3.block q hq))
    have HB2 := hdd (HB.out.next hb3)
    have HK2 := bhh hb3 HK
    have hz2 := hb2.size
    clear hb2 hb3 hd0
    go_wp2_with (first
     | (at_builtin
        refine wpList_append_own _ rfl _ _ 39 rfl (w.heap.size + 1) 9 i0 (.string ⟨#[]⟩) 1 16 Tryz.underlying39 Hi.out Hz0.out Hz1.out Hz2.out rfl (by decide) _ k ((kdf seed b k).map vS) rfl (HO2.out.alloc _) ⟨w2.heap.size, 0, none⟩ 1 1 [vS (knt seed b k)] rfl rfl (kbm (kak _ _)) (by simp [vS, Value.oneCell']) (by unfold maxLen; omega) (by omega) (by simp; omega) ?_
        intro v3 w3 ho3 hg3 _
        rw [← kdq, ← ki8] at ho3
        have hb3 : Below w.heap.size w w3 := (HB2.out.alloc HB2.out.size _).grown hg3 (by have := HB2.out.size; simp; omega) (fun q hq => Nat.le_of_succ_le (HO2.out.lt q hq).1)
        have hk3 : w3.heap[w.heap.size]? = some (.cells #[.int .i64 (b : Int), .int .i64 (h : Int)] 41) := (hg3.block _ (by simp; omega) (fun e => by have := (HO2.out.lt _ e.symm).1; omega)).trans (kaq HK2.out)
        have HO3 := hdd ho3
        have HB3 := hdd hb3
        have HK3 := hdd hk3
        clear ho3 hg3 hb3 hk3))
    go_roundw
    case rel => exact ⟨k + 1, by omega, by go_num, HO3.out, HK3.out, HB3.out⟩
    case measure => simp [intOf]; omega
  · obtain rfl : k = n := by omega
    obtain ⟨a, cap, hv⟩ := kah HO.out
    subst hv
    go_wp2_with fail
    refine (HCnt.out _).mono ?_
    rintro e w1 ⟨rfl, hb1⟩
    have Hb1 := hdd hb1
    clear hb1
    go_wp2
    go_ret
    refine ⟨_, rfl, ?_, HB.out.next Hb1.out⟩
    unfold kyb
    rw [HN.out, kdl]
    exact kan (kaf HO.out (fun q _ hq => Hb1.out.block q hq)) (Nat.le_succ _)
theorem kqq {seed : Bs} {b h : Nat} : ∀ j, ∀ x ∈ k1d (kyb seed b h) j, x.length = 32
 | 0, x, hx => by
   obtain ⟨m, _, rfl⟩ := List.mem_map.1 hx
   exact kmj _
 | j + 1, x, hx => by
   obtain ⟨m, _, rfl⟩ := List.mem_map.1 hx
   exact kmj _
attribute [local go_sem] Oper.semAt_some
def KpC (Bs Bn : Nat) (W W' : World) : Prop := W'.heap[Bs]? = W.heap[Bs]? ∧ W'.heap[Bn]? = W.heap[Bn]?
def kk5 (k : Nat) : List Nat := (List.range k).map (2 * ·)
theorem ksa (k : Nat) : kk5 (k + 1) = kk5 k ++ [2 * k] := by simp [kk5, List.range_succ]
theorem kn2 (k : Nat) : (kk5 k).length = k := by simp [kk5]
theorem kt1 (n : Nat) (hn : 1 ≤ n) (l Bs Bn g len cap m : Nat) (hlen : len = 2 * m) (hcap : len ≤ cap) (hmax : len ≤ 100000) (J Jx : List (Off len) → World → Prop)
 (W : World) (hJ : AbidesFrom W.heap.size J)
 (hY : ∀ pre x W1, J pre W1 → pre.length < m → YieldAt Fence.wide (n - 1) Tryz.prog l #[.slice (some ⟨g, x.1, none⟩) 2 2] W1 fun e W' =>
   (e = .returned (.bool true) ∧ J (pre ++ [x]) W' ∧ KpC Bs Bn W1 W') ∨ (e = .returned (.bool false) ∧ Jx (pre ++ [x]) W'))
 (hs : W.heap[Bs]? = some (.cells #[.slice (some ⟨g, 0, none⟩) len cap] 39)) (hnn : W.heap[Bn]? = some (.cells #[.int .i64 2] 3)) (h0 : J [] W) :
 CallsIn Fence.wide n Tryz.prog 229 #[.func (.yield l) #[] #[], .pointer (some ⟨Bs, 0, none⟩), .pointer (some ⟨Bn, 0, none⟩)] W fun e W' => (∃ v, e = .returned v) ∧
  ((∃ ys : List (Off len), ys.map (·.1) = kk5 m ∧ J ys W') ∨ (∃ pre, True ∧ Jx pre W')) := by
 refine callsIn_of_wp Tryz.func229 rfl trivial ?_ rfl
 simp only [Tryz.ntmps229, List.size_toArray, List.length_cons, List.length_nil, Nat.reduceAdd, Nat.reduceSub, Array.replicate_succ, Array.replicate_zero, List.push_toArray, List.append_toArray, List.nil_append, List.cons_append]
 gi_wp2
 gi_loopw [4] (fun i wr => ∃ (k : Nat) (pre : List (Off len)), k ≤ m ∧ i = .int .i64 ((2 * k : Nat) : Int) ∧ pre.map (·.1) = kk5 k ∧ J pre wr ∧ wr.heap[Bs]? = some (.cells #[.slice (some ⟨g, 0, none⟩) len cap] 39) ∧ wr.heap[Bn]? = some (.cells #[.int .i64 2] 3))
  (fun i _ => len - (intOf i).toNat)
 case atStart => exact ⟨0, [], Nat.zero_le _, rfl, rfl, h0, hs, hnn⟩
 case round =>
  obtain ⟨k, pre, hk, rfl, hpre, hJs, hs1, hn1⟩ := hrel
  obtain ⟨x, hx⟩ : ∃ x, 2 * k = x := ⟨_, rfl⟩
  rw [hx]
  have HX := hdd hx
  have hpl : pre.length = k := by have := congrArg List.length hpre; rw [List.length_map, kn2] at this; exact this
  have HPre := hdd hpre
  have HPl := hdd hpl
  clear hpre hpl
  have hcs : wr.cell? ⟨Bs, 0, none⟩ = some (.slice (some ⟨g, 0, none⟩) len cap) := by rw [kab hs1]; rfl
  have hcn : wr.cell? ⟨Bn, 0, none⟩ = some (.int .i64 2) := by rw [kab hn1]; rfl
  have HS := hdd hs1
  have HN := hdd hn1
  have HJs := hdd hJs
  have HL := hdd hlen
  clear hs1 hn1 hJs hs hnn h0
  by_cases hlt : x < len
  · have hx2 : x + 2 ≤ len := by omega
    have hxi : (x : Int) ≤ (len : Int) := by omega
    have hxc : (x : Int) ≤ (cap : Int) := by omega
    clear hx hlen
    have hxl : (x : Int) < (len : Int) := by omega
    have hmin : min (2 : Int) ((len - x : Nat) : Int) = 2 := by omega
    gi_wp2
    refine wpIn_wide.2 ?_
    go_quiet (fail)
    obtain ⟨fn, tmps, assign, body, hy, hR⟩ := hY _ ⟨x, hx2⟩ (wr.drewN nq) (hJ _ _ _ none HJs.out ⟨rfl, rfl, rfl, Nat.le_refl _, fun _ _ _ => rfl⟩ (fun r e => by cases e)) (by rw [HPl.out]; have := HX.out; have := HL.out; omega)
    dsimp only at hy
    gi_wp2
    refine hR.mono ?_
    rintro e W3 (⟨rfl, hJ3, hk3⟩ | ⟨rfl, hJx3⟩)
    · have h3s : W3.heap[Bs]? = some (.cells #[.slice (some ⟨g, 0, none⟩) len cap] 39) := hk3.1.trans HS.out
      have h3n : W3.heap[Bn]? = some (.cells #[.int .i64 2] 3) := hk3.2.trans HN.out
      have h3c : W3.cell? ⟨Bn, 0, none⟩ = some (.int .i64 2) := by rw [kab h3n]; rfl
      have H3s := hdd h3s
      have H3n := hdd h3n
      have HJ3 := hdd hJ3
      clear h3s h3n hk3 hJ3
      gi_wp2
      go_roundw
      case rel =>
       refine ⟨k + 1, pre ++ [⟨x, hx2⟩], by have := HX.out; have := HL.out; omega, by have := HX.out; simp; omega, ?_, HJ3.out, H3s.out, H3n.out⟩
       rw [ksa, HX.out, List.map_append, HPre.out]; rfl
      case measure => simp [intOf]; omega
    · gi_wp2
      refine bodyPost_ret (results_none rfl _ _ _) rfl ?_
      exact ⟨⟨_, rfl⟩, .inr ⟨_, trivial, hJx3⟩⟩
  · have hkm : k = m := by omega
    clear hx hlen
    gi_wp2
    go_end0
    exact ⟨⟨_, rfl⟩, .inl ⟨_, by rw [← hkm]; exact HPre.out, HJs.out⟩⟩
theorem kt9 (a : Option Addr) (len cap : Nat) (w : World) :
 Calls Tryz.prog 198 #[.slice a len cap, .int .i64 2] w fun e w' => e = .returned (.func (.func 229) #[] #[.pointer (some ⟨w.heap.size, 0, none⟩), .pointer (some ⟨w.heap.size + 1, 0, none⟩)]) ∧ w' = (w.alloc (.cells #[.slice a len cap] 39)).alloc (.cells #[.int .i64 2] 3) := by
 go_enter Tryz.func198, Tryz.ntmps198
 go_wp2
 go_ret
 exact ⟨rfl, rfl⟩
theorem ko3 (n : Nat) (hn : 1 ≤ n) (Bs Bn g len cap m : Nat) (hlen : len = 2 * m) (hcap : len ≤ cap) (hmax : len ≤ 100000) (w : World)
 (hs : w.heap[Bs]? = some (.cells #[.slice (some ⟨g, 0, none⟩) len cap] 39)) (hnn : w.heap[Bn]? = some (.cells #[.int .i64 2] 3)) :
 SeqStopsK Fence.wide n Tryz.prog 229 #[.pointer (some ⟨Bs, 0, none⟩), .pointer (some ⟨Bn, 0, none⟩)] (fun x : Off len => #[Value.slice (some ⟨g, x.1, none⟩) 2 2]) (KpC Bs Bn) (fun ys => ys.map (·.1) = kk5 m) (fun _ => True) m w :=
 fun l J Jx W hW hJ _ hY h0 => kt1 n hn l Bs Bn g len cap m hlen hcap hmax J Jx W hJ hY (kad hW (kac hs) hs) (kad hW (kac hnn) hnn) h0
end Go.Proofs.YtknpbekoenbphaaGreatDoor
