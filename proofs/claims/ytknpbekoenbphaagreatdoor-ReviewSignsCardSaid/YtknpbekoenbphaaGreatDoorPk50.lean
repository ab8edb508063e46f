/- Parts of the proofs: WkRvS, LawKit48. No condition beyond those at each theorem. -/
import Derived.Test.YtknpbekoenbphaaGreatDoorPk38
import Derived.Test.YtknpbekoenbphaaGreatDoorPk40
import Derived.Test.YtknpbekoenbphaaGreatDoorPk49
set_option linter.unusedVariables false
set_option linter.unusedSimpArgs false
set_option maxHeartbeats 16000000
set_option maxRecDepth 100000
namespace Go.Proofs.YtknpbekoenbphaaGreatDoor
open Go Go.RowKit Licit
def kwi (seed : Bs) (b h : Int) (e : Rv.Ev) : Rv.Sg := ⟨kxz b h e.number, k06 seed (Rv.idV e) b h e.number, k1e seed (Rv.idV e) b h e.number, k04 seed b h e.number⟩
def sgF (b h : Int) (e : Rv.Ev) : Int := if Rv.validB e = true then kml b h e.number else 1
def sgV (seed : Bs) (b h : Int) (e : Rv.Ev) : Rv.Ev := if sgF b h e = 0 then { e with sg := kwi seed b h e } else Rv.ev0
theorem k12 (e : Rv.Ev) : (Rv.idV e).length ≤ 1000000000000 := by unfold Rv.idV hsh; rw [Sha.sha_len]; omega
theorem kn5.keep {base : Nat} {v : Value} {i : Int} {S H R : List Bs} {w w' : World} (h : kn5 base v i S H R w) (hb : ∀ q, base ≤ q → q < w.heap.size → w'.heap[q]? = w.heap[q]?) : kn5 base v i S H R w' := by
 obtain ⟨vs, vh, vr, rfl, h1, h2, h3⟩ := h
 exact ⟨vs, vh, vr, rfl, kaf h1 hb, kaf h2 hb, kaf h3 hb⟩
theorem kxf (seed m : Bs) (b h i : Int) (w : World) (hs : seed.length ≤ maxLen) (hm : m.length ≤ 1000000000000) (ht : Tab w) :
 Calls Tryz.prog 81 #[.string (B seed), .agg #[.int .i64 b, .int .i64 h], .int .i64 i, .string (B m)] w fun e w' => ∃ v, e = .returned (.tuple #[v, .int .i64 (kml b h i)]) ∧ (∀ W : World, (∀ k, w.heap.size ≤ k → k < w'.heap.size → W.heap[k]? = w'.heap[k]?) → kec v (kxz b h i) (k06 seed m b h i) (k1e seed m b h i) (k04 seed b h i) W) ∧ Below w.heap.size w w' := by
 unfold kml kxz k06 k1e k04
 cases hf : kfe b h i with
 | false => exact (k0f seed m b h i w hf).mono fun e w' ⟨h1, h2⟩ => ⟨_, h1, fun W _ => kve W, h2⟩
 | true =>
   have hf' := hf
   unfold kfe at hf'
   simp only [Bool.and_eq_true, decide_eq_true_eq] at hf'
   obtain ⟨⟨hk, h0⟩, h1⟩ := hf'
   have hk' : 8 ≤ b ∧ b ≤ 256 ∧ 0 ≤ h ∧ h ≤ 6 := by simpa [kcp] using hk
   obtain ⟨b, rfl⟩ : ∃ n : Nat, b = (n : Int) := ⟨b.toNat, by omega⟩
   obtain ⟨h, rfl⟩ : ∃ n : Nat, h = (n : Int) := ⟨h.toNat, by omega⟩
   obtain ⟨i, rfl⟩ : ∃ n : Nat, i = (n : Int) := ⟨i.toNat, by omega⟩
   simp only [if_true, Int.toNat_natCast] at h1 ⊢
   refine (kxs seed m b h i w hs hm hk (by omega) ht).mono fun e w' ⟨v, e1, e2, e3⟩ => ⟨v, e1, fun W hW => kec.of_sig (e2.keep hW) ?_ ?_ ?_, e3⟩
   · rw [kgo]; unfold maxLen; omega
   · rw [kfp]; unfold maxLen; omega
   · rw [kgp]; unfold maxLen; omega
theorem ktv (seed m : Bs) (b h i : Int) (w : World) (hs : seed.length ≤ maxLen) (hm : m.length ≤ 1000000000000) :
 Calls Tryz.prog 82 #[.string (B seed), .agg #[.int .i64 b, .int .i64 h], .int .i64 i, .string (B m)] w fun e w' => ∃ v, e = .returned (.tuple #[v, .int .i64 (kml b h i)]) ∧ (∀ W : World, (∀ k, w.heap.size ≤ k → k < w'.heap.size → W.heap[k]? = w'.heap[k]?) → kec v (kxz b h i) (k06 seed m b h i) (k1e seed m b h i) (k04 seed b h i) W) ∧ Below w.heap.size w w' := by
 unfold kml kxz k06 k1e k04
 cases hf : kfe b h i with
 | false => exact (kxh seed m b h i w hf).mono fun e w' ⟨h1, h2⟩ => ⟨_, h1, fun W _ => kve W, h2⟩
 | true =>
   have hf' := hf
   unfold kfe at hf'
   simp only [Bool.and_eq_true, decide_eq_true_eq] at hf'
   obtain ⟨⟨hk, h0⟩, h1⟩ := hf'
   have hk' : 8 ≤ b ∧ b ≤ 256 ∧ 0 ≤ h ∧ h ≤ 6 := by simpa [kcp] using hk
   obtain ⟨b, rfl⟩ : ∃ n : Nat, b = (n : Int) := ⟨b.toNat, by omega⟩
   obtain ⟨h, rfl⟩ : ∃ n : Nat, h = (n : Int) := ⟨h.toNat, by omega⟩
   obtain ⟨i, rfl⟩ : ∃ n : Nat, i = (n : Int) := ⟨i.toNat, by omega⟩
   simp only [if_true, Int.toNat_natCast] at h1 ⊢
   refine (ku2 seed m b h i w hs hm hk (by omega)).mono fun e w' ⟨v, e1, e2, e3⟩ => ⟨v, e1, fun W hW => kec.of_sig (e2.keep hW) ?_ ?_ ?_, e3⟩
   · rw [kgo]; unfold maxLen; omega
   · rw [kfp]; unfold maxLen; omega
   · rw [kgp]; unfold maxLen; omega
theorem kzo (seed : Bs) (b h : Int) (v : Value) (e : Rv.Ev) (w : World) (hI : kc1 v e w) (hl : k0a e) (hs : seed.length ≤ maxLen) (ht : Tab w) :
 Calls Tryz.prog 33 #[.string (B seed), .agg #[.int .i64 b, .int .i64 h], v] w fun en w' => ∃ v', en = .returned (.tuple #[v', .int .i64 (sgF b h e)]) ∧ kc1 v' (sgV seed b h e) w' ∧ Below w.heap.size w w' := by
 have HC := hdd (fun (W : World) (hb : Below w.heap.size w W) => kw7 v e W (hI.below hb) hl)
 have HID := hdd (fun (W : World) (hb : Below w.heap.size w W) => knh v e W (hI.below hb) (ht.same hb))
 have HS := hdd (fun (W : World) (hb : Below w.heap.size w W) => kxf seed (Rv.idV e) b h e.number W hs (k12 e) (ht.same hb))
 obtain ⟨ho, na, nc, ta, tc, sa, sc, ha, hc, ra, rc, rfl, hN, hT, hS, hH, hR⟩ := hI
 obtain ⟨k, hk⟩ : ∃ k, w.heap.size = k := ⟨_, rfl⟩
 obtain ⟨t, htt⟩ : ∃ t, k + 1 = t := ⟨_, rfl⟩
 obtain ⟨z, hz⟩ : ∃ z, t + 1 = z := ⟨_, rfl⟩
 have hA : ∀ W, W = ((w.alloc (.cells #[.int .i64 b, .int .i64 h] 41)).alloc (.cells (evS e na nc ta tc sa sc ha hc ra rc) 45)).alloc (.cells evZ 45) → Below w.heap.size w W ∧ W.heap[k]? = some (.cells #[.int .i64 b, .int .i64 h] 41 (0, 0)) ∧ W.heap[t]? = some (.cells (evS e na nc ta tc sa sc ha hc ra rc) 45 (0, 0)) ∧ W.heap[z]? = some (.cells evZ 45 (0, 0)) := by
  rintro _ rfl
  subst hz
  subst htt
  subst hk
  exact ⟨(((Below.refl _ _).alloc (Nat.le_refl _) _).alloc (by simp) _).alloc (by simp; omega) _, kaq (kaq (kak _ _)), kaq (kaj (by simp) rfl), kaj (by simp) rfl⟩
 clear hN hT hS hH hR hs
 go_enter Tryz.func33, Tryz.ntmps33
 go_upto_region 1 with fail
 have hz' : w.heap.size + 1 + 1 = z := by omega
 have ht' : w.heap.size + 1 = t := by omega
 try simp only [World.size_alloc, hz', ht', hk]
 show Code.wp _ _ _ _ (((w.alloc (.cells #[.int .i64 b, .int .i64 h] 41)).alloc (.cells (evS e na nc ta tc sa sc ha hc ra rc) 45)).alloc (.cells evZ 45))
 generalize hw1 : ((w.alloc (.cells #[.int .i64 b, .int .i64 h] 41)).alloc (.cells (evS e na nc ta tc sa sc ha hc ra rc) 45)).alloc (.cells evZ 45) = w1
 obtain ⟨hb1, hK1, hE1, hZ1⟩ := hA w1 hw1.symm
 have HB1 := hdd hb1
 have HK1 := hdd hK1
 have HE1 := hdd hE1
 have HZ1 := hdd hZ1
 have HBT := hdd (And.intro hk (And.intro htt hz))
 clear hA hw1 hb1 hK1 hE1 hZ1 hz' ht' hk htt hz
 go_upto_region 2 with (first
  | (refine k3e 13 rfl ?_; refine wpList_load_row rfl 45 _ rfl t rfl 45 (evS e na nc ta tc sa sc ha hc ra rc) (0, 0) _ HE1.out rfl rfl (by kernel_rfl) ?_)
  | (go_at_call 37; refine (HID.out _ HB1.out).mono ?_
     rintro en w2 ⟨rfl, hb⟩
     have HB2 := hdd (HB1.out.next hb)
     have HK2 := bhh hb HK1
     have HE2 := bhh hb HE1
     have HZ2 := bhh hb HZ1
     clear hb)
  | fail)
 cases hv : Rv.validB e with
 | false =>
   have hv1 : Rv.validE e = 1 := by unfold Rv.validE; rw [hv]; rfl
   have HF := hdd (show sgF b h e = 1 ∧ sgV seed b h e = Rv.ev0 by unfold sgV; have : sgF b h e = 1 := (by unfold sgF; rw [hv]; rfl); rw [this]; exact ⟨rfl, rfl⟩)
   clear hv
   go_wp2_with (first
    | (refine kaa rfl 45 _ _ rfl z rfl evZ rfl 45 evZ HZ2.out (by kernel_rfl) rfl (kax _ _ _ _ _ _ rfl rfl rfl rfl rfl) ?_
       intro wE hwE hkE
       have HWE := hdd hwE
       have HBE := hdd (HB2.out.trans (hkE.below HB2.out.size (fun q hq e => by have : q = z := e; have := HBT.out; omega)))
       clear hwE hkE)
    | fail)
   refine kam rfl z 45 _ (0, 0) _ rfl HWE.out rfl rfl (by kernel_rfl) rfl ?_
   rw [HF.out.1, HF.out.2]
   exact ⟨_, rfl, kcf _, HBE.out⟩
 | true =>
   have hv1 : Rv.validE e = 0 := by unfold Rv.validE; rw [hv]; rfl
   have hx1 : Rv.idE e = Rv.idV e := by unfold Rv.idE; rw [hv]; rfl
   obtain ⟨E, hE⟩ : ∃ E, kml b h e.number = E := ⟨_, rfl⟩
   have hcase : E = 0 ∨ E = 3 := by rw [← hE]; unfold kml; split <;> simp
   have HF := hdd (show sgF b h e = E by unfold sgF; rw [hv]; exact hE)
   have HS' := hdd (by have := HS.out w2 HB2.out; rw [hE] at this; exact this)
   have HV := hdd hv
   clear hv hE HS
   obtain ⟨k0, k1⟩ := kui HK2.out
   obtain ⟨-, -, e2, -⟩ := ka6 HE2.out
   go_upto_region 5 with (first
    | (go_at_call 81; refine (HS'.out).mono ?_
       rintro en w3 ⟨v3, rfl, hi, hb⟩
       have HI3 := hdd hi
       have hi3 := hi w3 (fun _ _ _ => rfl)
       obtain ⟨vs, vh, vr, rfl, i1, i2, i3⟩ := hi3
       have HB3 := hdd (HB2.out.next hb)
       have HE3 := bhh hb HE2
       have HZ3 := bhh hb HZ2
       have HIS := hdd (And.intro i1 (And.intro i2 i3))
       have HBn3 := hdd hb
       clear hi hb k0 k1 e2 i1 i2 i3)
    | (refine kaa rfl 43 _ _ rfl w3.heap.size rfl #[.int .i64 (kxz b h e.number), vs, vh, vr] rfl 43 sgZ (kaj rfl rfl) (by kernel_rfl) rfl (kmb HIS.out.1 HIS.out.2.1 HIS.out.2.2) ?_
       intro w4 hw hk
       have HG4 := hdd hw
       have HBn := hdd (show Below w3.heap.size w3 w4 from ((Below.refl _ _).alloc (Nat.le_refl _) _).trans (hk.below (B := w3.heap.size) (by simp) (fun q hq e => by have : q = w3.heap.size := e; omega)))
       have HB4 := hdd (HB3.out.next HBn.out)
       have HE4 := bhh HBn.out HE3
       have HZ4 := bhh HBn.out HZ3
       clear hw hk)
    | fail)
   rcases hcase with rfl | rfl
   rotate_left
   · have HF2 := hdd (show sgV seed b h e = Rv.ev0 by unfold sgV; rw [HF.out]; rfl)
     go_wp2_with (first
      | (refine kaa rfl 45 _ _ rfl z rfl evZ rfl 45 evZ HZ4.out (by kernel_rfl) rfl (kax _ _ _ _ _ _ rfl rfl rfl rfl rfl) ?_
         intro wE hwE hkE
         have HWE := hdd hwE
         have HBE := hdd (HB4.out.trans (hkE.below HB4.out.size (fun q hq e => by have : q = z := e; have := HBT.out; omega)))
         clear hwE hkE)
      | fail)
     refine kam rfl z 45 _ (0, 0) _ rfl HWE.out rfl rfl (by kernel_rfl) rfl ?_
     rw [HF.out, HF2.out]
     exact ⟨_, rfl, kcf _, HBE.out⟩
   · have HF2 := hdd (show sgV seed b h e = { e with sg := kwi seed b h e } by unfold sgV; rw [HF.out]; rfl)
     obtain ⟨g, hg⟩ : ∃ g, w3.heap.size = g := ⟨_, rfl⟩
     rw [hg] at HG4
     have hgz : z < g := by have := kac HZ3.out; omega
     have HG := hdd (And.intro hg hgz)
     try simp only [hg]
     clear hg hgz
     go_upto_region 8 with (first
      | (refine k3e 34 rfl ?_; refine wpList_load_row rfl 45 _ rfl t rfl 45 (evS e na nc ta tc sa sc ha hc ra rc) (0, 0) _ HE4.out rfl rfl (by kernel_rfl) ?_)
      | (go_at_call 67; refine (HC.out _ HB4.out).mono ?_
         rintro en w5 ⟨v5, rfl, hi, hb⟩
         have hform := hi w5 (fun _ _ _ => rfl)
         obtain ⟨-, nb, mb, tb, ub, sb, xb, hb', yb, rb, zb, rfl, -⟩ := hform
         have HI5 := hdd hi
         have HBn5 := hdd hb
         have HB5 := hdd (HB4.out.next hb)
         have HG5 := bhh hb HG4
         have HZ5 := bhh hb HZ4
         clear hi hb)
      | (refine kaa rfl 45 _ _ rfl w5.heap.size rfl (evS e nb mb tb ub sb xb hb' yb rb zb) rfl 45 evZ (kaj rfl rfl) (by kernel_rfl) rfl (kax _ _ _ _ _ _ rfl rfl rfl rfl rfl) ?_
         intro w6 hw hk
         have HX6 := hdd hw
         have HBn6 := hdd (show Below w5.heap.size w5 w6 from ((Below.refl _ _).alloc (Nat.le_refl _) _).trans (hk.below (B := w5.heap.size) (by simp) (fun q hq e => by have : q = w5.heap.size := e; omega)))
         have HB6 := hdd (HB5.out.next HBn6.out)
         have HG6 := bhh HBn6.out HG5
         have HZ6 := bhh HBn6.out HZ5
         clear hw hk)
      | fail)
     obtain ⟨x, hx⟩ : ∃ x, w5.heap.size = x := ⟨_, rfl⟩
     rw [hx] at HX6
     have HXX := hdd (And.intro hx (show g < x from by have := kac HG5.out; omega))
     try simp only [hx]
     clear hx
     obtain ⟨g0, g1, g2, g3⟩ := kf1 HG6.out
     go_wp2_with (first
      | (refine kby rfl 43 _ _ rfl x 14 #[.int .i64 (kxz b h e.number), vs, vh, vr] rfl rfl _ 45 HX6.out (by simp) (by kernel_rfl) (kmb HIS.out.1 HIS.out.2.1 HIS.out.2.2) ?_
         intro w7 hw hk
         have HX7 := hdd (show w7.heap[x]? = some (.cells (evC { e with sg := kwi seed b h e } (.slice nb e.names.length mb) (.slice tb e.targets.length ub) vs vh vr) 45 (0, 0)) from hw)
         have HK7 := hdd hk
         have HZ7 := hdd ((hk.block z (kac HZ6.out) (fun e => by have : z = x := e; have := HXX.out; have := HG.out; omega)).trans HZ6.out)
         clear hw hk g0 g1 g2 g3)
      | (refine k3e 38 rfl ?_; refine wpList_load_row rfl 45 _ rfl x rfl 45 (evC { e with sg := kwi seed b h e } (.slice nb e.names.length mb) (.slice tb e.targets.length ub) vs vh vr) (0, 0) _ HX7.out rfl rfl (by kernel_rfl) ?_)
      | (refine kaa rfl 45 _ _ rfl z rfl (evC { e with sg := kwi seed b h e } (.slice nb e.names.length mb) (.slice tb e.targets.length ub) vs vh vr) rfl 45 evZ HZ7.out (by kernel_rfl) rfl (kax _ _ _ _ _ _ rfl rfl (kik HIS.out.1) (kik HIS.out.2.1) (kik HIS.out.2.2)) ?_
         intro wE hwE hkE
         have HWE := hdd hwE
         have HKE := hdd hkE
         clear hwE hkE)
      | fail)
     refine kam rfl z 45 _ (0, 0) _ rfl HWE.out rfl rfl (by kernel_rfl) rfl ?_
     rw [HF.out, HF2.out]
     obtain ⟨q1, q2, q3⟩ := HBT.out
     obtain ⟨q4, q5⟩ := HG.out
     obtain ⟨q6, q7⟩ := HXX.out
     have hsz4 := HBn.out.size
     have hsz5 := HBn5.out.size
     have hsz6 := HBn6.out.size
     have hlt4 := kac HG4.out
     have keep : ∀ q, q ≠ x → q ≠ z → q < w6.heap.size → wE.heap[q]? = w6.heap[q]? := fun q h1 h2 h3 => (HKE.out.block q (Nat.lt_of_lt_of_le h3 HK7.out.size) (fun e => h2 e)).trans (HK7.out.block q h3 (fun e => h1 e))
     have hI5 := HI5.out wE (fun q h1 h2 => (keep q (by omega) (by omega) (by omega)).trans (HBn6.out.block q h2))
     obtain ⟨-, nb', mb', tb', ub', sb', xb', hb'', yb', rb', zb', hev, j1, j2, -⟩ := hI5
     simp only [evW, evS, evV, evC, Value.agg.injEq, Array.mk.injEq, List.cons.injEq, Value.slice.injEq, and_true, true_and] at hev
     obtain ⟨⟨rfl, rfl⟩, ⟨rfl, rfl⟩, -⟩ := hev
     have hsz3 := HBn3.out.size
     have hz2 := kac HZ2.out
     have hI3 := HI3.out wE (fun q h1 h2 => by
      rw [keep q (by omega) (by omega) (by omega), HBn6.out.block q (by omega), HBn5.out.block q (by omega), HBn.out.block q h2])
     obtain ⟨vs', vh', vr', hev2, i1, i2, i3⟩ := hI3
     simp only [Value.agg.injEq, Array.mk.injEq, List.cons.injEq, and_true, true_and] at hev2
     obtain ⟨rfl, rfl, rfl⟩ := hev2
     exact ⟨_, rfl, kc1.signed ho j1 j2 i1 i2 i3, (HB6.out.trans (HK7.out.below HB6.out.size (fun q hq e => by have : q = x := e; omega))).trans (HKE.out.below (HB6.out.trans (HK7.out.below HB6.out.size (fun q hq e => by have : q = x := e; omega))).size (fun q hq e => by have : q = z := e; omega))⟩
theorem kwm (seed : Bs) (b h : Int) (v : Value) (e : Rv.Ev) (w : World) (hI : kc1 v e w) (hs : seed.length ≤ maxLen) :
 Calls Tryz.prog 34 #[.string (B seed), .agg #[.int .i64 b, .int .i64 h], v] w fun en w' => ∃ v', en = .returned (.tuple #[v', .int .i64 (sgF b h e)]) ∧ kc1 v' (sgV seed b h e) w' ∧ Below w.heap.size w w' := by
 have HID := hdd (fun (W : World) (hb : Below w.heap.size w W) => ktx v e W (hI.below hb))
 have HS := hdd (fun (W : World) (hb : Below w.heap.size w W) => ktv seed (Rv.idV e) b h e.number W hs (k12 e))
 obtain ⟨ho, na, nc, ta, tc, sa, sc, ha, hc, ra, rc, rfl, hN, hT, hS, hH, hR⟩ := hI
 obtain ⟨k, hk⟩ : ∃ k, w.heap.size = k := ⟨_, rfl⟩
 obtain ⟨t, htt⟩ : ∃ t, k + 1 = t := ⟨_, rfl⟩
 obtain ⟨z, hz⟩ : ∃ z, t + 1 = z := ⟨_, rfl⟩
 have hA : ∀ W, W = ((w.alloc (.cells #[.int .i64 b, .int .i64 h] 41)).alloc (.cells (evS e na nc ta tc sa sc ha hc ra rc) 45)).alloc (.cells evZ 45) → Below w.heap.size w W ∧ W.heap[k]? = some (.cells #[.int .i64 b, .int .i64 h] 41 (0, 0)) ∧ W.heap[t]? = some (.cells (evS e na nc ta tc sa sc ha hc ra rc) 45 (0, 0)) ∧ W.heap[z]? = some (.cells evZ 45 (0, 0)) := by
  rintro _ rfl
  subst hz
  subst htt
  subst hk
  exact ⟨(((Below.refl _ _).alloc (Nat.le_refl _) _).alloc (by simp) _).alloc (by simp; omega) _, kaq (kaq (kak _ _)), kaq (kaj (by simp) rfl), kaj (by simp) rfl⟩
 have HNT := hdd (fun (W : World) (hb : Below w.heap.size w W) => And.intro (hN.below hb) (hT.below hb))
 clear hN hT hS hH hR hs
 go_enter Tryz.func34, Tryz.ntmps34
 go_upto_region 1 with fail
 have hz' : w.heap.size + 1 + 1 = z := by omega
 have ht' : w.heap.size + 1 = t := by omega
 try simp only [World.size_alloc, hz', ht', hk]
 show Code.wp _ _ _ _ (((w.alloc (.cells #[.int .i64 b, .int .i64 h] 41)).alloc (.cells (evS e na nc ta tc sa sc ha hc ra rc) 45)).alloc (.cells evZ 45))
 generalize hw1 : ((w.alloc (.cells #[.int .i64 b, .int .i64 h] 41)).alloc (.cells (evS e na nc ta tc sa sc ha hc ra rc) 45)).alloc (.cells evZ 45) = w1
 obtain ⟨hb1, hK1, hE1, hZ1⟩ := hA w1 hw1.symm
 have HB1 := hdd hb1
 have HK1 := hdd hK1
 have HE1 := hdd hE1
 have HZ1 := hdd hZ1
 have HBT := hdd (And.intro hk (And.intro htt hz))
 clear hA hw1 hb1 hK1 hE1 hZ1 hz' ht' hk htt hz
 go_upto_region 2 with (first
  | (refine k3e 12 rfl ?_; refine wpList_load_row rfl 45 _ rfl t rfl 45 (evS e na nc ta tc sa sc ha hc ra rc) (0, 0) _ HE1.out rfl rfl (by kernel_rfl) ?_)
  | (go_at_call 38; refine (HID.out _ HB1.out).mono ?_
     rintro en w2 ⟨rfl, hb⟩
     have HB2 := hdd (HB1.out.next hb)
     have HK2 := bhh hb HK1
     have HE2 := bhh hb HE1
     have HZ2 := bhh hb HZ1
     clear hb)
  | fail)
 cases hv : Rv.validB e with
 | false =>
   have hv1 : Rv.validE e = 1 := by unfold Rv.validE; rw [hv]; rfl
   have HF := hdd (show sgF b h e = 1 ∧ sgV seed b h e = Rv.ev0 by unfold sgV; have : sgF b h e = 1 := (by unfold sgF; rw [hv]; rfl); rw [this]; exact ⟨rfl, rfl⟩)
   clear hv
   go_wp2_with (first
    | (refine kaa rfl 45 _ _ rfl z rfl evZ rfl 45 evZ HZ2.out (by kernel_rfl) rfl (kax _ _ _ _ _ _ rfl rfl rfl rfl rfl) ?_
       intro wE hwE hkE
       have HWE := hdd hwE
       have HBE := hdd (HB2.out.trans (hkE.below HB2.out.size (fun q hq e => by have : q = z := e; have := HBT.out; omega)))
       clear hwE hkE)
    | fail)
   refine kam rfl z 45 _ (0, 0) _ rfl HWE.out rfl rfl (by kernel_rfl) rfl ?_
   rw [HF.out.1, HF.out.2]
   exact ⟨_, rfl, kcf _, HBE.out⟩
 | true =>
   have hv1 : Rv.validE e = 0 := by unfold Rv.validE; rw [hv]; rfl
   have hx1 : Rv.idE e = Rv.idV e := by unfold Rv.idE; rw [hv]; rfl
   obtain ⟨E, hE⟩ : ∃ E, kml b h e.number = E := ⟨_, rfl⟩
   have hcase : E = 0 ∨ E = 3 := by rw [← hE]; unfold kml; split <;> simp
   have HF := hdd (show sgF b h e = E by unfold sgF; rw [hv]; exact hE)
   have HS' := hdd (by have := HS.out w2 HB2.out; rw [hE] at this; exact this)
   have HV := hdd hv
   clear hv hE HS
   obtain ⟨k0, k1⟩ := kui HK2.out
   obtain ⟨-, -, e2, -⟩ := ka6 HE2.out
   go_upto_region 5 with (first
    | (go_at_call 82; refine (HS'.out).mono ?_
       rintro en w3 ⟨v3, rfl, hi, hb⟩
       have HI3 := hdd hi
       have hi3 := hi w3 (fun _ _ _ => rfl)
       obtain ⟨vs, vh, vr, rfl, i1, i2, i3⟩ := hi3
       have HB3 := hdd (HB2.out.next hb)
       have HE3 := bhh hb HE2
       have HZ3 := bhh hb HZ2
       have HIS := hdd (And.intro i1 (And.intro i2 i3))
       have HBn3 := hdd hb
       clear hi hb k0 k1 e2 i1 i2 i3)
    | (refine kaa rfl 43 _ _ rfl w3.heap.size rfl #[.int .i64 (kxz b h e.number), vs, vh, vr] rfl 43 sgZ (kaj rfl rfl) (by kernel_rfl) rfl (kmb HIS.out.1 HIS.out.2.1 HIS.out.2.2) ?_
       intro w4 hw hk
       have HG4 := hdd hw
       have HBn := hdd (show Below w3.heap.size w3 w4 from ((Below.refl _ _).alloc (Nat.le_refl _) _).trans (hk.below (B := w3.heap.size) (by simp) (fun q hq e => by have : q = w3.heap.size := e; omega)))
       have HB4 := hdd (HB3.out.next HBn.out)
       have HE4 := bhh HBn.out HE3
       have HZ4 := bhh HBn.out HZ3
       clear hw hk)
    | fail)
   rcases hcase with rfl | rfl
   rotate_left
   · have HF2 := hdd (show sgV seed b h e = Rv.ev0 by unfold sgV; rw [HF.out]; rfl)
     go_wp2_with (first
      | (refine kaa rfl 45 _ _ rfl z rfl evZ rfl 45 evZ HZ4.out (by kernel_rfl) rfl (kax _ _ _ _ _ _ rfl rfl rfl rfl rfl) ?_
         intro wE hwE hkE
         have HWE := hdd hwE
         have HBE := hdd (HB4.out.trans (hkE.below HB4.out.size (fun q hq e => by have : q = z := e; have := HBT.out; omega)))
         clear hwE hkE)
      | fail)
     refine kam rfl z 45 _ (0, 0) _ rfl HWE.out rfl rfl (by kernel_rfl) rfl ?_
     rw [HF.out, HF2.out]
     exact ⟨_, rfl, kcf _, HBE.out⟩
   · have HF2 := hdd (show sgV seed b h e = { e with sg := kwi seed b h e } by unfold sgV; rw [HF.out]; rfl)
     obtain ⟨g, hg⟩ : ∃ g, w3.heap.size = g := ⟨_, rfl⟩
     rw [hg] at HG4
     have hgz : z < g := by have := kac HZ3.out; omega
     have HG := hdd (And.intro hg hgz)
     try simp only [hg]
     clear hg hgz
     obtain ⟨g0, g1, g2, g3⟩ := kf1 HG4.out
     go_wp2_with (first
      | (refine kby rfl 43 _ _ rfl t 14 #[.int .i64 (kxz b h e.number), vs, vh, vr] rfl rfl _ 45 HE4.out (by simp) (by kernel_rfl) (kmb HIS.out.1 HIS.out.2.1 HIS.out.2.2) ?_
         intro w7 hw hk
         have HX7 := hdd (show w7.heap[t]? = some (.cells (evC { e with sg := kwi seed b h e } (.slice na e.names.length nc) (.slice ta e.targets.length tc) vs vh vr) 45 (0, 0)) from hw)
         have HK7 := hdd hk
         have HZ7 := hdd ((hk.block z (kac HZ4.out) (fun e => by have : z = t := e; have := HBT.out; omega)).trans HZ4.out)
         clear hw hk g0 g1 g2 g3)
      | (refine k3e 35 rfl ?_; refine wpList_load_row rfl 45 _ rfl t rfl 45 (evC { e with sg := kwi seed b h e } (.slice na e.names.length nc) (.slice ta e.targets.length tc) vs vh vr) (0, 0) _ HX7.out rfl rfl (by kernel_rfl) ?_)
      | (refine kaa rfl 45 _ _ rfl z rfl (evC { e with sg := kwi seed b h e } (.slice na e.names.length nc) (.slice ta e.targets.length tc) vs vh vr) rfl 45 evZ HZ7.out (by kernel_rfl) rfl (kax _ _ _ _ _ _ rfl rfl (kik HIS.out.1) (kik HIS.out.2.1) (kik HIS.out.2.2)) ?_
         intro wE hwE hkE
         have HWE := hdd hwE
         have HKE := hdd hkE
         clear hwE hkE)
      | fail)
     refine kam rfl z 45 _ (0, 0) _ rfl HWE.out rfl rfl (by kernel_rfl) rfl ?_
     rw [HF.out, HF2.out]
     obtain ⟨q1, q2, q3⟩ := HBT.out
     obtain ⟨q4, q5⟩ := HG.out
     have hlt4 := kac HG4.out
     have hz2 := kac HZ2.out
     have keep : ∀ q, q ≠ t → q ≠ z → q < w4.heap.size → wE.heap[q]? = w4.heap[q]? := fun q h1 h2 h3 => (HKE.out.block q (Nat.lt_of_lt_of_le h3 HK7.out.size) (fun e => h2 e)).trans (HK7.out.block q h3 (fun e => h1 e))
     have hI3 := HI3.out wE (fun q h1 h2 => by
      rw [keep q (by omega) (by omega) (by omega), HBn.out.block q h2])
     obtain ⟨vs', vh', vr', hev2, i1, i2, i3⟩ := hI3
     simp only [Value.agg.injEq, Array.mk.injEq, List.cons.injEq, and_true, true_and] at hev2
     obtain ⟨rfl, rfl, rfl⟩ := hev2
     have hB7 := HB4.out.trans (HK7.out.below HB4.out.size (fun q hq e => by have : q = t := e; omega))
     have hBE := hB7.trans (HKE.out.below hB7.size (fun q hq e => by have : q = z := e; omega))
     obtain ⟨j1, j2⟩ := HNT.out wE hBE
     exact ⟨_, rfl, kc1.signed ho j1 j2 i1 i2 i3, hBE⟩
end Go.Proofs.YtknpbekoenbphaaGreatDoor
namespace Go.Proofs.YtknpbekoenbphaaGreatDoor
open Go Go.RowKit Licit
open Go.ChangeShapes Go.WideShapes Go.ChangeAt
open Go.ChangeMaps (open_string)
section
variable {H : Type} {enc : TypeId × Value → H} {P : Program} {W : World} {base : Nat} {sp : Nat → Bool} {held : Bool} {r : Reach} {b0 : Nat} {v : Value} {d : DataW H} {ps : List MemPlace}
theorem k02 (hval : Value.okWide Tryz.prog W r b0 41 v) (hd : DataW.Trod enc Tryz.prog W base sp held 41 v d ps) : ∃ b h : Int, v = .agg #[.int .i64 b, .int .i64 h] := by
 obtain ⟨v0, v1, y0, y1, n, rfl, _, _, h0, h1⟩ := Go.Joins.open_agg2 Tryz.underlying41 (by kernel_rfl) (by kernel_rfl) hval hd
 obtain ⟨b, hb, _, _⟩ := DataW.trod_int Tryz.underlying3 h0
 obtain ⟨h, hh, _, _⟩ := DataW.trod_int Tryz.underlying3 h1
 simp only [List.cons.injEq, and_true] at hb hh
 exact ⟨b, h, by rw [hb, hh]⟩
end
end Go.Proofs.YtknpbekoenbphaaGreatDoor
