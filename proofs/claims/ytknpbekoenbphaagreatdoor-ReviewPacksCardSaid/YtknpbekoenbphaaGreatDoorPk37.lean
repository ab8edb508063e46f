/- Parts of the proofs: WkRvT. No condition beyond those at each theorem. -/
import Derived.Test.YtknpbekoenbphaaGreatDoorPk31
import Derived.Test.YtknpbekoenbphaaGreatDoorPk32
import Derived.Test.YtknpbekoenbphaaGreatDoorPk36
set_option linter.unusedVariables false
set_option linter.unusedSimpArgs false
set_option maxHeartbeats 16000000
set_option maxRecDepth 100000
namespace Go.Proofs.YtknpbekoenbphaaGreatDoor
open Go Go.RowKit Licit
theorem k3g {base : Nat} {v : Value} {xs : List Bs} {w : World} (h : w.ownsRow base 9 1 v xs.length (xs.map vS)) : v.oneCell' = true := by
 obtain ⟨_, _, rfl⟩ := kah h; rfl
theorem kqj {i : Int} {vs vh vr : Value} (h1 : vs.oneCell' = true) (h2 : vh.oneCell' = true) (h3 : vr.oneCell' = true) : (#[.int .i64 i, vs, vh, vr] : Array Value).all (·.oneCell') = true := by
 simp only [List.all_toArray, List.all_cons, List.all_nil, h1, h2, h3]
 rfl
def k0l (g : Rv.Sg) : Bool := kbx g.i g.S g.H g.R
def kdz (g : Rv.Sg) : Bs := kfx g.i g.S g.H g.R
def pkB (e : Rv.Ev) : Bool := Rv.validB e && k0l e.sg
def pkS (e : Rv.Ev) : Bs := if pkB e = true then Rv.txs [Rv.encV e, kdz e.sg] else []
def pkF (e : Rv.Ev) : Int := if pkB e = true then 0 else 1
theorem knv {g : Rv.Sg} (h : k0l g = true) : (kdz g).length ≤ 1000000000 := by
 obtain ⟨k0, k1, k2, k3, k4, k5, k6, k7⟩ := kgc.1 h
 have x1 := kc4 k5 (by omega)
 have x2 := kc4 k6 (by omega)
 have x3 := kc4 k7 (by omega)
 have x0 := kmx g.i
 unfold kdz kfx
 simp only [List.length_append]
 omega
def upL (d : Bs) : List Bs × St := ka5 65536 (d, 0)
def upA (d : Bs) : Bool := decide (ka4 (upL d).2 = 0) && decide ((upL d).1.length = 2)
def upE (d : Bs) : Bs := (upL d).1.getD 0 []
def upG (d : Bs) : Bs := (upL d).1.getD 1 []
def ksx (d : Bs) : Rv.Sg := ⟨k3f (upG d), kp0 (upG d), kpz (upG d), decR (upG d)⟩
def upB (d : Bs) : Bool := upA d && (decide (vdF (upE d) = 0) && decide (kj4 (upG d) = 0))
def upV (d : Bs) : Rv.Ev := if upB d = true then { vdV (upE d) with sg := ksx d } else Rv.ev0
def upF (d : Bs) : Int := if upB d = true then 0 else 17
theorem kpt (d : Bs) : ∀ x ∈ (upL d).1, x.length ≤ 65536 := kek (most := 65536) _
theorem kl7 {l : List Bs} {n : Nat} (h : ∀ x ∈ l, x.length ≤ n) (i : Nat) : (l.getD i []).length ≤ n := by
 rw [List.getD_eq_getElem?_getD]
 cases hx : l[i]? with
 | none => simp
 | some x => exact h x (List.mem_of_getElem? hx)
theorem kth (v : Value) (e : Rv.Ev) (w : World) (h : kc1 v e w) (ht : Tab w) : Calls Tryz.prog 45 #[v] w fun en w' => en = .returned (.tuple #[.string (B (pkS e)), .int .i64 (pkF e)]) ∧ Below w.heap.size w w' := by
 have hq := fun (W : World) (hb : Below w.heap.size w W) => khn v e W (h.below hb) (ht.same hb)
 obtain ⟨ho, na, nc, ta, tc, sa, sc, ha, hc, ra, rc, rfl, h1, h2, h3, h4, h5⟩ := h
 have hg := fun (W : World) (hb : Below w.heap.size w W) => ksj (.agg #[.int .i64 e.sg.i, .slice sa e.sg.S.length sc, .slice ha e.sg.H.length hc, .slice ra e.sg.R.length rc]) e.sg.i e.sg.S e.sg.H e.sg.R W ⟨_, _, _, rfl, h3.below hb, h4.below hb, h5.below hb⟩ (ht.same hb)
 have HB1 := hdd (show Below w.heap.size w (w.alloc (.cells (evS e na nc ta tc sa sc ha hc ra rc) 45)) from (Below.refl _ _).alloc (Nat.le_refl _) _)
 have HE1 := hdd (kak w (.cells (evS e na nc ta tc sa sc ha hc ra rc) 45))
 have HTab := hdd ht
 clear ht
 obtain ⟨f, hf⟩ : ∃ f, Rv.validE e = f := ⟨_, rfl⟩
 obtain ⟨g, hgf⟩ : ∃ g, encE e.sg.i e.sg.S e.sg.H e.sg.R = g := ⟨_, rfl⟩
 obtain ⟨X, hX⟩ : ∃ X, Rv.encE e = X := ⟨_, rfl⟩
 obtain ⟨Y, hY⟩ : ∃ Y, kyq e.sg.i e.sg.S e.sg.H e.sg.R = Y := ⟨_, rfl⟩
 rw [hf, hX] at hq
 rw [hgf, hY] at hg
 have HQ := hdd hq
 have HG := hdd hg
 have hcase : (pkB e = false ∧ f = 1 ∧ (g = 0 ∨ g = 1)) ∨ (pkB e = false ∧ f = 0 ∧ g = 1) ∨ (pkB e = true ∧ f = 0 ∧ g = 0 ∧ X = Rv.encV e ∧ Y = kdz e.sg ∧ X.length ≤ 1000000000 ∧ Y.length ≤ 1000000000) := by
  have hl := kh1 e
  unfold pkB
  rw [← hf, ← hgf, ← hX, ← hY]
  unfold Rv.validE encE Rv.encE kyq
  cases hv : Rv.validB e with
  | false => refine .inl ⟨rfl, rfl, ?_⟩; split <;> simp
  | true =>
    cases hs : k0l e.sg with
    | false => exact .inr (.inl ⟨rfl, rfl, by rw [if_neg (by rw [show kbx e.sg.i e.sg.S e.sg.H e.sg.R = false from hs]; simp)]⟩)
    | true =>
      refine .inr (.inr ⟨rfl, rfl, ?_, rfl, ?_, hl, ?_⟩)
      · rw [if_pos (show kbx e.sg.i e.sg.S e.sg.H e.sg.R = true from hs)]
      · rw [if_pos (show kbx e.sg.i e.sg.S e.sg.H e.sg.R = true from hs)]; rfl
      · rw [if_pos (show kbx e.sg.i e.sg.S e.sg.H e.sg.R = true from hs)]; exact knv hs
 clear hf hgf hX hY hq hg h1 h2 h3 h4 h5
 go_enter Tryz.func45, Tryz.ntmps45
 go_upto_region 2 with (first
  | (refine k3e 9 rfl ?_; refine wpList_load_row rfl 45 _ rfl w.heap.size rfl 45 (evS e na nc ta tc sa sc ha hc ra rc) (0, 0) _ HE1.out rfl rfl (by kernel_rfl) ?_)
  | (go_at_call 35; refine (HQ.out _ HB1.out).mono ?_
     rintro en w2 ⟨rfl, hb⟩
     have HB2 := hdd (HB1.out.next hb)
     have HE2 := bhh hb HE1
     clear hb)
  | fail)
 obtain ⟨-, -, -, -, -, -, -, -, -, -, -, -, -, -, e14, e15, e16, e17⟩ := ka6 HE2.out
 go_upto_region 3 with (first
  | (go_at_call 108; refine (HG.out _ HB2.out).mono ?_
     rintro en w3 ⟨rfl, hb⟩
     have HB3 := hdd (HB2.out.next hb)
     clear hb e14 e15 e16 e17)
  | fail)
 rcases hcase with ⟨hp, rfl, hg01⟩ | ⟨hp, rfl, rfl⟩ | ⟨hp, rfl, rfl, rfl, rfl, lx, ly⟩
 · have HP := hdd hp
   clear hp
   rcases hg01 with rfl | rfl
   · go_wp2
     go_ret2
     unfold pkS pkF
     rw [HP.out]
     exact ⟨rfl, HB3.out⟩
   · go_wp2
     go_ret2
     unfold pkS pkF
     rw [HP.out]
     exact ⟨rfl, HB3.out⟩
 · have HP := hdd hp
   clear hp
   go_wp2
   go_ret2
   unfold pkS pkF
   rw [HP.out]
   exact ⟨rfl, HB3.out⟩
 · have hS : pkS e = Rv.txs [Rv.encV e, kdz e.sg] ∧ pkF e = 0 := by unfold pkS pkF; rw [hp]; exact ⟨rfl, rfl⟩
   have HS := hdd hS
   clear hp hS
   generalize Rv.encV e = X at *
   generalize kdz e.sg = Y at *
   go_wp2_with fail
   have hb3 := (Below.refl w3.heap.size w3).alloc (Nat.le_refl _) (.cells #[.string (B X), .string (B Y)] 9)
   have hsl : IsSl (.slice (some ⟨w3.heap.size, 0, none⟩) 2 2) ([X, Y].map vS) (w3.alloc (.cells #[.string (B X), .string (B Y)] 9)) :=
    IsSl.of_owns (base := 0) (kc3 (n := 2) (kak w3 (.cells #[.string (B X), .string (B Y)] 9)) (Nat.zero_le _) rfl (by unfold maxLen; omega)) (by simp [maxLen])
   refine (kjo _ [X, Y] _ hsl (by
    intro x hx
    simp only [List.mem_cons, List.not_mem_nil, or_false] at hx
    unfold maxLen
    rcases hx with rfl | rfl <;> omega) (HTab.out.same ((HB3.out.trans (hb3.mono HB3.out.size))))).mono ?_
   rintro en w4 ⟨rfl, hb⟩
   have HB4 := hdd (HB3.out.trans ((hb3.trans (hb.mono (by simp))).mono HB3.out.size))
   clear hb hb3 hsl
   go_wp2
   go_ret2
   rw [HS.out.1, HS.out.2]
   exact ⟨rfl, HB4.out⟩
theorem kno (d : Bs) (w : World) (hd : d.length ≤ 1000000000) : Calls Tryz.prog 43 #[.string (B d)] w fun en w' => ∃ v, en = .returned (.tuple #[v, .int .i64 (upF d)]) ∧ kc1 v (upV d) w' ∧ Below w.heap.size w w' := by
 obtain ⟨t, ht⟩ : ∃ t, w.heap.size = t := ⟨_, rfl⟩
 obtain ⟨r, hr⟩ : ∃ r, t + 1 = r := ⟨_, rfl⟩
 have C1 := hdd (fun (W : World) (h : Rdr r (B d) 0 W) => show Calls Tryz.prog 100 #[.pointer (some ⟨r, 0, none⟩), .int .i64 65536] W (fun en w' => ∃ v, en = .returned v ∧ w'.ownsRow W.heap.size 9 1 v (upL d).1.length ((upL d).1.map vS) ∧ Rdr r (B (upL d).2.1) (upL d).2.2 w' ∧ ka1 (Licit.One r) W w') from (kff r (B d) 0 65536 W h (by rw [kbt]; omega)).mono fun en w' ⟨v, h1, h2, h3, h4⟩ => ⟨v, h1, by rw [List.length_map] at h2; exact h2, h3, h4⟩)
 have C2 := hdd (fun (W : World) (h : Rdr r (B (upL d).2.1) (upL d).2.2 W) => show Calls Tryz.prog 101 #[.pointer (some ⟨r, 0, none⟩)] W (fun en w' => en = .returned (.int .i64 (ka4 (upL d).2)) ∧ W = w') from kj6 r _ _ W h)
 have C3 := hdd (fun (W : World) => kkb (upE d) W (by have := kl7 (kpt d) 0; unfold upE; omega))
 have C4 := hdd (fun (W : World) => ksd (upG d) W (by have := kl7 (kpt d) 1; unfold upG; omega))
 have hcnt := kb6 65536 ((d, 0) : St)
 have hW1 : ∀ W, W = (w.alloc (.cells evZ 45)).alloc (.cells #[.string (B d), .int .i64 0] 200) → Below w.heap.size w W ∧ W.heap[t]? = some (.cells evZ 45 (0, 0)) ∧ Rdr r (B d) 0 W := by
  rintro _ rfl
  subst hr
  subst ht
  exact ⟨((Below.refl _ _).alloc (Nat.le_refl _) _).alloc (by simp) _, kaq (kak _ _), kaj (by simp) rfl⟩
 go_enter Tryz.func43, Tryz.ntmps43
 go_upto_region 2 with (first | (go_at_call 97; refine (kfr (B d) _).mono ?_; rintro en w0 ⟨rfl, rfl⟩) | fail)
 show Code.wp _ _ _ _ ((w.alloc (.cells evZ 45)).alloc (.cells #[.string (B d), .int .i64 0] 200))
 have hr' : w.heap.size + 1 = r := by omega
 try simp only [hr', ht, World.size_alloc]
 generalize hw1 : (w.alloc (.cells evZ 45)).alloc (.cells #[.string (B d), .int .i64 0] 200) = w1
 obtain ⟨hb1, hT1, hR1⟩ := hW1 w1 hw1.symm
 have HB1 := hdd hb1
 have HT1 := hdd hT1
 have HR1 := hdd hR1
 have HBT := hdd (And.intro ht hr)
 have HN := hdd (show (upL d).1.length ≤ 1024 from hcnt)
 clear hW1 hw1 hb1 hT1 hR1 hr' ht hr hcnt
 go_upto_region 3 with (first
  | (go_at_call 100; refine (C1.out _ HR1.out).mono ?_
     rintro en w2 ⟨v2, rfl, hw, hA, hK⟩
     obtain ⟨a2, c2, hv2⟩ := kah hw
     have HL2 := hdd hw
     have HR2 := hdd hA
     have HT2 := hdd ((hK.block t (kac HT1.out) (fun e => by have : t = r := e; have := HBT.out; omega)).trans HT1.out)
     have HB2 := hdd (HB1.out.trans (hK.below HB1.out.size (fun q hq e => by have : q = r := e; have := HBT.out; omega)))
     clear hw hA hK)
  | fail)
 subst hv2
 have hsl := IsSl.of_owns (by rw [List.length_map]; exact HL2.out) (by rw [List.length_map]; have := HN.out; unfold maxLen; omega)
 have HSL := hdd hsl
 clear hsl
 have hd0 : upA d = (decide (ka4 (upL d).2 = 0) && decide ((upL d).1.length = 2)) := rfl
 by_cases hA : upA d = true
 rotate_left
 · have hF : upF d = 17 ∧ upV d = Rv.ev0 := by unfold upF upV upB; rw [Bool.not_eq_true] at hA; rw [hA]; exact ⟨rfl, rfl⟩
   have HF := hdd hF
   clear hF
   by_cases hc : ka4 (upL d).2 = 0
   · have hn : (upL d).1.length ≠ 2 := fun h => hA (by rw [hd0, hc, h]; rfl)
     obtain ⟨n, hnn⟩ : ∃ n, (upL d).1.length = n := ⟨_, rfl⟩
     rw [hnn] at hn
     have q1 : ((n : Int) != 2) = true := by simp; omega
     have q2 : ((n : Int) == 2) = false := by simp; omega
     rw [hc] at C2
     have hnI : (((upL d).1.length : Nat) : Int) = (n : Int) := by rw [hnn]
     clear hA hd0 hc hn
     rw [hnn]
     clear hnn hnI
     go_wp2_with (first
      | (go_at_call 101; refine (C2.out _ HR2.out).mono ?_; rintro en w3 ⟨rfl, rfl⟩)
      | (refine kaa rfl 45 _ _ rfl t rfl evZ rfl 45 evZ HT2.out (by kernel_rfl) rfl (kax _ _ _ _ _ _ rfl rfl rfl rfl rfl) ?_
         intro wE hwE hkE
         have HWE := hdd hwE
         have HBE := hdd (HB2.out.trans (hkE.below HB2.out.size (fun q hq e => by have : q = t := e; have := HBT.out; omega)))
         clear hwE hkE)
      | fail)
     refine kam rfl t 45 _ (0, 0) _ rfl HWE.out rfl rfl (by kernel_rfl) rfl ?_
     rw [HF.out.1, HF.out.2]
     exact ⟨_, rfl, kcf _, HBE.out⟩
   · have d1 : (ka4 (upL d).2 == 0) = false := beq_eq_false_iff_ne.2 hc
     have d2 : (ka4 (upL d).2 != 0) = true := by rw [bne, d1]; rfl
     clear hA hd0 hc
     go_wp2_with (first
      | (go_at_call 101; refine (C2.out _ HR2.out).mono ?_; rintro en w3 ⟨rfl, rfl⟩)
      | (refine kaa rfl 45 _ _ rfl t rfl evZ rfl 45 evZ HT2.out (by kernel_rfl) rfl (kax _ _ _ _ _ _ rfl rfl rfl rfl rfl) ?_
         intro wE hwE hkE
         have HWE := hdd hwE
         have HBE := hdd (HB2.out.trans (hkE.below HB2.out.size (fun q hq e => by have : q = t := e; have := HBT.out; omega)))
         clear hwE hkE)
      | fail)
     refine kam rfl t 45 _ (0, 0) _ rfl HWE.out rfl rfl (by kernel_rfl) rfl ?_
     rw [HF.out.1, HF.out.2]
     exact ⟨_, rfl, kcf _, HBE.out⟩
 · have hA' := hA
   rw [hd0, Bool.and_eq_true, decide_eq_true_eq, decide_eq_true_eq] at hA'
   obtain ⟨hc, hn⟩ := hA'
   obtain ⟨b2, o2, k2, hv, hb2, hc0⟩ := HSL.out.text rfl (show 0 < (upL d).1.length by omega)
   obtain ⟨b3, o3, k3, hv3, -, hc1⟩ := HSL.out.text rfl (show 1 < (upL d).1.length by omega)
   simp only [Value.slice.injEq, true_and] at hv hv3
   obtain ⟨rfl, rfl⟩ := hv
   obtain ⟨h3, -⟩ := hv3
   simp only [Option.some.injEq, Addr.mk.injEq, and_true] at h3
   obtain ⟨rfl, rfl⟩ := h3
   rw [show (upL d).1.getD 0 [] = upE d from rfl, Nat.add_zero] at hc0
   rw [show (upL d).1.getD 1 [] = upG d from rfl] at hc1
   rw [hc] at C2
   rw [hn]
   have HA := hdd hA
   have HC1 := hdd (show ∀ W, Below w2.heap.size w2 W → W.cell? ⟨b2, o2 + 1, none⟩ = some (.string (B (upG d))) from fun W hb => (hb.cell (p := ⟨b2, o2 + 1, none⟩) hb2).trans hc1)
   clear hA hd0 hc hn C1 hc1
   go_upto_region 5 with (first
    | (go_at_call 101; refine (C2.out _ HR2.out).mono ?_; rintro en w3 ⟨rfl, rfl⟩)
    | fail)
   go_upto_region 6 with (first
    | (go_at_call 41; refine (C3.out _).mono ?_
       rintro en w3 ⟨v3, rfl, hi, hb⟩
       have hform := hi w3 (fun _ _ _ => rfl)
       obtain ⟨hok3, nb, mb, tb, ub, sb, xb, hb', yb, rb, zb, rfl, -⟩ := hform
       have HI3 := hdd hi
       have HOK3 := hdd hok3
       have HBn3 := hdd hb
       have HB3 := hdd (HB2.out.next hb)
       have HT3 := bhh hb HT2
       clear hi hb hok3)
    | (refine kaa rfl 45 _ _ rfl w3.heap.size rfl (evC (vdV (upE d)) (.slice nb (vdV (upE d)).names.length mb) (.slice tb (vdV (upE d)).targets.length ub) (.slice sb (vdV (upE d)).sg.S.length xb) (.slice hb' (vdV (upE d)).sg.H.length yb) (.slice rb (vdV (upE d)).sg.R.length zb)) rfl 45 evZ (kaj rfl rfl) (by kernel_rfl) rfl (kax _ _ _ _ _ _ rfl rfl rfl rfl rfl) ?_
       intro w4 hw hk
       have HX4 := hdd hw
       have HBn4 := hdd (show Below w3.heap.size w3 w4 from ((Below.refl _ _).alloc (Nat.le_refl _) _).trans (hk.below (B := w3.heap.size) (by simp) (fun q hq e => by have : q = w3.heap.size := e; omega)))
       have HB4 := hdd (HB3.out.next HBn4.out)
       have HT4 := bhh HBn4.out HT3
       clear hw hk hc0)
    | fail)
   obtain ⟨x, hx⟩ : ∃ x, w3.heap.size = x := ⟨_, rfl⟩
   rw [hx] at HX4
   have HXX := hdd (And.intro hx (show t < x from by have := kac HT3.out; omega))
   try simp only [hx]
   clear hx
   have hc1 := HC1.out w4 (HBn3.out.next HBn4.out)
   go_upto_region 7 with (first
    | (go_at_call 106; refine (C4.out _).mono ?_
       rintro en w5 ⟨v5, rfl, hi, hb⟩
       have HI5 := hdd hi
       obtain ⟨vs, vh, vr, rfl, i1, i2, i3⟩ := hi
       have HOs := hdd (And.intro (k3g i1) (And.intro (k3g i2) (k3g i3)))
       have HOne := hdd (kqj (i := k3f (upG d)) HOs.out.1 HOs.out.2.1 HOs.out.2.2)
       have HBn5 := hdd hb
       have HB5 := hdd (HB4.out.next hb)
       have HX5 := bhh hb HX4
       have HT5 := bhh hb HT4
       clear hb hc1 i1 i2 i3)
    | (refine kaa rfl 43 _ _ rfl w5.heap.size rfl #[.int .i64 (k3f (upG d)), vs, vh, vr] rfl 43 sgZ (kaj rfl rfl) (by kernel_rfl) rfl HOne.out ?_
       intro w6 hw hk
       have HG6 := hdd hw
       have HBn6 := hdd (show Below w5.heap.size w5 w6 from ((Below.refl _ _).alloc (Nat.le_refl _) _).trans (hk.below (B := w5.heap.size) (by simp) (fun q hq e => by have : q = w5.heap.size := e; omega)))
       have HB6 := hdd (HB5.out.next HBn6.out)
       have HX6 := bhh HBn6.out HX5
       have HT6 := bhh HBn6.out HT5
       clear hw hk)
    | fail)
   obtain ⟨y, hy⟩ : ∃ y, w5.heap.size = y := ⟨_, rfl⟩
   rw [hy] at HG6
   have HYY := hdd hy
   try simp only [hy]
   clear hy
   obtain ⟨F, hF⟩ : ∃ F, vdF (upE d) = F := ⟨_, rfl⟩
   obtain ⟨G, hG⟩ : ∃ G, kj4 (upG d) = G := ⟨_, rfl⟩
   have hcase : (upB d = false ∧ F = 17 ∧ (G = 0 ∨ G = 17)) ∨ (upB d = false ∧ F = 0 ∧ G = 17) ∨ (upB d = true ∧ F = 0 ∧ G = 0) := by
    have hF2 : F = 0 ∨ F = 17 := by rw [← hF]; unfold vdF; split <;> simp
    have hG2 : G = 0 ∨ G = 17 := by rw [← hG]; unfold kj4; split <;> simp
    unfold upB
    rw [HA.out, hF, hG]
    rcases hF2 with rfl | rfl <;> rcases hG2 with rfl | rfl <;> simp
   rw [hF, hG]
   clear hF hG
   have hbad : ∀ (F G : Int), upB d = false → F = 17 ∨ G = 17 → (F = 0 ∨ F = 17) → (G = 0 ∨ G = 17) → upF d = 17 ∧ upV d = Rv.ev0 := by
    intro _ _ hB _ _ _
    unfold upF upV
    rw [hB]
    exact ⟨rfl, rfl⟩
   rcases hcase with ⟨hB, rfl, hG⟩ | ⟨hB, rfl, rfl⟩ | ⟨hB, rfl, rfl⟩
   · have HF := hdd (hbad 17 17 hB (.inl rfl) (.inr rfl) (.inr rfl))
     clear hbad hB
     rcases hG with rfl | rfl
     · go_wp2_with (first
        | (refine kaa rfl 45 _ _ rfl t rfl evZ rfl 45 evZ HT6.out (by kernel_rfl) rfl (kax _ _ _ _ _ _ rfl rfl rfl rfl rfl) ?_
           intro wE hwE hkE
           have HWE := hdd hwE
           have HBE := hdd (HB6.out.trans (hkE.below HB6.out.size (fun q hq e => by have : q = t := e; have := HBT.out; omega)))
           clear hwE hkE)
        | fail)
       refine kam rfl t 45 _ (0, 0) _ rfl HWE.out rfl rfl (by kernel_rfl) rfl ?_
       rw [HF.out.1, HF.out.2]
       exact ⟨_, rfl, kcf _, HBE.out⟩
     · go_wp2_with (first
        | (refine kaa rfl 45 _ _ rfl t rfl evZ rfl 45 evZ HT6.out (by kernel_rfl) rfl (kax _ _ _ _ _ _ rfl rfl rfl rfl rfl) ?_
           intro wE hwE hkE
           have HWE := hdd hwE
           have HBE := hdd (HB6.out.trans (hkE.below HB6.out.size (fun q hq e => by have : q = t := e; have := HBT.out; omega)))
           clear hwE hkE)
        | fail)
       refine kam rfl t 45 _ (0, 0) _ rfl HWE.out rfl rfl (by kernel_rfl) rfl ?_
       rw [HF.out.1, HF.out.2]
       exact ⟨_, rfl, kcf _, HBE.out⟩
   · have HF := hdd (hbad 17 17 hB (.inl rfl) (.inr rfl) (.inr rfl))
     clear hbad hB
     go_wp2_with (first
      | (refine kaa rfl 45 _ _ rfl t rfl evZ rfl 45 evZ HT6.out (by kernel_rfl) rfl (kax _ _ _ _ _ _ rfl rfl rfl rfl rfl) ?_
         intro wE hwE hkE
         have HWE := hdd hwE
         have HBE := hdd (HB6.out.trans (hkE.below HB6.out.size (fun q hq e => by have : q = t := e; have := HBT.out; omega)))
         clear hwE hkE)
      | fail)
     refine kam rfl t 45 _ (0, 0) _ rfl HWE.out rfl rfl (by kernel_rfl) rfl ?_
     rw [HF.out.1, HF.out.2]
     exact ⟨_, rfl, kcf _, HBE.out⟩
   · have HF := hdd (show upF d = 0 ∧ upV d = { vdV (upE d) with sg := ksx d } by unfold upF upV; rw [hB]; exact ⟨rfl, rfl⟩)
     clear hbad hB
     obtain ⟨g0, g1, g2, g3⟩ := kf1 HG6.out
     go_wp2_with (first
      | (refine kby rfl 43 _ _ rfl x 14 #[.int .i64 (k3f (upG d)), vs, vh, vr] rfl rfl _ 45 HX6.out (by simp) (by kernel_rfl) HOne.out ?_
         intro w7 hw hk
         have HX7 := hdd (show w7.heap[x]? = some (.cells (evC { vdV (upE d) with sg := ksx d } (.slice nb (vdV (upE d)).names.length mb) (.slice tb (vdV (upE d)).targets.length ub) vs vh vr) 45 (0, 0)) from hw)
         have HK7 := hdd hk
         have HT7 := hdd ((hk.block t (kac HT6.out) (fun e => by have : t = x := e; have := HXX.out; omega)).trans HT6.out)
         clear hw hk g0 g1 g2 g3)
      | (refine k3e 46 rfl ?_; refine wpList_load_row rfl 45 _ rfl x rfl 45 (evC { vdV (upE d) with sg := ksx d } (.slice nb (vdV (upE d)).names.length mb) (.slice tb (vdV (upE d)).targets.length ub) vs vh vr) (0, 0) _ HX7.out rfl rfl (by kernel_rfl) ?_)
      | (refine kaa rfl 45 _ _ rfl t rfl (evC { vdV (upE d) with sg := ksx d } (.slice nb (vdV (upE d)).names.length mb) (.slice tb (vdV (upE d)).targets.length ub) vs vh vr) rfl 45 evZ HT7.out (by kernel_rfl) rfl (kax _ _ _ _ _ _ rfl rfl HOs.out.1 HOs.out.2.1 HOs.out.2.2) ?_
         intro wE hwE hkE
         have HWE := hdd hwE
         have HKE := hdd hkE
         clear hwE hkE)
      | fail)
     refine kam rfl t 45 _ (0, 0) _ rfl HWE.out rfl rfl (by kernel_rfl) rfl ?_
     rw [HF.out.1, HF.out.2]
     obtain ⟨q1, q2⟩ := HBT.out
     obtain ⟨q6, q7⟩ := HXX.out
     have q8 := HYY.out
     have s3 := HBn3.out.size
     have s4 := HBn4.out.size
     have s5 := HBn5.out.size
     have s6 := HBn6.out.size
     have lt2 := kac HT2.out
     have lx4 := kac HX4.out
     have keep : ∀ q, q ≠ x → q ≠ t → q < w6.heap.size → wE.heap[q]? = w6.heap[q]? := fun q h1 h2 h3 => (HKE.out.block q (Nat.lt_of_lt_of_le h3 HK7.out.size) (fun e => h2 e)).trans (HK7.out.block q h3 (fun e => h1 e))
     have hI3 := HI3.out wE (fun q h1 h2 => by
      rw [keep q (by omega) (by omega) (by omega), HBn6.out.block q (by omega), HBn5.out.block q (by omega), HBn4.out.block q h2])
     obtain ⟨-, nb', mb', tb', ub', sb', xb', hb'', yb', rb', zb', hev, j1, j2, -⟩ := hI3
     simp only [evW, evS, evV, evC, Value.agg.injEq, Array.mk.injEq, List.cons.injEq, Value.slice.injEq, and_true, true_and] at hev
     obtain ⟨⟨rfl, rfl⟩, ⟨rfl, rfl⟩, -⟩ := hev
     have hI5 := (HI5.out.keep (w' := wE) (fun q h1 h2 => by
      rw [keep q (by omega) (by omega) (by omega), HBn6.out.block q (by omega)])).is (kis _).1 (kis _).2.1 (kis _).2.2
     obtain ⟨vs', vh', vr', hev2, i1, i2, i3⟩ := hI5
     simp only [Value.agg.injEq, Array.mk.injEq, List.cons.injEq, and_true, true_and] at hev2
     obtain ⟨rfl, rfl, rfl⟩ := hev2
     have hB7 := HB6.out.trans (HK7.out.below HB6.out.size (fun q hq e => by have : q = x := e; omega))
     exact ⟨_, rfl, kc1.signed HOK3.out j1 j2 i1 i2 i3, hB7.trans (HKE.out.below hB7.size (fun q hq e => by have : q = t := e; omega))⟩
end Go.Proofs.YtknpbekoenbphaaGreatDoor
