/- Parts of the proofs: PlainSig, WkSigText, PlainLen, WkRvT. No condition beyond those at each theorem. -/
import Derived.Test.YtknpbekoenbphaaGreatDoorPk40
import Derived.Test.YtknpbekoenbphaaGreatDoorPk37
import Derived.Test.YtknpbekoenbphaaGreatDoorPk39
set_option linter.unusedVariables false
set_option linter.unusedSimpArgs false
set_option maxHeartbeats 16000000
set_option maxRecDepth 100000
namespace Licit
theorem ksu {i : Int} (h0 : 0 ≤ i) (h1 : i < 64) : Good (ka3 0 63) (ke2 i).1 i := kct h0 (by omega) h0 (by omega)
theorem kx6 {i : Int} {S H R : List Bs} (h : kbx i S H R = true) : ∃ d1 d2 d3 : Bs,
 ka3 0 63 (kfx i S H R, 0) = (i, (d1, 0)) ∧ ka5 32 (d1, 0) = (S, (d2, 0)) ∧ ka5 32 (d2, 0) = (H, (d3, 0)) ∧ ka5 32 (d3, 0) = (R, ([], 0)) := by
 obtain ⟨a, b, c, d, e, f, g, k⟩ := kgc.1 h
 refine ⟨(ka7 kar S).1 ++ ((ka7 kar H).1 ++ ((ka7 kar R).1 ++ [])), (ka7 kar H).1 ++ ((ka7 kar R).1 ++ []), (ka7 kar R).1 ++ [], ?_, (kdi f (by omega)).1.back _, (kdi g (by omega)).1.back _, (kdi k (by omega)).1.back _⟩
 rw [← (ksu a b).back ((ka7 kar S).1 ++ ((ka7 kar H).1 ++ ((ka7 kar R).1 ++ [])))]
 unfold kfx num
 simp only [List.append_assoc, List.append_nil]
end Licit
namespace Go.Proofs.YtknpbekoenbphaaGreatDoor
open Go Go.RowKit Licit
theorem kpe (v : Value) (i : Int) (S H R : List Bs) (w : World) (h : kec v i S H R w) :
 Calls Tryz.prog 109 #[v] w fun e w' => e = .returned (.tuple #[.string (B (kyq i S H R)), .int .i64 (encE i S H R)]) ∧ Below w.heap.size w w' := by
 have hB1 : Below w.heap.size w (w.alloc (.cells v.cells 43)) := (Below.refl _ _).alloc (Nat.le_refl _) _
 have hF := knd v i S H R _ (h.below hB1)
 have h1 := h.below hB1
 obtain ⟨vs, vh, vr, rfl, hS, hH, hR⟩ := h
 obtain ⟨sa, sc, rfl⟩ := hS.formMap
 obtain ⟨ha, hc, rfl⟩ := hH.formMap
 obtain ⟨ra, rc, rfl⟩ := hR.formMap
 have hcs : (Value.agg #[.int .i64 i, .slice sa S.length sc, .slice ha H.length hc, .slice ra R.length rc]).cells = #[.int .i64 i, .slice sa S.length sc, .slice ha H.length hc, .slice ra R.length rc] := rfl
 rw [hcs] at hF hB1 h1
 have H1 := hdd h1
 have HB1 := hdd hB1
 clear hS hH hR h1 hB1 hcs
 unfold kyq encE
 cases hk : kbx i S H R with
 | false =>
   rw [hk] at hF
   have HF := hdd hF
   clear hF hk
   go_enter Tryz.func109, Tryz.ntmps109
   go_wp2_with fail
   refine HF.out.mono ?_
   rintro e w2 ⟨rfl, hb⟩
   have Hb := hdd hb
   clear hb
   go_wp2
   go_ret2
   exact ⟨rfl, HB1.out.next Hb.out⟩
 | true =>
   rw [hk] at hF
   have HF := hdd hF
   obtain ⟨k0, k1, k2, k3, k4, k5, k6, k7⟩ := kgc.1 hk
   have x1 := kc4 k5 (by omega)
   have x2 := kc4 k6 (by omega)
   have x3 := kc4 k7 (by omega)
   have x0 := kmx i
   have y0 : (B (num i)).size = (num i).length := rfl
   have y1 : (B (ka7 kar S).1).size = (ka7 kar S).1.length := rfl
   have y2 : (B (ka7 kar H).1).size = (ka7 kar H).1.length := rfl
   have y3 : (B (ka7 kar R).1).size = (ka7 kar R).1.length := rfl
   have HlS := hdd (show ∀ x ∈ S, x.length ≤ maxLen from fun x m => kgw (kch k5 x m))
   have HlH := hdd (show ∀ x ∈ H, x.length ≤ maxLen from fun x m => kgw (kch k6 x m))
   have HlR := hdd (show ∀ x ∈ R, x.length ≤ maxLen from fun x m => kgw (kch k7 x m))
   clear hF hk k0 k1 k2 k3 k4 k5 k6 k7
   go_enter Tryz.func109, Tryz.ntmps109
   go_wp2_with fail
   refine HF.out.mono ?_
   rintro e w2 ⟨rfl, hb⟩
   have hk2 : w2.heap[w.heap.size]? = some (.cells #[.int .i64 i, .slice sa S.length sc, .slice ha H.length hc, .slice ra R.length rc] 43) := (hb.block _ (by simp)).trans (kak _ _)
   have Hk2 := hdd hk2
   have HB2 := hdd (HB1.out.next hb)
   have H2 := hdd (H1.out.below hb)
   obtain ⟨c0, c1, c2, c3⟩ := kf1 hk2
   clear hb hk2
   obtain ⟨vs, vh, vr, e, o1, o2, o3⟩ := H2.out
   simp only [Value.agg.injEq, Array.mk.injEq, List.cons.injEq, and_true, true_and] at e
   obtain ⟨rfl, rfl, rfl⟩ := e
   have O1 := hdd o1
   have O2 := hdd o2
   have O3 := hdd o3
   clear o1 o2 o3
   go_wp2_with fail
   refine (kc2 _ S _ O1.out HlS.out).mono ?_
   rintro e w3 ⟨rfl, hb⟩
   have Hk3 := hdd ((hb.block _ (kac Hk2.out)).trans Hk2.out)
   have HB3 := hdd (HB2.out.next hb)
   have O23 := hdd (O2.out.below hb)
   have O33 := hdd (O3.out.below hb)
   clear hb c0 c1 c2 c3
   obtain ⟨c0, c1, c2, c3⟩ := kf1 Hk3.out
   go_wp2_with fail
   refine (kc2 _ H _ O23.out HlH.out).mono ?_
   rintro e w4 ⟨rfl, hb⟩
   have Hk4 := hdd ((hb.block _ (kac Hk3.out)).trans Hk3.out)
   have HB4 := hdd (HB3.out.next hb)
   have O34 := hdd (O33.out.below hb)
   clear hb c0 c1 c2 c3
   obtain ⟨c0, c1, c2, c3⟩ := kf1 Hk4.out
   go_wp2_with fail
   refine (kc2 _ R _ O34.out HlR.out).mono ?_
   rintro e w5 ⟨rfl, hb⟩
   have Hk5 := hdd ((hb.block _ (kac Hk4.out)).trans Hk4.out)
   have HB5 := hdd (HB4.out.next hb)
   clear hb c0 c1 c2 c3
   obtain ⟨c0, c1, c2, c3⟩ := kf1 Hk5.out
   go_wp2_with fail
   refine (kmv i _).mono ?_
   rintro e w6 ⟨rfl, hb⟩
   have HB6 := hdd (HB5.out.next hb)
   clear hb c0 c1 c2 c3
   go_wp2
   go_ret2
   exact ⟨by unfold kfx; rw [← ka9, ← ka9, ← ka9]; rfl, HB6.out⟩
end Go.Proofs.YtknpbekoenbphaaGreatDoor
namespace Licit.Rv
open Go Licit
theorem kq4 : ∀ (k u : Nat), u < 10 ^ (k + 1) → (Go.Lib.decDigits u).length ≤ k + 1
 | 0, u, h => by rw [kru (by simpa using h)]; simp
 | k + 1, u, h => by
   by_cases c : u < 10
   · rw [kru c]; simp
   · rw [kwh c, List.length_append]
     have := kq4 k (u / 10) (by rw [Nat.pow_succ] at h; omega)
     simp only [List.length_singleton]; omega
theorem ke4 {n : Int} (h1 : n ≤ 9999) : (num n).length ≤ 5 := by
 unfold num ke2
 split
 · simp
 · have := kq4 3 n.toNat (by have : (10 : Nat) ^ (3 + 1) = 10000 := (by decide); omega)
   simp only [List.length_append, List.length_singleton]; omega
theorem ker {s : Bs} (h : s.length ≤ 9999) : (tx s).length ≤ s.length + 6 := by
 unfold tx kar
 rw [if_neg (by omega)]
 have := kq4 3 s.length (by have : (10 : Nat) ^ (3 + 1) = 10000 := (by decide); omega)
 simp only [List.length_append, List.length_singleton]; omega
theorem klm {c : Nat} : ∀ {l : List Bs}, (∀ x ∈ l, x.length ≤ c) → l.flatten.length ≤ l.length * c
 | [], _ => by simp
 | x :: l, h => by
   have h1 := h x (by simp)
   have h2 := klm (l := l) fun y hy => h y (by simp [hy])
   rw [List.flatten_cons, List.length_append, List.length_cons, Nat.add_mul]; omega
theorem kgd {l : List Bs} (h : ∀ x ∈ l, x.length = 32) (hl : l.length ≤ 1024) : (txs l).length ≤ 5 + l.length * 38 := by
 have he : ∀ x ∈ l, (kar x).2 = 0 := fun x m => by unfold kar; rw [if_neg (by rw [h x m]; omega)]
 have h2 : ka7 kar l = ((Go.Lib.decDigits l.length ++ [59]) ++ (l.map fun x => (kar x).1).flatten, 0) := by
  unfold ka7
  rw [if_neg (by omega), kh4 _ _ _ he]
 unfold txs
 rw [h2]
 have h3 := kq4 3 l.length (by have : (10 : Nat) ^ (3 + 1) = 10000 := (by decide); omega)
 have h4 := klm (c := 38) (l := l.map fun x => (kar x).1) (by
  intro y hy
  obtain ⟨x, hx, rfl⟩ := List.mem_map.1 hy
  have := ker (s := x) (by rw [h x hx]; omega)
  rw [h x hx] at this
  exact this)
 rw [List.length_map] at h4
 simp only [List.length_append, List.length_singleton]; omega
theorem encV_fits {e : Ev} (h : validB e = true) : (encV e).length ≤ 65536 := by
 have I := valid_in h
 have h1 := ke4 (n := e.kind) (by have := I.k5; omega)
 have h2 := ker (s := e.author) (by have := I.author; omega)
 have h3 := ke4 (n := e.number) (by have := I.n1; omega)
 have h4 := kgd I.named (by have := I.names; omega)
 have h5 := ker (s := e.root) (by have := I.root; omega)
 have h6 := ke4 (n := e.bits) (by have := I.b1; omega)
 have h7 := ke4 (n := e.height) (by have := I.h1; omega)
 have h8 := ker (s := e.pkg) (by have := I.pkg; omega)
 have h9 := ker (s := e.digest) (by have := I.digest; omega)
 have h10 := ker (s := e.question) (by have := I.question; omega)
 have h11 := ker (s := e.scope) (by have := I.scope; omega)
 have h12 := ker (s := e.answer) (by have := I.answer; omega)
 have h13 := ke4 (n := e.till) (by have := I.t1; omega)
 have h14 := kgd I.aimed (by have := I.aims; omega)
 have := I.author
 have := I.names
 have := I.root
 have := I.pkg
 have := I.digest
 have := I.question
 have := I.scope
 have := I.answer
 have := I.aims
 unfold encV
 simp only [List.length_append]
 omega
theorem sig_fits {i : Int} {S H R : List Bs} (h : kbx i S H R = true) : (kfx i S H R).length ≤ 65536 := by
 obtain ⟨k0, k1, k2, k3, k4, k5, k6, k7⟩ := kgc.1 h
 have x0 := ke4 (n := i) (by omega)
 have x1 := kgd (kch k5) (by omega)
 have x2 := kgd (kch k6) (by omega)
 have x3 := kgd (kch k7) (by omega)
 unfold txs at x1 x2 x3
 unfold kfx
 simp only [List.length_append]
 omega
end Licit.Rv
namespace Go.Proofs.YtknpbekoenbphaaGreatDoor
open Go Go.RowKit Licit
theorem kwz (v : Value) (e : Rv.Ev) (w : World) (h : kc1 v e w) : Calls Tryz.prog 46 #[v] w fun en w' => en = .returned (.tuple #[.string (B (pkS e)), .int .i64 (pkF e)]) ∧ Below w.heap.size w w' := by
 have hq := fun (W : World) (hb : Below w.heap.size w W) => kie v e W (h.below hb)
 obtain ⟨ho, na, nc, ta, tc, sa, sc, ha, hc, ra, rc, rfl, h1, h2, h3, h4, h5⟩ := h
 have hg := fun (W : World) (hb : Below w.heap.size w W) => kpe (.agg #[.int .i64 e.sg.i, .slice sa e.sg.S.length sc, .slice ha e.sg.H.length hc, .slice ra e.sg.R.length rc]) e.sg.i e.sg.S e.sg.H e.sg.R W ⟨_, _, _, rfl, h3.below hb, h4.below hb, h5.below hb⟩
 have HB1 := hdd (show Below w.heap.size w (w.alloc (.cells (evS e na nc ta tc sa sc ha hc ra rc) 45)) from (Below.refl _ _).alloc (Nat.le_refl _) _)
 have HE1 := hdd (kak w (.cells (evS e na nc ta tc sa sc ha hc ra rc) 45))
 obtain ⟨f, hf⟩ : ∃ f, Rv.validE e = f := ⟨_, rfl⟩
 obtain ⟨g, hgf⟩ : ∃ g, encE e.sg.i e.sg.S e.sg.H e.sg.R = g := ⟨_, rfl⟩
 obtain ⟨X, hX⟩ : ∃ X, Rv.encE e = X := ⟨_, rfl⟩
 obtain ⟨Y, hY⟩ : ∃ Y, kyq e.sg.i e.sg.S e.sg.H e.sg.R = Y := ⟨_, rfl⟩
 rw [hf, hX] at hq
 rw [hgf, hY] at hg
 have HQ := hdd hq
 have HG := hdd hg
 have hcase : (pkB e = false ∧ f = 1 ∧ (g = 0 ∨ g = 1)) ∨ (pkB e = false ∧ f = 0 ∧ g = 1) ∨ (pkB e = true ∧ f = 0 ∧ g = 0 ∧ X = Rv.encV e ∧ Y = kdz e.sg ∧ X.length ≤ 1000000000 ∧ Y.length ≤ 1000000000) := by
  have hl := kh1 e
  unfold pkB
  rw [← hf, ← hgf, ← hX, ← hY]
  unfold Rv.validE encE Rv.encE kyq
  cases hv : Rv.validB e with
  | false => refine .inl ⟨rfl, rfl, ?_⟩; split <;> simp
  | true =>
    cases hs : k0l e.sg with
    | false => exact .inr (.inl ⟨rfl, rfl, by rw [if_neg (by rw [show kbx e.sg.i e.sg.S e.sg.H e.sg.R = false from hs]; simp)]⟩)
    | true =>
      refine .inr (.inr ⟨rfl, rfl, ?_, rfl, ?_, hl, ?_⟩)
      · rw [if_pos (show kbx e.sg.i e.sg.S e.sg.H e.sg.R = true from hs)]
      · rw [if_pos (show kbx e.sg.i e.sg.S e.sg.H e.sg.R = true from hs)]; rfl
      · rw [if_pos (show kbx e.sg.i e.sg.S e.sg.H e.sg.R = true from hs)]; exact knv hs
 clear hf hgf hX hY hq hg h1 h2 h3 h4 h5
 go_enter Tryz.func46, Tryz.ntmps46
 go_upto_region 2 with (first
  | (refine k3e 9 rfl ?_; refine wpList_load_row rfl 45 _ rfl w.heap.size rfl 45 (evS e na nc ta tc sa sc ha hc ra rc) (0, 0) _ HE1.out rfl rfl (by kernel_rfl) ?_)
  | (go_at_call 36; refine (HQ.out _ HB1.out).mono ?_
     rintro en w2 ⟨rfl, hb⟩
     have HB2 := hdd (HB1.out.next hb)
     have HE2 := bhh hb HE1
     clear hb)
  | fail)
 obtain ⟨-, -, -, -, -, -, -, -, -, -, -, -, -, -, e14, e15, e16, e17⟩ := ka6 HE2.out
 go_upto_region 3 with (first
  | (go_at_call 109; refine (HG.out _ HB2.out).mono ?_
     rintro en w3 ⟨rfl, hb⟩
     have HB3 := hdd (HB2.out.next hb)
     clear hb e14 e15 e16 e17)
  | fail)
 rcases hcase with ⟨hp, rfl, hg01⟩ | ⟨hp, rfl, rfl⟩ | ⟨hp, rfl, rfl, rfl, rfl, lx, ly⟩
 · have HP := hdd hp
   clear hp
   rcases hg01 with rfl | rfl
   · go_wp2
     go_ret2
     unfold pkS pkF
     rw [HP.out]
     exact ⟨rfl, HB3.out⟩
   · go_wp2
     go_ret2
     unfold pkS pkF
     rw [HP.out]
     exact ⟨rfl, HB3.out⟩
 · have HP := hdd hp
   clear hp
   go_wp2
   go_ret2
   unfold pkS pkF
   rw [HP.out]
   exact ⟨rfl, HB3.out⟩
 · have hS : pkS e = Rv.txs [Rv.encV e, kdz e.sg] ∧ pkF e = 0 := by unfold pkS pkF; rw [hp]; exact ⟨rfl, rfl⟩
   have HS := hdd hS
   clear hp hS
   generalize Rv.encV e = X at *
   generalize kdz e.sg = Y at *
   go_wp2_with fail
   have hb3 := (Below.refl w3.heap.size w3).alloc (Nat.le_refl _) (.cells #[.string (B X), .string (B Y)] 9)
   have hsl : IsSl (.slice (some ⟨w3.heap.size, 0, none⟩) 2 2) ([X, Y].map vS) (w3.alloc (.cells #[.string (B X), .string (B Y)] 9)) :=
    IsSl.of_owns (base := 0) (kc3 (n := 2) (kak w3 (.cells #[.string (B X), .string (B Y)] 9)) (Nat.zero_le _) rfl (by unfold maxLen; omega)) (by simp [maxLen])
   refine (kmt _ [X, Y] _ hsl (by
    intro x hx
    simp only [List.mem_cons, List.not_mem_nil, or_false] at hx
    unfold maxLen
    rcases hx with rfl | rfl <;> omega)).mono ?_
   rintro en w4 ⟨rfl, hb⟩
   have HB4 := hdd (HB3.out.trans ((hb3.trans (hb.mono (by simp))).mono HB3.out.size))
   clear hb hb3 hsl
   go_wp2
   go_ret2
   rw [HS.out.1, HS.out.2]
   exact ⟨rfl, HB4.out⟩
theorem kz1 {g : Rv.Sg} (h : k0l g = true) : kj4 (kdz g) = 0 ∧ (⟨k3f (kdz g), kp0 (kdz g), kpz (kdz g), decR (kdz g)⟩ : Rv.Sg) = g := by
 obtain ⟨d1, d2, d3, h1, h2, h3, h4⟩ := kx6 h
 have e1 : kvo (kdz g) = (g.i, (d1, 0)) := h1
 have e2 : kvr (kdz g) = (g.S, (d2, 0)) := by unfold kvr; rw [e1]; exact h2
 have e3 : kvs (kdz g) = (g.H, (d3, 0)) := by unfold kvs; rw [e2]; exact h3
 have e4 : kvp (kdz g) = (g.R, ([], 0)) := by unfold kvp; rw [e3]; exact h4
 have hc : ka4 (([], 0) : St) = 0 := by decide
 have hok : kdn (kdz g) = true := by
  unfold kdn
  rw [e1, e2, e3, e4]
  simp only [Bool.and_eq_true, decide_eq_true_eq]
  exact ⟨hc, h⟩
 unfold kj4 k3f kp0 kpz decR
 rw [hok, e1, e2, e3, e4]
 exact ⟨rfl, rfl⟩
theorem kts {x : Bs} (h : x.length ≤ 65536) : (kar x).2 = 0 := by unfold kar; rw [if_neg (by omega)]
theorem kx2 {l : List Bs} (h : ∀ x ∈ l, x.length ≤ 65536) (hl : l.length ≤ 1024) : Licit.Good (ka5 65536) (Rv.txs l) l := by
 have he : ∀ x ∈ l, (kar x).2 = 0 := fun x m => kts (h x m)
 have h2 : ka7 kar l = ((Go.Lib.decDigits l.length ++ [59]) ++ (l.map fun x => (kar x).1).flatten, 0) := by
  unfold ka7
  rw [if_neg (by omega), kh4 _ _ _ he]
 have := kny (one := kao 65536) (enc := kar) hl (fun x m => kbu (h x m) (by have := h x m; omega))
 unfold Rv.txs
 rw [h2]
 have hn : (ke2 (l.length : Int)).1 = Go.Lib.decDigits l.length ++ [59] := by
  unfold ke2
  rw [if_neg (by omega)]
  simp
 rw [hn] at this
 exact this
theorem k2p {e : Rv.Ev} (h : pkF e = 0) : upF (pkS e) = 0 ∧ upV (pkS e) = e := by
 unfold pkF at h
 cases hp : pkB e with
 | false => rw [hp] at h; cases h
 | true =>
   have hS : pkS e = Rv.txs [Rv.encV e, kdz e.sg] := by unfold pkS; rw [hp]; rfl
   unfold pkB at hp
   rw [Bool.and_eq_true] at hp
   obtain ⟨hv, hs⟩ := hp
   have g := kx2 (l := [Rv.encV e, kdz e.sg]) (by
    intro x hx
    simp only [List.mem_cons, List.not_mem_nil, or_false] at hx
    rcases hx with rfl | rfl
    · exact Rv.encV_fits hv
    · exact Rv.sig_fits hs) (by simp)
   have hL : upL (pkS e) = ([Rv.encV e, kdz e.sg], ([], 0)) := by
    have := g.back []
    rw [List.append_nil] at this
    unfold upL
    rw [hS]
    exact this
   have hE : upE (pkS e) = Rv.encV e := by unfold upE; rw [hL]; rfl
   have hG : upG (pkS e) = kdz e.sg := by unfold upG; rw [hL]; rfl
   obtain ⟨d1, d2⟩ := kug hv
   obtain ⟨s1, s2⟩ := kz1 hs
   have hB : upB (pkS e) = true := by
    unfold upB upA
    rw [hE, hG, d1, s1, hL]
    rfl
   unfold upF upV ksx
   rw [hB, hE, hG, d2, s2]
   exact ⟨rfl, rfl⟩
end Go.Proofs.YtknpbekoenbphaaGreatDoor
