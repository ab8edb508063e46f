/- Check of the reference of lamport answers as the plain function does, where the signature fits the key. -/
import Derived.Test.YtdkjehagkmkokaaDoorWkRCheck
namespace Go.Proofs.YtdkjehagkmkokaaDoor
open Go Go.RowKit Licit

theorem RPub_drw (s : Bs) (hs : s.length ≤ maxLen) (W : World) : Calls Tryd.prog 41 #[.slice (some ⟨W.heap.size, 0, none⟩) 2 2] (W.alloc (.cells #[.string ⟨#[112, 117, 98, 108, 105, 99]⟩, .string (B s)] 9)).drew fun e w' => e = .returned (.string (B (pubB s))) ∧ Below W.heap.size W w' :=
  (RPub_built s hs W.drew).mono fun _ _ ⟨h1, h2⟩ => ⟨h1, undrew h2⟩

set_option maxHeartbeats 4000000 in
set_option maxRecDepth 100000 in
theorem RCheck_fit (root m : Bs) (b h i : Nat) (v : Value) (S H R : List Bs) (w : World) (hm : m.length ≤ 1000000000000) (hk : keyOk (b : Int) (h : Int) = true) (hsig : SigIs v (i : Int) S H R w) (hf : fitsB b h (i : Int) S H R = true) :
    Gives 20 #[.string (B root), .agg #[.int .i64 (b : Int), .int .i64 (h : Int)], .string (B m), v] w (.int .i64 (if climbN i R (leafB (partsOf (Sha.sha m) S H b)) h = root then 0 else 18)) := by
  have hk' : 8 ≤ (b : Int) ∧ (b : Int) ≤ 256 ∧ 0 ≤ (h : Int) ∧ (h : Int) ≤ 6 := by simpa [keyOk] using hk
  have hb : b ≤ 256 := by omega
  have hb8 : 8 ≤ b := by omega
  have hh : h ≤ 6 := by omega
  have HV := Lib.hid (fun W => RValid_yes (b : Int) (h : Int) W hk)
  have HCnt := Lib.hid (fun W => RCount_any (b : Int) h W hh)
  clear hk hk'
  have hF := fun W (hB : Below w.heap.size w W) => WellF_any v (i : Int) S H R W (hsig.below hB)
  obtain ⟨ok, e1, e1', e2, e3, e4, hS32, hH32, hR32⟩ := fits_parts hf
  clear hf
  rw [ok] at hF
  have HF := Lib.hid hF
  clear hF ok
  obtain ⟨vs, vh, vr, rfl, hS, hH, hR⟩ := hsig
  obtain ⟨sa, sc, rfl⟩ := hS.formMap
  obtain ⟨ha, hc, rfl⟩ := hH.formMap
  obtain ⟨ra, rc, rfl⟩ := hR.formMap
  have HBt := Lib.hid (fun W => RBits_any m b W hm hb)
  obtain ⟨d, hd⟩ : ∃ d, Sha.sha m = d := ⟨_, rfl⟩
  rw [hd] at HBt
  obtain ⟨i0, hi, hz0, hz1, hz2⟩ := info_parts Tryd.infoStr
  have Hi := Lib.hid hi
  have Hz0 := Lib.hid hz0
  have Hz1 := Lib.hid hz1
  have Hz2 := Lib.hid hz2
  clear hi hz0 hz1 hz2
  rw [e1] at hS HF ⊢
  rw [e1'] at hH HF ⊢
  rw [e2] at hR HF ⊢
  rw [hd]
  have HLS := Lib.hid e1
  have HLH := Lib.hid e1'
  have HLR := Lib.hid e2
  have HS := Lib.hid hS
  have HH := Lib.hid hH
  have HR := Lib.hid hR
  have HS32 := Lib.hid hS32
  have HH32 := Lib.hid hH32
  have HR32 := Lib.hid hR32
  obtain ⟨N, hN, _, _, h64, _⟩ := pow_facts hh
  rw [hN] at e4 HCnt
  have g3 : decide (N ≤ i) = false := by simp; omega
  obtain ⟨r, hr⟩ : ∃ r : Int, (if climbN i R (leafB (partsOf d S H b)) h = root then (0 : Int) else 18) = r := ⟨_, rfl⟩
  rw [hr]
  have Hr := Lib.hid hr
  have hi64 : i < 64 := by omega
  clear hS hH hR hd e1 e1' e2 e3 e4 hS32 hH32 hR32 hN hr
  go_enter Tryd.func20, Tryd.ntmps20
  go_wp2_with (first
    | (go_at_call 16; refine (HV.out _).mono ?_; rintro e w1 ⟨rfl, hb1⟩
       have hk1 : w1.heap[w.heap.size]? = some (.cells #[.int .i64 (b : Int), .int .i64 (h : Int)] 23) := (hb1.block w.heap.size (by simp; omega)).trans (old_of (new_of _ _))
       have hs1 : w1.heap[w.heap.size + 1]? = some (.cells #[.int .i64 (i : Int), .slice sa b sc, .slice ha b hc, .slice ra h rc] 34) := (hb1.block (w.heap.size + 1) (by simp)).trans (new_at (by simp) rfl)
       have Hb1 := Lib.hid ((((Below.refl w.heap.size w).alloc (Nat.le_refl _) _).alloc (by simp) _).next hb1)
       have HK1 := Lib.hid hk1
       have HS1 := Lib.hid hs1
       clear hb1 hk1 hs1))
  refine wp_region_held_drew (S := (fun W : World => (W.cell? ⟨w.heap.size, 0, none⟩ = some (.int .i64 (b : Int)) ∧ W.cell? ⟨w.heap.size, 1, none⟩ = some (.int .i64 (h : Int))) ∧ W.cell? ⟨w.heap.size + 1, 0, none⟩ = some (.int .i64 (i : Int)) ∧ W.cell? ⟨w.heap.size + 1, 1, none⟩ = some (.slice sa b sc) ∧ W.cell? ⟨w.heap.size + 1, 2, none⟩ = some (.slice ha b hc) ∧ W.cell? ⟨w.heap.size + 1, 3, none⟩ = some (.slice ra h rc))) (by kernel_rfl) ⟨keyC (w := w1) HK1.out, sigC (w := w1) HS1.out⟩ (fun hHeld => ?_)
  refine take_at 0 18 (oi := ?o1) (v := ?v1) ?hi1 ?hd1 (by kernel_rfl) (by kernel_rfl) (by kernel_rfl) ?hQ1 ?hw1 ?hy1 (by assumption) ?rest1
  case hi1 => simp only [List.getElem?_toArray, List.getElem?_cons_zero]; rfl
  case hd1 => rfl
  case hw1 => kernel_rfl
  case hy1 => intro W hW; (try dsimp only at hW); go_simp <;> with_reducible rfl
  case hQ1 => exact fun _ _ _ h => h
  try simp only [Act.put, List.setIfInBounds_toArray, List.set_cons_zero, List.set_cons_succ]
  refine wpAnyH_ready (rs := [1]) (by kernel_rfl) (by simp) ?_
  refine AllReadyH.cons rfl (fun K hK => ?_) AllReadyH.nil
  go_simp
  refine (HF.out _ (by first | exact Hb1.out | exact dr Hb1.out)).mono ?_
  rintro e w2 ⟨rfl, hb2⟩
  have HB2 := Lib.hid (Hb1.out.next (by first | exact hb2 | exact undrew hb2))
  have hk2 : w2.heap[w.heap.size]? = some (.cells #[.int .i64 (b : Int), .int .i64 (h : Int)] 23) := (hb2.block _ (lt_of HK1.out)).trans HK1.out
  have hs2 : w2.heap[w.heap.size + 1]? = some (.cells #[.int .i64 (i : Int), .slice sa b sc, .slice ha b hc, .slice ra h rc] 34) := (hb2.block _ (lt_of HS1.out)).trans HS1.out
  have Hk2 := Lib.hid hk2
  have Hs2 := Lib.hid hs2
  clear hb2 hk2 hs2 hHeld
  go_wp2_with fail
  refine hK.out _ _ ⟨keyC (w := w2) Hk2.out, sigC (w := w2) Hs2.out⟩ (fun hHeld => ?_)
  clear hK K
  try simp only [Act.put, List.setIfInBounds_toArray, List.set_cons_zero, List.set_cons_succ]
  refine take_at 2 20 (oi := ?o2) (v := ?v2) ?hi2 ?hd2 (by kernel_rfl) (by kernel_rfl) (by kernel_rfl) ?hQ2 ?hw2 ?hy2 (by assumption) ?rest2
  case hi2 => simp only [List.getElem?_toArray, List.getElem?_cons_succ, List.getElem?_cons_zero]; rfl
  case hd2 => rfl
  case hw2 => kernel_rfl
  case hy2 => intro W hW; (try dsimp only at hW); go_simp <;> with_reducible rfl
  case hQ2 => exact fun _ _ _ h => h
  try simp only [Act.put, List.setIfInBounds_toArray, List.set_cons_zero, List.set_cons_succ]
  refine take_at 3 21 (oi := ?o3) (v := ?v3) ?hi3 ?hd3 (by kernel_rfl) (by kernel_rfl) (by kernel_rfl) ?hQ3 ?hw3 ?hy3 (by assumption) ?rest3
  case hi3 => simp only [List.getElem?_toArray, List.getElem?_cons_succ, List.getElem?_cons_zero]; rfl
  case hd3 => rfl
  case hw3 => kernel_rfl
  case hy3 => intro W hW; (try dsimp only at hW); go_simp <;> with_reducible rfl
  case hQ3 => exact fun _ _ _ h => h
  try simp only [Act.put, List.setIfInBounds_toArray, List.set_cons_zero, List.set_cons_succ]
  refine take_at 4 22 (oi := ?o4) (v := ?v4) ?hi4 ?hd4 (by kernel_rfl) (by kernel_rfl) (by kernel_rfl) ?hQ4 ?hw4 ?hy4 (by assumption) ?rest4
  case hi4 => simp only [List.getElem?_toArray, List.getElem?_cons_succ, List.getElem?_cons_zero]; rfl
  case hd4 => rfl
  case hw4 => kernel_rfl
  case hy4 => intro W hW; (try dsimp only at hW); go_simp <;> with_reducible rfl
  case hQ4 => exact fun _ _ _ h => h
  try simp only [Act.put, List.setIfInBounds_toArray, List.set_cons_zero, List.set_cons_succ]
  refine take_at 5 23 (oi := ?o5) (v := ?v5) ?hi5 ?hd5 (by kernel_rfl) (by kernel_rfl) (by kernel_rfl) ?hQ5 ?hw5 ?hy5 (by assumption) ?rest5
  case hi5 => simp only [List.getElem?_toArray, List.getElem?_cons_succ, List.getElem?_cons_zero]; rfl
  case hd5 => rfl
  case hw5 => kernel_rfl
  case hy5 => intro W hW; (try dsimp only at hW); go_simp <;> with_reducible rfl
  case hQ5 => exact fun _ _ _ h => h
  try simp only [Act.put, List.setIfInBounds_toArray, List.set_cons_zero, List.set_cons_succ]
  refine take_at 6 24 (oi := ?o6) (v := ?v6) ?hi6 ?hd6 (by kernel_rfl) (by kernel_rfl) (by kernel_rfl) ?hQ6 ?hw6 ?hy6 (by assumption) ?rest6
  case hi6 => simp only [List.getElem?_toArray, List.getElem?_cons_succ, List.getElem?_cons_zero]; rfl
  case hd6 => rfl
  case hw6 => kernel_rfl
  case hy6 => intro W hW; (try dsimp only at hW); go_simp <;> with_reducible rfl
  case hQ6 => exact fun _ _ _ h => h
  try simp only [Act.put, List.setIfInBounds_toArray, List.set_cons_zero, List.set_cons_succ]
  refine take_at 7 25 (oi := ?o7) (v := ?v7) ?hi7 ?hd7 (by kernel_rfl) (by kernel_rfl) (by kernel_rfl) ?hQ7 ?hw7 ?hy7 (by assumption) ?rest7
  case hi7 => simp only [List.getElem?_toArray, List.getElem?_cons_succ, List.getElem?_cons_zero]; rfl
  case hd7 => rfl
  case hw7 => kernel_rfl
  case hy7 => intro W hW; (try dsimp only at hW); go_simp <;> with_reducible rfl
  case hQ7 => exact fun _ _ _ h => h
  try simp only [Act.put, List.setIfInBounds_toArray, List.set_cons_zero, List.set_cons_succ]
  refine take_at 8 26 (oi := ?o8) (v := ?v8) ?hi8 ?hd8 (by kernel_rfl) (by kernel_rfl) (by kernel_rfl) ?hQ8 ?hw8 ?hy8 (by assumption) ?rest8
  case hi8 => simp only [List.getElem?_toArray, List.getElem?_cons_succ, List.getElem?_cons_zero]; rfl
  case hd8 => rfl
  case hw8 => kernel_rfl
  case hy8 => intro W hW; (try dsimp only at hW); go_simp <;> with_reducible rfl
  case hQ8 => exact fun _ _ _ h => h
  try simp only [Act.put, List.setIfInBounds_toArray, List.set_cons_zero, List.set_cons_succ]
  refine take_at 9 27 (oi := ?o9) (v := ?v9) ?hi9 ?hd9 (by kernel_rfl) (by kernel_rfl) (by kernel_rfl) ?hQ9 ?hw9 ?hy9 (by assumption) ?rest9
  case hi9 => simp only [List.getElem?_toArray, List.getElem?_cons_succ, List.getElem?_cons_zero]; rfl
  case hd9 => rfl
  case hw9 => kernel_rfl
  case hy9 => intro W hW; (try dsimp only at hW); go_simp <;> with_reducible rfl
  case hQ9 => exact fun _ _ _ h => h
  try simp only [Act.put, List.setIfInBounds_toArray, List.set_cons_zero, List.set_cons_succ]
  refine take_at 10 28 (oi := ?o10) (v := ?v10) ?hi10 ?hd10 (by kernel_rfl) (by kernel_rfl) (by kernel_rfl) ?hQ10 ?hw10 ?hy10 (by assumption) ?rest10
  case hi10 => simp only [List.getElem?_toArray, List.getElem?_cons_succ, List.getElem?_cons_zero]; rfl
  case hd10 => rfl
  case hw10 => kernel_rfl
  case hy10 => intro W hW; (try dsimp only at hW); go_simp <;> with_reducible rfl
  case hQ10 => exact fun _ _ _ h => h
  try simp only [Act.put, List.setIfInBounds_toArray, List.set_cons_zero, List.set_cons_succ]
  refine take_at 11 29 (oi := ?o11) (v := ?v11) ?hi11 ?hd11 (by kernel_rfl) (by kernel_rfl) (by kernel_rfl) ?hQ11 ?hw11 ?hy11 (by assumption) ?rest11
  case hi11 => simp only [List.getElem?_toArray, List.getElem?_cons_succ, List.getElem?_cons_zero]; rfl
  case hd11 => rfl
  case hw11 => kernel_rfl
  case hy11 => intro W hW; (try dsimp only at hW); go_simp <;> with_reducible rfl
  case hQ11 => exact fun _ _ _ h => h
  try simp only [Act.put, List.setIfInBounds_toArray, List.set_cons_zero, List.set_cons_succ]
  refine take_at 12 30 (oi := ?o12) (v := ?v12) ?hi12 ?hd12 (by kernel_rfl) (by kernel_rfl) (by kernel_rfl) ?hQ12 ?hw12 ?hy12 (by assumption) ?rest12
  case hi12 => simp only [List.getElem?_toArray, List.getElem?_cons_succ, List.getElem?_cons_zero]; rfl
  case hd12 => rfl
  case hw12 => kernel_rfl
  case hy12 => intro W hW; (try dsimp only at hW); go_simp <;> with_reducible rfl
  case hQ12 => exact fun _ _ _ h => h
  try simp only [Act.put, List.setIfInBounds_toArray, List.set_cons_zero, List.set_cons_succ]
  refine take_at 13 31 (oi := ?o13) (v := ?v13) ?hi13 ?hd13 (by kernel_rfl) (by kernel_rfl) (by kernel_rfl) ?hQ13 ?hw13 ?hy13 (by assumption) ?rest13
  case hi13 => simp only [List.getElem?_toArray, List.getElem?_cons_succ, List.getElem?_cons_zero]; rfl
  case hd13 => rfl
  case hw13 => kernel_rfl
  case hy13 => intro W hW; (try dsimp only at hW); go_simp <;> with_reducible rfl
  case hQ13 => exact fun _ _ _ h => h
  try simp only [Act.put, List.setIfInBounds_toArray, List.set_cons_zero, List.set_cons_succ]
  refine take_at 14 32 (oi := ?o14) (v := ?v14) ?hi14 ?hd14 (by kernel_rfl) (by kernel_rfl) (by kernel_rfl) ?hQ14 ?hw14 ?hy14 (by assumption) ?rest14
  case hi14 => simp only [List.getElem?_toArray, List.getElem?_cons_succ, List.getElem?_cons_zero]; rfl
  case hd14 => rfl
  case hw14 => kernel_rfl
  case hy14 => intro W hW; (try dsimp only at hW); go_simp <;> with_reducible rfl
  case hQ14 => exact fun _ _ _ h => h
  try simp only [Act.put, List.setIfInBounds_toArray, List.set_cons_zero, List.set_cons_succ]
  refine take_at 15 33 (oi := ?o15) (v := ?v15) ?hi15 ?hd15 (by kernel_rfl) (by kernel_rfl) (by kernel_rfl) ?hQ15 ?hw15 ?hy15 (by assumption) ?rest15
  case hi15 => simp only [List.getElem?_toArray, List.getElem?_cons_succ, List.getElem?_cons_zero]; rfl
  case hd15 => rfl
  case hw15 => kernel_rfl
  case hy15 => intro W hW; (try dsimp only at hW); go_simp <;> with_reducible rfl
  case hQ15 => exact fun _ _ _ h => h
  try simp only [Act.put, List.setIfInBounds_toArray, List.set_cons_zero, List.set_cons_succ]
  refine take_at 16 34 (oi := ?o16) (v := ?v16) ?hi16 ?hd16 (by kernel_rfl) (by kernel_rfl) (by kernel_rfl) ?hQ16 ?hw16 ?hy16 (by assumption) ?rest16
  case hi16 => simp only [List.getElem?_toArray, List.getElem?_cons_succ, List.getElem?_cons_zero]; rfl
  case hd16 => rfl
  case hw16 => kernel_rfl
  case hy16 => intro W hW; (try dsimp only at hW); go_simp <;> with_reducible rfl
  case hQ16 => exact fun _ _ _ h => h
  try simp only [Act.put, List.setIfInBounds_toArray, List.set_cons_zero, List.set_cons_succ]
  refine take_at 17 35 (oi := ?o17) (v := ?v17) ?hi17 ?hd17 (by kernel_rfl) (by kernel_rfl) (by kernel_rfl) ?hQ17 ?hw17 ?hy17 (by assumption) ?rest17
  case hi17 => simp only [List.getElem?_toArray, List.getElem?_cons_succ, List.getElem?_cons_zero]; rfl
  case hd17 => rfl
  case hw17 => kernel_rfl
  case hy17 => intro W hW; (try dsimp only at hW); go_simp <;> with_reducible rfl
  case hQ17 => exact fun _ _ _ h => h
  try simp only [Act.put, List.setIfInBounds_toArray, List.set_cons_zero, List.set_cons_succ]
  refine take_at 18 36 (oi := ?o18) (v := ?v18) ?hi18 ?hd18 (by kernel_rfl) (by kernel_rfl) (by kernel_rfl) ?hQ18 ?hw18 ?hy18 (by assumption) ?rest18
  case hi18 => simp only [List.getElem?_toArray, List.getElem?_cons_succ, List.getElem?_cons_zero]; rfl
  case hd18 => rfl
  case hw18 => kernel_rfl
  case hy18 => intro W hW; (try dsimp only at hW); go_simp <;> with_reducible rfl
  case hQ18 => exact fun _ _ _ h => h
  try simp only [Act.put, List.setIfInBounds_toArray, List.set_cons_zero, List.set_cons_succ]
  refine take_at 19 37 (oi := ?o19) (v := ?v19) ?hi19 ?hd19 (by kernel_rfl) (by kernel_rfl) (by kernel_rfl) ?hQ19 ?hw19 ?hy19 (by assumption) ?rest19
  case hi19 => simp only [List.getElem?_toArray, List.getElem?_cons_succ, List.getElem?_cons_zero]; rfl
  case hd19 => rfl
  case hw19 => kernel_rfl
  case hy19 => intro W hW; (try dsimp only at hW); go_simp <;> with_reducible rfl
  case hQ19 => exact fun _ _ _ h => h
  try simp only [Act.put, List.setIfInBounds_toArray, List.set_cons_zero, List.set_cons_succ]
  refine take_at 20 38 (oi := ?o20) (v := ?v20) ?hi20 ?hd20 (by kernel_rfl) (by kernel_rfl) (by kernel_rfl) ?hQ20 ?hw20 ?hy20 (by assumption) ?rest20
  case hi20 => simp only [List.getElem?_toArray, List.getElem?_cons_succ, List.getElem?_cons_zero]; rfl
  case hd20 => rfl
  case hw20 => kernel_rfl
  case hy20 => intro W hW; (try dsimp only at hW); go_simp <;> with_reducible rfl
  case hQ20 => exact fun _ _ _ h => h
  try simp only [Act.put, List.setIfInBounds_toArray, List.set_cons_zero, List.set_cons_succ]
  refine take_at 21 39 (oi := ?o21) (v := ?v21) ?hi21 ?hd21 (by kernel_rfl) (by kernel_rfl) (by kernel_rfl) ?hQ21 ?hw21 ?hy21 (by assumption) ?rest21
  case hi21 => simp only [List.getElem?_toArray, List.getElem?_cons_succ, List.getElem?_cons_zero]; rfl
  case hd21 => rfl
  case hw21 => kernel_rfl
  case hy21 => intro W hW; (try dsimp only at hW); go_simp <;> with_reducible rfl
  case hQ21 => exact fun _ _ _ h => h
  try simp only [Act.put, List.setIfInBounds_toArray, List.set_cons_zero, List.set_cons_succ]
  refine take_at 22 40 (oi := ?o22) (v := ?v22) ?hi22 ?hd22 (by kernel_rfl) (by kernel_rfl) (by kernel_rfl) ?hQ22 ?hw22 ?hy22 (by assumption) ?rest22
  case hi22 => simp only [List.getElem?_toArray, List.getElem?_cons_succ, List.getElem?_cons_zero]; rfl
  case hd22 => rfl
  case hw22 => kernel_rfl
  case hy22 => intro W hW; (try dsimp only at hW); go_simp <;> with_reducible rfl
  case hQ22 => exact fun _ _ _ h => h
  try simp only [Act.put, List.setIfInBounds_toArray, List.set_cons_zero, List.set_cons_succ]
  refine wpAnyH_ready (rs := [23]) (by kernel_rfl) (by simp) ?_
  refine AllReadyH.cons rfl (fun K hK => ?_) AllReadyH.nil
  go_simp
  refine (HCnt.out _).mono ?_
  rintro e w2' ⟨rfl, hb2⟩
  have HB2 := Lib.hid (HB2.out.next hb2)
  have hk2 : w2'.heap[w.heap.size]? = some (.cells #[.int .i64 (b : Int), .int .i64 (h : Int)] 23) := (hb2.block _ (lt_of Hk2.out)).trans Hk2.out
  have hs2 : w2'.heap[w.heap.size + 1]? = some (.cells #[.int .i64 (i : Int), .slice sa b sc, .slice ha b hc, .slice ra h rc] 34) := (hb2.block _ (lt_of Hs2.out)).trans Hs2.out
  have Hk2 := Lib.hid hk2
  have Hs2 := Lib.hid hs2
  clear hb2 hk2 hs2 hHeld
  go_wp2_with fail
  refine hK.out _ _ ⟨keyC (w := w2') Hk2.out, sigC (w := w2') Hs2.out⟩ (fun hHeld => ?_)
  clear hK K
  try simp only [Act.put, List.setIfInBounds_toArray, List.set_cons_zero, List.set_cons_succ]
  refine take_at 24 42 (oi := ?o23) (v := ?v23) ?hi23 ?hd23 (by kernel_rfl) (by kernel_rfl) (by kernel_rfl) ?hQ23 ?hw23 ?hy23 (by assumption) ?rest23
  case hi23 => simp only [List.getElem?_toArray, List.getElem?_cons_succ, List.getElem?_cons_zero]; rfl
  case hd23 => rfl
  case hw23 => kernel_rfl
  case hy23 => intro W hW; (try dsimp only at hW); go_simp <;> with_reducible rfl
  case hQ23 => exact fun _ _ _ h => h
  try simp only [Act.put, List.setIfInBounds_toArray, List.set_cons_zero, List.set_cons_succ]
  refine take_at 25 43 (oi := ?o24) (v := ?v24) ?hi24 ?hd24 (by kernel_rfl) (by kernel_rfl) (by kernel_rfl) ?hQ24 ?hw24 ?hy24 (by assumption) ?rest24
  case hi24 => simp only [List.getElem?_toArray, List.getElem?_cons_succ, List.getElem?_cons_zero]; rfl
  case hd24 => rfl
  case hw24 => kernel_rfl
  case hy24 => intro W hW; (try dsimp only at hW); go_simp <;> with_reducible rfl
  case hQ24 => exact fun _ _ _ h => h
  try simp only [Act.put, List.setIfInBounds_toArray, List.set_cons_zero, List.set_cons_succ]
  refine wpAnyH_done (by kernel_rfl) ?_ _
  have hz2 : w.heap.size + 1 < w2'.heap.size := lt_of Hs2.out
  have hzk2 : w.heap.size < w2'.heap.size := lt_of Hk2.out
  obtain ⟨k0, k1⟩ := keyC Hk2.out
  simp only [Exit.then]
  clear hHeld
  go_wp2_with (first
    | (go_at_call 39; refine (HBt.out _).mono ?_; rintro e w3 ⟨mv, rfl, hm3, hb3⟩
       have hb3' : Below w2'.heap.size w2' w3 := ((Below.refl _ _).alloc (Nat.le_refl _) _).trans (hb3.mono (by simp))
       have hl3 : w3.heap[w2'.heap.size]? = some (.cells #[vS kLeaf] 9) := (hb3.block _ (by simp)).trans (new_of _ _)
       have HB3 := Lib.hid (HB2.out.next hb3')
       have HM3 := Lib.hid hm3
       have HK3 := Lib.hid ((hb3'.block _ (lt_of Hk2.out)).trans Hk2.out)
       have HS3 := Lib.hid ((hb3'.block _ (lt_of Hs2.out)).trans Hs2.out)
       have HL3 := Lib.hid hl3
       clear hb3 hb3' hm3 hl3))
  obtain ⟨L0, hL0⟩ : ∃ L0, w2'.heap.size = L0 := ⟨_, rfl⟩
  obtain ⟨mb, mc, rfl, hmb, hmz, _⟩ := own_some HM3.out (by omega)
  have hmb' : L0 < mb := by rw [← hL0]; simp at hmb; omega
  have hMC : ∀ k, k < b → w3.cell? ⟨mb, k, none⟩ = some (.int .i64 (bitOf d k : Int)) := fun k hk => by
    have hsl := IsSl.of_owns (xs := (bitsN d b).map vI) (by rw [List.length_map, bitsN_len]; exact HM3.out) (by rw [List.length_map, bitsN_len]; unfold maxLen; omega)
    have hsl' : IsSl (.slice (some ⟨mb, 0, none⟩) ((bitsN d b).map vI).length mc) ((bitsN d b).map vI) w3 := by rw [List.length_map, bitsN_len]; exact hsl
    obtain ⟨b', o', hv, _, hc⟩ := hsl'.at (k := k) (by rw [List.length_map, bitsN_len]; exact hk)
    simp only [Option.some.injEq, Addr.mk.injEq] at hv
    obtain ⟨rfl, rfl, _⟩ := hv
    rw [Nat.zero_add] at hc
    rw [hc]
    simp [bitsN, vI]
  have HL0 := Lib.hid hL0
  rw [hL0] at HL3 ⊢
  have hOL : w3.ownsRow L0 9 1 (.slice (some ⟨L0, 0, none⟩) 1 1) 1 ((kLeaf :: partsOf d S H 0).map vS) := own_built HL3.out (Nat.le_refl _) rfl (by unfold maxLen; omega)
  have HOL := Lib.hid hOL
  have HMC := Lib.hid hMC
  have hLw : w.heap.size + 2 ≤ L0 := by omega
  clear hL0 hMC hOL hz2 hzk2 k0 k1 hmb HM3 HL3 HBt
  go_loopw [9, 11] (fun l n wr => ∃ k : Nat, k ≤ b ∧ n = .int .i64 k ∧ wr.ownsRow L0 9 1 l (2 * k + 1) ((kLeaf :: partsOf d S H k).map vS) ∧ l.ownBlock ≠ some mb ∧ wr.heap[w.heap.size + 1]? = some (.cells #[.int .i64 (i : Int), .slice sa b sc, .slice ha b hc, .slice ra h rc] 34) ∧
      wr.heap[w.heap.size]? = some (.cells #[.int .i64 (b : Int), .int .i64 (h : Int)] 23) ∧ (∀ q, q < b → wr.cell? ⟨mb, q, none⟩ = some (.int .i64 (bitOf d q : Int))) ∧ mb < wr.heap.size ∧ Below w.heap.size w wr) (fun _ n _ => b - (intOf n).toNat)
  case atStart => exact ⟨0, by omega, rfl, HOL.out, by simp [Value.ownBlock]; omega, HS3.out, HK3.out, HMC.out, hmz, HB3.out⟩
  case round =>
    obtain ⟨k, hk, rfl, hO, hOm, hs, hkk, hM, hmz', hB⟩ := hrel
    clear HOL HS3 HK3 HMC HB3
    obtain ⟨k0, k1⟩ := keyC hkk
    obtain ⟨s0, s1, s2, s3⟩ := sigC hs
    have HO := Lib.hid hO
    have HSg := Lib.hid hs
    have HB := Lib.hid hB
    have HKK := Lib.hid hkk
    have HM := Lib.hid hM
    have HOm := Lib.hid hOm
    have hzs : w.heap.size + 1 < wr.heap.size := lt_of hs
    have hzL : L0 ≤ wr.heap.size := by omega
    clear hO hs hB hkk hM hOm
    by_cases hlt : k < b
    · obtain ⟨sb, so, sc', hv1, hb1, hc1⟩ := (HS.out.below HB.out).text HLS.out hlt
      obtain ⟨hb', ho, hc', hv2, hb2, hc2⟩ := (HH.out.below HB.out).text HLH.out hlt
      simp only [Value.slice.injEq, true_and] at hv1 hv2
      obtain ⟨rfl, rfl⟩ := hv1
      obtain ⟨rfl, rfl⟩ := hv2
      obtain ⟨x, hx⟩ : ∃ x, S.getD k [] = x := ⟨_, rfl⟩
      obtain ⟨y, hy⟩ : ∃ y, H.getD k [] = y := ⟨_, rfl⟩
      rw [hx] at hc1
      rw [hy] at hc2
      have hx32 : x.length = 32 := by rw [← hx]; exact getD_32 HS32.out (by rw [HLS.out]; exact hlt)
      have hkb : (k : Int) < (b : Int) := by omega
      have hmk := HM.out k hlt
      obtain ⟨c, hcc⟩ : ∃ c, bitOf d k = c := ⟨_, rfl⟩
      have hc01 : c = 0 ∨ c = 1 := by have := bitOf_lt d k; omega
      have hpq : pairB d S H k = if c = 0 then [pubB x, y] else [y, pubB x] := by unfold pairB; rw [hcc, hx, hy]
      rw [hcc] at hmk
      have HPQ := Lib.hid hpq
      have HX := Lib.hid hx
      have HY := Lib.hid hy
      clear hx hy hcc hpq
      rcases hc01 with rfl | rfl
      · have hpq : pairB d S H k = [pubB x, y] := HPQ.out
        have HP := Lib.hid hpq
        clear hpq
        go_wp2
        go_region_held3 (fun W => (W.cell? ⟨w.heap.size + 1, 1, none⟩ = some (.slice (some ⟨sb, so, none⟩) b sc) ∧ W.cell? ⟨w.heap.size + 1, 2, none⟩ = some (.slice (some ⟨hb', ho, none⟩) b hc)) ∧ W.cell? ⟨sb, so + k, none⟩ = some (.string (B x)) ∧ W.cell? ⟨hb', ho + k, none⟩ = some (.string (B y)))
          (first | go_keep)
          (first
            | (go_at_call 41; refine (RPub_drw x (max32 hx32) wr).mono ?_; rintro e w5 ⟨rfl, hb5⟩
               have hs5 := (hb5.block _ (lt_of HSg.out)).trans HSg.out
               have t1 : w5.cell? ⟨w.heap.size + 1, 1, none⟩ = some (.slice (some ⟨sb, so, none⟩) b sc) := (sigC hs5).2.1
               have t2 : w5.cell? ⟨w.heap.size + 1, 2, none⟩ = some (.slice (some ⟨hb', ho, none⟩) b hc) := (sigC hs5).2.2.1
               have t3 := (hb5.cell (p := ⟨sb, so + k, none⟩) hb1).trans hc1
               have t4 := (hb5.cell (p := ⟨hb', ho + k, none⟩) hb2).trans hc2
               have hz5 := hb5.size
               have z1 : sb < w5.heap.size := by omega
               have z2 : hb' < w5.heap.size := by omega
               have z3 : w.heap.size + 1 < w5.heap.size := by omega
               have HS5 := Lib.hid hs5
               have HK5 := Lib.hid ((hb5.block _ (lt_of HKK.out)).trans HKK.out)
               have HO5 := Lib.hid (ownsRow_block HO.out (fun q _ hq => hb5.block q hq))
               have HM5 := Lib.hid (fun q hq => (hb5.cell (p := ⟨mb, q, none⟩) hmz').trans (HM.out q hq))
               have HB5 := Lib.hid (HB.out.next hb5)
               clear hb5 hs5)
            | (refine step_append_two rfl _ _ 32 rfl L0 9 i0 (.string ⟨#[]⟩) 1 16 Tryd.underlying32 Hi.out Hz0.out Hz1.out Hz2.out rfl (by decide) _ (2 * k + 1) ((kLeaf :: partsOf d S H k).map vS) rfl (HO5.out.alloc (.cells #[.string (B (pubB x)), .string (B y)] 9)) ⟨w5.heap.size, 0, none⟩ 2 2 [vS (pubB x), vS y] rfl rfl (news_two (new_of w5 (.cells #[.string (B (pubB x)), .string (B y)] 9))) (by simp [vS, Value.oneCell']) (by unfold maxLen; omega) (by omega) (by simp; omega) (by decide) ?_
               intro v6 w6 ho6 hg6 hw6
               have ho6' : w6.ownsRow L0 9 1 v6 (2 * (k + 1) + 1) ((kLeaf :: partsOf d S H (k + 1)).map vS) := by
                 rw [partsOf, HP.out, ← List.cons_append, List.map_append, show 2 * (k + 1) + 1 = 2 * k + 1 + 2 by omega]
                 exact ho6
               have hne : ∀ q, q < w5.heap.size → (∀ B, u9.ownBlock = some B → B ≠ q) → w6.heap[q]? = w5.heap[q]? := fun q hq hn => (hg6.block q (by simp; omega) (fun e => hn q e.symm rfl)).trans (Below.heap_alloc _ _ _ hq)
               have hlo : ∀ q, q < L0 → ∀ B, u9.ownBlock = some B → B ≠ q := fun q hq B hB e => by have := (HO5.out.lt B hB).1; omega
               have hs6 := (hne (w.heap.size + 1) (by omega) (hlo _ (by omega))).trans HS5.out
               have hk6 := (hne w.heap.size (by omega) (hlo _ (by omega))).trans HK5.out
               have hm6 := hne mb (by omega) (fun B hB e => HOm.out (by rw [hB, e]))
               have hB6 := (HB5.out.alloc HB5.out.size (.cells #[.string (B (pubB x)), .string (B y)] 9)).grown hg6 (by have := HB5.out.size; simp; omega) (fun q hq => by have := (HO5.out.lt q hq).1; omega)
               have v1 : w6.cell? ⟨w.heap.size + 1, 1, none⟩ = some (.slice (some ⟨sb, so, none⟩) b sc) := (sigC hs6).2.1
               have v2 : w6.cell? ⟨w.heap.size + 1, 2, none⟩ = some (.slice (some ⟨hb', ho, none⟩) b hc) := (sigC hs6).2.2.1
               have v3 : w6.cell? ⟨sb, so + k, none⟩ = some (.string (B x)) := by
                 obtain ⟨_, _, _, e1, _, e2⟩ := (HS.out.below hB6).text HLS.out hlt
                 simp only [Value.slice.injEq, Option.some.injEq, Addr.mk.injEq, true_and, and_true] at e1
                 obtain ⟨⟨rfl, rfl⟩, rfl⟩ := e1
                 exact e2.trans (by rw [HX.out])
               have v4 : w6.cell? ⟨hb', ho + k, none⟩ = some (.string (B y)) := by
                 obtain ⟨_, _, _, e1, _, e2⟩ := (HH.out.below hB6).text HLH.out hlt
                 simp only [Value.slice.injEq, Option.some.injEq, Addr.mk.injEq, true_and, and_true] at e1
                 obtain ⟨⟨rfl, rfl⟩, rfl⟩ := e1
                 exact e2.trans (by rw [HY.out])
               have HO6 := Lib.hid ho6'
               have HS6 := Lib.hid hs6
               have HK6 := Lib.hid hk6
               have HM6 := Lib.hid (fun q hq => (World.cell?_of_block (w := w5) hm6).trans (HM5.out q hq))
               have HB6 := Lib.hid hB6
               have HZ6 := Lib.hid (show mb < w6.heap.size by have := hg6.size; simp at this; omega)
               have HOm6 := Lib.hid (show v6.ownBlock ≠ some mb from fun e => by
                 rcases hw6 mb e with h | h
                 · exact HOm.out h
                 · simp at h; omega)
               clear ho6 ho6' hg6 hw6 hs6 hk6 hm6 hB6 hne hlo))
        all_goals
          go_wp2
          go_roundw
          case rel => exact ⟨k + 1, by omega, by go_num, HO6.out, HOm6.out, HS6.out, HK6.out, HM6.out, HZ6.out, HB6.out⟩
          case measure => simp [intOf]; omega
      · have hpq : pairB d S H k = [y, pubB x] := HPQ.out
        have HP := Lib.hid hpq
        clear hpq
        go_wp2
        go_region_held3 (fun W => (W.cell? ⟨w.heap.size + 1, 1, none⟩ = some (.slice (some ⟨sb, so, none⟩) b sc) ∧ W.cell? ⟨w.heap.size + 1, 2, none⟩ = some (.slice (some ⟨hb', ho, none⟩) b hc)) ∧ W.cell? ⟨sb, so + k, none⟩ = some (.string (B x)) ∧ W.cell? ⟨hb', ho + k, none⟩ = some (.string (B y)))
          (first | go_keep)
          (first
            | (go_at_call 41; refine (RPub_drw x (max32 hx32) wr).mono ?_; rintro e w5 ⟨rfl, hb5⟩
               have hs5 := (hb5.block _ (lt_of HSg.out)).trans HSg.out
               have t1 : w5.cell? ⟨w.heap.size + 1, 1, none⟩ = some (.slice (some ⟨sb, so, none⟩) b sc) := (sigC hs5).2.1
               have t2 : w5.cell? ⟨w.heap.size + 1, 2, none⟩ = some (.slice (some ⟨hb', ho, none⟩) b hc) := (sigC hs5).2.2.1
               have t3 := (hb5.cell (p := ⟨sb, so + k, none⟩) hb1).trans hc1
               have t4 := (hb5.cell (p := ⟨hb', ho + k, none⟩) hb2).trans hc2
               have hz5 := hb5.size
               have z1 : sb < w5.heap.size := by omega
               have z2 : hb' < w5.heap.size := by omega
               have z3 : w.heap.size + 1 < w5.heap.size := by omega
               have HS5 := Lib.hid hs5
               have HK5 := Lib.hid ((hb5.block _ (lt_of HKK.out)).trans HKK.out)
               have HO5 := Lib.hid (ownsRow_block HO.out (fun q _ hq => hb5.block q hq))
               have HM5 := Lib.hid (fun q hq => (hb5.cell (p := ⟨mb, q, none⟩) hmz').trans (HM.out q hq))
               have HB5 := Lib.hid (HB.out.next hb5)
               clear hb5 hs5)
            | (refine step_append_two rfl _ _ 32 rfl L0 9 i0 (.string ⟨#[]⟩) 1 16 Tryd.underlying32 Hi.out Hz0.out Hz1.out Hz2.out rfl (by decide) _ (2 * k + 1) ((kLeaf :: partsOf d S H k).map vS) rfl (HO5.out.alloc (.cells #[.string (B y), .string (B (pubB x))] 9)) ⟨w5.heap.size, 0, none⟩ 2 2 [vS y, vS (pubB x)] rfl rfl (news_two (new_of w5 (.cells #[.string (B y), .string (B (pubB x))] 9))) (by simp [vS, Value.oneCell']) (by unfold maxLen; omega) (by omega) (by simp; omega) (by decide) ?_
               intro v6 w6 ho6 hg6 hw6
               have ho6' : w6.ownsRow L0 9 1 v6 (2 * (k + 1) + 1) ((kLeaf :: partsOf d S H (k + 1)).map vS) := by
                 rw [partsOf, HP.out, ← List.cons_append, List.map_append, show 2 * (k + 1) + 1 = 2 * k + 1 + 2 by omega]
                 exact ho6
               have hne : ∀ q, q < w5.heap.size → (∀ B, u9.ownBlock = some B → B ≠ q) → w6.heap[q]? = w5.heap[q]? := fun q hq hn => (hg6.block q (by simp; omega) (fun e => hn q e.symm rfl)).trans (Below.heap_alloc _ _ _ hq)
               have hlo : ∀ q, q < L0 → ∀ B, u9.ownBlock = some B → B ≠ q := fun q hq B hB e => by have := (HO5.out.lt B hB).1; omega
               have hs6 := (hne (w.heap.size + 1) (by omega) (hlo _ (by omega))).trans HS5.out
               have hk6 := (hne w.heap.size (by omega) (hlo _ (by omega))).trans HK5.out
               have hm6 := hne mb (by omega) (fun B hB e => HOm.out (by rw [hB, e]))
               have hB6 := (HB5.out.alloc HB5.out.size (.cells #[.string (B y), .string (B (pubB x))] 9)).grown hg6 (by have := HB5.out.size; simp; omega) (fun q hq => by have := (HO5.out.lt q hq).1; omega)
               have v1 : w6.cell? ⟨w.heap.size + 1, 1, none⟩ = some (.slice (some ⟨sb, so, none⟩) b sc) := (sigC hs6).2.1
               have v2 : w6.cell? ⟨w.heap.size + 1, 2, none⟩ = some (.slice (some ⟨hb', ho, none⟩) b hc) := (sigC hs6).2.2.1
               have v3 : w6.cell? ⟨sb, so + k, none⟩ = some (.string (B x)) := by
                 obtain ⟨_, _, _, e1, _, e2⟩ := (HS.out.below hB6).text HLS.out hlt
                 simp only [Value.slice.injEq, Option.some.injEq, Addr.mk.injEq, true_and, and_true] at e1
                 obtain ⟨⟨rfl, rfl⟩, rfl⟩ := e1
                 exact e2.trans (by rw [HX.out])
               have v4 : w6.cell? ⟨hb', ho + k, none⟩ = some (.string (B y)) := by
                 obtain ⟨_, _, _, e1, _, e2⟩ := (HH.out.below hB6).text HLH.out hlt
                 simp only [Value.slice.injEq, Option.some.injEq, Addr.mk.injEq, true_and, and_true] at e1
                 obtain ⟨⟨rfl, rfl⟩, rfl⟩ := e1
                 exact e2.trans (by rw [HY.out])
               have HO6 := Lib.hid ho6'
               have HS6 := Lib.hid hs6
               have HK6 := Lib.hid hk6
               have HM6 := Lib.hid (fun q hq => (World.cell?_of_block (w := w5) hm6).trans (HM5.out q hq))
               have HB6 := Lib.hid hB6
               have HZ6 := Lib.hid (show mb < w6.heap.size by have := hg6.size; simp at this; omega)
               have HOm6 := Lib.hid (show v6.ownBlock ≠ some mb from fun e => by
                 rcases hw6 mb e with h | h
                 · exact HOm.out h
                 · simp at h; omega)
               clear ho6 ho6' hg6 hw6 hs6 hk6 hm6 hB6 hne hlo))
        all_goals
          go_wp2
          go_roundw
          case rel => exact ⟨k + 1, by omega, by go_num, HO6.out, HOm6.out, HS6.out, HK6.out, HM6.out, HZ6.out, HB6.out⟩
          case measure => simp [intOf]; omega
    · obtain rfl : k = b := by omega
      have hsl := IsSl.of_owns (xs := (kLeaf :: partsOf d S H k).map vS) (by rw [List.length_map, List.length_cons, partsOf_len]; exact HO.out) (by rw [List.length_map, List.length_cons, partsOf_len]; unfold maxLen; omega)
      obtain ⟨L, hL⟩ : ∃ L, leafB (partsOf d S H k) = L := ⟨_, rfl⟩
      have hL32 : L.length = 32 := by rw [← hL]; exact hsh_len _
      have HM' := Lib.hid (H_any _ (kLeaf :: partsOf d S H k) wr.drew (show IsSl _ _ wr.drew from hsl) (by
        intro x hx
        rcases List.mem_cons.1 hx with rfl | hx
        · decide
        · exact max32 (partsOf_32 HH32.out k (by rw [HLH.out]; exact Nat.le_refl _) x hx)))
      rw [show hsh (kLeaf :: partsOf d S H k) = L from hL] at HM'
      rw [hL] at Hr
      obtain ⟨pa, pc, rfl⟩ := own_form HO.out
      clear hsl hL
      go_wp2
      go_region_held3 (fun W => W.cell? ⟨w.heap.size + 1, 0, none⟩ = some (.int .i64 (i : Int)))
        (first | go_keep)
        (first
          | (go_at_call 41; refine HM'.out.mono ?_; rintro e w4 ⟨rfl, hb4'⟩
             have hb4 : Below wr.heap.size wr w4 := ⟨hb4'.os, hb4'.tape, hb4'.output, hb4'.size, hb4'.block⟩
             have HS4 := Lib.hid ((hb4.block _ (lt_of HSg.out)).trans HSg.out)
             have hi4 : w4.cell? ⟨w.heap.size + 1, 0, none⟩ = some (.int .i64 (i : Int)) := cell_of HS4.out 0
             have HB4 := Lib.hid (HB.out.next hb4)
             clear hb4 hb4'))
      all_goals
        go_wp2
        clear s0 s1 s2 s3 k0 k1
        go_loopw [12, 13, 14] (fun nd a n wx => ∃ j : Nat, j ≤ h ∧ n = .int .i64 j ∧ nd = .string (B (climbN i R L j)) ∧ a = .int .i64 ((i / 2 ^ j : Nat) : Int) ∧ wx.heap[w.heap.size + 1]? = some (.cells #[.int .i64 (i : Int), .slice sa k sc, .slice ha k hc, .slice ra h rc] 34) ∧ Below w.heap.size w wx) (fun _ _ n _ => h - (intOf n).toNat)
        case atStart => exact ⟨0, by omega, rfl, rfl, by simp, HS4.out, HB4.out⟩
        case round =>
          obtain ⟨j, hj, rfl, rfl, rfl, hs, hB⟩ := hrel
          obtain ⟨s0', s1', s2', s3'⟩ := sigC hs
          have HSx := Lib.hid hs
          have HBx := Lib.hid hB
          clear HS4 HB4 hs hB
          obtain ⟨nd, hnd⟩ : ∃ nd, climbN i R L j = nd := ⟨_, rfl⟩
          have hnd32 : nd.length = 32 := by rw [← hnd]; exact climb_32 hL32 j
          have Hnd := Lib.hid hnd
          obtain ⟨q, hq⟩ : ∃ q, i / 2 ^ j = q := ⟨_, rfl⟩
          have hq64 : q < 64 := by rw [← hq]; exact Nat.lt_of_le_of_lt (Nat.div_le_self _ _) hi64
          rw [hnd, hq]
          by_cases hlt : j < h
          · obtain ⟨rb, ro, rc', hv1, hb1, hc1⟩ := (HR.out.below HBx.out).text HLR.out hlt
            simp only [Value.slice.injEq, true_and] at hv1
            obtain ⟨rfl, rfl⟩ := hv1
            obtain ⟨x, hx⟩ : ∃ x, R.getD j [] = x := ⟨_, rfl⟩
            rw [hx] at hc1
            have hx32 : x.length = 32 := by rw [← hx]; exact getD_32 HR32.out (by rw [HLR.out]; exact hlt)
            have hq2 : i / 2 ^ (j + 1) = q / 2 := by rw [Nat.pow_succ, ← Nat.div_div_eq_div_mul, hq]
            obtain ⟨c, hcc⟩ : ∃ c, q % 2 = c := ⟨_, rfl⟩
            have hc2 : c = 0 ∨ c = 1 := by omega
            have hrem : (q : Int) % 2 = (c : Int) := by omega
            have hjh : (j : Int) < (h : Int) := by omega
            have Hst := Lib.hid (show climbN i R L (j + 1) = (if c = 1 then nodeB x nd else nodeB nd x) by rw [climbN, stepB, Hnd.out, hx, hq, hcc])
            have Hq2 := Lib.hid hq2
            have hN1 := Lib.hid (fun W' => RNode_built x nd (max32 hx32) (max32 hnd32) W')
            have hN2 := Lib.hid (fun W' => RNode_built nd x (max32 hnd32) (max32 hx32) W')
            clear hx hcc hq hq2 hnd
            rcases hc2 with rfl | rfl
            · go_wp2_with (first
                | (go_at_call 41; refine (hN2.out _).mono ?_; rintro e w5 ⟨rfl, hb5⟩
                   have HS5 := Lib.hid ((hb5.block _ (lt_of HSx.out)).trans HSx.out)
                   have HB5 := Lib.hid (HBx.out.next hb5)
                   clear hb5))
              go_roundw
              case rel => exact ⟨j + 1, by omega, by go_num, by rw [Hst.out]; rfl, by rw [Hq2.out]; go_num, HS5.out, HB5.out⟩
              case measure => simp [intOf]; omega
            · go_wp2_with (first
                | (go_at_call 41; refine (hN1.out _).mono ?_; rintro e w5 ⟨rfl, hb5⟩
                   have HS5 := Lib.hid ((hb5.block _ (lt_of HSx.out)).trans HSx.out)
                   have HB5 := Lib.hid (HBx.out.next hb5)
                   clear hb5))
              go_roundw
              case rel => exact ⟨j + 1, by omega, by go_num, by rw [Hst.out]; rfl, by rw [Hq2.out]; go_num, HS5.out, HB5.out⟩
              case measure => simp [intOf]; omega
          · obtain rfl : j = h := by omega
            clear hnd hq
            rw [Hnd.out] at Hr
            by_cases he : nd = root
            · have hq : ((B nd).toList == (B root).toList) = true := by rw [he]; exact beqB_eq _
              have h0 := Hr.out
              rw [if_pos he] at h0
              have H0 := Lib.hid h0
              clear h0 he
              go_wp2
              go_ret
              rw [← H0.out]
              exact ⟨rfl, HBx.out⟩
            · have hq : ((B nd).toList == (B root).toList) = false := beqB_ne he
              have h0 := Hr.out
              rw [if_neg he] at h0
              have H0 := Lib.hid h0
              clear h0 he
              go_wp2
              go_ret
              rw [← H0.out]
              exact ⟨rfl, HBx.out⟩

theorem RCheck_any (root m : Bs) (b h : Int) (v : Value) (i : Int) (S H R : List Bs) (w : World) (hm : m.length ≤ 1000000000000) (hsig : SigIs v i S H R w) :
    Gives 20 #[.string (B root), .agg #[.int .i64 b, .int .i64 h], .string (B m), v] w (.int .i64 (checkB root b h m i S H R)) := by
  cases hk : keyOk b h with
  | false =>
    have e : checkB root b h m i S H R = 3 := by unfold checkB; rw [if_pos hk]
    rw [e]
    exact RCheck_no root m b h v i S H R w hk hsig
  | true =>
    have hk' : 8 ≤ b ∧ b ≤ 256 ∧ 0 ≤ h ∧ h ≤ 6 := by simpa [keyOk] using hk
    obtain ⟨b, rfl⟩ : ∃ n : Nat, b = (n : Int) := ⟨b.toNat, by omega⟩
    obtain ⟨h, rfl⟩ : ∃ n : Nat, h = (n : Int) := ⟨h.toNat, by omega⟩
    cases hf : fitsB b h i S H R with
    | false =>
      rw [checkB_unfit hk hf]
      exact RCheck_unfit root m b h v i S H R w hk hsig hf
    | true =>
      obtain ⟨_, _, _, _, h0, _⟩ := fits_parts hf
      obtain ⟨i, rfl⟩ : ∃ n : Nat, i = (n : Int) := ⟨i.toNat, by omega⟩
      rw [checkB_fit hk hf]
      exact RCheck_fit root m b h i v S H R w hm hk hsig hf
end Go.Proofs.YtdkjehagkmkokaaDoor
