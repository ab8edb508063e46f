/- Check of package lamport: what it answers where the signature does not fit the key. -/
import Derived.Test.YtdkjehagkmkokaaDoorWkFormed
import Derived.Test.YtdkjehagkmkokaaDoorWkSigners
import Derived.Test.YtdkjehagkmkokaaDoorFrmAll
namespace Go.Proofs.YtdkjehagkmkokaaDoor
open Go Go.RowKit Licit

theorem Check_no (root m : Bs) (b h : Int) (v : Value) (i : Int) (S H R : List Bs) (w : World) (hk : keyOk b h = false) (hsig : SigIs v i S H R w) :
    Gives 19 #[.string (B root), .agg #[.int .i64 b, .int .i64 h], .string (B m), v] w (.int .i64 3) := by
  have HV := Lib.hid (fun W => Valid_no b h W hk)
  obtain ⟨vs, vh, vr, rfl, hS, hH, hR⟩ := hsig
  obtain ⟨sa, sc, rfl⟩ := hS.formMap
  obtain ⟨ha, hc, rfl⟩ := hH.formMap
  obtain ⟨ra, rc, rfl⟩ := hR.formMap
  clear hk hS hH hR
  go_enter Tryd.func19, Tryd.ntmps19
  go_wp2_with (first
    | (go_at_call 15; refine (HV.out _).mono ?_; rintro e w1 ⟨rfl, hb1⟩; have Hb1 := Lib.hid ((((Below.refl w.heap.size w).alloc (Nat.le_refl _) _).alloc (by simp) _).next hb1); clear hb1))
  go_ret
  exact ⟨rfl, Hb1.out⟩

theorem sig_cells {w : World} {r : Nat} {x0 x1 x2 x3 : Value} {T : TypeId} (h : w.heap[r]? = some (.cells #[x0, x1, x2, x3] T)) : w.cell? ⟨r, 0, none⟩ = some x0 ∧ w.cell? ⟨r, 1, none⟩ = some x1 ∧ w.cell? ⟨r, 2, none⟩ = some x2 ∧ w.cell? ⟨r, 3, none⟩ = some x3 := ⟨cell_of h 0, cell_of h 1, cell_of h 2, cell_of h 3⟩
theorem key_cells {w : World} {r : Nat} {x0 x1 : Value} {T : TypeId} (h : w.heap[r]? = some (.cells #[x0, x1] T)) : w.cell? ⟨r, 0, none⟩ = some x0 ∧ w.cell? ⟨r, 1, none⟩ = some x1 := ⟨cell_of h 0, cell_of h 1⟩
/-- Does a signature fit a key? -/
def fitsB (b h : Nat) (i : Int) (S H R : List Bs) : Bool := sigOk i S H R && decide (S.length = b) && decide (R.length = h) && decide (i < ((2 ^ h : Nat) : Int))

set_option maxHeartbeats 4000000 in
set_option maxRecDepth 100000 in
theorem Check_unfit (root m : Bs) (b h : Nat) (v : Value) (i : Int) (S H R : List Bs) (w : World) (hk : keyOk (b : Int) (h : Int) = true) (hsig : SigIs v i S H R w) (hf : fitsB b h i S H R = false) :
    Gives 19 #[.string (B root), .agg #[.int .i64 (b : Int), .int .i64 (h : Int)], .string (B m), v] w (.int .i64 1) := by
  have hk' : 8 ≤ (b : Int) ∧ (b : Int) ≤ 256 ∧ 0 ≤ (h : Int) ∧ (h : Int) ≤ 6 := by simpa [keyOk] using hk
  have hb : b ≤ 256 := by omega
  have hh : h ≤ 6 := by omega
  have HV := Lib.hid (fun W => Valid_yes (b : Int) (h : Int) W hk)
  clear hk hk'
  have hF := fun W (hB : Below w.heap.size w W) => Formed_any v i S H R W (hsig.below hB)
  obtain ⟨vs, vh, vr, rfl, hS, hH, hR⟩ := hsig
  have hSl := hS.1
  have hHl := hH.1
  have hRl := hR.1
  rw [List.length_map] at hSl hHl hRl
  unfold maxLen at hSl hHl hRl
  obtain ⟨sa, sc, rfl⟩ := hS.formMap
  obtain ⟨ha, hc, rfl⟩ := hH.formMap
  obtain ⟨ra, rc, rfl⟩ := hR.formMap
  clear hS hH hR
  obtain ⟨N, hN, hp1, hp2, h64, _⟩ := pow_facts hh
  have hNi : IntKind.i64.wrap (N : Int) = (N : Int) := by rw [IntKind.wrap_i64]; omega
  unfold fitsB at hf
  rw [hN] at hf
  cases ok : sigOk i S H R with
  | false =>
    rw [ok] at hF
    have HF := Lib.hid hF
    clear hF ok hf hN
    go_enter Tryd.func19, Tryd.ntmps19
    go_wp2_with (first
      | (go_at_call 15; refine (HV.out _).mono ?_; rintro e w1 ⟨rfl, hb1⟩
         have hk1 : w1.heap[w.heap.size]? = some (.cells #[.int .i64 (b : Int), .int .i64 (h : Int)] 23) := (hb1.block w.heap.size (by simp; omega)).trans (old_of (new_of _ _))
         have hs1 : w1.heap[w.heap.size + 1]? = some (.cells #[.int .i64 i, .slice sa S.length sc, .slice ha H.length hc, .slice ra R.length rc] 34) := (hb1.block (w.heap.size + 1) (by simp)).trans (new_at (by simp) rfl)
         have Hb1 := Lib.hid ((((Below.refl w.heap.size w).alloc (Nat.le_refl _) _).alloc (by simp) _).next hb1)
         have HK1 := Lib.hid hk1
         have HS1 := Lib.hid hs1
         clear hb1 hk1 hs1))
    refine wp_region_held_drew (S := (fun W : World => (W.cell? ⟨w.heap.size, 0, none⟩ = some (.int .i64 (b : Int)) ∧ W.cell? ⟨w.heap.size, 1, none⟩ = some (.int .i64 (h : Int))) ∧ W.cell? ⟨w.heap.size + 1, 0, none⟩ = some (.int .i64 i) ∧ W.cell? ⟨w.heap.size + 1, 1, none⟩ = some (.slice sa S.length sc) ∧ W.cell? ⟨w.heap.size + 1, 2, none⟩ = some (.slice ha H.length hc) ∧ W.cell? ⟨w.heap.size + 1, 3, none⟩ = some (.slice ra R.length rc))) (by kernel_rfl) ⟨key_cells (w := w1) HK1.out, sig_cells (w := w1) HS1.out⟩ (fun hHeld => ?_)
    refine take_at 0 22 (oi := ?o1) (v := ?v1) ?hi1 ?hd1 (by kernel_rfl) (by kernel_rfl) (by kernel_rfl) ?hQ1 ?hw1 ?hy1 (by assumption) ?rest1
    case hi1 => simp only [List.getElem?_toArray, List.getElem?_cons_zero]; rfl
    case hd1 => rfl
    case hw1 => kernel_rfl
    case hy1 => intro W hW; (try dsimp only at hW); go_simp <;> with_reducible rfl
    case hQ1 => exact fun _ _ _ h => h
    try simp only [Act.put, List.setIfInBounds_toArray, List.set_cons_zero, List.set_cons_succ]
    refine wpAnyH_ready (rs := [1]) (by kernel_rfl) (by simp) ?_
    refine AllReadyH.cons rfl (fun K hK => ?_) AllReadyH.nil
    go_simp
    refine (HF.out _ (by first | exact Hb1.out | exact dr Hb1.out)).mono ?_
    rintro e w2 ⟨rfl, hb2⟩
    have HB2 := Lib.hid (Hb1.out.next (by first | exact hb2 | exact undrew hb2))
    have hk2 : w2.heap[w.heap.size]? = some (.cells #[.int .i64 (b : Int), .int .i64 (h : Int)] 23) := (hb2.block _ (lt_of HK1.out)).trans HK1.out
    have hs2 : w2.heap[w.heap.size + 1]? = some (.cells #[.int .i64 i, .slice sa S.length sc, .slice ha H.length hc, .slice ra R.length rc] 34) := (hb2.block _ (lt_of HS1.out)).trans HS1.out
    have Hk2 := Lib.hid hk2
    have Hs2 := Lib.hid hs2
    clear hb2 hk2 hs2 hHeld
    go_wp2_with fail
    refine hK.out _ _ ⟨key_cells (w := w2) Hk2.out, sig_cells (w := w2) Hs2.out⟩ (fun hHeld => ?_)
    clear hK K
    try simp only [Act.put, List.setIfInBounds_toArray, List.set_cons_zero, List.set_cons_succ]
    refine take_at 2 24 (oi := ?o2) (v := ?v2) ?hi2 ?hd2 (by kernel_rfl) (by kernel_rfl) (by kernel_rfl) ?hQ2 ?hw2 ?hy2 (by assumption) ?rest2
    case hi2 => simp only [List.getElem?_toArray, List.getElem?_cons_succ, List.getElem?_cons_zero]; rfl
    case hd2 => rfl
    case hw2 => kernel_rfl
    case hy2 => intro W hW; (try dsimp only at hW); go_simp <;> with_reducible rfl
    case hQ2 => exact fun _ _ _ h => h
    try simp only [Act.put, List.setIfInBounds_toArray, List.set_cons_zero, List.set_cons_succ]
    refine take_at 3 25 (oi := ?o3) (v := ?v3) ?hi3 ?hd3 (by kernel_rfl) (by kernel_rfl) (by kernel_rfl) ?hQ3 ?hw3 ?hy3 (by assumption) ?rest3
    case hi3 => simp only [List.getElem?_toArray, List.getElem?_cons_succ, List.getElem?_cons_zero]; rfl
    case hd3 => rfl
    case hw3 => kernel_rfl
    case hy3 => intro W hW; (try dsimp only at hW); go_simp <;> with_reducible rfl
    case hQ3 => exact fun _ _ _ h => h
    try simp only [Act.put, List.setIfInBounds_toArray, List.set_cons_zero, List.set_cons_succ]
    refine pass_at 4 26 (oi := ?o4) ?hi4 ?hd4 (by kernel_rfl) (by kernel_rfl) (by kernel_rfl) ?hQ4 ?hw4 (by assumption) ?rest4
    case hi4 => simp only [List.getElem?_toArray, List.getElem?_cons_succ, List.getElem?_cons_zero]; rfl
    case hd4 => rfl
    case hQ4 => exact fun _ _ _ h => h
    case hw4 => kernel_rfl
    try simp only [Act.put, List.setIfInBounds_toArray, List.set_cons_zero, List.set_cons_succ]
    refine pass_at 5 27 (oi := ?o5) ?hi5 ?hd5 (by kernel_rfl) (by kernel_rfl) (by kernel_rfl) ?hQ5 ?hw5 (by assumption) ?rest5
    case hi5 => simp only [List.getElem?_toArray, List.getElem?_cons_succ, List.getElem?_cons_zero]; rfl
    case hd5 => rfl
    case hQ5 => exact fun _ _ _ h => h
    case hw5 => kernel_rfl
    try simp only [Act.put, List.setIfInBounds_toArray, List.set_cons_zero, List.set_cons_succ]
    refine pass_at 6 28 (oi := ?o6) ?hi6 ?hd6 (by kernel_rfl) (by kernel_rfl) (by kernel_rfl) ?hQ6 ?hw6 (by assumption) ?rest6
    case hi6 => simp only [List.getElem?_toArray, List.getElem?_cons_succ, List.getElem?_cons_zero]; rfl
    case hd6 => rfl
    case hQ6 => exact fun _ _ _ h => h
    case hw6 => kernel_rfl
    try simp only [Act.put, List.setIfInBounds_toArray, List.set_cons_zero, List.set_cons_succ]
    refine pass_at 7 29 (oi := ?o7) ?hi7 ?hd7 (by kernel_rfl) (by kernel_rfl) (by kernel_rfl) ?hQ7 ?hw7 (by assumption) ?rest7
    case hi7 => simp only [List.getElem?_toArray, List.getElem?_cons_succ, List.getElem?_cons_zero]; rfl
    case hd7 => rfl
    case hQ7 => exact fun _ _ _ h => h
    case hw7 => kernel_rfl
    try simp only [Act.put, List.setIfInBounds_toArray, List.set_cons_zero, List.set_cons_succ]
    refine pass_at 8 30 (oi := ?o8) ?hi8 ?hd8 (by kernel_rfl) (by kernel_rfl) (by kernel_rfl) ?hQ8 ?hw8 (by assumption) ?rest8
    case hi8 => simp only [List.getElem?_toArray, List.getElem?_cons_succ, List.getElem?_cons_zero]; rfl
    case hd8 => rfl
    case hQ8 => exact fun _ _ _ h => h
    case hw8 => kernel_rfl
    try simp only [Act.put, List.setIfInBounds_toArray, List.set_cons_zero, List.set_cons_succ]
    refine pass_at 9 31 (oi := ?o9) ?hi9 ?hd9 (by kernel_rfl) (by kernel_rfl) (by kernel_rfl) ?hQ9 ?hw9 (by assumption) ?rest9
    case hi9 => simp only [List.getElem?_toArray, List.getElem?_cons_succ, List.getElem?_cons_zero]; rfl
    case hd9 => rfl
    case hQ9 => exact fun _ _ _ h => h
    case hw9 => kernel_rfl
    try simp only [Act.put, List.setIfInBounds_toArray, List.set_cons_zero, List.set_cons_succ]
    refine take_at 10 32 (oi := ?o10) (v := ?v10) ?hi10 ?hd10 (by kernel_rfl) (by kernel_rfl) (by kernel_rfl) ?hQ10 ?hw10 ?hy10 (by assumption) ?rest10
    case hi10 => simp only [List.getElem?_toArray, List.getElem?_cons_succ, List.getElem?_cons_zero]; rfl
    case hd10 => rfl
    case hw10 => kernel_rfl
    case hy10 => intro W hW; (try dsimp only at hW); go_simp <;> with_reducible rfl
    case hQ10 => exact fun _ _ _ h => h
    try simp only [Act.put, List.setIfInBounds_toArray, List.set_cons_zero, List.set_cons_succ]
    refine take_at 11 33 (oi := ?o11) (v := ?v11) ?hi11 ?hd11 (by kernel_rfl) (by kernel_rfl) (by kernel_rfl) ?hQ11 ?hw11 ?hy11 (by assumption) ?rest11
    case hi11 => simp only [List.getElem?_toArray, List.getElem?_cons_succ, List.getElem?_cons_zero]; rfl
    case hd11 => rfl
    case hw11 => kernel_rfl
    case hy11 => intro W hW; (try dsimp only at hW); go_simp <;> with_reducible rfl
    case hQ11 => exact fun _ _ _ h => h
    try simp only [Act.put, List.setIfInBounds_toArray, List.set_cons_zero, List.set_cons_succ]
    refine pass_at 12 34 (oi := ?o12) ?hi12 ?hd12 (by kernel_rfl) (by kernel_rfl) (by kernel_rfl) ?hQ12 ?hw12 (by assumption) ?rest12
    case hi12 => simp only [List.getElem?_toArray, List.getElem?_cons_succ, List.getElem?_cons_zero]; rfl
    case hd12 => rfl
    case hQ12 => exact fun _ _ _ h => h
    case hw12 => kernel_rfl
    try simp only [Act.put, List.setIfInBounds_toArray, List.set_cons_zero, List.set_cons_succ]
    refine pass_at 13 35 (oi := ?o13) ?hi13 ?hd13 (by kernel_rfl) (by kernel_rfl) (by kernel_rfl) ?hQ13 ?hw13 (by assumption) ?rest13
    case hi13 => simp only [List.getElem?_toArray, List.getElem?_cons_succ, List.getElem?_cons_zero]; rfl
    case hd13 => rfl
    case hQ13 => exact fun _ _ _ h => h
    case hw13 => kernel_rfl
    try simp only [Act.put, List.setIfInBounds_toArray, List.set_cons_zero, List.set_cons_succ]
    refine pass_at 14 36 (oi := ?o14) ?hi14 ?hd14 (by kernel_rfl) (by kernel_rfl) (by kernel_rfl) ?hQ14 ?hw14 (by assumption) ?rest14
    case hi14 => simp only [List.getElem?_toArray, List.getElem?_cons_succ, List.getElem?_cons_zero]; rfl
    case hd14 => rfl
    case hQ14 => exact fun _ _ _ h => h
    case hw14 => kernel_rfl
    try simp only [Act.put, List.setIfInBounds_toArray, List.set_cons_zero, List.set_cons_succ]
    refine pass_at 15 37 (oi := ?o15) ?hi15 ?hd15 (by kernel_rfl) (by kernel_rfl) (by kernel_rfl) ?hQ15 ?hw15 (by assumption) ?rest15
    case hi15 => simp only [List.getElem?_toArray, List.getElem?_cons_succ, List.getElem?_cons_zero]; rfl
    case hd15 => rfl
    case hQ15 => exact fun _ _ _ h => h
    case hw15 => kernel_rfl
    try simp only [Act.put, List.setIfInBounds_toArray, List.set_cons_zero, List.set_cons_succ]
    refine pass_at 16 38 (oi := ?o16) ?hi16 ?hd16 (by kernel_rfl) (by kernel_rfl) (by kernel_rfl) ?hQ16 ?hw16 (by assumption) ?rest16
    case hi16 => simp only [List.getElem?_toArray, List.getElem?_cons_succ, List.getElem?_cons_zero]; rfl
    case hd16 => rfl
    case hQ16 => exact fun _ _ _ h => h
    case hw16 => kernel_rfl
    try simp only [Act.put, List.setIfInBounds_toArray, List.set_cons_zero, List.set_cons_succ]
    refine pass_at 17 39 (oi := ?o17) ?hi17 ?hd17 (by kernel_rfl) (by kernel_rfl) (by kernel_rfl) ?hQ17 ?hw17 (by assumption) ?rest17
    case hi17 => simp only [List.getElem?_toArray, List.getElem?_cons_succ, List.getElem?_cons_zero]; rfl
    case hd17 => rfl
    case hQ17 => exact fun _ _ _ h => h
    case hw17 => kernel_rfl
    try simp only [Act.put, List.setIfInBounds_toArray, List.set_cons_zero, List.set_cons_succ]
    refine take_at 18 40 (oi := ?o18) (v := ?v18) ?hi18 ?hd18 (by kernel_rfl) (by kernel_rfl) (by kernel_rfl) ?hQ18 ?hw18 ?hy18 (by assumption) ?rest18
    case hi18 => simp only [List.getElem?_toArray, List.getElem?_cons_succ, List.getElem?_cons_zero]; rfl
    case hd18 => rfl
    case hw18 => kernel_rfl
    case hy18 => intro W hW; (try dsimp only at hW); go_simp <;> with_reducible rfl
    case hQ18 => exact fun _ _ _ h => h
    try simp only [Act.put, List.setIfInBounds_toArray, List.set_cons_zero, List.set_cons_succ]
    refine take_at 19 41 (oi := ?o19) (v := ?v19) ?hi19 ?hd19 (by kernel_rfl) (by kernel_rfl) (by kernel_rfl) ?hQ19 ?hw19 ?hy19 (by assumption) ?rest19
    case hi19 => simp only [List.getElem?_toArray, List.getElem?_cons_succ, List.getElem?_cons_zero]; rfl
    case hd19 => rfl
    case hw19 => kernel_rfl
    case hy19 => intro W hW; (try dsimp only at hW); go_simp <;> with_reducible rfl
    case hQ19 => exact fun _ _ _ h => h
    try simp only [Act.put, List.setIfInBounds_toArray, List.set_cons_zero, List.set_cons_succ]
    refine pass_at 20 42 (oi := ?o20) ?hi20 ?hd20 (by kernel_rfl) (by kernel_rfl) (by kernel_rfl) ?hQ20 ?hw20 (by assumption) ?rest20
    case hi20 => simp only [List.getElem?_toArray, List.getElem?_cons_succ, List.getElem?_cons_zero]; rfl
    case hd20 => rfl
    case hQ20 => exact fun _ _ _ h => h
    case hw20 => kernel_rfl
    try simp only [Act.put, List.setIfInBounds_toArray, List.set_cons_zero, List.set_cons_succ]
    refine pass_at 21 43 (oi := ?o21) ?hi21 ?hd21 (by kernel_rfl) (by kernel_rfl) (by kernel_rfl) ?hQ21 ?hw21 (by assumption) ?rest21
    case hi21 => simp only [List.getElem?_toArray, List.getElem?_cons_succ, List.getElem?_cons_zero]; rfl
    case hd21 => rfl
    case hQ21 => exact fun _ _ _ h => h
    case hw21 => kernel_rfl
    try simp only [Act.put, List.setIfInBounds_toArray, List.set_cons_zero, List.set_cons_succ]
    refine pass_at 22 44 (oi := ?o22) ?hi22 ?hd22 (by kernel_rfl) (by kernel_rfl) (by kernel_rfl) ?hQ22 ?hw22 (by assumption) ?rest22
    case hi22 => simp only [List.getElem?_toArray, List.getElem?_cons_succ, List.getElem?_cons_zero]; rfl
    case hd22 => rfl
    case hQ22 => exact fun _ _ _ h => h
    case hw22 => kernel_rfl
    try simp only [Act.put, List.setIfInBounds_toArray, List.set_cons_zero, List.set_cons_succ]
    refine pass_at 23 45 (oi := ?o23) ?hi23 ?hd23 (by kernel_rfl) (by kernel_rfl) (by kernel_rfl) ?hQ23 ?hw23 (by assumption) ?rest23
    case hi23 => simp only [List.getElem?_toArray, List.getElem?_cons_succ, List.getElem?_cons_zero]; rfl
    case hd23 => rfl
    case hQ23 => exact fun _ _ _ h => h
    case hw23 => kernel_rfl
    try simp only [Act.put, List.setIfInBounds_toArray, List.set_cons_zero, List.set_cons_succ]
    refine pass_at 24 46 (oi := ?o24) ?hi24 ?hd24 (by kernel_rfl) (by kernel_rfl) (by kernel_rfl) ?hQ24 ?hw24 (by assumption) ?rest24
    case hi24 => simp only [List.getElem?_toArray, List.getElem?_cons_succ, List.getElem?_cons_zero]; rfl
    case hd24 => rfl
    case hQ24 => exact fun _ _ _ h => h
    case hw24 => kernel_rfl
    try simp only [Act.put, List.setIfInBounds_toArray, List.set_cons_zero, List.set_cons_succ]
    refine pass_at 25 47 (oi := ?o25) ?hi25 ?hd25 (by kernel_rfl) (by kernel_rfl) (by kernel_rfl) ?hQ25 ?hw25 (by assumption) ?rest25
    case hi25 => simp only [List.getElem?_toArray, List.getElem?_cons_succ, List.getElem?_cons_zero]; rfl
    case hd25 => rfl
    case hQ25 => exact fun _ _ _ h => h
    case hw25 => kernel_rfl
    try simp only [Act.put, List.setIfInBounds_toArray, List.set_cons_zero, List.set_cons_succ]
    refine take_at 26 48 (oi := ?o26) (v := ?v26) ?hi26 ?hd26 (by kernel_rfl) (by kernel_rfl) (by kernel_rfl) ?hQ26 ?hw26 ?hy26 (by assumption) ?rest26
    case hi26 => simp only [List.getElem?_toArray, List.getElem?_cons_succ, List.getElem?_cons_zero]; rfl
    case hd26 => rfl
    case hw26 => kernel_rfl
    case hy26 => intro W hW; (try dsimp only at hW); go_simp <;> with_reducible rfl
    case hQ26 => exact fun _ _ _ h => h
    try simp only [Act.put, List.setIfInBounds_toArray, List.set_cons_zero, List.set_cons_succ]
    refine wpAnyH_done (by kernel_rfl) ?_ _
    go_wp2
    go_ret
    exact ⟨rfl, HB2.out⟩
  | true =>
    rw [ok] at hF
    rw [ok, Bool.true_and] at hf
    have HF := Lib.hid hF
    clear hF ok hN
    by_cases e1 : S.length = b
    · by_cases e2 : R.length = h
      · have e3 : ¬ (i < (N : Int)) := by simpa [e1, e2] using hf
        have g3 : decide ((N : Int) ≤ i) = true := by simp; omega
        have g1 : (S.length : Int) = (b : Int) := by omega
        have g2 : (R.length : Int) = (h : Int) := by omega
        clear hf e1 e2 e3
        go_enter Tryd.func19, Tryd.ntmps19
        go_wp2_with (first
          | (go_at_call 15; refine (HV.out _).mono ?_; rintro e w1 ⟨rfl, hb1⟩
             have hk1 : w1.heap[w.heap.size]? = some (.cells #[.int .i64 (b : Int), .int .i64 (h : Int)] 23) := (hb1.block w.heap.size (by simp; omega)).trans (old_of (new_of _ _))
             have hs1 : w1.heap[w.heap.size + 1]? = some (.cells #[.int .i64 i, .slice sa S.length sc, .slice ha H.length hc, .slice ra R.length rc] 34) := (hb1.block (w.heap.size + 1) (by simp)).trans (new_at (by simp) rfl)
             have Hb1 := Lib.hid ((((Below.refl w.heap.size w).alloc (Nat.le_refl _) _).alloc (by simp) _).next hb1)
             have HK1 := Lib.hid hk1
             have HS1 := Lib.hid hs1
             clear hb1 hk1 hs1))
        refine wp_region_held_drew (S := (fun W : World => (W.cell? ⟨w.heap.size, 0, none⟩ = some (.int .i64 (b : Int)) ∧ W.cell? ⟨w.heap.size, 1, none⟩ = some (.int .i64 (h : Int))) ∧ W.cell? ⟨w.heap.size + 1, 0, none⟩ = some (.int .i64 i) ∧ W.cell? ⟨w.heap.size + 1, 1, none⟩ = some (.slice sa S.length sc) ∧ W.cell? ⟨w.heap.size + 1, 2, none⟩ = some (.slice ha H.length hc) ∧ W.cell? ⟨w.heap.size + 1, 3, none⟩ = some (.slice ra R.length rc))) (by kernel_rfl) ⟨key_cells (w := w1) HK1.out, sig_cells (w := w1) HS1.out⟩ (fun hHeld => ?_)
        refine take_at 0 22 (oi := ?o27) (v := ?v27) ?hi27 ?hd27 (by kernel_rfl) (by kernel_rfl) (by kernel_rfl) ?hQ27 ?hw27 ?hy27 (by assumption) ?rest27
        case hi27 => simp only [List.getElem?_toArray, List.getElem?_cons_zero]; rfl
        case hd27 => rfl
        case hw27 => kernel_rfl
        case hy27 => intro W hW; (try dsimp only at hW); go_simp <;> with_reducible rfl
        case hQ27 => exact fun _ _ _ h => h
        try simp only [Act.put, List.setIfInBounds_toArray, List.set_cons_zero, List.set_cons_succ]
        refine wpAnyH_ready (rs := [1]) (by kernel_rfl) (by simp) ?_
        refine AllReadyH.cons rfl (fun K hK => ?_) AllReadyH.nil
        go_simp
        refine (HF.out _ (by first | exact Hb1.out | exact dr Hb1.out)).mono ?_
        rintro e w2 ⟨rfl, hb2⟩
        have HB2 := Lib.hid (Hb1.out.next (by first | exact hb2 | exact undrew hb2))
        have hk2 : w2.heap[w.heap.size]? = some (.cells #[.int .i64 (b : Int), .int .i64 (h : Int)] 23) := (hb2.block _ (lt_of HK1.out)).trans HK1.out
        have hs2 : w2.heap[w.heap.size + 1]? = some (.cells #[.int .i64 i, .slice sa S.length sc, .slice ha H.length hc, .slice ra R.length rc] 34) := (hb2.block _ (lt_of HS1.out)).trans HS1.out
        have Hk2 := Lib.hid hk2
        have Hs2 := Lib.hid hs2
        clear hb2 hk2 hs2 hHeld
        go_wp2_with fail
        refine hK.out _ _ ⟨key_cells (w := w2) Hk2.out, sig_cells (w := w2) Hs2.out⟩ (fun hHeld => ?_)
        clear hK K
        try simp only [Act.put, List.setIfInBounds_toArray, List.set_cons_zero, List.set_cons_succ]
        refine take_at 2 24 (oi := ?o28) (v := ?v28) ?hi28 ?hd28 (by kernel_rfl) (by kernel_rfl) (by kernel_rfl) ?hQ28 ?hw28 ?hy28 (by assumption) ?rest28
        case hi28 => simp only [List.getElem?_toArray, List.getElem?_cons_succ, List.getElem?_cons_zero]; rfl
        case hd28 => rfl
        case hw28 => kernel_rfl
        case hy28 => intro W hW; (try dsimp only at hW); go_simp <;> with_reducible rfl
        case hQ28 => exact fun _ _ _ h => h
        try simp only [Act.put, List.setIfInBounds_toArray, List.set_cons_zero, List.set_cons_succ]
        refine take_at 3 25 (oi := ?o29) (v := ?v29) ?hi29 ?hd29 (by kernel_rfl) (by kernel_rfl) (by kernel_rfl) ?hQ29 ?hw29 ?hy29 (by assumption) ?rest29
        case hi29 => simp only [List.getElem?_toArray, List.getElem?_cons_succ, List.getElem?_cons_zero]; rfl
        case hd29 => rfl
        case hw29 => kernel_rfl
        case hy29 => intro W hW; (try dsimp only at hW); go_simp <;> with_reducible rfl
        case hQ29 => exact fun _ _ _ h => h
        try simp only [Act.put, List.setIfInBounds_toArray, List.set_cons_zero, List.set_cons_succ]
        refine take_at 4 26 (oi := ?o30) (v := ?v30) ?hi30 ?hd30 (by kernel_rfl) (by kernel_rfl) (by kernel_rfl) ?hQ30 ?hw30 ?hy30 (by assumption) ?rest30
        case hi30 => simp only [List.getElem?_toArray, List.getElem?_cons_succ, List.getElem?_cons_zero]; rfl
        case hd30 => rfl
        case hw30 => kernel_rfl
        case hy30 => intro W hW; (try dsimp only at hW); go_simp <;> with_reducible rfl
        case hQ30 => exact fun _ _ _ h => h
        try simp only [Act.put, List.setIfInBounds_toArray, List.set_cons_zero, List.set_cons_succ]
        refine take_at 5 27 (oi := ?o31) (v := ?v31) ?hi31 ?hd31 (by kernel_rfl) (by kernel_rfl) (by kernel_rfl) ?hQ31 ?hw31 ?hy31 (by assumption) ?rest31
        case hi31 => simp only [List.getElem?_toArray, List.getElem?_cons_succ, List.getElem?_cons_zero]; rfl
        case hd31 => rfl
        case hw31 => kernel_rfl
        case hy31 => intro W hW; (try dsimp only at hW); go_simp <;> with_reducible rfl
        case hQ31 => exact fun _ _ _ h => h
        try simp only [Act.put, List.setIfInBounds_toArray, List.set_cons_zero, List.set_cons_succ]
        refine take_at 6 28 (oi := ?o32) (v := ?v32) ?hi32 ?hd32 (by kernel_rfl) (by kernel_rfl) (by kernel_rfl) ?hQ32 ?hw32 ?hy32 (by assumption) ?rest32
        case hi32 => simp only [List.getElem?_toArray, List.getElem?_cons_succ, List.getElem?_cons_zero]; rfl
        case hd32 => rfl
        case hw32 => kernel_rfl
        case hy32 => intro W hW; (try dsimp only at hW); go_simp <;> with_reducible rfl
        case hQ32 => exact fun _ _ _ h => h
        try simp only [Act.put, List.setIfInBounds_toArray, List.set_cons_zero, List.set_cons_succ]
        refine take_at 7 29 (oi := ?o33) (v := ?v33) ?hi33 ?hd33 (by kernel_rfl) (by kernel_rfl) (by kernel_rfl) ?hQ33 ?hw33 ?hy33 (by assumption) ?rest33
        case hi33 => simp only [List.getElem?_toArray, List.getElem?_cons_succ, List.getElem?_cons_zero]; rfl
        case hd33 => rfl
        case hw33 => kernel_rfl
        case hy33 => intro W hW; (try dsimp only at hW); go_simp <;> with_reducible rfl
        case hQ33 => exact fun _ _ _ h => h
        try simp only [Act.put, List.setIfInBounds_toArray, List.set_cons_zero, List.set_cons_succ]
        refine take_at 8 30 (oi := ?o34) (v := ?v34) ?hi34 ?hd34 (by kernel_rfl) (by kernel_rfl) (by kernel_rfl) ?hQ34 ?hw34 ?hy34 (by assumption) ?rest34
        case hi34 => simp only [List.getElem?_toArray, List.getElem?_cons_succ, List.getElem?_cons_zero]; rfl
        case hd34 => rfl
        case hw34 => kernel_rfl
        case hy34 => intro W hW; (try dsimp only at hW); go_simp <;> with_reducible rfl
        case hQ34 => exact fun _ _ _ h => h
        try simp only [Act.put, List.setIfInBounds_toArray, List.set_cons_zero, List.set_cons_succ]
        refine take_at 9 31 (oi := ?o35) (v := ?v35) ?hi35 ?hd35 (by kernel_rfl) (by kernel_rfl) (by kernel_rfl) ?hQ35 ?hw35 ?hy35 (by assumption) ?rest35
        case hi35 => simp only [List.getElem?_toArray, List.getElem?_cons_succ, List.getElem?_cons_zero]; rfl
        case hd35 => rfl
        case hw35 => kernel_rfl
        case hy35 => intro W hW; (try dsimp only at hW); go_simp <;> with_reducible rfl
        case hQ35 => exact fun _ _ _ h => h
        try simp only [Act.put, List.setIfInBounds_toArray, List.set_cons_zero, List.set_cons_succ]
        refine take_at 10 32 (oi := ?o36) (v := ?v36) ?hi36 ?hd36 (by kernel_rfl) (by kernel_rfl) (by kernel_rfl) ?hQ36 ?hw36 ?hy36 (by assumption) ?rest36
        case hi36 => simp only [List.getElem?_toArray, List.getElem?_cons_succ, List.getElem?_cons_zero]; rfl
        case hd36 => rfl
        case hw36 => kernel_rfl
        case hy36 => intro W hW; (try dsimp only at hW); go_simp <;> with_reducible rfl
        case hQ36 => exact fun _ _ _ h => h
        try simp only [Act.put, List.setIfInBounds_toArray, List.set_cons_zero, List.set_cons_succ]
        refine take_at 11 33 (oi := ?o37) (v := ?v37) ?hi37 ?hd37 (by kernel_rfl) (by kernel_rfl) (by kernel_rfl) ?hQ37 ?hw37 ?hy37 (by assumption) ?rest37
        case hi37 => simp only [List.getElem?_toArray, List.getElem?_cons_succ, List.getElem?_cons_zero]; rfl
        case hd37 => rfl
        case hw37 => kernel_rfl
        case hy37 => intro W hW; (try dsimp only at hW); go_simp <;> with_reducible rfl
        case hQ37 => exact fun _ _ _ h => h
        try simp only [Act.put, List.setIfInBounds_toArray, List.set_cons_zero, List.set_cons_succ]
        refine take_at 12 34 (oi := ?o38) (v := ?v38) ?hi38 ?hd38 (by kernel_rfl) (by kernel_rfl) (by kernel_rfl) ?hQ38 ?hw38 ?hy38 (by assumption) ?rest38
        case hi38 => simp only [List.getElem?_toArray, List.getElem?_cons_succ, List.getElem?_cons_zero]; rfl
        case hd38 => rfl
        case hw38 => kernel_rfl
        case hy38 => intro W hW; (try dsimp only at hW); go_simp <;> with_reducible rfl
        case hQ38 => exact fun _ _ _ h => h
        try simp only [Act.put, List.setIfInBounds_toArray, List.set_cons_zero, List.set_cons_succ]
        refine take_at 13 35 (oi := ?o39) (v := ?v39) ?hi39 ?hd39 (by kernel_rfl) (by kernel_rfl) (by kernel_rfl) ?hQ39 ?hw39 ?hy39 (by assumption) ?rest39
        case hi39 => simp only [List.getElem?_toArray, List.getElem?_cons_succ, List.getElem?_cons_zero]; rfl
        case hd39 => rfl
        case hw39 => kernel_rfl
        case hy39 => intro W hW; (try dsimp only at hW); go_simp <;> with_reducible rfl
        case hQ39 => exact fun _ _ _ h => h
        try simp only [Act.put, List.setIfInBounds_toArray, List.set_cons_zero, List.set_cons_succ]
        refine take_at 14 36 (oi := ?o40) (v := ?v40) ?hi40 ?hd40 (by kernel_rfl) (by kernel_rfl) (by kernel_rfl) ?hQ40 ?hw40 ?hy40 (by assumption) ?rest40
        case hi40 => simp only [List.getElem?_toArray, List.getElem?_cons_succ, List.getElem?_cons_zero]; rfl
        case hd40 => rfl
        case hw40 => kernel_rfl
        case hy40 => intro W hW; (try dsimp only at hW); go_simp <;> with_reducible rfl
        case hQ40 => exact fun _ _ _ h => h
        try simp only [Act.put, List.setIfInBounds_toArray, List.set_cons_zero, List.set_cons_succ]
        refine take_at 15 37 (oi := ?o41) (v := ?v41) ?hi41 ?hd41 (by kernel_rfl) (by kernel_rfl) (by kernel_rfl) ?hQ41 ?hw41 ?hy41 (by assumption) ?rest41
        case hi41 => simp only [List.getElem?_toArray, List.getElem?_cons_succ, List.getElem?_cons_zero]; rfl
        case hd41 => rfl
        case hw41 => kernel_rfl
        case hy41 => intro W hW; (try dsimp only at hW); go_simp <;> with_reducible rfl
        case hQ41 => exact fun _ _ _ h => h
        try simp only [Act.put, List.setIfInBounds_toArray, List.set_cons_zero, List.set_cons_succ]
        refine take_at 16 38 (oi := ?o42) (v := ?v42) ?hi42 ?hd42 (by kernel_rfl) (by kernel_rfl) (by kernel_rfl) ?hQ42 ?hw42 ?hy42 (by assumption) ?rest42
        case hi42 => simp only [List.getElem?_toArray, List.getElem?_cons_succ, List.getElem?_cons_zero]; rfl
        case hd42 => rfl
        case hw42 => kernel_rfl
        case hy42 => intro W hW; (try dsimp only at hW); go_simp <;> with_reducible rfl
        case hQ42 => exact fun _ _ _ h => h
        try simp only [Act.put, List.setIfInBounds_toArray, List.set_cons_zero, List.set_cons_succ]
        refine take_at 17 39 (oi := ?o43) (v := ?v43) ?hi43 ?hd43 (by kernel_rfl) (by kernel_rfl) (by kernel_rfl) ?hQ43 ?hw43 ?hy43 (by assumption) ?rest43
        case hi43 => simp only [List.getElem?_toArray, List.getElem?_cons_succ, List.getElem?_cons_zero]; rfl
        case hd43 => rfl
        case hw43 => kernel_rfl
        case hy43 => intro W hW; (try dsimp only at hW); go_simp <;> with_reducible rfl
        case hQ43 => exact fun _ _ _ h => h
        try simp only [Act.put, List.setIfInBounds_toArray, List.set_cons_zero, List.set_cons_succ]
        refine take_at 18 40 (oi := ?o44) (v := ?v44) ?hi44 ?hd44 (by kernel_rfl) (by kernel_rfl) (by kernel_rfl) ?hQ44 ?hw44 ?hy44 (by assumption) ?rest44
        case hi44 => simp only [List.getElem?_toArray, List.getElem?_cons_succ, List.getElem?_cons_zero]; rfl
        case hd44 => rfl
        case hw44 => kernel_rfl
        case hy44 => intro W hW; (try dsimp only at hW); go_simp <;> with_reducible rfl
        case hQ44 => exact fun _ _ _ h => h
        try simp only [Act.put, List.setIfInBounds_toArray, List.set_cons_zero, List.set_cons_succ]
        refine take_at 19 41 (oi := ?o45) (v := ?v45) ?hi45 ?hd45 (by kernel_rfl) (by kernel_rfl) (by kernel_rfl) ?hQ45 ?hw45 ?hy45 (by assumption) ?rest45
        case hi45 => simp only [List.getElem?_toArray, List.getElem?_cons_succ, List.getElem?_cons_zero]; rfl
        case hd45 => rfl
        case hw45 => kernel_rfl
        case hy45 => intro W hW; (try dsimp only at hW); go_simp <;> with_reducible rfl
        case hQ45 => exact fun _ _ _ h => h
        try simp only [Act.put, List.setIfInBounds_toArray, List.set_cons_zero, List.set_cons_succ]
        refine take_at 20 42 (oi := ?o46) (v := ?v46) ?hi46 ?hd46 (by kernel_rfl) (by kernel_rfl) (by kernel_rfl) ?hQ46 ?hw46 ?hy46 (by assumption) ?rest46
        case hi46 => simp only [List.getElem?_toArray, List.getElem?_cons_succ, List.getElem?_cons_zero]; rfl
        case hd46 => rfl
        case hw46 => kernel_rfl
        case hy46 => intro W hW; (try dsimp only at hW); go_simp <;> with_reducible rfl
        case hQ46 => exact fun _ _ _ h => h
        try simp only [Act.put, List.setIfInBounds_toArray, List.set_cons_zero, List.set_cons_succ]
        refine take_at 21 43 (oi := ?o47) (v := ?v47) ?hi47 ?hd47 (by kernel_rfl) (by kernel_rfl) (by kernel_rfl) ?hQ47 ?hw47 ?hy47 (by assumption) ?rest47
        case hi47 => simp only [List.getElem?_toArray, List.getElem?_cons_succ, List.getElem?_cons_zero]; rfl
        case hd47 => rfl
        case hw47 => kernel_rfl
        case hy47 => intro W hW; (try dsimp only at hW); go_simp <;> with_reducible rfl
        case hQ47 => exact fun _ _ _ h => h
        try simp only [Act.put, List.setIfInBounds_toArray, List.set_cons_zero, List.set_cons_succ]
        refine take_at 22 44 (oi := ?o48) (v := ?v48) ?hi48 ?hd48 (by kernel_rfl) (by kernel_rfl) (by kernel_rfl) ?hQ48 ?hw48 ?hy48 (by assumption) ?rest48
        case hi48 => simp only [List.getElem?_toArray, List.getElem?_cons_succ, List.getElem?_cons_zero]; rfl
        case hd48 => rfl
        case hw48 => kernel_rfl
        case hy48 => intro W hW; (try dsimp only at hW); go_simp <;> with_reducible rfl
        case hQ48 => exact fun _ _ _ h => h
        try simp only [Act.put, List.setIfInBounds_toArray, List.set_cons_zero, List.set_cons_succ]
        refine take_at 23 45 (oi := ?o49) (v := ?v49) ?hi49 ?hd49 (by kernel_rfl) (by kernel_rfl) (by kernel_rfl) ?hQ49 ?hw49 ?hy49 (by assumption) ?rest49
        case hi49 => simp only [List.getElem?_toArray, List.getElem?_cons_succ, List.getElem?_cons_zero]; rfl
        case hd49 => rfl
        case hw49 => kernel_rfl
        case hy49 => intro W hW; (try dsimp only at hW); go_simp <;> with_reducible rfl
        case hQ49 => exact fun _ _ _ h => h
        try simp only [Act.put, List.setIfInBounds_toArray, List.set_cons_zero, List.set_cons_succ]
        refine take_at 24 46 (oi := ?o50) (v := ?v50) ?hi50 ?hd50 (by kernel_rfl) (by kernel_rfl) (by kernel_rfl) ?hQ50 ?hw50 ?hy50 (by assumption) ?rest50
        case hi50 => simp only [List.getElem?_toArray, List.getElem?_cons_succ, List.getElem?_cons_zero]; rfl
        case hd50 => rfl
        case hw50 => kernel_rfl
        case hy50 => intro W hW; (try dsimp only at hW); go_simp <;> with_reducible rfl
        case hQ50 => exact fun _ _ _ h => h
        try simp only [Act.put, List.setIfInBounds_toArray, List.set_cons_zero, List.set_cons_succ]
        refine take_at 25 47 (oi := ?o51) (v := ?v51) ?hi51 ?hd51 (by kernel_rfl) (by kernel_rfl) (by kernel_rfl) ?hQ51 ?hw51 ?hy51 (by assumption) ?rest51
        case hi51 => simp only [List.getElem?_toArray, List.getElem?_cons_succ, List.getElem?_cons_zero]; rfl
        case hd51 => rfl
        case hw51 => kernel_rfl
        case hy51 => intro W hW; (try dsimp only at hW); go_simp <;> with_reducible rfl
        case hQ51 => exact fun _ _ _ h => h
        try simp only [Act.put, List.setIfInBounds_toArray, List.set_cons_zero, List.set_cons_succ]
        refine take_at 26 48 (oi := ?o52) (v := ?v52) ?hi52 ?hd52 (by kernel_rfl) (by kernel_rfl) (by kernel_rfl) ?hQ52 ?hw52 ?hy52 (by assumption) ?rest52
        case hi52 => simp only [List.getElem?_toArray, List.getElem?_cons_succ, List.getElem?_cons_zero]; rfl
        case hd52 => rfl
        case hw52 => kernel_rfl
        case hy52 => intro W hW; (try dsimp only at hW); go_simp <;> with_reducible rfl
        case hQ52 => exact fun _ _ _ h => h
        try simp only [Act.put, List.setIfInBounds_toArray, List.set_cons_zero, List.set_cons_succ]
        refine wpAnyH_done (by kernel_rfl) ?_ _
        go_wp2
        go_ret
        exact ⟨rfl, HB2.out⟩
      · have g1 : (S.length : Int) = (b : Int) := by omega
        have g2 : ((R.length : Int) != (h : Int)) = true := by simp; omega
        clear hf e1 e2
        go_enter Tryd.func19, Tryd.ntmps19
        go_wp2_with (first
          | (go_at_call 15; refine (HV.out _).mono ?_; rintro e w1 ⟨rfl, hb1⟩
             have hk1 : w1.heap[w.heap.size]? = some (.cells #[.int .i64 (b : Int), .int .i64 (h : Int)] 23) := (hb1.block w.heap.size (by simp; omega)).trans (old_of (new_of _ _))
             have hs1 : w1.heap[w.heap.size + 1]? = some (.cells #[.int .i64 i, .slice sa S.length sc, .slice ha H.length hc, .slice ra R.length rc] 34) := (hb1.block (w.heap.size + 1) (by simp)).trans (new_at (by simp) rfl)
             have Hb1 := Lib.hid ((((Below.refl w.heap.size w).alloc (Nat.le_refl _) _).alloc (by simp) _).next hb1)
             have HK1 := Lib.hid hk1
             have HS1 := Lib.hid hs1
             clear hb1 hk1 hs1))
        refine wp_region_held_drew (S := (fun W : World => (W.cell? ⟨w.heap.size, 0, none⟩ = some (.int .i64 (b : Int)) ∧ W.cell? ⟨w.heap.size, 1, none⟩ = some (.int .i64 (h : Int))) ∧ W.cell? ⟨w.heap.size + 1, 0, none⟩ = some (.int .i64 i) ∧ W.cell? ⟨w.heap.size + 1, 1, none⟩ = some (.slice sa S.length sc) ∧ W.cell? ⟨w.heap.size + 1, 2, none⟩ = some (.slice ha H.length hc) ∧ W.cell? ⟨w.heap.size + 1, 3, none⟩ = some (.slice ra R.length rc))) (by kernel_rfl) ⟨key_cells (w := w1) HK1.out, sig_cells (w := w1) HS1.out⟩ (fun hHeld => ?_)
        refine take_at 0 22 (oi := ?o53) (v := ?v53) ?hi53 ?hd53 (by kernel_rfl) (by kernel_rfl) (by kernel_rfl) ?hQ53 ?hw53 ?hy53 (by assumption) ?rest53
        case hi53 => simp only [List.getElem?_toArray, List.getElem?_cons_zero]; rfl
        case hd53 => rfl
        case hw53 => kernel_rfl
        case hy53 => intro W hW; (try dsimp only at hW); go_simp <;> with_reducible rfl
        case hQ53 => exact fun _ _ _ h => h
        try simp only [Act.put, List.setIfInBounds_toArray, List.set_cons_zero, List.set_cons_succ]
        refine wpAnyH_ready (rs := [1]) (by kernel_rfl) (by simp) ?_
        refine AllReadyH.cons rfl (fun K hK => ?_) AllReadyH.nil
        go_simp
        refine (HF.out _ (by first | exact Hb1.out | exact dr Hb1.out)).mono ?_
        rintro e w2 ⟨rfl, hb2⟩
        have HB2 := Lib.hid (Hb1.out.next (by first | exact hb2 | exact undrew hb2))
        have hk2 : w2.heap[w.heap.size]? = some (.cells #[.int .i64 (b : Int), .int .i64 (h : Int)] 23) := (hb2.block _ (lt_of HK1.out)).trans HK1.out
        have hs2 : w2.heap[w.heap.size + 1]? = some (.cells #[.int .i64 i, .slice sa S.length sc, .slice ha H.length hc, .slice ra R.length rc] 34) := (hb2.block _ (lt_of HS1.out)).trans HS1.out
        have Hk2 := Lib.hid hk2
        have Hs2 := Lib.hid hs2
        clear hb2 hk2 hs2 hHeld
        go_wp2_with fail
        refine hK.out _ _ ⟨key_cells (w := w2) Hk2.out, sig_cells (w := w2) Hs2.out⟩ (fun hHeld => ?_)
        clear hK K
        try simp only [Act.put, List.setIfInBounds_toArray, List.set_cons_zero, List.set_cons_succ]
        refine take_at 2 24 (oi := ?o54) (v := ?v54) ?hi54 ?hd54 (by kernel_rfl) (by kernel_rfl) (by kernel_rfl) ?hQ54 ?hw54 ?hy54 (by assumption) ?rest54
        case hi54 => simp only [List.getElem?_toArray, List.getElem?_cons_succ, List.getElem?_cons_zero]; rfl
        case hd54 => rfl
        case hw54 => kernel_rfl
        case hy54 => intro W hW; (try dsimp only at hW); go_simp <;> with_reducible rfl
        case hQ54 => exact fun _ _ _ h => h
        try simp only [Act.put, List.setIfInBounds_toArray, List.set_cons_zero, List.set_cons_succ]
        refine take_at 3 25 (oi := ?o55) (v := ?v55) ?hi55 ?hd55 (by kernel_rfl) (by kernel_rfl) (by kernel_rfl) ?hQ55 ?hw55 ?hy55 (by assumption) ?rest55
        case hi55 => simp only [List.getElem?_toArray, List.getElem?_cons_succ, List.getElem?_cons_zero]; rfl
        case hd55 => rfl
        case hw55 => kernel_rfl
        case hy55 => intro W hW; (try dsimp only at hW); go_simp <;> with_reducible rfl
        case hQ55 => exact fun _ _ _ h => h
        try simp only [Act.put, List.setIfInBounds_toArray, List.set_cons_zero, List.set_cons_succ]
        refine take_at 4 26 (oi := ?o56) (v := ?v56) ?hi56 ?hd56 (by kernel_rfl) (by kernel_rfl) (by kernel_rfl) ?hQ56 ?hw56 ?hy56 (by assumption) ?rest56
        case hi56 => simp only [List.getElem?_toArray, List.getElem?_cons_succ, List.getElem?_cons_zero]; rfl
        case hd56 => rfl
        case hw56 => kernel_rfl
        case hy56 => intro W hW; (try dsimp only at hW); go_simp <;> with_reducible rfl
        case hQ56 => exact fun _ _ _ h => h
        try simp only [Act.put, List.setIfInBounds_toArray, List.set_cons_zero, List.set_cons_succ]
        refine take_at 5 27 (oi := ?o57) (v := ?v57) ?hi57 ?hd57 (by kernel_rfl) (by kernel_rfl) (by kernel_rfl) ?hQ57 ?hw57 ?hy57 (by assumption) ?rest57
        case hi57 => simp only [List.getElem?_toArray, List.getElem?_cons_succ, List.getElem?_cons_zero]; rfl
        case hd57 => rfl
        case hw57 => kernel_rfl
        case hy57 => intro W hW; (try dsimp only at hW); go_simp <;> with_reducible rfl
        case hQ57 => exact fun _ _ _ h => h
        try simp only [Act.put, List.setIfInBounds_toArray, List.set_cons_zero, List.set_cons_succ]
        refine take_at 6 28 (oi := ?o58) (v := ?v58) ?hi58 ?hd58 (by kernel_rfl) (by kernel_rfl) (by kernel_rfl) ?hQ58 ?hw58 ?hy58 (by assumption) ?rest58
        case hi58 => simp only [List.getElem?_toArray, List.getElem?_cons_succ, List.getElem?_cons_zero]; rfl
        case hd58 => rfl
        case hw58 => kernel_rfl
        case hy58 => intro W hW; (try dsimp only at hW); go_simp <;> with_reducible rfl
        case hQ58 => exact fun _ _ _ h => h
        try simp only [Act.put, List.setIfInBounds_toArray, List.set_cons_zero, List.set_cons_succ]
        refine take_at 7 29 (oi := ?o59) (v := ?v59) ?hi59 ?hd59 (by kernel_rfl) (by kernel_rfl) (by kernel_rfl) ?hQ59 ?hw59 ?hy59 (by assumption) ?rest59
        case hi59 => simp only [List.getElem?_toArray, List.getElem?_cons_succ, List.getElem?_cons_zero]; rfl
        case hd59 => rfl
        case hw59 => kernel_rfl
        case hy59 => intro W hW; (try dsimp only at hW); go_simp <;> with_reducible rfl
        case hQ59 => exact fun _ _ _ h => h
        try simp only [Act.put, List.setIfInBounds_toArray, List.set_cons_zero, List.set_cons_succ]
        refine take_at 8 30 (oi := ?o60) (v := ?v60) ?hi60 ?hd60 (by kernel_rfl) (by kernel_rfl) (by kernel_rfl) ?hQ60 ?hw60 ?hy60 (by assumption) ?rest60
        case hi60 => simp only [List.getElem?_toArray, List.getElem?_cons_succ, List.getElem?_cons_zero]; rfl
        case hd60 => rfl
        case hw60 => kernel_rfl
        case hy60 => intro W hW; (try dsimp only at hW); go_simp <;> with_reducible rfl
        case hQ60 => exact fun _ _ _ h => h
        try simp only [Act.put, List.setIfInBounds_toArray, List.set_cons_zero, List.set_cons_succ]
        refine take_at 9 31 (oi := ?o61) (v := ?v61) ?hi61 ?hd61 (by kernel_rfl) (by kernel_rfl) (by kernel_rfl) ?hQ61 ?hw61 ?hy61 (by assumption) ?rest61
        case hi61 => simp only [List.getElem?_toArray, List.getElem?_cons_succ, List.getElem?_cons_zero]; rfl
        case hd61 => rfl
        case hw61 => kernel_rfl
        case hy61 => intro W hW; (try dsimp only at hW); go_simp <;> with_reducible rfl
        case hQ61 => exact fun _ _ _ h => h
        try simp only [Act.put, List.setIfInBounds_toArray, List.set_cons_zero, List.set_cons_succ]
        refine take_at 10 32 (oi := ?o62) (v := ?v62) ?hi62 ?hd62 (by kernel_rfl) (by kernel_rfl) (by kernel_rfl) ?hQ62 ?hw62 ?hy62 (by assumption) ?rest62
        case hi62 => simp only [List.getElem?_toArray, List.getElem?_cons_succ, List.getElem?_cons_zero]; rfl
        case hd62 => rfl
        case hw62 => kernel_rfl
        case hy62 => intro W hW; (try dsimp only at hW); go_simp <;> with_reducible rfl
        case hQ62 => exact fun _ _ _ h => h
        try simp only [Act.put, List.setIfInBounds_toArray, List.set_cons_zero, List.set_cons_succ]
        refine take_at 11 33 (oi := ?o63) (v := ?v63) ?hi63 ?hd63 (by kernel_rfl) (by kernel_rfl) (by kernel_rfl) ?hQ63 ?hw63 ?hy63 (by assumption) ?rest63
        case hi63 => simp only [List.getElem?_toArray, List.getElem?_cons_succ, List.getElem?_cons_zero]; rfl
        case hd63 => rfl
        case hw63 => kernel_rfl
        case hy63 => intro W hW; (try dsimp only at hW); go_simp <;> with_reducible rfl
        case hQ63 => exact fun _ _ _ h => h
        try simp only [Act.put, List.setIfInBounds_toArray, List.set_cons_zero, List.set_cons_succ]
        refine take_at 12 34 (oi := ?o64) (v := ?v64) ?hi64 ?hd64 (by kernel_rfl) (by kernel_rfl) (by kernel_rfl) ?hQ64 ?hw64 ?hy64 (by assumption) ?rest64
        case hi64 => simp only [List.getElem?_toArray, List.getElem?_cons_succ, List.getElem?_cons_zero]; rfl
        case hd64 => rfl
        case hw64 => kernel_rfl
        case hy64 => intro W hW; (try dsimp only at hW); go_simp <;> with_reducible rfl
        case hQ64 => exact fun _ _ _ h => h
        try simp only [Act.put, List.setIfInBounds_toArray, List.set_cons_zero, List.set_cons_succ]
        refine take_at 13 35 (oi := ?o65) (v := ?v65) ?hi65 ?hd65 (by kernel_rfl) (by kernel_rfl) (by kernel_rfl) ?hQ65 ?hw65 ?hy65 (by assumption) ?rest65
        case hi65 => simp only [List.getElem?_toArray, List.getElem?_cons_succ, List.getElem?_cons_zero]; rfl
        case hd65 => rfl
        case hw65 => kernel_rfl
        case hy65 => intro W hW; (try dsimp only at hW); go_simp <;> with_reducible rfl
        case hQ65 => exact fun _ _ _ h => h
        try simp only [Act.put, List.setIfInBounds_toArray, List.set_cons_zero, List.set_cons_succ]
        refine take_at 14 36 (oi := ?o66) (v := ?v66) ?hi66 ?hd66 (by kernel_rfl) (by kernel_rfl) (by kernel_rfl) ?hQ66 ?hw66 ?hy66 (by assumption) ?rest66
        case hi66 => simp only [List.getElem?_toArray, List.getElem?_cons_succ, List.getElem?_cons_zero]; rfl
        case hd66 => rfl
        case hw66 => kernel_rfl
        case hy66 => intro W hW; (try dsimp only at hW); go_simp <;> with_reducible rfl
        case hQ66 => exact fun _ _ _ h => h
        try simp only [Act.put, List.setIfInBounds_toArray, List.set_cons_zero, List.set_cons_succ]
        refine take_at 15 37 (oi := ?o67) (v := ?v67) ?hi67 ?hd67 (by kernel_rfl) (by kernel_rfl) (by kernel_rfl) ?hQ67 ?hw67 ?hy67 (by assumption) ?rest67
        case hi67 => simp only [List.getElem?_toArray, List.getElem?_cons_succ, List.getElem?_cons_zero]; rfl
        case hd67 => rfl
        case hw67 => kernel_rfl
        case hy67 => intro W hW; (try dsimp only at hW); go_simp <;> with_reducible rfl
        case hQ67 => exact fun _ _ _ h => h
        try simp only [Act.put, List.setIfInBounds_toArray, List.set_cons_zero, List.set_cons_succ]
        refine take_at 16 38 (oi := ?o68) (v := ?v68) ?hi68 ?hd68 (by kernel_rfl) (by kernel_rfl) (by kernel_rfl) ?hQ68 ?hw68 ?hy68 (by assumption) ?rest68
        case hi68 => simp only [List.getElem?_toArray, List.getElem?_cons_succ, List.getElem?_cons_zero]; rfl
        case hd68 => rfl
        case hw68 => kernel_rfl
        case hy68 => intro W hW; (try dsimp only at hW); go_simp <;> with_reducible rfl
        case hQ68 => exact fun _ _ _ h => h
        try simp only [Act.put, List.setIfInBounds_toArray, List.set_cons_zero, List.set_cons_succ]
        refine take_at 17 39 (oi := ?o69) (v := ?v69) ?hi69 ?hd69 (by kernel_rfl) (by kernel_rfl) (by kernel_rfl) ?hQ69 ?hw69 ?hy69 (by assumption) ?rest69
        case hi69 => simp only [List.getElem?_toArray, List.getElem?_cons_succ, List.getElem?_cons_zero]; rfl
        case hd69 => rfl
        case hw69 => kernel_rfl
        case hy69 => intro W hW; (try dsimp only at hW); go_simp <;> with_reducible rfl
        case hQ69 => exact fun _ _ _ h => h
        try simp only [Act.put, List.setIfInBounds_toArray, List.set_cons_zero, List.set_cons_succ]
        refine take_at 18 40 (oi := ?o70) (v := ?v70) ?hi70 ?hd70 (by kernel_rfl) (by kernel_rfl) (by kernel_rfl) ?hQ70 ?hw70 ?hy70 (by assumption) ?rest70
        case hi70 => simp only [List.getElem?_toArray, List.getElem?_cons_succ, List.getElem?_cons_zero]; rfl
        case hd70 => rfl
        case hw70 => kernel_rfl
        case hy70 => intro W hW; (try dsimp only at hW); go_simp <;> with_reducible rfl
        case hQ70 => exact fun _ _ _ h => h
        try simp only [Act.put, List.setIfInBounds_toArray, List.set_cons_zero, List.set_cons_succ]
        refine take_at 19 41 (oi := ?o71) (v := ?v71) ?hi71 ?hd71 (by kernel_rfl) (by kernel_rfl) (by kernel_rfl) ?hQ71 ?hw71 ?hy71 (by assumption) ?rest71
        case hi71 => simp only [List.getElem?_toArray, List.getElem?_cons_succ, List.getElem?_cons_zero]; rfl
        case hd71 => rfl
        case hw71 => kernel_rfl
        case hy71 => intro W hW; (try dsimp only at hW); go_simp <;> with_reducible rfl
        case hQ71 => exact fun _ _ _ h => h
        try simp only [Act.put, List.setIfInBounds_toArray, List.set_cons_zero, List.set_cons_succ]
        refine pass_at 20 42 (oi := ?o72) ?hi72 ?hd72 (by kernel_rfl) (by kernel_rfl) (by kernel_rfl) ?hQ72 ?hw72 (by assumption) ?rest72
        case hi72 => simp only [List.getElem?_toArray, List.getElem?_cons_succ, List.getElem?_cons_zero]; rfl
        case hd72 => rfl
        case hQ72 => exact fun _ _ _ h => h
        case hw72 => kernel_rfl
        try simp only [Act.put, List.setIfInBounds_toArray, List.set_cons_zero, List.set_cons_succ]
        refine pass_at 21 43 (oi := ?o73) ?hi73 ?hd73 (by kernel_rfl) (by kernel_rfl) (by kernel_rfl) ?hQ73 ?hw73 (by assumption) ?rest73
        case hi73 => simp only [List.getElem?_toArray, List.getElem?_cons_succ, List.getElem?_cons_zero]; rfl
        case hd73 => rfl
        case hQ73 => exact fun _ _ _ h => h
        case hw73 => kernel_rfl
        try simp only [Act.put, List.setIfInBounds_toArray, List.set_cons_zero, List.set_cons_succ]
        refine pass_at 22 44 (oi := ?o74) ?hi74 ?hd74 (by kernel_rfl) (by kernel_rfl) (by kernel_rfl) ?hQ74 ?hw74 (by assumption) ?rest74
        case hi74 => simp only [List.getElem?_toArray, List.getElem?_cons_succ, List.getElem?_cons_zero]; rfl
        case hd74 => rfl
        case hQ74 => exact fun _ _ _ h => h
        case hw74 => kernel_rfl
        try simp only [Act.put, List.setIfInBounds_toArray, List.set_cons_zero, List.set_cons_succ]
        refine pass_at 23 45 (oi := ?o75) ?hi75 ?hd75 (by kernel_rfl) (by kernel_rfl) (by kernel_rfl) ?hQ75 ?hw75 (by assumption) ?rest75
        case hi75 => simp only [List.getElem?_toArray, List.getElem?_cons_succ, List.getElem?_cons_zero]; rfl
        case hd75 => rfl
        case hQ75 => exact fun _ _ _ h => h
        case hw75 => kernel_rfl
        try simp only [Act.put, List.setIfInBounds_toArray, List.set_cons_zero, List.set_cons_succ]
        refine pass_at 24 46 (oi := ?o76) ?hi76 ?hd76 (by kernel_rfl) (by kernel_rfl) (by kernel_rfl) ?hQ76 ?hw76 (by assumption) ?rest76
        case hi76 => simp only [List.getElem?_toArray, List.getElem?_cons_succ, List.getElem?_cons_zero]; rfl
        case hd76 => rfl
        case hQ76 => exact fun _ _ _ h => h
        case hw76 => kernel_rfl
        try simp only [Act.put, List.setIfInBounds_toArray, List.set_cons_zero, List.set_cons_succ]
        refine pass_at 25 47 (oi := ?o77) ?hi77 ?hd77 (by kernel_rfl) (by kernel_rfl) (by kernel_rfl) ?hQ77 ?hw77 (by assumption) ?rest77
        case hi77 => simp only [List.getElem?_toArray, List.getElem?_cons_succ, List.getElem?_cons_zero]; rfl
        case hd77 => rfl
        case hQ77 => exact fun _ _ _ h => h
        case hw77 => kernel_rfl
        try simp only [Act.put, List.setIfInBounds_toArray, List.set_cons_zero, List.set_cons_succ]
        refine take_at 26 48 (oi := ?o78) (v := ?v78) ?hi78 ?hd78 (by kernel_rfl) (by kernel_rfl) (by kernel_rfl) ?hQ78 ?hw78 ?hy78 (by assumption) ?rest78
        case hi78 => simp only [List.getElem?_toArray, List.getElem?_cons_succ, List.getElem?_cons_zero]; rfl
        case hd78 => rfl
        case hw78 => kernel_rfl
        case hy78 => intro W hW; (try dsimp only at hW); go_simp <;> with_reducible rfl
        case hQ78 => exact fun _ _ _ h => h
        try simp only [Act.put, List.setIfInBounds_toArray, List.set_cons_zero, List.set_cons_succ]
        refine wpAnyH_done (by kernel_rfl) ?_ _
        go_wp2
        go_ret
        exact ⟨rfl, HB2.out⟩
    · have g1 : ((S.length : Int) != (b : Int)) = true := by simp; omega
      clear hf e1
      go_enter Tryd.func19, Tryd.ntmps19
      go_wp2_with (first
        | (go_at_call 15; refine (HV.out _).mono ?_; rintro e w1 ⟨rfl, hb1⟩
           have hk1 : w1.heap[w.heap.size]? = some (.cells #[.int .i64 (b : Int), .int .i64 (h : Int)] 23) := (hb1.block w.heap.size (by simp; omega)).trans (old_of (new_of _ _))
           have hs1 : w1.heap[w.heap.size + 1]? = some (.cells #[.int .i64 i, .slice sa S.length sc, .slice ha H.length hc, .slice ra R.length rc] 34) := (hb1.block (w.heap.size + 1) (by simp)).trans (new_at (by simp) rfl)
           have Hb1 := Lib.hid ((((Below.refl w.heap.size w).alloc (Nat.le_refl _) _).alloc (by simp) _).next hb1)
           have HK1 := Lib.hid hk1
           have HS1 := Lib.hid hs1
           clear hb1 hk1 hs1))
      refine wp_region_held_drew (S := (fun W : World => (W.cell? ⟨w.heap.size, 0, none⟩ = some (.int .i64 (b : Int)) ∧ W.cell? ⟨w.heap.size, 1, none⟩ = some (.int .i64 (h : Int))) ∧ W.cell? ⟨w.heap.size + 1, 0, none⟩ = some (.int .i64 i) ∧ W.cell? ⟨w.heap.size + 1, 1, none⟩ = some (.slice sa S.length sc) ∧ W.cell? ⟨w.heap.size + 1, 2, none⟩ = some (.slice ha H.length hc) ∧ W.cell? ⟨w.heap.size + 1, 3, none⟩ = some (.slice ra R.length rc))) (by kernel_rfl) ⟨key_cells (w := w1) HK1.out, sig_cells (w := w1) HS1.out⟩ (fun hHeld => ?_)
      refine take_at 0 22 (oi := ?o79) (v := ?v79) ?hi79 ?hd79 (by kernel_rfl) (by kernel_rfl) (by kernel_rfl) ?hQ79 ?hw79 ?hy79 (by assumption) ?rest79
      case hi79 => simp only [List.getElem?_toArray, List.getElem?_cons_zero]; rfl
      case hd79 => rfl
      case hw79 => kernel_rfl
      case hy79 => intro W hW; (try dsimp only at hW); go_simp <;> with_reducible rfl
      case hQ79 => exact fun _ _ _ h => h
      try simp only [Act.put, List.setIfInBounds_toArray, List.set_cons_zero, List.set_cons_succ]
      refine wpAnyH_ready (rs := [1]) (by kernel_rfl) (by simp) ?_
      refine AllReadyH.cons rfl (fun K hK => ?_) AllReadyH.nil
      go_simp
      refine (HF.out _ (by first | exact Hb1.out | exact dr Hb1.out)).mono ?_
      rintro e w2 ⟨rfl, hb2⟩
      have HB2 := Lib.hid (Hb1.out.next (by first | exact hb2 | exact undrew hb2))
      have hk2 : w2.heap[w.heap.size]? = some (.cells #[.int .i64 (b : Int), .int .i64 (h : Int)] 23) := (hb2.block _ (lt_of HK1.out)).trans HK1.out
      have hs2 : w2.heap[w.heap.size + 1]? = some (.cells #[.int .i64 i, .slice sa S.length sc, .slice ha H.length hc, .slice ra R.length rc] 34) := (hb2.block _ (lt_of HS1.out)).trans HS1.out
      have Hk2 := Lib.hid hk2
      have Hs2 := Lib.hid hs2
      clear hb2 hk2 hs2 hHeld
      go_wp2_with fail
      refine hK.out _ _ ⟨key_cells (w := w2) Hk2.out, sig_cells (w := w2) Hs2.out⟩ (fun hHeld => ?_)
      clear hK K
      try simp only [Act.put, List.setIfInBounds_toArray, List.set_cons_zero, List.set_cons_succ]
      refine take_at 2 24 (oi := ?o80) (v := ?v80) ?hi80 ?hd80 (by kernel_rfl) (by kernel_rfl) (by kernel_rfl) ?hQ80 ?hw80 ?hy80 (by assumption) ?rest80
      case hi80 => simp only [List.getElem?_toArray, List.getElem?_cons_succ, List.getElem?_cons_zero]; rfl
      case hd80 => rfl
      case hw80 => kernel_rfl
      case hy80 => intro W hW; (try dsimp only at hW); go_simp <;> with_reducible rfl
      case hQ80 => exact fun _ _ _ h => h
      try simp only [Act.put, List.setIfInBounds_toArray, List.set_cons_zero, List.set_cons_succ]
      refine take_at 3 25 (oi := ?o81) (v := ?v81) ?hi81 ?hd81 (by kernel_rfl) (by kernel_rfl) (by kernel_rfl) ?hQ81 ?hw81 ?hy81 (by assumption) ?rest81
      case hi81 => simp only [List.getElem?_toArray, List.getElem?_cons_succ, List.getElem?_cons_zero]; rfl
      case hd81 => rfl
      case hw81 => kernel_rfl
      case hy81 => intro W hW; (try dsimp only at hW); go_simp <;> with_reducible rfl
      case hQ81 => exact fun _ _ _ h => h
      try simp only [Act.put, List.setIfInBounds_toArray, List.set_cons_zero, List.set_cons_succ]
      refine take_at 4 26 (oi := ?o82) (v := ?v82) ?hi82 ?hd82 (by kernel_rfl) (by kernel_rfl) (by kernel_rfl) ?hQ82 ?hw82 ?hy82 (by assumption) ?rest82
      case hi82 => simp only [List.getElem?_toArray, List.getElem?_cons_succ, List.getElem?_cons_zero]; rfl
      case hd82 => rfl
      case hw82 => kernel_rfl
      case hy82 => intro W hW; (try dsimp only at hW); go_simp <;> with_reducible rfl
      case hQ82 => exact fun _ _ _ h => h
      try simp only [Act.put, List.setIfInBounds_toArray, List.set_cons_zero, List.set_cons_succ]
      refine take_at 5 27 (oi := ?o83) (v := ?v83) ?hi83 ?hd83 (by kernel_rfl) (by kernel_rfl) (by kernel_rfl) ?hQ83 ?hw83 ?hy83 (by assumption) ?rest83
      case hi83 => simp only [List.getElem?_toArray, List.getElem?_cons_succ, List.getElem?_cons_zero]; rfl
      case hd83 => rfl
      case hw83 => kernel_rfl
      case hy83 => intro W hW; (try dsimp only at hW); go_simp <;> with_reducible rfl
      case hQ83 => exact fun _ _ _ h => h
      try simp only [Act.put, List.setIfInBounds_toArray, List.set_cons_zero, List.set_cons_succ]
      refine take_at 6 28 (oi := ?o84) (v := ?v84) ?hi84 ?hd84 (by kernel_rfl) (by kernel_rfl) (by kernel_rfl) ?hQ84 ?hw84 ?hy84 (by assumption) ?rest84
      case hi84 => simp only [List.getElem?_toArray, List.getElem?_cons_succ, List.getElem?_cons_zero]; rfl
      case hd84 => rfl
      case hw84 => kernel_rfl
      case hy84 => intro W hW; (try dsimp only at hW); go_simp <;> with_reducible rfl
      case hQ84 => exact fun _ _ _ h => h
      try simp only [Act.put, List.setIfInBounds_toArray, List.set_cons_zero, List.set_cons_succ]
      refine take_at 7 29 (oi := ?o85) (v := ?v85) ?hi85 ?hd85 (by kernel_rfl) (by kernel_rfl) (by kernel_rfl) ?hQ85 ?hw85 ?hy85 (by assumption) ?rest85
      case hi85 => simp only [List.getElem?_toArray, List.getElem?_cons_succ, List.getElem?_cons_zero]; rfl
      case hd85 => rfl
      case hw85 => kernel_rfl
      case hy85 => intro W hW; (try dsimp only at hW); go_simp <;> with_reducible rfl
      case hQ85 => exact fun _ _ _ h => h
      try simp only [Act.put, List.setIfInBounds_toArray, List.set_cons_zero, List.set_cons_succ]
      refine take_at 8 30 (oi := ?o86) (v := ?v86) ?hi86 ?hd86 (by kernel_rfl) (by kernel_rfl) (by kernel_rfl) ?hQ86 ?hw86 ?hy86 (by assumption) ?rest86
      case hi86 => simp only [List.getElem?_toArray, List.getElem?_cons_succ, List.getElem?_cons_zero]; rfl
      case hd86 => rfl
      case hw86 => kernel_rfl
      case hy86 => intro W hW; (try dsimp only at hW); go_simp <;> with_reducible rfl
      case hQ86 => exact fun _ _ _ h => h
      try simp only [Act.put, List.setIfInBounds_toArray, List.set_cons_zero, List.set_cons_succ]
      refine take_at 9 31 (oi := ?o87) (v := ?v87) ?hi87 ?hd87 (by kernel_rfl) (by kernel_rfl) (by kernel_rfl) ?hQ87 ?hw87 ?hy87 (by assumption) ?rest87
      case hi87 => simp only [List.getElem?_toArray, List.getElem?_cons_succ, List.getElem?_cons_zero]; rfl
      case hd87 => rfl
      case hw87 => kernel_rfl
      case hy87 => intro W hW; (try dsimp only at hW); go_simp <;> with_reducible rfl
      case hQ87 => exact fun _ _ _ h => h
      try simp only [Act.put, List.setIfInBounds_toArray, List.set_cons_zero, List.set_cons_succ]
      refine take_at 10 32 (oi := ?o88) (v := ?v88) ?hi88 ?hd88 (by kernel_rfl) (by kernel_rfl) (by kernel_rfl) ?hQ88 ?hw88 ?hy88 (by assumption) ?rest88
      case hi88 => simp only [List.getElem?_toArray, List.getElem?_cons_succ, List.getElem?_cons_zero]; rfl
      case hd88 => rfl
      case hw88 => kernel_rfl
      case hy88 => intro W hW; (try dsimp only at hW); go_simp <;> with_reducible rfl
      case hQ88 => exact fun _ _ _ h => h
      try simp only [Act.put, List.setIfInBounds_toArray, List.set_cons_zero, List.set_cons_succ]
      refine take_at 11 33 (oi := ?o89) (v := ?v89) ?hi89 ?hd89 (by kernel_rfl) (by kernel_rfl) (by kernel_rfl) ?hQ89 ?hw89 ?hy89 (by assumption) ?rest89
      case hi89 => simp only [List.getElem?_toArray, List.getElem?_cons_succ, List.getElem?_cons_zero]; rfl
      case hd89 => rfl
      case hw89 => kernel_rfl
      case hy89 => intro W hW; (try dsimp only at hW); go_simp <;> with_reducible rfl
      case hQ89 => exact fun _ _ _ h => h
      try simp only [Act.put, List.setIfInBounds_toArray, List.set_cons_zero, List.set_cons_succ]
      refine pass_at 12 34 (oi := ?o90) ?hi90 ?hd90 (by kernel_rfl) (by kernel_rfl) (by kernel_rfl) ?hQ90 ?hw90 (by assumption) ?rest90
      case hi90 => simp only [List.getElem?_toArray, List.getElem?_cons_succ, List.getElem?_cons_zero]; rfl
      case hd90 => rfl
      case hQ90 => exact fun _ _ _ h => h
      case hw90 => kernel_rfl
      try simp only [Act.put, List.setIfInBounds_toArray, List.set_cons_zero, List.set_cons_succ]
      refine pass_at 13 35 (oi := ?o91) ?hi91 ?hd91 (by kernel_rfl) (by kernel_rfl) (by kernel_rfl) ?hQ91 ?hw91 (by assumption) ?rest91
      case hi91 => simp only [List.getElem?_toArray, List.getElem?_cons_succ, List.getElem?_cons_zero]; rfl
      case hd91 => rfl
      case hQ91 => exact fun _ _ _ h => h
      case hw91 => kernel_rfl
      try simp only [Act.put, List.setIfInBounds_toArray, List.set_cons_zero, List.set_cons_succ]
      refine pass_at 14 36 (oi := ?o92) ?hi92 ?hd92 (by kernel_rfl) (by kernel_rfl) (by kernel_rfl) ?hQ92 ?hw92 (by assumption) ?rest92
      case hi92 => simp only [List.getElem?_toArray, List.getElem?_cons_succ, List.getElem?_cons_zero]; rfl
      case hd92 => rfl
      case hQ92 => exact fun _ _ _ h => h
      case hw92 => kernel_rfl
      try simp only [Act.put, List.setIfInBounds_toArray, List.set_cons_zero, List.set_cons_succ]
      refine pass_at 15 37 (oi := ?o93) ?hi93 ?hd93 (by kernel_rfl) (by kernel_rfl) (by kernel_rfl) ?hQ93 ?hw93 (by assumption) ?rest93
      case hi93 => simp only [List.getElem?_toArray, List.getElem?_cons_succ, List.getElem?_cons_zero]; rfl
      case hd93 => rfl
      case hQ93 => exact fun _ _ _ h => h
      case hw93 => kernel_rfl
      try simp only [Act.put, List.setIfInBounds_toArray, List.set_cons_zero, List.set_cons_succ]
      refine pass_at 16 38 (oi := ?o94) ?hi94 ?hd94 (by kernel_rfl) (by kernel_rfl) (by kernel_rfl) ?hQ94 ?hw94 (by assumption) ?rest94
      case hi94 => simp only [List.getElem?_toArray, List.getElem?_cons_succ, List.getElem?_cons_zero]; rfl
      case hd94 => rfl
      case hQ94 => exact fun _ _ _ h => h
      case hw94 => kernel_rfl
      try simp only [Act.put, List.setIfInBounds_toArray, List.set_cons_zero, List.set_cons_succ]
      refine pass_at 17 39 (oi := ?o95) ?hi95 ?hd95 (by kernel_rfl) (by kernel_rfl) (by kernel_rfl) ?hQ95 ?hw95 (by assumption) ?rest95
      case hi95 => simp only [List.getElem?_toArray, List.getElem?_cons_succ, List.getElem?_cons_zero]; rfl
      case hd95 => rfl
      case hQ95 => exact fun _ _ _ h => h
      case hw95 => kernel_rfl
      try simp only [Act.put, List.setIfInBounds_toArray, List.set_cons_zero, List.set_cons_succ]
      refine take_at 18 40 (oi := ?o96) (v := ?v96) ?hi96 ?hd96 (by kernel_rfl) (by kernel_rfl) (by kernel_rfl) ?hQ96 ?hw96 ?hy96 (by assumption) ?rest96
      case hi96 => simp only [List.getElem?_toArray, List.getElem?_cons_succ, List.getElem?_cons_zero]; rfl
      case hd96 => rfl
      case hw96 => kernel_rfl
      case hy96 => intro W hW; (try dsimp only at hW); go_simp <;> with_reducible rfl
      case hQ96 => exact fun _ _ _ h => h
      try simp only [Act.put, List.setIfInBounds_toArray, List.set_cons_zero, List.set_cons_succ]
      refine take_at 19 41 (oi := ?o97) (v := ?v97) ?hi97 ?hd97 (by kernel_rfl) (by kernel_rfl) (by kernel_rfl) ?hQ97 ?hw97 ?hy97 (by assumption) ?rest97
      case hi97 => simp only [List.getElem?_toArray, List.getElem?_cons_succ, List.getElem?_cons_zero]; rfl
      case hd97 => rfl
      case hw97 => kernel_rfl
      case hy97 => intro W hW; (try dsimp only at hW); go_simp <;> with_reducible rfl
      case hQ97 => exact fun _ _ _ h => h
      try simp only [Act.put, List.setIfInBounds_toArray, List.set_cons_zero, List.set_cons_succ]
      refine pass_at 20 42 (oi := ?o98) ?hi98 ?hd98 (by kernel_rfl) (by kernel_rfl) (by kernel_rfl) ?hQ98 ?hw98 (by assumption) ?rest98
      case hi98 => simp only [List.getElem?_toArray, List.getElem?_cons_succ, List.getElem?_cons_zero]; rfl
      case hd98 => rfl
      case hQ98 => exact fun _ _ _ h => h
      case hw98 => kernel_rfl
      try simp only [Act.put, List.setIfInBounds_toArray, List.set_cons_zero, List.set_cons_succ]
      refine pass_at 21 43 (oi := ?o99) ?hi99 ?hd99 (by kernel_rfl) (by kernel_rfl) (by kernel_rfl) ?hQ99 ?hw99 (by assumption) ?rest99
      case hi99 => simp only [List.getElem?_toArray, List.getElem?_cons_succ, List.getElem?_cons_zero]; rfl
      case hd99 => rfl
      case hQ99 => exact fun _ _ _ h => h
      case hw99 => kernel_rfl
      try simp only [Act.put, List.setIfInBounds_toArray, List.set_cons_zero, List.set_cons_succ]
      refine pass_at 22 44 (oi := ?o100) ?hi100 ?hd100 (by kernel_rfl) (by kernel_rfl) (by kernel_rfl) ?hQ100 ?hw100 (by assumption) ?rest100
      case hi100 => simp only [List.getElem?_toArray, List.getElem?_cons_succ, List.getElem?_cons_zero]; rfl
      case hd100 => rfl
      case hQ100 => exact fun _ _ _ h => h
      case hw100 => kernel_rfl
      try simp only [Act.put, List.setIfInBounds_toArray, List.set_cons_zero, List.set_cons_succ]
      refine pass_at 23 45 (oi := ?o101) ?hi101 ?hd101 (by kernel_rfl) (by kernel_rfl) (by kernel_rfl) ?hQ101 ?hw101 (by assumption) ?rest101
      case hi101 => simp only [List.getElem?_toArray, List.getElem?_cons_succ, List.getElem?_cons_zero]; rfl
      case hd101 => rfl
      case hQ101 => exact fun _ _ _ h => h
      case hw101 => kernel_rfl
      try simp only [Act.put, List.setIfInBounds_toArray, List.set_cons_zero, List.set_cons_succ]
      refine pass_at 24 46 (oi := ?o102) ?hi102 ?hd102 (by kernel_rfl) (by kernel_rfl) (by kernel_rfl) ?hQ102 ?hw102 (by assumption) ?rest102
      case hi102 => simp only [List.getElem?_toArray, List.getElem?_cons_succ, List.getElem?_cons_zero]; rfl
      case hd102 => rfl
      case hQ102 => exact fun _ _ _ h => h
      case hw102 => kernel_rfl
      try simp only [Act.put, List.setIfInBounds_toArray, List.set_cons_zero, List.set_cons_succ]
      refine pass_at 25 47 (oi := ?o103) ?hi103 ?hd103 (by kernel_rfl) (by kernel_rfl) (by kernel_rfl) ?hQ103 ?hw103 (by assumption) ?rest103
      case hi103 => simp only [List.getElem?_toArray, List.getElem?_cons_succ, List.getElem?_cons_zero]; rfl
      case hd103 => rfl
      case hQ103 => exact fun _ _ _ h => h
      case hw103 => kernel_rfl
      try simp only [Act.put, List.setIfInBounds_toArray, List.set_cons_zero, List.set_cons_succ]
      refine take_at 26 48 (oi := ?o104) (v := ?v104) ?hi104 ?hd104 (by kernel_rfl) (by kernel_rfl) (by kernel_rfl) ?hQ104 ?hw104 ?hy104 (by assumption) ?rest104
      case hi104 => simp only [List.getElem?_toArray, List.getElem?_cons_succ, List.getElem?_cons_zero]; rfl
      case hd104 => rfl
      case hw104 => kernel_rfl
      case hy104 => intro W hW; (try dsimp only at hW); go_simp <;> with_reducible rfl
      case hQ104 => exact fun _ _ _ h => h
      try simp only [Act.put, List.setIfInBounds_toArray, List.set_cons_zero, List.set_cons_succ]
      refine wpAnyH_done (by kernel_rfl) ?_ _
      go_wp2
      go_ret
      exact ⟨rfl, HB2.out⟩

end Go.Proofs.YtdkjehagkmkokaaDoor
