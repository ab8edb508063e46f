/- Check of the reference of lamport: what it answers where the signature does not fit the key. -/
import Derived.Test.YtdkjehagkmkokaaDoorWkRefSign
import Derived.Test.YtdkjehagkmkokaaDoorWkCheckA
namespace Go.Proofs.YtdkjehagkmkokaaDoor
open Go Go.RowKit Licit

theorem RCheck_no (root m : Bs) (b h : Int) (v : Value) (i : Int) (S H R : List Bs) (w : World) (hk : keyOk b h = false) (hsig : SigIs v i S H R w) :
    Gives 20 #[.string (B root), .agg #[.int .i64 b, .int .i64 h], .string (B m), v] w (.int .i64 3) := by
  have HV := Lib.hid (fun W => RValid_no b h W hk)
  obtain ⟨vs, vh, vr, rfl, hS, hH, hR⟩ := hsig
  obtain ⟨sa, sc, rfl⟩ := hS.formMap
  obtain ⟨ha, hc, rfl⟩ := hH.formMap
  obtain ⟨ra, rc, rfl⟩ := hR.formMap
  clear hk hS hH hR
  go_enter Tryd.func20, Tryd.ntmps20
  go_wp2_with (first
    | (go_at_call 16; refine (HV.out _).mono ?_; rintro e w1 ⟨rfl, hb1⟩; have Hb1 := Lib.hid ((((Below.refl w.heap.size w).alloc (Nat.le_refl _) _).alloc (by simp) _).next hb1); clear hb1))
  go_ret
  exact ⟨rfl, Hb1.out⟩

set_option maxHeartbeats 4000000 in
set_option maxRecDepth 100000 in
theorem RCheck_unfit (root m : Bs) (b h : Nat) (v : Value) (i : Int) (S H R : List Bs) (w : World) (hk : keyOk (b : Int) (h : Int) = true) (hsig : SigIs v i S H R w) (hf : fitsB b h i S H R = false) :
    Gives 20 #[.string (B root), .agg #[.int .i64 (b : Int), .int .i64 (h : Int)], .string (B m), v] w (.int .i64 1) := by
  have hk' : 8 ≤ (b : Int) ∧ (b : Int) ≤ 256 ∧ 0 ≤ (h : Int) ∧ (h : Int) ≤ 6 := by simpa [keyOk] using hk
  have hh : h ≤ 6 := by omega
  have HV := Lib.hid (fun W => RValid_yes (b : Int) (h : Int) W hk)
  have HCnt := Lib.hid (fun W => RCount_any (b : Int) h W hh)
  clear hk hk'
  have hF := fun W (hB : Below w.heap.size w W) => WellF_any v i S H R W (hsig.below hB)
  obtain ⟨vs, vh, vr, rfl, hS, hH, hR⟩ := hsig
  have hSl := hS.1
  have hHl := hH.1
  have hRl := hR.1
  rw [List.length_map] at hSl hHl hRl
  unfold maxLen at hSl hHl hRl
  obtain ⟨sa, sc, rfl⟩ := hS.formMap
  obtain ⟨ha, hc, rfl⟩ := hH.formMap
  obtain ⟨ra, rc, rfl⟩ := hR.formMap
  clear hS hH hR
  obtain ⟨N, hN, _, _, h64, _⟩ := pow_facts hh
  rw [hN] at HCnt
  unfold fitsB at hf
  rw [hN] at hf
  cases ok : sigOk i S H R with
  | false =>
    rw [ok] at hF
    have HF := Lib.hid hF
    clear hF ok hf hN
    go_enter Tryd.func20, Tryd.ntmps20
    go_wp2_with (first
      | (go_at_call 16; refine (HV.out _).mono ?_; rintro e w1 ⟨rfl, hb1⟩
         have hk1 : w1.heap[w.heap.size]? = some (.cells #[.int .i64 (b : Int), .int .i64 (h : Int)] 23) := (hb1.block w.heap.size (by simp; omega)).trans (old_of (new_of _ _))
         have hs1 : w1.heap[w.heap.size + 1]? = some (.cells #[.int .i64 i, .slice sa S.length sc, .slice ha H.length hc, .slice ra R.length rc] 34) := (hb1.block (w.heap.size + 1) (by simp)).trans (new_at (by simp) rfl)
         have Hb1 := Lib.hid ((((Below.refl w.heap.size w).alloc (Nat.le_refl _) _).alloc (by simp) _).next hb1)
         have HK1 := Lib.hid hk1
         have HS1 := Lib.hid hs1
         clear hb1 hk1 hs1))
    refine wp_region_held_drew (S := (fun W : World => (W.cell? ⟨w.heap.size, 0, none⟩ = some (.int .i64 (b : Int)) ∧ W.cell? ⟨w.heap.size, 1, none⟩ = some (.int .i64 (h : Int))) ∧ W.cell? ⟨w.heap.size + 1, 0, none⟩ = some (.int .i64 i) ∧ W.cell? ⟨w.heap.size + 1, 1, none⟩ = some (.slice sa S.length sc) ∧ W.cell? ⟨w.heap.size + 1, 2, none⟩ = some (.slice ha H.length hc) ∧ W.cell? ⟨w.heap.size + 1, 3, none⟩ = some (.slice ra R.length rc))) (by kernel_rfl) ⟨keyC (w := w1) HK1.out, sigC (w := w1) HS1.out⟩ (fun hHeld => ?_)
    refine take_at 0 18 (oi := ?o25) (v := ?v25) ?hi25 ?hd25 (by kernel_rfl) (by kernel_rfl) (by kernel_rfl) ?hQ25 ?hw25 ?hy25 (by assumption) ?rest25
    case hi25 => simp only [List.getElem?_toArray, List.getElem?_cons_zero]; rfl
    case hd25 => rfl
    case hw25 => kernel_rfl
    case hy25 => intro W hW; (try dsimp only at hW); go_simp <;> with_reducible rfl
    case hQ25 => exact fun _ _ _ h => h
    try simp only [Act.put, List.setIfInBounds_toArray, List.set_cons_zero, List.set_cons_succ]
    refine wpAnyH_ready (rs := [1]) (by kernel_rfl) (by simp) ?_
    refine AllReadyH.cons rfl (fun K hK => ?_) AllReadyH.nil
    go_simp
    refine (HF.out _ (by first | exact Hb1.out | exact dr Hb1.out)).mono ?_
    rintro e w2 ⟨rfl, hb2⟩
    have HB2 := Lib.hid (Hb1.out.next (by first | exact hb2 | exact undrew hb2))
    have hk2 : w2.heap[w.heap.size]? = some (.cells #[.int .i64 (b : Int), .int .i64 (h : Int)] 23) := (hb2.block _ (lt_of HK1.out)).trans HK1.out
    have hs2 : w2.heap[w.heap.size + 1]? = some (.cells #[.int .i64 i, .slice sa S.length sc, .slice ha H.length hc, .slice ra R.length rc] 34) := (hb2.block _ (lt_of HS1.out)).trans HS1.out
    have Hk2 := Lib.hid hk2
    have Hs2 := Lib.hid hs2
    clear hb2 hk2 hs2 hHeld
    go_wp2_with fail
    refine hK.out _ _ ⟨keyC (w := w2) Hk2.out, sigC (w := w2) Hs2.out⟩ (fun hHeld => ?_)
    clear hK K
    try simp only [Act.put, List.setIfInBounds_toArray, List.set_cons_zero, List.set_cons_succ]
    refine take_at 2 20 (oi := ?o26) (v := ?v26) ?hi26 ?hd26 (by kernel_rfl) (by kernel_rfl) (by kernel_rfl) ?hQ26 ?hw26 ?hy26 (by assumption) ?rest26
    case hi26 => simp only [List.getElem?_toArray, List.getElem?_cons_succ, List.getElem?_cons_zero]; rfl
    case hd26 => rfl
    case hw26 => kernel_rfl
    case hy26 => intro W hW; (try dsimp only at hW); go_simp <;> with_reducible rfl
    case hQ26 => exact fun _ _ _ h => h
    try simp only [Act.put, List.setIfInBounds_toArray, List.set_cons_zero, List.set_cons_succ]
    refine take_at 3 21 (oi := ?o27) (v := ?v27) ?hi27 ?hd27 (by kernel_rfl) (by kernel_rfl) (by kernel_rfl) ?hQ27 ?hw27 ?hy27 (by assumption) ?rest27
    case hi27 => simp only [List.getElem?_toArray, List.getElem?_cons_succ, List.getElem?_cons_zero]; rfl
    case hd27 => rfl
    case hw27 => kernel_rfl
    case hy27 => intro W hW; (try dsimp only at hW); go_simp <;> with_reducible rfl
    case hQ27 => exact fun _ _ _ h => h
    try simp only [Act.put, List.setIfInBounds_toArray, List.set_cons_zero, List.set_cons_succ]
    refine pass_at 4 22 (oi := ?o28) ?hi28 ?hd28 (by kernel_rfl) (by kernel_rfl) (by kernel_rfl) ?hQ28 ?hw28 (by assumption) ?rest28
    case hi28 => simp only [List.getElem?_toArray, List.getElem?_cons_succ, List.getElem?_cons_zero]; rfl
    case hd28 => rfl
    case hQ28 => exact fun _ _ _ h => h
    case hw28 => kernel_rfl
    try simp only [Act.put, List.setIfInBounds_toArray, List.set_cons_zero, List.set_cons_succ]
    refine pass_at 5 23 (oi := ?o29) ?hi29 ?hd29 (by kernel_rfl) (by kernel_rfl) (by kernel_rfl) ?hQ29 ?hw29 (by assumption) ?rest29
    case hi29 => simp only [List.getElem?_toArray, List.getElem?_cons_succ, List.getElem?_cons_zero]; rfl
    case hd29 => rfl
    case hQ29 => exact fun _ _ _ h => h
    case hw29 => kernel_rfl
    try simp only [Act.put, List.setIfInBounds_toArray, List.set_cons_zero, List.set_cons_succ]
    refine pass_at 6 24 (oi := ?o30) ?hi30 ?hd30 (by kernel_rfl) (by kernel_rfl) (by kernel_rfl) ?hQ30 ?hw30 (by assumption) ?rest30
    case hi30 => simp only [List.getElem?_toArray, List.getElem?_cons_succ, List.getElem?_cons_zero]; rfl
    case hd30 => rfl
    case hQ30 => exact fun _ _ _ h => h
    case hw30 => kernel_rfl
    try simp only [Act.put, List.setIfInBounds_toArray, List.set_cons_zero, List.set_cons_succ]
    refine pass_at 7 25 (oi := ?o31) ?hi31 ?hd31 (by kernel_rfl) (by kernel_rfl) (by kernel_rfl) ?hQ31 ?hw31 (by assumption) ?rest31
    case hi31 => simp only [List.getElem?_toArray, List.getElem?_cons_succ, List.getElem?_cons_zero]; rfl
    case hd31 => rfl
    case hQ31 => exact fun _ _ _ h => h
    case hw31 => kernel_rfl
    try simp only [Act.put, List.setIfInBounds_toArray, List.set_cons_zero, List.set_cons_succ]
    refine pass_at 8 26 (oi := ?o32) ?hi32 ?hd32 (by kernel_rfl) (by kernel_rfl) (by kernel_rfl) ?hQ32 ?hw32 (by assumption) ?rest32
    case hi32 => simp only [List.getElem?_toArray, List.getElem?_cons_succ, List.getElem?_cons_zero]; rfl
    case hd32 => rfl
    case hQ32 => exact fun _ _ _ h => h
    case hw32 => kernel_rfl
    try simp only [Act.put, List.setIfInBounds_toArray, List.set_cons_zero, List.set_cons_succ]
    refine pass_at 9 27 (oi := ?o33) ?hi33 ?hd33 (by kernel_rfl) (by kernel_rfl) (by kernel_rfl) ?hQ33 ?hw33 (by assumption) ?rest33
    case hi33 => simp only [List.getElem?_toArray, List.getElem?_cons_succ, List.getElem?_cons_zero]; rfl
    case hd33 => rfl
    case hQ33 => exact fun _ _ _ h => h
    case hw33 => kernel_rfl
    try simp only [Act.put, List.setIfInBounds_toArray, List.set_cons_zero, List.set_cons_succ]
    refine take_at 10 28 (oi := ?o34) (v := ?v34) ?hi34 ?hd34 (by kernel_rfl) (by kernel_rfl) (by kernel_rfl) ?hQ34 ?hw34 ?hy34 (by assumption) ?rest34
    case hi34 => simp only [List.getElem?_toArray, List.getElem?_cons_succ, List.getElem?_cons_zero]; rfl
    case hd34 => rfl
    case hw34 => kernel_rfl
    case hy34 => intro W hW; (try dsimp only at hW); go_simp <;> with_reducible rfl
    case hQ34 => exact fun _ _ _ h => h
    try simp only [Act.put, List.setIfInBounds_toArray, List.set_cons_zero, List.set_cons_succ]
    refine take_at 11 29 (oi := ?o35) (v := ?v35) ?hi35 ?hd35 (by kernel_rfl) (by kernel_rfl) (by kernel_rfl) ?hQ35 ?hw35 ?hy35 (by assumption) ?rest35
    case hi35 => simp only [List.getElem?_toArray, List.getElem?_cons_succ, List.getElem?_cons_zero]; rfl
    case hd35 => rfl
    case hw35 => kernel_rfl
    case hy35 => intro W hW; (try dsimp only at hW); go_simp <;> with_reducible rfl
    case hQ35 => exact fun _ _ _ h => h
    try simp only [Act.put, List.setIfInBounds_toArray, List.set_cons_zero, List.set_cons_succ]
    refine pass_at 12 30 (oi := ?o36) ?hi36 ?hd36 (by kernel_rfl) (by kernel_rfl) (by kernel_rfl) ?hQ36 ?hw36 (by assumption) ?rest36
    case hi36 => simp only [List.getElem?_toArray, List.getElem?_cons_succ, List.getElem?_cons_zero]; rfl
    case hd36 => rfl
    case hQ36 => exact fun _ _ _ h => h
    case hw36 => kernel_rfl
    try simp only [Act.put, List.setIfInBounds_toArray, List.set_cons_zero, List.set_cons_succ]
    refine pass_at 13 31 (oi := ?o37) ?hi37 ?hd37 (by kernel_rfl) (by kernel_rfl) (by kernel_rfl) ?hQ37 ?hw37 (by assumption) ?rest37
    case hi37 => simp only [List.getElem?_toArray, List.getElem?_cons_succ, List.getElem?_cons_zero]; rfl
    case hd37 => rfl
    case hQ37 => exact fun _ _ _ h => h
    case hw37 => kernel_rfl
    try simp only [Act.put, List.setIfInBounds_toArray, List.set_cons_zero, List.set_cons_succ]
    refine pass_at 14 32 (oi := ?o38) ?hi38 ?hd38 (by kernel_rfl) (by kernel_rfl) (by kernel_rfl) ?hQ38 ?hw38 (by assumption) ?rest38
    case hi38 => simp only [List.getElem?_toArray, List.getElem?_cons_succ, List.getElem?_cons_zero]; rfl
    case hd38 => rfl
    case hQ38 => exact fun _ _ _ h => h
    case hw38 => kernel_rfl
    try simp only [Act.put, List.setIfInBounds_toArray, List.set_cons_zero, List.set_cons_succ]
    refine pass_at 15 33 (oi := ?o39) ?hi39 ?hd39 (by kernel_rfl) (by kernel_rfl) (by kernel_rfl) ?hQ39 ?hw39 (by assumption) ?rest39
    case hi39 => simp only [List.getElem?_toArray, List.getElem?_cons_succ, List.getElem?_cons_zero]; rfl
    case hd39 => rfl
    case hQ39 => exact fun _ _ _ h => h
    case hw39 => kernel_rfl
    try simp only [Act.put, List.setIfInBounds_toArray, List.set_cons_zero, List.set_cons_succ]
    refine pass_at 16 34 (oi := ?o40) ?hi40 ?hd40 (by kernel_rfl) (by kernel_rfl) (by kernel_rfl) ?hQ40 ?hw40 (by assumption) ?rest40
    case hi40 => simp only [List.getElem?_toArray, List.getElem?_cons_succ, List.getElem?_cons_zero]; rfl
    case hd40 => rfl
    case hQ40 => exact fun _ _ _ h => h
    case hw40 => kernel_rfl
    try simp only [Act.put, List.setIfInBounds_toArray, List.set_cons_zero, List.set_cons_succ]
    refine pass_at 17 35 (oi := ?o41) ?hi41 ?hd41 (by kernel_rfl) (by kernel_rfl) (by kernel_rfl) ?hQ41 ?hw41 (by assumption) ?rest41
    case hi41 => simp only [List.getElem?_toArray, List.getElem?_cons_succ, List.getElem?_cons_zero]; rfl
    case hd41 => rfl
    case hQ41 => exact fun _ _ _ h => h
    case hw41 => kernel_rfl
    try simp only [Act.put, List.setIfInBounds_toArray, List.set_cons_zero, List.set_cons_succ]
    refine take_at 18 36 (oi := ?o42) (v := ?v42) ?hi42 ?hd42 (by kernel_rfl) (by kernel_rfl) (by kernel_rfl) ?hQ42 ?hw42 ?hy42 (by assumption) ?rest42
    case hi42 => simp only [List.getElem?_toArray, List.getElem?_cons_succ, List.getElem?_cons_zero]; rfl
    case hd42 => rfl
    case hw42 => kernel_rfl
    case hy42 => intro W hW; (try dsimp only at hW); go_simp <;> with_reducible rfl
    case hQ42 => exact fun _ _ _ h => h
    try simp only [Act.put, List.setIfInBounds_toArray, List.set_cons_zero, List.set_cons_succ]
    refine take_at 19 37 (oi := ?o43) (v := ?v43) ?hi43 ?hd43 (by kernel_rfl) (by kernel_rfl) (by kernel_rfl) ?hQ43 ?hw43 ?hy43 (by assumption) ?rest43
    case hi43 => simp only [List.getElem?_toArray, List.getElem?_cons_succ, List.getElem?_cons_zero]; rfl
    case hd43 => rfl
    case hw43 => kernel_rfl
    case hy43 => intro W hW; (try dsimp only at hW); go_simp <;> with_reducible rfl
    case hQ43 => exact fun _ _ _ h => h
    try simp only [Act.put, List.setIfInBounds_toArray, List.set_cons_zero, List.set_cons_succ]
    refine pass_at 20 38 (oi := ?o44) ?hi44 ?hd44 (by kernel_rfl) (by kernel_rfl) (by kernel_rfl) ?hQ44 ?hw44 (by assumption) ?rest44
    case hi44 => simp only [List.getElem?_toArray, List.getElem?_cons_succ, List.getElem?_cons_zero]; rfl
    case hd44 => rfl
    case hQ44 => exact fun _ _ _ h => h
    case hw44 => kernel_rfl
    try simp only [Act.put, List.setIfInBounds_toArray, List.set_cons_zero, List.set_cons_succ]
    refine pass_at 21 39 (oi := ?o45) ?hi45 ?hd45 (by kernel_rfl) (by kernel_rfl) (by kernel_rfl) ?hQ45 ?hw45 (by assumption) ?rest45
    case hi45 => simp only [List.getElem?_toArray, List.getElem?_cons_succ, List.getElem?_cons_zero]; rfl
    case hd45 => rfl
    case hQ45 => exact fun _ _ _ h => h
    case hw45 => kernel_rfl
    try simp only [Act.put, List.setIfInBounds_toArray, List.set_cons_zero, List.set_cons_succ]
    refine pass_at 22 40 (oi := ?o46) ?hi46 ?hd46 (by kernel_rfl) (by kernel_rfl) (by kernel_rfl) ?hQ46 ?hw46 (by assumption) ?rest46
    case hi46 => simp only [List.getElem?_toArray, List.getElem?_cons_succ, List.getElem?_cons_zero]; rfl
    case hd46 => rfl
    case hQ46 => exact fun _ _ _ h => h
    case hw46 => kernel_rfl
    try simp only [Act.put, List.setIfInBounds_toArray, List.set_cons_zero, List.set_cons_succ]
    refine pass_at 23 41 (oi := ?o47) ?hi47 ?hd47 (by kernel_rfl) (by kernel_rfl) (by kernel_rfl) ?hQ47 ?hw47 (by assumption) ?rest47
    case hi47 => simp only [List.getElem?_toArray, List.getElem?_cons_succ, List.getElem?_cons_zero]; rfl
    case hd47 => rfl
    case hQ47 => exact fun _ _ _ h => h
    case hw47 => kernel_rfl
    try simp only [Act.put, List.setIfInBounds_toArray, List.set_cons_zero, List.set_cons_succ]
    refine pass_at 24 42 (oi := ?o48) ?hi48 ?hd48 (by kernel_rfl) (by kernel_rfl) (by kernel_rfl) ?hQ48 ?hw48 (by assumption) ?rest48
    case hi48 => simp only [List.getElem?_toArray, List.getElem?_cons_succ, List.getElem?_cons_zero]; rfl
    case hd48 => rfl
    case hQ48 => exact fun _ _ _ h => h
    case hw48 => kernel_rfl
    try simp only [Act.put, List.setIfInBounds_toArray, List.set_cons_zero, List.set_cons_succ]
    refine take_at 25 43 (oi := ?o49) (v := ?v49) ?hi49 ?hd49 (by kernel_rfl) (by kernel_rfl) (by kernel_rfl) ?hQ49 ?hw49 ?hy49 (by assumption) ?rest49
    case hi49 => simp only [List.getElem?_toArray, List.getElem?_cons_succ, List.getElem?_cons_zero]; rfl
    case hd49 => rfl
    case hw49 => kernel_rfl
    case hy49 => intro W hW; (try dsimp only at hW); go_simp <;> with_reducible rfl
    case hQ49 => exact fun _ _ _ h => h
    try simp only [Act.put, List.setIfInBounds_toArray, List.set_cons_zero, List.set_cons_succ]
    refine wpAnyH_done (by kernel_rfl) ?_ _
    go_wp2
    go_ret
    exact ⟨rfl, HB2.out⟩
  | true =>
    rw [ok] at hF
    rw [ok, Bool.true_and] at hf
    have HF := Lib.hid hF
    clear hF ok hN
    by_cases e1 : S.length = b
    · by_cases e2 : R.length = h
      · have e3 : ¬ (i < (N : Int)) := by simpa [e1, e2] using hf
        have g3 : decide ((N : Int) ≤ i) = true := by simp; omega
        have g1 : (S.length : Int) = (b : Int) := by omega
        have g2 : (R.length : Int) = (h : Int) := by omega
        clear hf e1 e2 e3
        go_enter Tryd.func20, Tryd.ntmps20
        go_wp2_with (first
          | (go_at_call 16; refine (HV.out _).mono ?_; rintro e w1 ⟨rfl, hb1⟩
             have hk1 : w1.heap[w.heap.size]? = some (.cells #[.int .i64 (b : Int), .int .i64 (h : Int)] 23) := (hb1.block w.heap.size (by simp; omega)).trans (old_of (new_of _ _))
             have hs1 : w1.heap[w.heap.size + 1]? = some (.cells #[.int .i64 i, .slice sa S.length sc, .slice ha H.length hc, .slice ra R.length rc] 34) := (hb1.block (w.heap.size + 1) (by simp)).trans (new_at (by simp) rfl)
             have Hb1 := Lib.hid ((((Below.refl w.heap.size w).alloc (Nat.le_refl _) _).alloc (by simp) _).next hb1)
             have HK1 := Lib.hid hk1
             have HS1 := Lib.hid hs1
             clear hb1 hk1 hs1))
        refine wp_region_held_drew (S := (fun W : World => (W.cell? ⟨w.heap.size, 0, none⟩ = some (.int .i64 (b : Int)) ∧ W.cell? ⟨w.heap.size, 1, none⟩ = some (.int .i64 (h : Int))) ∧ W.cell? ⟨w.heap.size + 1, 0, none⟩ = some (.int .i64 i) ∧ W.cell? ⟨w.heap.size + 1, 1, none⟩ = some (.slice sa S.length sc) ∧ W.cell? ⟨w.heap.size + 1, 2, none⟩ = some (.slice ha H.length hc) ∧ W.cell? ⟨w.heap.size + 1, 3, none⟩ = some (.slice ra R.length rc))) (by kernel_rfl) ⟨keyC (w := w1) HK1.out, sigC (w := w1) HS1.out⟩ (fun hHeld => ?_)
        refine take_at 0 18 (oi := ?o50) (v := ?v50) ?hi50 ?hd50 (by kernel_rfl) (by kernel_rfl) (by kernel_rfl) ?hQ50 ?hw50 ?hy50 (by assumption) ?rest50
        case hi50 => simp only [List.getElem?_toArray, List.getElem?_cons_zero]; rfl
        case hd50 => rfl
        case hw50 => kernel_rfl
        case hy50 => intro W hW; (try dsimp only at hW); go_simp <;> with_reducible rfl
        case hQ50 => exact fun _ _ _ h => h
        try simp only [Act.put, List.setIfInBounds_toArray, List.set_cons_zero, List.set_cons_succ]
        refine wpAnyH_ready (rs := [1]) (by kernel_rfl) (by simp) ?_
        refine AllReadyH.cons rfl (fun K hK => ?_) AllReadyH.nil
        go_simp
        refine (HF.out _ (by first | exact Hb1.out | exact dr Hb1.out)).mono ?_
        rintro e w2 ⟨rfl, hb2⟩
        have HB2 := Lib.hid (Hb1.out.next (by first | exact hb2 | exact undrew hb2))
        have hk2 : w2.heap[w.heap.size]? = some (.cells #[.int .i64 (b : Int), .int .i64 (h : Int)] 23) := (hb2.block _ (lt_of HK1.out)).trans HK1.out
        have hs2 : w2.heap[w.heap.size + 1]? = some (.cells #[.int .i64 i, .slice sa S.length sc, .slice ha H.length hc, .slice ra R.length rc] 34) := (hb2.block _ (lt_of HS1.out)).trans HS1.out
        have Hk2 := Lib.hid hk2
        have Hs2 := Lib.hid hs2
        clear hb2 hk2 hs2 hHeld
        go_wp2_with fail
        refine hK.out _ _ ⟨keyC (w := w2) Hk2.out, sigC (w := w2) Hs2.out⟩ (fun hHeld => ?_)
        clear hK K
        try simp only [Act.put, List.setIfInBounds_toArray, List.set_cons_zero, List.set_cons_succ]
        refine take_at 2 20 (oi := ?o51) (v := ?v51) ?hi51 ?hd51 (by kernel_rfl) (by kernel_rfl) (by kernel_rfl) ?hQ51 ?hw51 ?hy51 (by assumption) ?rest51
        case hi51 => simp only [List.getElem?_toArray, List.getElem?_cons_succ, List.getElem?_cons_zero]; rfl
        case hd51 => rfl
        case hw51 => kernel_rfl
        case hy51 => intro W hW; (try dsimp only at hW); go_simp <;> with_reducible rfl
        case hQ51 => exact fun _ _ _ h => h
        try simp only [Act.put, List.setIfInBounds_toArray, List.set_cons_zero, List.set_cons_succ]
        refine take_at 3 21 (oi := ?o52) (v := ?v52) ?hi52 ?hd52 (by kernel_rfl) (by kernel_rfl) (by kernel_rfl) ?hQ52 ?hw52 ?hy52 (by assumption) ?rest52
        case hi52 => simp only [List.getElem?_toArray, List.getElem?_cons_succ, List.getElem?_cons_zero]; rfl
        case hd52 => rfl
        case hw52 => kernel_rfl
        case hy52 => intro W hW; (try dsimp only at hW); go_simp <;> with_reducible rfl
        case hQ52 => exact fun _ _ _ h => h
        try simp only [Act.put, List.setIfInBounds_toArray, List.set_cons_zero, List.set_cons_succ]
        refine take_at 4 22 (oi := ?o53) (v := ?v53) ?hi53 ?hd53 (by kernel_rfl) (by kernel_rfl) (by kernel_rfl) ?hQ53 ?hw53 ?hy53 (by assumption) ?rest53
        case hi53 => simp only [List.getElem?_toArray, List.getElem?_cons_succ, List.getElem?_cons_zero]; rfl
        case hd53 => rfl
        case hw53 => kernel_rfl
        case hy53 => intro W hW; (try dsimp only at hW); go_simp <;> with_reducible rfl
        case hQ53 => exact fun _ _ _ h => h
        try simp only [Act.put, List.setIfInBounds_toArray, List.set_cons_zero, List.set_cons_succ]
        refine take_at 5 23 (oi := ?o54) (v := ?v54) ?hi54 ?hd54 (by kernel_rfl) (by kernel_rfl) (by kernel_rfl) ?hQ54 ?hw54 ?hy54 (by assumption) ?rest54
        case hi54 => simp only [List.getElem?_toArray, List.getElem?_cons_succ, List.getElem?_cons_zero]; rfl
        case hd54 => rfl
        case hw54 => kernel_rfl
        case hy54 => intro W hW; (try dsimp only at hW); go_simp <;> with_reducible rfl
        case hQ54 => exact fun _ _ _ h => h
        try simp only [Act.put, List.setIfInBounds_toArray, List.set_cons_zero, List.set_cons_succ]
        refine take_at 6 24 (oi := ?o55) (v := ?v55) ?hi55 ?hd55 (by kernel_rfl) (by kernel_rfl) (by kernel_rfl) ?hQ55 ?hw55 ?hy55 (by assumption) ?rest55
        case hi55 => simp only [List.getElem?_toArray, List.getElem?_cons_succ, List.getElem?_cons_zero]; rfl
        case hd55 => rfl
        case hw55 => kernel_rfl
        case hy55 => intro W hW; (try dsimp only at hW); go_simp <;> with_reducible rfl
        case hQ55 => exact fun _ _ _ h => h
        try simp only [Act.put, List.setIfInBounds_toArray, List.set_cons_zero, List.set_cons_succ]
        refine take_at 7 25 (oi := ?o56) (v := ?v56) ?hi56 ?hd56 (by kernel_rfl) (by kernel_rfl) (by kernel_rfl) ?hQ56 ?hw56 ?hy56 (by assumption) ?rest56
        case hi56 => simp only [List.getElem?_toArray, List.getElem?_cons_succ, List.getElem?_cons_zero]; rfl
        case hd56 => rfl
        case hw56 => kernel_rfl
        case hy56 => intro W hW; (try dsimp only at hW); go_simp <;> with_reducible rfl
        case hQ56 => exact fun _ _ _ h => h
        try simp only [Act.put, List.setIfInBounds_toArray, List.set_cons_zero, List.set_cons_succ]
        refine take_at 8 26 (oi := ?o57) (v := ?v57) ?hi57 ?hd57 (by kernel_rfl) (by kernel_rfl) (by kernel_rfl) ?hQ57 ?hw57 ?hy57 (by assumption) ?rest57
        case hi57 => simp only [List.getElem?_toArray, List.getElem?_cons_succ, List.getElem?_cons_zero]; rfl
        case hd57 => rfl
        case hw57 => kernel_rfl
        case hy57 => intro W hW; (try dsimp only at hW); go_simp <;> with_reducible rfl
        case hQ57 => exact fun _ _ _ h => h
        try simp only [Act.put, List.setIfInBounds_toArray, List.set_cons_zero, List.set_cons_succ]
        refine take_at 9 27 (oi := ?o58) (v := ?v58) ?hi58 ?hd58 (by kernel_rfl) (by kernel_rfl) (by kernel_rfl) ?hQ58 ?hw58 ?hy58 (by assumption) ?rest58
        case hi58 => simp only [List.getElem?_toArray, List.getElem?_cons_succ, List.getElem?_cons_zero]; rfl
        case hd58 => rfl
        case hw58 => kernel_rfl
        case hy58 => intro W hW; (try dsimp only at hW); go_simp <;> with_reducible rfl
        case hQ58 => exact fun _ _ _ h => h
        try simp only [Act.put, List.setIfInBounds_toArray, List.set_cons_zero, List.set_cons_succ]
        refine take_at 10 28 (oi := ?o59) (v := ?v59) ?hi59 ?hd59 (by kernel_rfl) (by kernel_rfl) (by kernel_rfl) ?hQ59 ?hw59 ?hy59 (by assumption) ?rest59
        case hi59 => simp only [List.getElem?_toArray, List.getElem?_cons_succ, List.getElem?_cons_zero]; rfl
        case hd59 => rfl
        case hw59 => kernel_rfl
        case hy59 => intro W hW; (try dsimp only at hW); go_simp <;> with_reducible rfl
        case hQ59 => exact fun _ _ _ h => h
        try simp only [Act.put, List.setIfInBounds_toArray, List.set_cons_zero, List.set_cons_succ]
        refine take_at 11 29 (oi := ?o60) (v := ?v60) ?hi60 ?hd60 (by kernel_rfl) (by kernel_rfl) (by kernel_rfl) ?hQ60 ?hw60 ?hy60 (by assumption) ?rest60
        case hi60 => simp only [List.getElem?_toArray, List.getElem?_cons_succ, List.getElem?_cons_zero]; rfl
        case hd60 => rfl
        case hw60 => kernel_rfl
        case hy60 => intro W hW; (try dsimp only at hW); go_simp <;> with_reducible rfl
        case hQ60 => exact fun _ _ _ h => h
        try simp only [Act.put, List.setIfInBounds_toArray, List.set_cons_zero, List.set_cons_succ]
        refine take_at 12 30 (oi := ?o61) (v := ?v61) ?hi61 ?hd61 (by kernel_rfl) (by kernel_rfl) (by kernel_rfl) ?hQ61 ?hw61 ?hy61 (by assumption) ?rest61
        case hi61 => simp only [List.getElem?_toArray, List.getElem?_cons_succ, List.getElem?_cons_zero]; rfl
        case hd61 => rfl
        case hw61 => kernel_rfl
        case hy61 => intro W hW; (try dsimp only at hW); go_simp <;> with_reducible rfl
        case hQ61 => exact fun _ _ _ h => h
        try simp only [Act.put, List.setIfInBounds_toArray, List.set_cons_zero, List.set_cons_succ]
        refine take_at 13 31 (oi := ?o62) (v := ?v62) ?hi62 ?hd62 (by kernel_rfl) (by kernel_rfl) (by kernel_rfl) ?hQ62 ?hw62 ?hy62 (by assumption) ?rest62
        case hi62 => simp only [List.getElem?_toArray, List.getElem?_cons_succ, List.getElem?_cons_zero]; rfl
        case hd62 => rfl
        case hw62 => kernel_rfl
        case hy62 => intro W hW; (try dsimp only at hW); go_simp <;> with_reducible rfl
        case hQ62 => exact fun _ _ _ h => h
        try simp only [Act.put, List.setIfInBounds_toArray, List.set_cons_zero, List.set_cons_succ]
        refine take_at 14 32 (oi := ?o63) (v := ?v63) ?hi63 ?hd63 (by kernel_rfl) (by kernel_rfl) (by kernel_rfl) ?hQ63 ?hw63 ?hy63 (by assumption) ?rest63
        case hi63 => simp only [List.getElem?_toArray, List.getElem?_cons_succ, List.getElem?_cons_zero]; rfl
        case hd63 => rfl
        case hw63 => kernel_rfl
        case hy63 => intro W hW; (try dsimp only at hW); go_simp <;> with_reducible rfl
        case hQ63 => exact fun _ _ _ h => h
        try simp only [Act.put, List.setIfInBounds_toArray, List.set_cons_zero, List.set_cons_succ]
        refine take_at 15 33 (oi := ?o64) (v := ?v64) ?hi64 ?hd64 (by kernel_rfl) (by kernel_rfl) (by kernel_rfl) ?hQ64 ?hw64 ?hy64 (by assumption) ?rest64
        case hi64 => simp only [List.getElem?_toArray, List.getElem?_cons_succ, List.getElem?_cons_zero]; rfl
        case hd64 => rfl
        case hw64 => kernel_rfl
        case hy64 => intro W hW; (try dsimp only at hW); go_simp <;> with_reducible rfl
        case hQ64 => exact fun _ _ _ h => h
        try simp only [Act.put, List.setIfInBounds_toArray, List.set_cons_zero, List.set_cons_succ]
        refine take_at 16 34 (oi := ?o65) (v := ?v65) ?hi65 ?hd65 (by kernel_rfl) (by kernel_rfl) (by kernel_rfl) ?hQ65 ?hw65 ?hy65 (by assumption) ?rest65
        case hi65 => simp only [List.getElem?_toArray, List.getElem?_cons_succ, List.getElem?_cons_zero]; rfl
        case hd65 => rfl
        case hw65 => kernel_rfl
        case hy65 => intro W hW; (try dsimp only at hW); go_simp <;> with_reducible rfl
        case hQ65 => exact fun _ _ _ h => h
        try simp only [Act.put, List.setIfInBounds_toArray, List.set_cons_zero, List.set_cons_succ]
        refine take_at 17 35 (oi := ?o66) (v := ?v66) ?hi66 ?hd66 (by kernel_rfl) (by kernel_rfl) (by kernel_rfl) ?hQ66 ?hw66 ?hy66 (by assumption) ?rest66
        case hi66 => simp only [List.getElem?_toArray, List.getElem?_cons_succ, List.getElem?_cons_zero]; rfl
        case hd66 => rfl
        case hw66 => kernel_rfl
        case hy66 => intro W hW; (try dsimp only at hW); go_simp <;> with_reducible rfl
        case hQ66 => exact fun _ _ _ h => h
        try simp only [Act.put, List.setIfInBounds_toArray, List.set_cons_zero, List.set_cons_succ]
        refine take_at 18 36 (oi := ?o67) (v := ?v67) ?hi67 ?hd67 (by kernel_rfl) (by kernel_rfl) (by kernel_rfl) ?hQ67 ?hw67 ?hy67 (by assumption) ?rest67
        case hi67 => simp only [List.getElem?_toArray, List.getElem?_cons_succ, List.getElem?_cons_zero]; rfl
        case hd67 => rfl
        case hw67 => kernel_rfl
        case hy67 => intro W hW; (try dsimp only at hW); go_simp <;> with_reducible rfl
        case hQ67 => exact fun _ _ _ h => h
        try simp only [Act.put, List.setIfInBounds_toArray, List.set_cons_zero, List.set_cons_succ]
        refine take_at 19 37 (oi := ?o68) (v := ?v68) ?hi68 ?hd68 (by kernel_rfl) (by kernel_rfl) (by kernel_rfl) ?hQ68 ?hw68 ?hy68 (by assumption) ?rest68
        case hi68 => simp only [List.getElem?_toArray, List.getElem?_cons_succ, List.getElem?_cons_zero]; rfl
        case hd68 => rfl
        case hw68 => kernel_rfl
        case hy68 => intro W hW; (try dsimp only at hW); go_simp <;> with_reducible rfl
        case hQ68 => exact fun _ _ _ h => h
        try simp only [Act.put, List.setIfInBounds_toArray, List.set_cons_zero, List.set_cons_succ]
        refine take_at 20 38 (oi := ?o69) (v := ?v69) ?hi69 ?hd69 (by kernel_rfl) (by kernel_rfl) (by kernel_rfl) ?hQ69 ?hw69 ?hy69 (by assumption) ?rest69
        case hi69 => simp only [List.getElem?_toArray, List.getElem?_cons_succ, List.getElem?_cons_zero]; rfl
        case hd69 => rfl
        case hw69 => kernel_rfl
        case hy69 => intro W hW; (try dsimp only at hW); go_simp <;> with_reducible rfl
        case hQ69 => exact fun _ _ _ h => h
        try simp only [Act.put, List.setIfInBounds_toArray, List.set_cons_zero, List.set_cons_succ]
        refine take_at 21 39 (oi := ?o70) (v := ?v70) ?hi70 ?hd70 (by kernel_rfl) (by kernel_rfl) (by kernel_rfl) ?hQ70 ?hw70 ?hy70 (by assumption) ?rest70
        case hi70 => simp only [List.getElem?_toArray, List.getElem?_cons_succ, List.getElem?_cons_zero]; rfl
        case hd70 => rfl
        case hw70 => kernel_rfl
        case hy70 => intro W hW; (try dsimp only at hW); go_simp <;> with_reducible rfl
        case hQ70 => exact fun _ _ _ h => h
        try simp only [Act.put, List.setIfInBounds_toArray, List.set_cons_zero, List.set_cons_succ]
        refine take_at 22 40 (oi := ?o71) (v := ?v71) ?hi71 ?hd71 (by kernel_rfl) (by kernel_rfl) (by kernel_rfl) ?hQ71 ?hw71 ?hy71 (by assumption) ?rest71
        case hi71 => simp only [List.getElem?_toArray, List.getElem?_cons_succ, List.getElem?_cons_zero]; rfl
        case hd71 => rfl
        case hw71 => kernel_rfl
        case hy71 => intro W hW; (try dsimp only at hW); go_simp <;> with_reducible rfl
        case hQ71 => exact fun _ _ _ h => h
        try simp only [Act.put, List.setIfInBounds_toArray, List.set_cons_zero, List.set_cons_succ]
        refine wpAnyH_ready (rs := [23]) (by kernel_rfl) (by simp) ?_
        refine AllReadyH.cons rfl (fun K hK => ?_) AllReadyH.nil
        go_simp
        refine (HCnt.out _).mono ?_
        rintro e w2' ⟨rfl, hb2⟩
        have HB2 := Lib.hid (HB2.out.next hb2)
        have hk2 : w2'.heap[w.heap.size]? = some (.cells #[.int .i64 (b : Int), .int .i64 (h : Int)] 23) := (hb2.block _ (lt_of Hk2.out)).trans Hk2.out
        have hs2 : w2'.heap[w.heap.size + 1]? = some (.cells #[.int .i64 i, .slice sa S.length sc, .slice ha H.length hc, .slice ra R.length rc] 34) := (hb2.block _ (lt_of Hs2.out)).trans Hs2.out
        have Hk2 := Lib.hid hk2
        have Hs2 := Lib.hid hs2
        clear hb2 hk2 hs2 hHeld
        go_wp2_with fail
        refine hK.out _ _ ⟨keyC (w := w2') Hk2.out, sigC (w := w2') Hs2.out⟩ (fun hHeld => ?_)
        clear hK K
        try simp only [Act.put, List.setIfInBounds_toArray, List.set_cons_zero, List.set_cons_succ]
        refine take_at 24 42 (oi := ?o72) (v := ?v72) ?hi72 ?hd72 (by kernel_rfl) (by kernel_rfl) (by kernel_rfl) ?hQ72 ?hw72 ?hy72 (by assumption) ?rest72
        case hi72 => simp only [List.getElem?_toArray, List.getElem?_cons_succ, List.getElem?_cons_zero]; rfl
        case hd72 => rfl
        case hw72 => kernel_rfl
        case hy72 => intro W hW; (try dsimp only at hW); go_simp <;> with_reducible rfl
        case hQ72 => exact fun _ _ _ h => h
        try simp only [Act.put, List.setIfInBounds_toArray, List.set_cons_zero, List.set_cons_succ]
        refine take_at 25 43 (oi := ?o73) (v := ?v73) ?hi73 ?hd73 (by kernel_rfl) (by kernel_rfl) (by kernel_rfl) ?hQ73 ?hw73 ?hy73 (by assumption) ?rest73
        case hi73 => simp only [List.getElem?_toArray, List.getElem?_cons_succ, List.getElem?_cons_zero]; rfl
        case hd73 => rfl
        case hw73 => kernel_rfl
        case hy73 => intro W hW; (try dsimp only at hW); go_simp <;> with_reducible rfl
        case hQ73 => exact fun _ _ _ h => h
        try simp only [Act.put, List.setIfInBounds_toArray, List.set_cons_zero, List.set_cons_succ]
        refine wpAnyH_done (by kernel_rfl) ?_ _
        go_wp2
        go_ret
        exact ⟨rfl, HB2.out⟩
      · have g1 : (S.length : Int) = (b : Int) := by omega
        have g2 : ((R.length : Int) != (h : Int)) = true := by simp; omega
        clear hf e1 e2
        go_enter Tryd.func20, Tryd.ntmps20
        go_wp2_with (first
          | (go_at_call 16; refine (HV.out _).mono ?_; rintro e w1 ⟨rfl, hb1⟩
             have hk1 : w1.heap[w.heap.size]? = some (.cells #[.int .i64 (b : Int), .int .i64 (h : Int)] 23) := (hb1.block w.heap.size (by simp; omega)).trans (old_of (new_of _ _))
             have hs1 : w1.heap[w.heap.size + 1]? = some (.cells #[.int .i64 i, .slice sa S.length sc, .slice ha H.length hc, .slice ra R.length rc] 34) := (hb1.block (w.heap.size + 1) (by simp)).trans (new_at (by simp) rfl)
             have Hb1 := Lib.hid ((((Below.refl w.heap.size w).alloc (Nat.le_refl _) _).alloc (by simp) _).next hb1)
             have HK1 := Lib.hid hk1
             have HS1 := Lib.hid hs1
             clear hb1 hk1 hs1))
        refine wp_region_held_drew (S := (fun W : World => (W.cell? ⟨w.heap.size, 0, none⟩ = some (.int .i64 (b : Int)) ∧ W.cell? ⟨w.heap.size, 1, none⟩ = some (.int .i64 (h : Int))) ∧ W.cell? ⟨w.heap.size + 1, 0, none⟩ = some (.int .i64 i) ∧ W.cell? ⟨w.heap.size + 1, 1, none⟩ = some (.slice sa S.length sc) ∧ W.cell? ⟨w.heap.size + 1, 2, none⟩ = some (.slice ha H.length hc) ∧ W.cell? ⟨w.heap.size + 1, 3, none⟩ = some (.slice ra R.length rc))) (by kernel_rfl) ⟨keyC (w := w1) HK1.out, sigC (w := w1) HS1.out⟩ (fun hHeld => ?_)
        refine take_at 0 18 (oi := ?o74) (v := ?v74) ?hi74 ?hd74 (by kernel_rfl) (by kernel_rfl) (by kernel_rfl) ?hQ74 ?hw74 ?hy74 (by assumption) ?rest74
        case hi74 => simp only [List.getElem?_toArray, List.getElem?_cons_zero]; rfl
        case hd74 => rfl
        case hw74 => kernel_rfl
        case hy74 => intro W hW; (try dsimp only at hW); go_simp <;> with_reducible rfl
        case hQ74 => exact fun _ _ _ h => h
        try simp only [Act.put, List.setIfInBounds_toArray, List.set_cons_zero, List.set_cons_succ]
        refine wpAnyH_ready (rs := [1]) (by kernel_rfl) (by simp) ?_
        refine AllReadyH.cons rfl (fun K hK => ?_) AllReadyH.nil
        go_simp
        refine (HF.out _ (by first | exact Hb1.out | exact dr Hb1.out)).mono ?_
        rintro e w2 ⟨rfl, hb2⟩
        have HB2 := Lib.hid (Hb1.out.next (by first | exact hb2 | exact undrew hb2))
        have hk2 : w2.heap[w.heap.size]? = some (.cells #[.int .i64 (b : Int), .int .i64 (h : Int)] 23) := (hb2.block _ (lt_of HK1.out)).trans HK1.out
        have hs2 : w2.heap[w.heap.size + 1]? = some (.cells #[.int .i64 i, .slice sa S.length sc, .slice ha H.length hc, .slice ra R.length rc] 34) := (hb2.block _ (lt_of HS1.out)).trans HS1.out
        have Hk2 := Lib.hid hk2
        have Hs2 := Lib.hid hs2
        clear hb2 hk2 hs2 hHeld
        go_wp2_with fail
        refine hK.out _ _ ⟨keyC (w := w2) Hk2.out, sigC (w := w2) Hs2.out⟩ (fun hHeld => ?_)
        clear hK K
        try simp only [Act.put, List.setIfInBounds_toArray, List.set_cons_zero, List.set_cons_succ]
        refine take_at 2 20 (oi := ?o75) (v := ?v75) ?hi75 ?hd75 (by kernel_rfl) (by kernel_rfl) (by kernel_rfl) ?hQ75 ?hw75 ?hy75 (by assumption) ?rest75
        case hi75 => simp only [List.getElem?_toArray, List.getElem?_cons_succ, List.getElem?_cons_zero]; rfl
        case hd75 => rfl
        case hw75 => kernel_rfl
        case hy75 => intro W hW; (try dsimp only at hW); go_simp <;> with_reducible rfl
        case hQ75 => exact fun _ _ _ h => h
        try simp only [Act.put, List.setIfInBounds_toArray, List.set_cons_zero, List.set_cons_succ]
        refine take_at 3 21 (oi := ?o76) (v := ?v76) ?hi76 ?hd76 (by kernel_rfl) (by kernel_rfl) (by kernel_rfl) ?hQ76 ?hw76 ?hy76 (by assumption) ?rest76
        case hi76 => simp only [List.getElem?_toArray, List.getElem?_cons_succ, List.getElem?_cons_zero]; rfl
        case hd76 => rfl
        case hw76 => kernel_rfl
        case hy76 => intro W hW; (try dsimp only at hW); go_simp <;> with_reducible rfl
        case hQ76 => exact fun _ _ _ h => h
        try simp only [Act.put, List.setIfInBounds_toArray, List.set_cons_zero, List.set_cons_succ]
        refine take_at 4 22 (oi := ?o77) (v := ?v77) ?hi77 ?hd77 (by kernel_rfl) (by kernel_rfl) (by kernel_rfl) ?hQ77 ?hw77 ?hy77 (by assumption) ?rest77
        case hi77 => simp only [List.getElem?_toArray, List.getElem?_cons_succ, List.getElem?_cons_zero]; rfl
        case hd77 => rfl
        case hw77 => kernel_rfl
        case hy77 => intro W hW; (try dsimp only at hW); go_simp <;> with_reducible rfl
        case hQ77 => exact fun _ _ _ h => h
        try simp only [Act.put, List.setIfInBounds_toArray, List.set_cons_zero, List.set_cons_succ]
        refine take_at 5 23 (oi := ?o78) (v := ?v78) ?hi78 ?hd78 (by kernel_rfl) (by kernel_rfl) (by kernel_rfl) ?hQ78 ?hw78 ?hy78 (by assumption) ?rest78
        case hi78 => simp only [List.getElem?_toArray, List.getElem?_cons_succ, List.getElem?_cons_zero]; rfl
        case hd78 => rfl
        case hw78 => kernel_rfl
        case hy78 => intro W hW; (try dsimp only at hW); go_simp <;> with_reducible rfl
        case hQ78 => exact fun _ _ _ h => h
        try simp only [Act.put, List.setIfInBounds_toArray, List.set_cons_zero, List.set_cons_succ]
        refine take_at 6 24 (oi := ?o79) (v := ?v79) ?hi79 ?hd79 (by kernel_rfl) (by kernel_rfl) (by kernel_rfl) ?hQ79 ?hw79 ?hy79 (by assumption) ?rest79
        case hi79 => simp only [List.getElem?_toArray, List.getElem?_cons_succ, List.getElem?_cons_zero]; rfl
        case hd79 => rfl
        case hw79 => kernel_rfl
        case hy79 => intro W hW; (try dsimp only at hW); go_simp <;> with_reducible rfl
        case hQ79 => exact fun _ _ _ h => h
        try simp only [Act.put, List.setIfInBounds_toArray, List.set_cons_zero, List.set_cons_succ]
        refine take_at 7 25 (oi := ?o80) (v := ?v80) ?hi80 ?hd80 (by kernel_rfl) (by kernel_rfl) (by kernel_rfl) ?hQ80 ?hw80 ?hy80 (by assumption) ?rest80
        case hi80 => simp only [List.getElem?_toArray, List.getElem?_cons_succ, List.getElem?_cons_zero]; rfl
        case hd80 => rfl
        case hw80 => kernel_rfl
        case hy80 => intro W hW; (try dsimp only at hW); go_simp <;> with_reducible rfl
        case hQ80 => exact fun _ _ _ h => h
        try simp only [Act.put, List.setIfInBounds_toArray, List.set_cons_zero, List.set_cons_succ]
        refine take_at 8 26 (oi := ?o81) (v := ?v81) ?hi81 ?hd81 (by kernel_rfl) (by kernel_rfl) (by kernel_rfl) ?hQ81 ?hw81 ?hy81 (by assumption) ?rest81
        case hi81 => simp only [List.getElem?_toArray, List.getElem?_cons_succ, List.getElem?_cons_zero]; rfl
        case hd81 => rfl
        case hw81 => kernel_rfl
        case hy81 => intro W hW; (try dsimp only at hW); go_simp <;> with_reducible rfl
        case hQ81 => exact fun _ _ _ h => h
        try simp only [Act.put, List.setIfInBounds_toArray, List.set_cons_zero, List.set_cons_succ]
        refine take_at 9 27 (oi := ?o82) (v := ?v82) ?hi82 ?hd82 (by kernel_rfl) (by kernel_rfl) (by kernel_rfl) ?hQ82 ?hw82 ?hy82 (by assumption) ?rest82
        case hi82 => simp only [List.getElem?_toArray, List.getElem?_cons_succ, List.getElem?_cons_zero]; rfl
        case hd82 => rfl
        case hw82 => kernel_rfl
        case hy82 => intro W hW; (try dsimp only at hW); go_simp <;> with_reducible rfl
        case hQ82 => exact fun _ _ _ h => h
        try simp only [Act.put, List.setIfInBounds_toArray, List.set_cons_zero, List.set_cons_succ]
        refine take_at 10 28 (oi := ?o83) (v := ?v83) ?hi83 ?hd83 (by kernel_rfl) (by kernel_rfl) (by kernel_rfl) ?hQ83 ?hw83 ?hy83 (by assumption) ?rest83
        case hi83 => simp only [List.getElem?_toArray, List.getElem?_cons_succ, List.getElem?_cons_zero]; rfl
        case hd83 => rfl
        case hw83 => kernel_rfl
        case hy83 => intro W hW; (try dsimp only at hW); go_simp <;> with_reducible rfl
        case hQ83 => exact fun _ _ _ h => h
        try simp only [Act.put, List.setIfInBounds_toArray, List.set_cons_zero, List.set_cons_succ]
        refine take_at 11 29 (oi := ?o84) (v := ?v84) ?hi84 ?hd84 (by kernel_rfl) (by kernel_rfl) (by kernel_rfl) ?hQ84 ?hw84 ?hy84 (by assumption) ?rest84
        case hi84 => simp only [List.getElem?_toArray, List.getElem?_cons_succ, List.getElem?_cons_zero]; rfl
        case hd84 => rfl
        case hw84 => kernel_rfl
        case hy84 => intro W hW; (try dsimp only at hW); go_simp <;> with_reducible rfl
        case hQ84 => exact fun _ _ _ h => h
        try simp only [Act.put, List.setIfInBounds_toArray, List.set_cons_zero, List.set_cons_succ]
        refine take_at 12 30 (oi := ?o85) (v := ?v85) ?hi85 ?hd85 (by kernel_rfl) (by kernel_rfl) (by kernel_rfl) ?hQ85 ?hw85 ?hy85 (by assumption) ?rest85
        case hi85 => simp only [List.getElem?_toArray, List.getElem?_cons_succ, List.getElem?_cons_zero]; rfl
        case hd85 => rfl
        case hw85 => kernel_rfl
        case hy85 => intro W hW; (try dsimp only at hW); go_simp <;> with_reducible rfl
        case hQ85 => exact fun _ _ _ h => h
        try simp only [Act.put, List.setIfInBounds_toArray, List.set_cons_zero, List.set_cons_succ]
        refine take_at 13 31 (oi := ?o86) (v := ?v86) ?hi86 ?hd86 (by kernel_rfl) (by kernel_rfl) (by kernel_rfl) ?hQ86 ?hw86 ?hy86 (by assumption) ?rest86
        case hi86 => simp only [List.getElem?_toArray, List.getElem?_cons_succ, List.getElem?_cons_zero]; rfl
        case hd86 => rfl
        case hw86 => kernel_rfl
        case hy86 => intro W hW; (try dsimp only at hW); go_simp <;> with_reducible rfl
        case hQ86 => exact fun _ _ _ h => h
        try simp only [Act.put, List.setIfInBounds_toArray, List.set_cons_zero, List.set_cons_succ]
        refine take_at 14 32 (oi := ?o87) (v := ?v87) ?hi87 ?hd87 (by kernel_rfl) (by kernel_rfl) (by kernel_rfl) ?hQ87 ?hw87 ?hy87 (by assumption) ?rest87
        case hi87 => simp only [List.getElem?_toArray, List.getElem?_cons_succ, List.getElem?_cons_zero]; rfl
        case hd87 => rfl
        case hw87 => kernel_rfl
        case hy87 => intro W hW; (try dsimp only at hW); go_simp <;> with_reducible rfl
        case hQ87 => exact fun _ _ _ h => h
        try simp only [Act.put, List.setIfInBounds_toArray, List.set_cons_zero, List.set_cons_succ]
        refine take_at 15 33 (oi := ?o88) (v := ?v88) ?hi88 ?hd88 (by kernel_rfl) (by kernel_rfl) (by kernel_rfl) ?hQ88 ?hw88 ?hy88 (by assumption) ?rest88
        case hi88 => simp only [List.getElem?_toArray, List.getElem?_cons_succ, List.getElem?_cons_zero]; rfl
        case hd88 => rfl
        case hw88 => kernel_rfl
        case hy88 => intro W hW; (try dsimp only at hW); go_simp <;> with_reducible rfl
        case hQ88 => exact fun _ _ _ h => h
        try simp only [Act.put, List.setIfInBounds_toArray, List.set_cons_zero, List.set_cons_succ]
        refine take_at 16 34 (oi := ?o89) (v := ?v89) ?hi89 ?hd89 (by kernel_rfl) (by kernel_rfl) (by kernel_rfl) ?hQ89 ?hw89 ?hy89 (by assumption) ?rest89
        case hi89 => simp only [List.getElem?_toArray, List.getElem?_cons_succ, List.getElem?_cons_zero]; rfl
        case hd89 => rfl
        case hw89 => kernel_rfl
        case hy89 => intro W hW; (try dsimp only at hW); go_simp <;> with_reducible rfl
        case hQ89 => exact fun _ _ _ h => h
        try simp only [Act.put, List.setIfInBounds_toArray, List.set_cons_zero, List.set_cons_succ]
        refine take_at 17 35 (oi := ?o90) (v := ?v90) ?hi90 ?hd90 (by kernel_rfl) (by kernel_rfl) (by kernel_rfl) ?hQ90 ?hw90 ?hy90 (by assumption) ?rest90
        case hi90 => simp only [List.getElem?_toArray, List.getElem?_cons_succ, List.getElem?_cons_zero]; rfl
        case hd90 => rfl
        case hw90 => kernel_rfl
        case hy90 => intro W hW; (try dsimp only at hW); go_simp <;> with_reducible rfl
        case hQ90 => exact fun _ _ _ h => h
        try simp only [Act.put, List.setIfInBounds_toArray, List.set_cons_zero, List.set_cons_succ]
        refine take_at 18 36 (oi := ?o91) (v := ?v91) ?hi91 ?hd91 (by kernel_rfl) (by kernel_rfl) (by kernel_rfl) ?hQ91 ?hw91 ?hy91 (by assumption) ?rest91
        case hi91 => simp only [List.getElem?_toArray, List.getElem?_cons_succ, List.getElem?_cons_zero]; rfl
        case hd91 => rfl
        case hw91 => kernel_rfl
        case hy91 => intro W hW; (try dsimp only at hW); go_simp <;> with_reducible rfl
        case hQ91 => exact fun _ _ _ h => h
        try simp only [Act.put, List.setIfInBounds_toArray, List.set_cons_zero, List.set_cons_succ]
        refine take_at 19 37 (oi := ?o92) (v := ?v92) ?hi92 ?hd92 (by kernel_rfl) (by kernel_rfl) (by kernel_rfl) ?hQ92 ?hw92 ?hy92 (by assumption) ?rest92
        case hi92 => simp only [List.getElem?_toArray, List.getElem?_cons_succ, List.getElem?_cons_zero]; rfl
        case hd92 => rfl
        case hw92 => kernel_rfl
        case hy92 => intro W hW; (try dsimp only at hW); go_simp <;> with_reducible rfl
        case hQ92 => exact fun _ _ _ h => h
        try simp only [Act.put, List.setIfInBounds_toArray, List.set_cons_zero, List.set_cons_succ]
        refine pass_at 20 38 (oi := ?o93) ?hi93 ?hd93 (by kernel_rfl) (by kernel_rfl) (by kernel_rfl) ?hQ93 ?hw93 (by assumption) ?rest93
        case hi93 => simp only [List.getElem?_toArray, List.getElem?_cons_succ, List.getElem?_cons_zero]; rfl
        case hd93 => rfl
        case hQ93 => exact fun _ _ _ h => h
        case hw93 => kernel_rfl
        try simp only [Act.put, List.setIfInBounds_toArray, List.set_cons_zero, List.set_cons_succ]
        refine pass_at 21 39 (oi := ?o94) ?hi94 ?hd94 (by kernel_rfl) (by kernel_rfl) (by kernel_rfl) ?hQ94 ?hw94 (by assumption) ?rest94
        case hi94 => simp only [List.getElem?_toArray, List.getElem?_cons_succ, List.getElem?_cons_zero]; rfl
        case hd94 => rfl
        case hQ94 => exact fun _ _ _ h => h
        case hw94 => kernel_rfl
        try simp only [Act.put, List.setIfInBounds_toArray, List.set_cons_zero, List.set_cons_succ]
        refine pass_at 22 40 (oi := ?o95) ?hi95 ?hd95 (by kernel_rfl) (by kernel_rfl) (by kernel_rfl) ?hQ95 ?hw95 (by assumption) ?rest95
        case hi95 => simp only [List.getElem?_toArray, List.getElem?_cons_succ, List.getElem?_cons_zero]; rfl
        case hd95 => rfl
        case hQ95 => exact fun _ _ _ h => h
        case hw95 => kernel_rfl
        try simp only [Act.put, List.setIfInBounds_toArray, List.set_cons_zero, List.set_cons_succ]
        refine pass_at 23 41 (oi := ?o96) ?hi96 ?hd96 (by kernel_rfl) (by kernel_rfl) (by kernel_rfl) ?hQ96 ?hw96 (by assumption) ?rest96
        case hi96 => simp only [List.getElem?_toArray, List.getElem?_cons_succ, List.getElem?_cons_zero]; rfl
        case hd96 => rfl
        case hQ96 => exact fun _ _ _ h => h
        case hw96 => kernel_rfl
        try simp only [Act.put, List.setIfInBounds_toArray, List.set_cons_zero, List.set_cons_succ]
        refine pass_at 24 42 (oi := ?o97) ?hi97 ?hd97 (by kernel_rfl) (by kernel_rfl) (by kernel_rfl) ?hQ97 ?hw97 (by assumption) ?rest97
        case hi97 => simp only [List.getElem?_toArray, List.getElem?_cons_succ, List.getElem?_cons_zero]; rfl
        case hd97 => rfl
        case hQ97 => exact fun _ _ _ h => h
        case hw97 => kernel_rfl
        try simp only [Act.put, List.setIfInBounds_toArray, List.set_cons_zero, List.set_cons_succ]
        refine take_at 25 43 (oi := ?o98) (v := ?v98) ?hi98 ?hd98 (by kernel_rfl) (by kernel_rfl) (by kernel_rfl) ?hQ98 ?hw98 ?hy98 (by assumption) ?rest98
        case hi98 => simp only [List.getElem?_toArray, List.getElem?_cons_succ, List.getElem?_cons_zero]; rfl
        case hd98 => rfl
        case hw98 => kernel_rfl
        case hy98 => intro W hW; (try dsimp only at hW); go_simp <;> with_reducible rfl
        case hQ98 => exact fun _ _ _ h => h
        try simp only [Act.put, List.setIfInBounds_toArray, List.set_cons_zero, List.set_cons_succ]
        refine wpAnyH_done (by kernel_rfl) ?_ _
        go_wp2
        go_ret
        exact ⟨rfl, HB2.out⟩
    · have g1 : ((S.length : Int) != (b : Int)) = true := by simp; omega
      clear hf e1
      go_enter Tryd.func20, Tryd.ntmps20
      go_wp2_with (first
        | (go_at_call 16; refine (HV.out _).mono ?_; rintro e w1 ⟨rfl, hb1⟩
           have hk1 : w1.heap[w.heap.size]? = some (.cells #[.int .i64 (b : Int), .int .i64 (h : Int)] 23) := (hb1.block w.heap.size (by simp; omega)).trans (old_of (new_of _ _))
           have hs1 : w1.heap[w.heap.size + 1]? = some (.cells #[.int .i64 i, .slice sa S.length sc, .slice ha H.length hc, .slice ra R.length rc] 34) := (hb1.block (w.heap.size + 1) (by simp)).trans (new_at (by simp) rfl)
           have Hb1 := Lib.hid ((((Below.refl w.heap.size w).alloc (Nat.le_refl _) _).alloc (by simp) _).next hb1)
           have HK1 := Lib.hid hk1
           have HS1 := Lib.hid hs1
           clear hb1 hk1 hs1))
      refine wp_region_held_drew (S := (fun W : World => (W.cell? ⟨w.heap.size, 0, none⟩ = some (.int .i64 (b : Int)) ∧ W.cell? ⟨w.heap.size, 1, none⟩ = some (.int .i64 (h : Int))) ∧ W.cell? ⟨w.heap.size + 1, 0, none⟩ = some (.int .i64 i) ∧ W.cell? ⟨w.heap.size + 1, 1, none⟩ = some (.slice sa S.length sc) ∧ W.cell? ⟨w.heap.size + 1, 2, none⟩ = some (.slice ha H.length hc) ∧ W.cell? ⟨w.heap.size + 1, 3, none⟩ = some (.slice ra R.length rc))) (by kernel_rfl) ⟨keyC (w := w1) HK1.out, sigC (w := w1) HS1.out⟩ (fun hHeld => ?_)
      refine take_at 0 18 (oi := ?o99) (v := ?v99) ?hi99 ?hd99 (by kernel_rfl) (by kernel_rfl) (by kernel_rfl) ?hQ99 ?hw99 ?hy99 (by assumption) ?rest99
      case hi99 => simp only [List.getElem?_toArray, List.getElem?_cons_zero]; rfl
      case hd99 => rfl
      case hw99 => kernel_rfl
      case hy99 => intro W hW; (try dsimp only at hW); go_simp <;> with_reducible rfl
      case hQ99 => exact fun _ _ _ h => h
      try simp only [Act.put, List.setIfInBounds_toArray, List.set_cons_zero, List.set_cons_succ]
      refine wpAnyH_ready (rs := [1]) (by kernel_rfl) (by simp) ?_
      refine AllReadyH.cons rfl (fun K hK => ?_) AllReadyH.nil
      go_simp
      refine (HF.out _ (by first | exact Hb1.out | exact dr Hb1.out)).mono ?_
      rintro e w2 ⟨rfl, hb2⟩
      have HB2 := Lib.hid (Hb1.out.next (by first | exact hb2 | exact undrew hb2))
      have hk2 : w2.heap[w.heap.size]? = some (.cells #[.int .i64 (b : Int), .int .i64 (h : Int)] 23) := (hb2.block _ (lt_of HK1.out)).trans HK1.out
      have hs2 : w2.heap[w.heap.size + 1]? = some (.cells #[.int .i64 i, .slice sa S.length sc, .slice ha H.length hc, .slice ra R.length rc] 34) := (hb2.block _ (lt_of HS1.out)).trans HS1.out
      have Hk2 := Lib.hid hk2
      have Hs2 := Lib.hid hs2
      clear hb2 hk2 hs2 hHeld
      go_wp2_with fail
      refine hK.out _ _ ⟨keyC (w := w2) Hk2.out, sigC (w := w2) Hs2.out⟩ (fun hHeld => ?_)
      clear hK K
      try simp only [Act.put, List.setIfInBounds_toArray, List.set_cons_zero, List.set_cons_succ]
      refine take_at 2 20 (oi := ?o100) (v := ?v100) ?hi100 ?hd100 (by kernel_rfl) (by kernel_rfl) (by kernel_rfl) ?hQ100 ?hw100 ?hy100 (by assumption) ?rest100
      case hi100 => simp only [List.getElem?_toArray, List.getElem?_cons_succ, List.getElem?_cons_zero]; rfl
      case hd100 => rfl
      case hw100 => kernel_rfl
      case hy100 => intro W hW; (try dsimp only at hW); go_simp <;> with_reducible rfl
      case hQ100 => exact fun _ _ _ h => h
      try simp only [Act.put, List.setIfInBounds_toArray, List.set_cons_zero, List.set_cons_succ]
      refine take_at 3 21 (oi := ?o101) (v := ?v101) ?hi101 ?hd101 (by kernel_rfl) (by kernel_rfl) (by kernel_rfl) ?hQ101 ?hw101 ?hy101 (by assumption) ?rest101
      case hi101 => simp only [List.getElem?_toArray, List.getElem?_cons_succ, List.getElem?_cons_zero]; rfl
      case hd101 => rfl
      case hw101 => kernel_rfl
      case hy101 => intro W hW; (try dsimp only at hW); go_simp <;> with_reducible rfl
      case hQ101 => exact fun _ _ _ h => h
      try simp only [Act.put, List.setIfInBounds_toArray, List.set_cons_zero, List.set_cons_succ]
      refine take_at 4 22 (oi := ?o102) (v := ?v102) ?hi102 ?hd102 (by kernel_rfl) (by kernel_rfl) (by kernel_rfl) ?hQ102 ?hw102 ?hy102 (by assumption) ?rest102
      case hi102 => simp only [List.getElem?_toArray, List.getElem?_cons_succ, List.getElem?_cons_zero]; rfl
      case hd102 => rfl
      case hw102 => kernel_rfl
      case hy102 => intro W hW; (try dsimp only at hW); go_simp <;> with_reducible rfl
      case hQ102 => exact fun _ _ _ h => h
      try simp only [Act.put, List.setIfInBounds_toArray, List.set_cons_zero, List.set_cons_succ]
      refine take_at 5 23 (oi := ?o103) (v := ?v103) ?hi103 ?hd103 (by kernel_rfl) (by kernel_rfl) (by kernel_rfl) ?hQ103 ?hw103 ?hy103 (by assumption) ?rest103
      case hi103 => simp only [List.getElem?_toArray, List.getElem?_cons_succ, List.getElem?_cons_zero]; rfl
      case hd103 => rfl
      case hw103 => kernel_rfl
      case hy103 => intro W hW; (try dsimp only at hW); go_simp <;> with_reducible rfl
      case hQ103 => exact fun _ _ _ h => h
      try simp only [Act.put, List.setIfInBounds_toArray, List.set_cons_zero, List.set_cons_succ]
      refine take_at 6 24 (oi := ?o104) (v := ?v104) ?hi104 ?hd104 (by kernel_rfl) (by kernel_rfl) (by kernel_rfl) ?hQ104 ?hw104 ?hy104 (by assumption) ?rest104
      case hi104 => simp only [List.getElem?_toArray, List.getElem?_cons_succ, List.getElem?_cons_zero]; rfl
      case hd104 => rfl
      case hw104 => kernel_rfl
      case hy104 => intro W hW; (try dsimp only at hW); go_simp <;> with_reducible rfl
      case hQ104 => exact fun _ _ _ h => h
      try simp only [Act.put, List.setIfInBounds_toArray, List.set_cons_zero, List.set_cons_succ]
      refine take_at 7 25 (oi := ?o105) (v := ?v105) ?hi105 ?hd105 (by kernel_rfl) (by kernel_rfl) (by kernel_rfl) ?hQ105 ?hw105 ?hy105 (by assumption) ?rest105
      case hi105 => simp only [List.getElem?_toArray, List.getElem?_cons_succ, List.getElem?_cons_zero]; rfl
      case hd105 => rfl
      case hw105 => kernel_rfl
      case hy105 => intro W hW; (try dsimp only at hW); go_simp <;> with_reducible rfl
      case hQ105 => exact fun _ _ _ h => h
      try simp only [Act.put, List.setIfInBounds_toArray, List.set_cons_zero, List.set_cons_succ]
      refine take_at 8 26 (oi := ?o106) (v := ?v106) ?hi106 ?hd106 (by kernel_rfl) (by kernel_rfl) (by kernel_rfl) ?hQ106 ?hw106 ?hy106 (by assumption) ?rest106
      case hi106 => simp only [List.getElem?_toArray, List.getElem?_cons_succ, List.getElem?_cons_zero]; rfl
      case hd106 => rfl
      case hw106 => kernel_rfl
      case hy106 => intro W hW; (try dsimp only at hW); go_simp <;> with_reducible rfl
      case hQ106 => exact fun _ _ _ h => h
      try simp only [Act.put, List.setIfInBounds_toArray, List.set_cons_zero, List.set_cons_succ]
      refine take_at 9 27 (oi := ?o107) (v := ?v107) ?hi107 ?hd107 (by kernel_rfl) (by kernel_rfl) (by kernel_rfl) ?hQ107 ?hw107 ?hy107 (by assumption) ?rest107
      case hi107 => simp only [List.getElem?_toArray, List.getElem?_cons_succ, List.getElem?_cons_zero]; rfl
      case hd107 => rfl
      case hw107 => kernel_rfl
      case hy107 => intro W hW; (try dsimp only at hW); go_simp <;> with_reducible rfl
      case hQ107 => exact fun _ _ _ h => h
      try simp only [Act.put, List.setIfInBounds_toArray, List.set_cons_zero, List.set_cons_succ]
      refine take_at 10 28 (oi := ?o108) (v := ?v108) ?hi108 ?hd108 (by kernel_rfl) (by kernel_rfl) (by kernel_rfl) ?hQ108 ?hw108 ?hy108 (by assumption) ?rest108
      case hi108 => simp only [List.getElem?_toArray, List.getElem?_cons_succ, List.getElem?_cons_zero]; rfl
      case hd108 => rfl
      case hw108 => kernel_rfl
      case hy108 => intro W hW; (try dsimp only at hW); go_simp <;> with_reducible rfl
      case hQ108 => exact fun _ _ _ h => h
      try simp only [Act.put, List.setIfInBounds_toArray, List.set_cons_zero, List.set_cons_succ]
      refine take_at 11 29 (oi := ?o109) (v := ?v109) ?hi109 ?hd109 (by kernel_rfl) (by kernel_rfl) (by kernel_rfl) ?hQ109 ?hw109 ?hy109 (by assumption) ?rest109
      case hi109 => simp only [List.getElem?_toArray, List.getElem?_cons_succ, List.getElem?_cons_zero]; rfl
      case hd109 => rfl
      case hw109 => kernel_rfl
      case hy109 => intro W hW; (try dsimp only at hW); go_simp <;> with_reducible rfl
      case hQ109 => exact fun _ _ _ h => h
      try simp only [Act.put, List.setIfInBounds_toArray, List.set_cons_zero, List.set_cons_succ]
      refine pass_at 12 30 (oi := ?o110) ?hi110 ?hd110 (by kernel_rfl) (by kernel_rfl) (by kernel_rfl) ?hQ110 ?hw110 (by assumption) ?rest110
      case hi110 => simp only [List.getElem?_toArray, List.getElem?_cons_succ, List.getElem?_cons_zero]; rfl
      case hd110 => rfl
      case hQ110 => exact fun _ _ _ h => h
      case hw110 => kernel_rfl
      try simp only [Act.put, List.setIfInBounds_toArray, List.set_cons_zero, List.set_cons_succ]
      refine pass_at 13 31 (oi := ?o111) ?hi111 ?hd111 (by kernel_rfl) (by kernel_rfl) (by kernel_rfl) ?hQ111 ?hw111 (by assumption) ?rest111
      case hi111 => simp only [List.getElem?_toArray, List.getElem?_cons_succ, List.getElem?_cons_zero]; rfl
      case hd111 => rfl
      case hQ111 => exact fun _ _ _ h => h
      case hw111 => kernel_rfl
      try simp only [Act.put, List.setIfInBounds_toArray, List.set_cons_zero, List.set_cons_succ]
      refine pass_at 14 32 (oi := ?o112) ?hi112 ?hd112 (by kernel_rfl) (by kernel_rfl) (by kernel_rfl) ?hQ112 ?hw112 (by assumption) ?rest112
      case hi112 => simp only [List.getElem?_toArray, List.getElem?_cons_succ, List.getElem?_cons_zero]; rfl
      case hd112 => rfl
      case hQ112 => exact fun _ _ _ h => h
      case hw112 => kernel_rfl
      try simp only [Act.put, List.setIfInBounds_toArray, List.set_cons_zero, List.set_cons_succ]
      refine pass_at 15 33 (oi := ?o113) ?hi113 ?hd113 (by kernel_rfl) (by kernel_rfl) (by kernel_rfl) ?hQ113 ?hw113 (by assumption) ?rest113
      case hi113 => simp only [List.getElem?_toArray, List.getElem?_cons_succ, List.getElem?_cons_zero]; rfl
      case hd113 => rfl
      case hQ113 => exact fun _ _ _ h => h
      case hw113 => kernel_rfl
      try simp only [Act.put, List.setIfInBounds_toArray, List.set_cons_zero, List.set_cons_succ]
      refine pass_at 16 34 (oi := ?o114) ?hi114 ?hd114 (by kernel_rfl) (by kernel_rfl) (by kernel_rfl) ?hQ114 ?hw114 (by assumption) ?rest114
      case hi114 => simp only [List.getElem?_toArray, List.getElem?_cons_succ, List.getElem?_cons_zero]; rfl
      case hd114 => rfl
      case hQ114 => exact fun _ _ _ h => h
      case hw114 => kernel_rfl
      try simp only [Act.put, List.setIfInBounds_toArray, List.set_cons_zero, List.set_cons_succ]
      refine pass_at 17 35 (oi := ?o115) ?hi115 ?hd115 (by kernel_rfl) (by kernel_rfl) (by kernel_rfl) ?hQ115 ?hw115 (by assumption) ?rest115
      case hi115 => simp only [List.getElem?_toArray, List.getElem?_cons_succ, List.getElem?_cons_zero]; rfl
      case hd115 => rfl
      case hQ115 => exact fun _ _ _ h => h
      case hw115 => kernel_rfl
      try simp only [Act.put, List.setIfInBounds_toArray, List.set_cons_zero, List.set_cons_succ]
      refine take_at 18 36 (oi := ?o116) (v := ?v116) ?hi116 ?hd116 (by kernel_rfl) (by kernel_rfl) (by kernel_rfl) ?hQ116 ?hw116 ?hy116 (by assumption) ?rest116
      case hi116 => simp only [List.getElem?_toArray, List.getElem?_cons_succ, List.getElem?_cons_zero]; rfl
      case hd116 => rfl
      case hw116 => kernel_rfl
      case hy116 => intro W hW; (try dsimp only at hW); go_simp <;> with_reducible rfl
      case hQ116 => exact fun _ _ _ h => h
      try simp only [Act.put, List.setIfInBounds_toArray, List.set_cons_zero, List.set_cons_succ]
      refine take_at 19 37 (oi := ?o117) (v := ?v117) ?hi117 ?hd117 (by kernel_rfl) (by kernel_rfl) (by kernel_rfl) ?hQ117 ?hw117 ?hy117 (by assumption) ?rest117
      case hi117 => simp only [List.getElem?_toArray, List.getElem?_cons_succ, List.getElem?_cons_zero]; rfl
      case hd117 => rfl
      case hw117 => kernel_rfl
      case hy117 => intro W hW; (try dsimp only at hW); go_simp <;> with_reducible rfl
      case hQ117 => exact fun _ _ _ h => h
      try simp only [Act.put, List.setIfInBounds_toArray, List.set_cons_zero, List.set_cons_succ]
      refine pass_at 20 38 (oi := ?o118) ?hi118 ?hd118 (by kernel_rfl) (by kernel_rfl) (by kernel_rfl) ?hQ118 ?hw118 (by assumption) ?rest118
      case hi118 => simp only [List.getElem?_toArray, List.getElem?_cons_succ, List.getElem?_cons_zero]; rfl
      case hd118 => rfl
      case hQ118 => exact fun _ _ _ h => h
      case hw118 => kernel_rfl
      try simp only [Act.put, List.setIfInBounds_toArray, List.set_cons_zero, List.set_cons_succ]
      refine pass_at 21 39 (oi := ?o119) ?hi119 ?hd119 (by kernel_rfl) (by kernel_rfl) (by kernel_rfl) ?hQ119 ?hw119 (by assumption) ?rest119
      case hi119 => simp only [List.getElem?_toArray, List.getElem?_cons_succ, List.getElem?_cons_zero]; rfl
      case hd119 => rfl
      case hQ119 => exact fun _ _ _ h => h
      case hw119 => kernel_rfl
      try simp only [Act.put, List.setIfInBounds_toArray, List.set_cons_zero, List.set_cons_succ]
      refine pass_at 22 40 (oi := ?o120) ?hi120 ?hd120 (by kernel_rfl) (by kernel_rfl) (by kernel_rfl) ?hQ120 ?hw120 (by assumption) ?rest120
      case hi120 => simp only [List.getElem?_toArray, List.getElem?_cons_succ, List.getElem?_cons_zero]; rfl
      case hd120 => rfl
      case hQ120 => exact fun _ _ _ h => h
      case hw120 => kernel_rfl
      try simp only [Act.put, List.setIfInBounds_toArray, List.set_cons_zero, List.set_cons_succ]
      refine pass_at 23 41 (oi := ?o121) ?hi121 ?hd121 (by kernel_rfl) (by kernel_rfl) (by kernel_rfl) ?hQ121 ?hw121 (by assumption) ?rest121
      case hi121 => simp only [List.getElem?_toArray, List.getElem?_cons_succ, List.getElem?_cons_zero]; rfl
      case hd121 => rfl
      case hQ121 => exact fun _ _ _ h => h
      case hw121 => kernel_rfl
      try simp only [Act.put, List.setIfInBounds_toArray, List.set_cons_zero, List.set_cons_succ]
      refine pass_at 24 42 (oi := ?o122) ?hi122 ?hd122 (by kernel_rfl) (by kernel_rfl) (by kernel_rfl) ?hQ122 ?hw122 (by assumption) ?rest122
      case hi122 => simp only [List.getElem?_toArray, List.getElem?_cons_succ, List.getElem?_cons_zero]; rfl
      case hd122 => rfl
      case hQ122 => exact fun _ _ _ h => h
      case hw122 => kernel_rfl
      try simp only [Act.put, List.setIfInBounds_toArray, List.set_cons_zero, List.set_cons_succ]
      refine take_at 25 43 (oi := ?o123) (v := ?v123) ?hi123 ?hd123 (by kernel_rfl) (by kernel_rfl) (by kernel_rfl) ?hQ123 ?hw123 ?hy123 (by assumption) ?rest123
      case hi123 => simp only [List.getElem?_toArray, List.getElem?_cons_succ, List.getElem?_cons_zero]; rfl
      case hd123 => rfl
      case hw123 => kernel_rfl
      case hy123 => intro W hW; (try dsimp only at hW); go_simp <;> with_reducible rfl
      case hQ123 => exact fun _ _ _ h => h
      try simp only [Act.put, List.setIfInBounds_toArray, List.set_cons_zero, List.set_cons_succ]
      refine wpAnyH_done (by kernel_rfl) ?_ _
      go_wp2
      go_ret
      exact ⟨rfl, HB2.out⟩

end Go.Proofs.YtdkjehagkmkokaaDoor
