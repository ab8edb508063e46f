/- Valid of the reference of mountain does what the plain function says. -/
import Derived.Test.YtfklmjcjjdliiaaDoorWkMt2
namespace Go.Proofs.YtfklmjcjjdliiaaDoor
open Go Go.RowKit Licit

set_option maxHeartbeats 4000000 in
set_option maxRecDepth 100000 in
theorem RMtValid_any (v : Value) (s : Int) (P : List Bs) (w : World) (h : MtIs v s P w) :
    Calls Tryd.prog 31 #[v] w fun e w' => e = .returned (.int .i64 (validM s P)) ∧ Below w.heap.size w w' := by
  obtain ⟨p, rfl, h1, _⟩ := h
  have hB1 : Below w.heap.size w (w.alloc (.cells #[.int .i64 s, p] 31)) := (Below.refl _ _).alloc (Nat.le_refl _) _
  have HW := Lib.hid (fun W (hb : Below w.heap.size w W) => Digests_any p P W (h1.below hb))
  obtain ⟨a, cap, rfl⟩ := h1.formMap
  have hl := h1.1
  rw [List.length_map] at hl
  unfold maxLen at hl
  have HB1 := Lib.hid (dr hB1)
  have Hx := Lib.hid (new_of w (.cells #[.int .i64 s, .slice a P.length cap] 31))
  clear hB1 h1
  by_cases c1 : s < 0
  · have d1 : decide (s < 0) = true := by simpa using c1
    have hq : validM s P = 1 := by unfold validM; rw [if_neg]; intro h; have := okM_iff.1 h; omega
    rw [hq]
    clear hq
    go_enter Tryd.func31, Tryd.ntmps31
    go_wp2
    refine wp_region_held_drew (S := (fun W : World => W.cell? ⟨w.heap.size, 0, none⟩ = some (.int .i64 s) ∧ W.cell? ⟨w.heap.size, 1, none⟩ = some (.slice a P.length cap))) (by kernel_rfl) (mtC (w := w.alloc _) Hx.out) (fun hHeld => ?_)
    refine take_at 0 3 (oi := ?o1) (v := ?v1) ?hi1 ?hd1 (by kernel_rfl) (by kernel_rfl) (by kernel_rfl) ?hQ1 ?hw1 ?hy1 (by assumption) ?rest1
    case hi1 => simp only [List.getElem?_toArray, List.getElem?_cons_zero]; rfl
    case hd1 => rfl
    case hw1 => kernel_rfl
    case hy1 => intro W hW; (try dsimp only at hW); go_simp <;> with_reducible rfl
    case hQ1 => exact fun _ _ _ h => h
    try simp only [Act.put, List.setIfInBounds_toArray, List.set_cons_zero, List.set_cons_succ]
    refine take_at 1 4 (oi := ?o2) (v := ?v2) ?hi2 ?hd2 (by kernel_rfl) (by kernel_rfl) (by kernel_rfl) ?hQ2 ?hw2 ?hy2 (by assumption) ?rest2
    case hi2 => simp only [List.getElem?_toArray, List.getElem?_cons_succ, List.getElem?_cons_zero]; rfl
    case hd2 => rfl
    case hw2 => kernel_rfl
    case hy2 => intro W hW; (try dsimp only at hW); go_simp <;> with_reducible rfl
    case hQ2 => exact fun _ _ _ h => h
    try simp only [Act.put, List.setIfInBounds_toArray, List.set_cons_zero, List.set_cons_succ]
    refine take_at 2 5 (oi := ?o3) (v := ?v3) ?hi3 ?hd3 (by kernel_rfl) (by kernel_rfl) (by kernel_rfl) ?hQ3 ?hw3 ?hy3 (by assumption) ?rest3
    case hi3 => simp only [List.getElem?_toArray, List.getElem?_cons_succ, List.getElem?_cons_zero]; rfl
    case hd3 => rfl
    case hw3 => kernel_rfl
    case hy3 => intro W hW; (try dsimp only at hW); go_simp <;> with_reducible rfl
    case hQ3 => exact fun _ _ _ h => h
    try simp only [Act.put, List.setIfInBounds_toArray, List.set_cons_zero, List.set_cons_succ]
    refine take_at 3 6 (oi := ?o4) (v := ?v4) ?hi4 ?hd4 (by kernel_rfl) (by kernel_rfl) (by kernel_rfl) ?hQ4 ?hw4 ?hy4 (by assumption) ?rest4
    case hi4 => simp only [List.getElem?_toArray, List.getElem?_cons_succ, List.getElem?_cons_zero]; rfl
    case hd4 => rfl
    case hw4 => kernel_rfl
    case hy4 => intro W hW; (try dsimp only at hW); go_simp <;> with_reducible rfl
    case hQ4 => exact fun _ _ _ h => h
    try simp only [Act.put, List.setIfInBounds_toArray, List.set_cons_zero, List.set_cons_succ]
    refine pass_at 4 7 (oi := ?o5) ?hi5 ?hd5 (by kernel_rfl) (by kernel_rfl) (by kernel_rfl) ?hQ5 ?hw5 (by assumption) ?rest5
    case hi5 => simp only [List.getElem?_toArray, List.getElem?_cons_succ, List.getElem?_cons_zero]; rfl
    case hd5 => rfl
    case hQ5 => exact fun _ _ _ h => h
    case hw5 => kernel_rfl
    try simp only [Act.put, List.setIfInBounds_toArray, List.set_cons_zero, List.set_cons_succ]
    refine pass_at 5 8 (oi := ?o6) ?hi6 ?hd6 (by kernel_rfl) (by kernel_rfl) (by kernel_rfl) ?hQ6 ?hw6 (by assumption) ?rest6
    case hi6 => simp only [List.getElem?_toArray, List.getElem?_cons_succ, List.getElem?_cons_zero]; rfl
    case hd6 => rfl
    case hQ6 => exact fun _ _ _ h => h
    case hw6 => kernel_rfl
    try simp only [Act.put, List.setIfInBounds_toArray, List.set_cons_zero, List.set_cons_succ]
    refine pass_at 6 9 (oi := ?o7) ?hi7 ?hd7 (by kernel_rfl) (by kernel_rfl) (by kernel_rfl) ?hQ7 ?hw7 (by assumption) ?rest7
    case hi7 => simp only [List.getElem?_toArray, List.getElem?_cons_succ, List.getElem?_cons_zero]; rfl
    case hd7 => rfl
    case hQ7 => exact fun _ _ _ h => h
    case hw7 => kernel_rfl
    try simp only [Act.put, List.setIfInBounds_toArray, List.set_cons_zero, List.set_cons_succ]
    refine take_at 7 10 (oi := ?o8) (v := ?v8) ?hi8 ?hd8 (by kernel_rfl) (by kernel_rfl) (by kernel_rfl) ?hQ8 ?hw8 ?hy8 (by assumption) ?rest8
    case hi8 => simp only [List.getElem?_toArray, List.getElem?_cons_succ, List.getElem?_cons_zero]; rfl
    case hd8 => rfl
    case hw8 => kernel_rfl
    case hy8 => intro W hW; (try dsimp only at hW); go_simp <;> with_reducible rfl
    case hQ8 => exact fun _ _ _ h => h
    try simp only [Act.put, List.setIfInBounds_toArray, List.set_cons_zero, List.set_cons_succ]
    refine take_at 8 11 (oi := ?o9) (v := ?v9) ?hi9 ?hd9 (by kernel_rfl) (by kernel_rfl) (by kernel_rfl) ?hQ9 ?hw9 ?hy9 (by assumption) ?rest9
    case hi9 => simp only [List.getElem?_toArray, List.getElem?_cons_succ, List.getElem?_cons_zero]; rfl
    case hd9 => rfl
    case hw9 => kernel_rfl
    case hy9 => intro W hW; (try dsimp only at hW); go_simp <;> with_reducible rfl
    case hQ9 => exact fun _ _ _ h => h
    try simp only [Act.put, List.setIfInBounds_toArray, List.set_cons_zero, List.set_cons_succ]
    refine pass_at 9 12 (oi := ?o10) ?hi10 ?hd10 (by kernel_rfl) (by kernel_rfl) (by kernel_rfl) ?hQ10 ?hw10 (by assumption) ?rest10
    case hi10 => simp only [List.getElem?_toArray, List.getElem?_cons_succ, List.getElem?_cons_zero]; rfl
    case hd10 => rfl
    case hQ10 => exact fun _ _ _ h => h
    case hw10 => kernel_rfl
    try simp only [Act.put, List.setIfInBounds_toArray, List.set_cons_zero, List.set_cons_succ]
    refine pass_at 10 13 (oi := ?o11) ?hi11 ?hd11 (by kernel_rfl) (by kernel_rfl) (by kernel_rfl) ?hQ11 ?hw11 (by assumption) ?rest11
    case hi11 => simp only [List.getElem?_toArray, List.getElem?_cons_succ, List.getElem?_cons_zero]; rfl
    case hd11 => rfl
    case hQ11 => exact fun _ _ _ h => h
    case hw11 => kernel_rfl
    try simp only [Act.put, List.setIfInBounds_toArray, List.set_cons_zero, List.set_cons_succ]
    refine pass_at 11 14 (oi := ?o12) ?hi12 ?hd12 (by kernel_rfl) (by kernel_rfl) (by kernel_rfl) ?hQ12 ?hw12 (by assumption) ?rest12
    case hi12 => simp only [List.getElem?_toArray, List.getElem?_cons_succ, List.getElem?_cons_zero]; rfl
    case hd12 => rfl
    case hQ12 => exact fun _ _ _ h => h
    case hw12 => kernel_rfl
    try simp only [Act.put, List.setIfInBounds_toArray, List.set_cons_zero, List.set_cons_succ]
    refine pass_at 12 15 (oi := ?o13) ?hi13 ?hd13 (by kernel_rfl) (by kernel_rfl) (by kernel_rfl) ?hQ13 ?hw13 (by assumption) ?rest13
    case hi13 => simp only [List.getElem?_toArray, List.getElem?_cons_succ, List.getElem?_cons_zero]; rfl
    case hd13 => rfl
    case hQ13 => exact fun _ _ _ h => h
    case hw13 => kernel_rfl
    try simp only [Act.put, List.setIfInBounds_toArray, List.set_cons_zero, List.set_cons_succ]
    refine pass_at 13 16 (oi := ?o14) ?hi14 ?hd14 (by kernel_rfl) (by kernel_rfl) (by kernel_rfl) ?hQ14 ?hw14 (by assumption) ?rest14
    case hi14 => simp only [List.getElem?_toArray, List.getElem?_cons_succ, List.getElem?_cons_zero]; rfl
    case hd14 => rfl
    case hQ14 => exact fun _ _ _ h => h
    case hw14 => kernel_rfl
    try simp only [Act.put, List.setIfInBounds_toArray, List.set_cons_zero, List.set_cons_succ]
    refine pass_at 14 17 (oi := ?o15) ?hi15 ?hd15 (by kernel_rfl) (by kernel_rfl) (by kernel_rfl) ?hQ15 ?hw15 (by assumption) ?rest15
    case hi15 => simp only [List.getElem?_toArray, List.getElem?_cons_succ, List.getElem?_cons_zero]; rfl
    case hd15 => rfl
    case hQ15 => exact fun _ _ _ h => h
    case hw15 => kernel_rfl
    try simp only [Act.put, List.setIfInBounds_toArray, List.set_cons_zero, List.set_cons_succ]
    refine pass_at 15 18 (oi := ?o16) ?hi16 ?hd16 (by kernel_rfl) (by kernel_rfl) (by kernel_rfl) ?hQ16 ?hw16 (by assumption) ?rest16
    case hi16 => simp only [List.getElem?_toArray, List.getElem?_cons_succ, List.getElem?_cons_zero]; rfl
    case hd16 => rfl
    case hQ16 => exact fun _ _ _ h => h
    case hw16 => kernel_rfl
    try simp only [Act.put, List.setIfInBounds_toArray, List.set_cons_zero, List.set_cons_succ]
    refine pass_at 16 19 (oi := ?o17) ?hi17 ?hd17 (by kernel_rfl) (by kernel_rfl) (by kernel_rfl) ?hQ17 ?hw17 (by assumption) ?rest17
    case hi17 => simp only [List.getElem?_toArray, List.getElem?_cons_succ, List.getElem?_cons_zero]; rfl
    case hd17 => rfl
    case hQ17 => exact fun _ _ _ h => h
    case hw17 => kernel_rfl
    try simp only [Act.put, List.setIfInBounds_toArray, List.set_cons_zero, List.set_cons_succ]
    refine take_at 17 20 (oi := ?o18) (v := ?v18) ?hi18 ?hd18 (by kernel_rfl) (by kernel_rfl) (by kernel_rfl) ?hQ18 ?hw18 ?hy18 (by assumption) ?rest18
    case hi18 => simp only [List.getElem?_toArray, List.getElem?_cons_succ, List.getElem?_cons_zero]; rfl
    case hd18 => rfl
    case hw18 => kernel_rfl
    case hy18 => intro W hW; (try dsimp only at hW); go_simp <;> with_reducible rfl
    case hQ18 => exact fun _ _ _ h => h
    try simp only [Act.put, List.setIfInBounds_toArray, List.set_cons_zero, List.set_cons_succ]
    refine take_at 18 21 (oi := ?o19) (v := ?v19) ?hi19 ?hd19 (by kernel_rfl) (by kernel_rfl) (by kernel_rfl) ?hQ19 ?hw19 ?hy19 (by assumption) ?rest19
    case hi19 => simp only [List.getElem?_toArray, List.getElem?_cons_succ, List.getElem?_cons_zero]; rfl
    case hd19 => rfl
    case hw19 => kernel_rfl
    case hy19 => intro W hW; (try dsimp only at hW); go_simp <;> with_reducible rfl
    case hQ19 => exact fun _ _ _ h => h
    try simp only [Act.put, List.setIfInBounds_toArray, List.set_cons_zero, List.set_cons_succ]
    refine pass_at 19 22 (oi := ?o20) ?hi20 ?hd20 (by kernel_rfl) (by kernel_rfl) (by kernel_rfl) ?hQ20 ?hw20 (by assumption) ?rest20
    case hi20 => simp only [List.getElem?_toArray, List.getElem?_cons_succ, List.getElem?_cons_zero]; rfl
    case hd20 => rfl
    case hQ20 => exact fun _ _ _ h => h
    case hw20 => kernel_rfl
    try simp only [Act.put, List.setIfInBounds_toArray, List.set_cons_zero, List.set_cons_succ]
    refine pass_at 20 23 (oi := ?o21) ?hi21 ?hd21 (by kernel_rfl) (by kernel_rfl) (by kernel_rfl) ?hQ21 ?hw21 (by assumption) ?rest21
    case hi21 => simp only [List.getElem?_toArray, List.getElem?_cons_succ, List.getElem?_cons_zero]; rfl
    case hd21 => rfl
    case hQ21 => exact fun _ _ _ h => h
    case hw21 => kernel_rfl
    try simp only [Act.put, List.setIfInBounds_toArray, List.set_cons_zero, List.set_cons_succ]
    refine pass_at 21 24 (oi := ?o22) ?hi22 ?hd22 (by kernel_rfl) (by kernel_rfl) (by kernel_rfl) ?hQ22 ?hw22 (by assumption) ?rest22
    case hi22 => simp only [List.getElem?_toArray, List.getElem?_cons_succ, List.getElem?_cons_zero]; rfl
    case hd22 => rfl
    case hQ22 => exact fun _ _ _ h => h
    case hw22 => kernel_rfl
    try simp only [Act.put, List.setIfInBounds_toArray, List.set_cons_zero, List.set_cons_succ]
    refine pass_at 22 25 (oi := ?o23) ?hi23 ?hd23 (by kernel_rfl) (by kernel_rfl) (by kernel_rfl) ?hQ23 ?hw23 (by assumption) ?rest23
    case hi23 => simp only [List.getElem?_toArray, List.getElem?_cons_succ, List.getElem?_cons_zero]; rfl
    case hd23 => rfl
    case hQ23 => exact fun _ _ _ h => h
    case hw23 => kernel_rfl
    try simp only [Act.put, List.setIfInBounds_toArray, List.set_cons_zero, List.set_cons_succ]
    refine take_at 23 26 (oi := ?o24) (v := ?v24) ?hi24 ?hd24 (by kernel_rfl) (by kernel_rfl) (by kernel_rfl) ?hQ24 ?hw24 ?hy24 (by assumption) ?rest24
    case hi24 => simp only [List.getElem?_toArray, List.getElem?_cons_succ, List.getElem?_cons_zero]; rfl
    case hd24 => rfl
    case hw24 => kernel_rfl
    case hy24 => intro W hW; (try dsimp only at hW); go_simp <;> with_reducible rfl
    case hQ24 => exact fun _ _ _ h => h
    try simp only [Act.put, List.setIfInBounds_toArray, List.set_cons_zero, List.set_cons_succ]
    refine wpAnyH_done (by kernel_rfl) ?_ _
    simp only [Exit.then]
    go_wp2
    go_ret
    exact ⟨rfl, HB1.out⟩
  obtain ⟨n, rfl⟩ : ∃ n : Nat, s = (n : Int) := ⟨s.toNat, by omega⟩
  have d1 : decide ((n : Int) < 0) = false := by simp
  clear c1
  by_cases c2 : 1048576 < n
  · have d2 : decide (1048576 < (n : Int)) = true := by simp; omega
    have hq : validM (n : Int) P = 1 := by unfold validM; rw [if_neg]; intro h; have := okM_iff.1 h; omega
    rw [hq]
    clear hq
    go_enter Tryd.func31, Tryd.ntmps31
    go_wp2
    refine wp_region_held_drew (S := (fun W : World => W.cell? ⟨w.heap.size, 0, none⟩ = some (.int .i64 (n : Int)) ∧ W.cell? ⟨w.heap.size, 1, none⟩ = some (.slice a P.length cap))) (by kernel_rfl) (mtC (w := w.alloc _) Hx.out) (fun hHeld => ?_)
    refine take_at 0 3 (oi := ?o25) (v := ?v25) ?hi25 ?hd25 (by kernel_rfl) (by kernel_rfl) (by kernel_rfl) ?hQ25 ?hw25 ?hy25 (by assumption) ?rest25
    case hi25 => simp only [List.getElem?_toArray, List.getElem?_cons_zero]; rfl
    case hd25 => rfl
    case hw25 => kernel_rfl
    case hy25 => intro W hW; (try dsimp only at hW); go_simp <;> with_reducible rfl
    case hQ25 => exact fun _ _ _ h => h
    try simp only [Act.put, List.setIfInBounds_toArray, List.set_cons_zero, List.set_cons_succ]
    refine take_at 1 4 (oi := ?o26) (v := ?v26) ?hi26 ?hd26 (by kernel_rfl) (by kernel_rfl) (by kernel_rfl) ?hQ26 ?hw26 ?hy26 (by assumption) ?rest26
    case hi26 => simp only [List.getElem?_toArray, List.getElem?_cons_succ, List.getElem?_cons_zero]; rfl
    case hd26 => rfl
    case hw26 => kernel_rfl
    case hy26 => intro W hW; (try dsimp only at hW); go_simp <;> with_reducible rfl
    case hQ26 => exact fun _ _ _ h => h
    try simp only [Act.put, List.setIfInBounds_toArray, List.set_cons_zero, List.set_cons_succ]
    refine take_at 2 5 (oi := ?o27) (v := ?v27) ?hi27 ?hd27 (by kernel_rfl) (by kernel_rfl) (by kernel_rfl) ?hQ27 ?hw27 ?hy27 (by assumption) ?rest27
    case hi27 => simp only [List.getElem?_toArray, List.getElem?_cons_succ, List.getElem?_cons_zero]; rfl
    case hd27 => rfl
    case hw27 => kernel_rfl
    case hy27 => intro W hW; (try dsimp only at hW); go_simp <;> with_reducible rfl
    case hQ27 => exact fun _ _ _ h => h
    try simp only [Act.put, List.setIfInBounds_toArray, List.set_cons_zero, List.set_cons_succ]
    refine take_at 3 6 (oi := ?o28) (v := ?v28) ?hi28 ?hd28 (by kernel_rfl) (by kernel_rfl) (by kernel_rfl) ?hQ28 ?hw28 ?hy28 (by assumption) ?rest28
    case hi28 => simp only [List.getElem?_toArray, List.getElem?_cons_succ, List.getElem?_cons_zero]; rfl
    case hd28 => rfl
    case hw28 => kernel_rfl
    case hy28 => intro W hW; (try dsimp only at hW); go_simp <;> with_reducible rfl
    case hQ28 => exact fun _ _ _ h => h
    try simp only [Act.put, List.setIfInBounds_toArray, List.set_cons_zero, List.set_cons_succ]
    refine take_at 4 7 (oi := ?o29) (v := ?v29) ?hi29 ?hd29 (by kernel_rfl) (by kernel_rfl) (by kernel_rfl) ?hQ29 ?hw29 ?hy29 (by assumption) ?rest29
    case hi29 => simp only [List.getElem?_toArray, List.getElem?_cons_succ, List.getElem?_cons_zero]; rfl
    case hd29 => rfl
    case hw29 => kernel_rfl
    case hy29 => intro W hW; (try dsimp only at hW); go_simp <;> with_reducible rfl
    case hQ29 => exact fun _ _ _ h => h
    try simp only [Act.put, List.setIfInBounds_toArray, List.set_cons_zero, List.set_cons_succ]
    refine take_at 5 8 (oi := ?o30) (v := ?v30) ?hi30 ?hd30 (by kernel_rfl) (by kernel_rfl) (by kernel_rfl) ?hQ30 ?hw30 ?hy30 (by assumption) ?rest30
    case hi30 => simp only [List.getElem?_toArray, List.getElem?_cons_succ, List.getElem?_cons_zero]; rfl
    case hd30 => rfl
    case hw30 => kernel_rfl
    case hy30 => intro W hW; (try dsimp only at hW); go_simp <;> with_reducible rfl
    case hQ30 => exact fun _ _ _ h => h
    try simp only [Act.put, List.setIfInBounds_toArray, List.set_cons_zero, List.set_cons_succ]
    refine take_at 6 9 (oi := ?o31) (v := ?v31) ?hi31 ?hd31 (by kernel_rfl) (by kernel_rfl) (by kernel_rfl) ?hQ31 ?hw31 ?hy31 (by assumption) ?rest31
    case hi31 => simp only [List.getElem?_toArray, List.getElem?_cons_succ, List.getElem?_cons_zero]; rfl
    case hd31 => rfl
    case hw31 => kernel_rfl
    case hy31 => intro W hW; (try dsimp only at hW); go_simp <;> with_reducible rfl
    case hQ31 => exact fun _ _ _ h => h
    try simp only [Act.put, List.setIfInBounds_toArray, List.set_cons_zero, List.set_cons_succ]
    refine take_at 7 10 (oi := ?o32) (v := ?v32) ?hi32 ?hd32 (by kernel_rfl) (by kernel_rfl) (by kernel_rfl) ?hQ32 ?hw32 ?hy32 (by assumption) ?rest32
    case hi32 => simp only [List.getElem?_toArray, List.getElem?_cons_succ, List.getElem?_cons_zero]; rfl
    case hd32 => rfl
    case hw32 => kernel_rfl
    case hy32 => intro W hW; (try dsimp only at hW); go_simp <;> with_reducible rfl
    case hQ32 => exact fun _ _ _ h => h
    try simp only [Act.put, List.setIfInBounds_toArray, List.set_cons_zero, List.set_cons_succ]
    refine take_at 8 11 (oi := ?o33) (v := ?v33) ?hi33 ?hd33 (by kernel_rfl) (by kernel_rfl) (by kernel_rfl) ?hQ33 ?hw33 ?hy33 (by assumption) ?rest33
    case hi33 => simp only [List.getElem?_toArray, List.getElem?_cons_succ, List.getElem?_cons_zero]; rfl
    case hd33 => rfl
    case hw33 => kernel_rfl
    case hy33 => intro W hW; (try dsimp only at hW); go_simp <;> with_reducible rfl
    case hQ33 => exact fun _ _ _ h => h
    try simp only [Act.put, List.setIfInBounds_toArray, List.set_cons_zero, List.set_cons_succ]
    refine pass_at 9 12 (oi := ?o34) ?hi34 ?hd34 (by kernel_rfl) (by kernel_rfl) (by kernel_rfl) ?hQ34 ?hw34 (by assumption) ?rest34
    case hi34 => simp only [List.getElem?_toArray, List.getElem?_cons_succ, List.getElem?_cons_zero]; rfl
    case hd34 => rfl
    case hQ34 => exact fun _ _ _ h => h
    case hw34 => kernel_rfl
    try simp only [Act.put, List.setIfInBounds_toArray, List.set_cons_zero, List.set_cons_succ]
    refine pass_at 10 13 (oi := ?o35) ?hi35 ?hd35 (by kernel_rfl) (by kernel_rfl) (by kernel_rfl) ?hQ35 ?hw35 (by assumption) ?rest35
    case hi35 => simp only [List.getElem?_toArray, List.getElem?_cons_succ, List.getElem?_cons_zero]; rfl
    case hd35 => rfl
    case hQ35 => exact fun _ _ _ h => h
    case hw35 => kernel_rfl
    try simp only [Act.put, List.setIfInBounds_toArray, List.set_cons_zero, List.set_cons_succ]
    refine pass_at 11 14 (oi := ?o36) ?hi36 ?hd36 (by kernel_rfl) (by kernel_rfl) (by kernel_rfl) ?hQ36 ?hw36 (by assumption) ?rest36
    case hi36 => simp only [List.getElem?_toArray, List.getElem?_cons_succ, List.getElem?_cons_zero]; rfl
    case hd36 => rfl
    case hQ36 => exact fun _ _ _ h => h
    case hw36 => kernel_rfl
    try simp only [Act.put, List.setIfInBounds_toArray, List.set_cons_zero, List.set_cons_succ]
    refine pass_at 12 15 (oi := ?o37) ?hi37 ?hd37 (by kernel_rfl) (by kernel_rfl) (by kernel_rfl) ?hQ37 ?hw37 (by assumption) ?rest37
    case hi37 => simp only [List.getElem?_toArray, List.getElem?_cons_succ, List.getElem?_cons_zero]; rfl
    case hd37 => rfl
    case hQ37 => exact fun _ _ _ h => h
    case hw37 => kernel_rfl
    try simp only [Act.put, List.setIfInBounds_toArray, List.set_cons_zero, List.set_cons_succ]
    refine pass_at 13 16 (oi := ?o38) ?hi38 ?hd38 (by kernel_rfl) (by kernel_rfl) (by kernel_rfl) ?hQ38 ?hw38 (by assumption) ?rest38
    case hi38 => simp only [List.getElem?_toArray, List.getElem?_cons_succ, List.getElem?_cons_zero]; rfl
    case hd38 => rfl
    case hQ38 => exact fun _ _ _ h => h
    case hw38 => kernel_rfl
    try simp only [Act.put, List.setIfInBounds_toArray, List.set_cons_zero, List.set_cons_succ]
    refine pass_at 14 17 (oi := ?o39) ?hi39 ?hd39 (by kernel_rfl) (by kernel_rfl) (by kernel_rfl) ?hQ39 ?hw39 (by assumption) ?rest39
    case hi39 => simp only [List.getElem?_toArray, List.getElem?_cons_succ, List.getElem?_cons_zero]; rfl
    case hd39 => rfl
    case hQ39 => exact fun _ _ _ h => h
    case hw39 => kernel_rfl
    try simp only [Act.put, List.setIfInBounds_toArray, List.set_cons_zero, List.set_cons_succ]
    refine pass_at 15 18 (oi := ?o40) ?hi40 ?hd40 (by kernel_rfl) (by kernel_rfl) (by kernel_rfl) ?hQ40 ?hw40 (by assumption) ?rest40
    case hi40 => simp only [List.getElem?_toArray, List.getElem?_cons_succ, List.getElem?_cons_zero]; rfl
    case hd40 => rfl
    case hQ40 => exact fun _ _ _ h => h
    case hw40 => kernel_rfl
    try simp only [Act.put, List.setIfInBounds_toArray, List.set_cons_zero, List.set_cons_succ]
    refine pass_at 16 19 (oi := ?o41) ?hi41 ?hd41 (by kernel_rfl) (by kernel_rfl) (by kernel_rfl) ?hQ41 ?hw41 (by assumption) ?rest41
    case hi41 => simp only [List.getElem?_toArray, List.getElem?_cons_succ, List.getElem?_cons_zero]; rfl
    case hd41 => rfl
    case hQ41 => exact fun _ _ _ h => h
    case hw41 => kernel_rfl
    try simp only [Act.put, List.setIfInBounds_toArray, List.set_cons_zero, List.set_cons_succ]
    refine take_at 17 20 (oi := ?o42) (v := ?v42) ?hi42 ?hd42 (by kernel_rfl) (by kernel_rfl) (by kernel_rfl) ?hQ42 ?hw42 ?hy42 (by assumption) ?rest42
    case hi42 => simp only [List.getElem?_toArray, List.getElem?_cons_succ, List.getElem?_cons_zero]; rfl
    case hd42 => rfl
    case hw42 => kernel_rfl
    case hy42 => intro W hW; (try dsimp only at hW); go_simp <;> with_reducible rfl
    case hQ42 => exact fun _ _ _ h => h
    try simp only [Act.put, List.setIfInBounds_toArray, List.set_cons_zero, List.set_cons_succ]
    refine take_at 18 21 (oi := ?o43) (v := ?v43) ?hi43 ?hd43 (by kernel_rfl) (by kernel_rfl) (by kernel_rfl) ?hQ43 ?hw43 ?hy43 (by assumption) ?rest43
    case hi43 => simp only [List.getElem?_toArray, List.getElem?_cons_succ, List.getElem?_cons_zero]; rfl
    case hd43 => rfl
    case hw43 => kernel_rfl
    case hy43 => intro W hW; (try dsimp only at hW); go_simp <;> with_reducible rfl
    case hQ43 => exact fun _ _ _ h => h
    try simp only [Act.put, List.setIfInBounds_toArray, List.set_cons_zero, List.set_cons_succ]
    refine pass_at 19 22 (oi := ?o44) ?hi44 ?hd44 (by kernel_rfl) (by kernel_rfl) (by kernel_rfl) ?hQ44 ?hw44 (by assumption) ?rest44
    case hi44 => simp only [List.getElem?_toArray, List.getElem?_cons_succ, List.getElem?_cons_zero]; rfl
    case hd44 => rfl
    case hQ44 => exact fun _ _ _ h => h
    case hw44 => kernel_rfl
    try simp only [Act.put, List.setIfInBounds_toArray, List.set_cons_zero, List.set_cons_succ]
    refine pass_at 20 23 (oi := ?o45) ?hi45 ?hd45 (by kernel_rfl) (by kernel_rfl) (by kernel_rfl) ?hQ45 ?hw45 (by assumption) ?rest45
    case hi45 => simp only [List.getElem?_toArray, List.getElem?_cons_succ, List.getElem?_cons_zero]; rfl
    case hd45 => rfl
    case hQ45 => exact fun _ _ _ h => h
    case hw45 => kernel_rfl
    try simp only [Act.put, List.setIfInBounds_toArray, List.set_cons_zero, List.set_cons_succ]
    refine pass_at 21 24 (oi := ?o46) ?hi46 ?hd46 (by kernel_rfl) (by kernel_rfl) (by kernel_rfl) ?hQ46 ?hw46 (by assumption) ?rest46
    case hi46 => simp only [List.getElem?_toArray, List.getElem?_cons_succ, List.getElem?_cons_zero]; rfl
    case hd46 => rfl
    case hQ46 => exact fun _ _ _ h => h
    case hw46 => kernel_rfl
    try simp only [Act.put, List.setIfInBounds_toArray, List.set_cons_zero, List.set_cons_succ]
    refine pass_at 22 25 (oi := ?o47) ?hi47 ?hd47 (by kernel_rfl) (by kernel_rfl) (by kernel_rfl) ?hQ47 ?hw47 (by assumption) ?rest47
    case hi47 => simp only [List.getElem?_toArray, List.getElem?_cons_succ, List.getElem?_cons_zero]; rfl
    case hd47 => rfl
    case hQ47 => exact fun _ _ _ h => h
    case hw47 => kernel_rfl
    try simp only [Act.put, List.setIfInBounds_toArray, List.set_cons_zero, List.set_cons_succ]
    refine take_at 23 26 (oi := ?o48) (v := ?v48) ?hi48 ?hd48 (by kernel_rfl) (by kernel_rfl) (by kernel_rfl) ?hQ48 ?hw48 ?hy48 (by assumption) ?rest48
    case hi48 => simp only [List.getElem?_toArray, List.getElem?_cons_succ, List.getElem?_cons_zero]; rfl
    case hd48 => rfl
    case hw48 => kernel_rfl
    case hy48 => intro W hW; (try dsimp only at hW); go_simp <;> with_reducible rfl
    case hQ48 => exact fun _ _ _ h => h
    try simp only [Act.put, List.setIfInBounds_toArray, List.set_cons_zero, List.set_cons_succ]
    refine wpAnyH_done (by kernel_rfl) ?_ _
    simp only [Exit.then]
    go_wp2
    go_ret
    exact ⟨rfl, HB1.out⟩
  have d2 : decide (1048576 < (n : Int)) = false := by simp; omega
  have HO := Lib.hid (fun W => heights_any n W (by omega))
  obtain ⟨L, hL⟩ : ∃ L, (hts n).length = L := ⟨_, rfl⟩
  rw [hL] at HO
  have HL := Lib.hid hL
  have hLl : L ≤ 21 := by rw [← hL]; exact hts_len 21 n
  have hn20 : n ≤ 1048576 := by omega
  clear hL c2
  by_cases c3 : P.length = L
  rotate_left
  · have hq : validM (n : Int) P = 1 := by unfold validM; rw [if_neg]; intro h; have := okM_iff.1 h; rw [Int.toNat_natCast, HL.out] at this; exact c3 this.2.1
    rw [hq]
    have d3 : ((P.length : Int) == (L : Int)) = false := by simp; omega
    have d3' : ((P.length : Int) != (L : Int)) = true := by rw [bne, d3]; rfl
    clear hq c3
    go_enter Tryd.func31, Tryd.ntmps31
    go_wp2
    refine wp_region_held_drew (S := (fun W : World => W.cell? ⟨w.heap.size, 0, none⟩ = some (.int .i64 (n : Int)) ∧ W.cell? ⟨w.heap.size, 1, none⟩ = some (.slice a P.length cap))) (by kernel_rfl) (mtC (w := w.alloc _) Hx.out) (fun hHeld => ?_)
    refine take_at 0 3 (oi := ?o49) (v := ?v49) ?hi49 ?hd49 (by kernel_rfl) (by kernel_rfl) (by kernel_rfl) ?hQ49 ?hw49 ?hy49 (by assumption) ?rest49
    case hi49 => simp only [List.getElem?_toArray, List.getElem?_cons_zero]; rfl
    case hd49 => rfl
    case hw49 => kernel_rfl
    case hy49 => intro W hW; (try dsimp only at hW); go_simp <;> with_reducible rfl
    case hQ49 => exact fun _ _ _ h => h
    try simp only [Act.put, List.setIfInBounds_toArray, List.set_cons_zero, List.set_cons_succ]
    refine take_at 1 4 (oi := ?o50) (v := ?v50) ?hi50 ?hd50 (by kernel_rfl) (by kernel_rfl) (by kernel_rfl) ?hQ50 ?hw50 ?hy50 (by assumption) ?rest50
    case hi50 => simp only [List.getElem?_toArray, List.getElem?_cons_succ, List.getElem?_cons_zero]; rfl
    case hd50 => rfl
    case hw50 => kernel_rfl
    case hy50 => intro W hW; (try dsimp only at hW); go_simp <;> with_reducible rfl
    case hQ50 => exact fun _ _ _ h => h
    try simp only [Act.put, List.setIfInBounds_toArray, List.set_cons_zero, List.set_cons_succ]
    refine take_at 2 5 (oi := ?o51) (v := ?v51) ?hi51 ?hd51 (by kernel_rfl) (by kernel_rfl) (by kernel_rfl) ?hQ51 ?hw51 ?hy51 (by assumption) ?rest51
    case hi51 => simp only [List.getElem?_toArray, List.getElem?_cons_succ, List.getElem?_cons_zero]; rfl
    case hd51 => rfl
    case hw51 => kernel_rfl
    case hy51 => intro W hW; (try dsimp only at hW); go_simp <;> with_reducible rfl
    case hQ51 => exact fun _ _ _ h => h
    try simp only [Act.put, List.setIfInBounds_toArray, List.set_cons_zero, List.set_cons_succ]
    refine take_at 3 6 (oi := ?o52) (v := ?v52) ?hi52 ?hd52 (by kernel_rfl) (by kernel_rfl) (by kernel_rfl) ?hQ52 ?hw52 ?hy52 (by assumption) ?rest52
    case hi52 => simp only [List.getElem?_toArray, List.getElem?_cons_succ, List.getElem?_cons_zero]; rfl
    case hd52 => rfl
    case hw52 => kernel_rfl
    case hy52 => intro W hW; (try dsimp only at hW); go_simp <;> with_reducible rfl
    case hQ52 => exact fun _ _ _ h => h
    try simp only [Act.put, List.setIfInBounds_toArray, List.set_cons_zero, List.set_cons_succ]
    refine take_at 4 7 (oi := ?o53) (v := ?v53) ?hi53 ?hd53 (by kernel_rfl) (by kernel_rfl) (by kernel_rfl) ?hQ53 ?hw53 ?hy53 (by assumption) ?rest53
    case hi53 => simp only [List.getElem?_toArray, List.getElem?_cons_succ, List.getElem?_cons_zero]; rfl
    case hd53 => rfl
    case hw53 => kernel_rfl
    case hy53 => intro W hW; (try dsimp only at hW); go_simp <;> with_reducible rfl
    case hQ53 => exact fun _ _ _ h => h
    try simp only [Act.put, List.setIfInBounds_toArray, List.set_cons_zero, List.set_cons_succ]
    refine take_at 5 8 (oi := ?o54) (v := ?v54) ?hi54 ?hd54 (by kernel_rfl) (by kernel_rfl) (by kernel_rfl) ?hQ54 ?hw54 ?hy54 (by assumption) ?rest54
    case hi54 => simp only [List.getElem?_toArray, List.getElem?_cons_succ, List.getElem?_cons_zero]; rfl
    case hd54 => rfl
    case hw54 => kernel_rfl
    case hy54 => intro W hW; (try dsimp only at hW); go_simp <;> with_reducible rfl
    case hQ54 => exact fun _ _ _ h => h
    try simp only [Act.put, List.setIfInBounds_toArray, List.set_cons_zero, List.set_cons_succ]
    refine take_at 6 9 (oi := ?o55) (v := ?v55) ?hi55 ?hd55 (by kernel_rfl) (by kernel_rfl) (by kernel_rfl) ?hQ55 ?hw55 ?hy55 (by assumption) ?rest55
    case hi55 => simp only [List.getElem?_toArray, List.getElem?_cons_succ, List.getElem?_cons_zero]; rfl
    case hd55 => rfl
    case hw55 => kernel_rfl
    case hy55 => intro W hW; (try dsimp only at hW); go_simp <;> with_reducible rfl
    case hQ55 => exact fun _ _ _ h => h
    try simp only [Act.put, List.setIfInBounds_toArray, List.set_cons_zero, List.set_cons_succ]
    refine take_at 7 10 (oi := ?o56) (v := ?v56) ?hi56 ?hd56 (by kernel_rfl) (by kernel_rfl) (by kernel_rfl) ?hQ56 ?hw56 ?hy56 (by assumption) ?rest56
    case hi56 => simp only [List.getElem?_toArray, List.getElem?_cons_succ, List.getElem?_cons_zero]; rfl
    case hd56 => rfl
    case hw56 => kernel_rfl
    case hy56 => intro W hW; (try dsimp only at hW); go_simp <;> with_reducible rfl
    case hQ56 => exact fun _ _ _ h => h
    try simp only [Act.put, List.setIfInBounds_toArray, List.set_cons_zero, List.set_cons_succ]
    refine take_at 8 11 (oi := ?o57) (v := ?v57) ?hi57 ?hd57 (by kernel_rfl) (by kernel_rfl) (by kernel_rfl) ?hQ57 ?hw57 ?hy57 (by assumption) ?rest57
    case hi57 => simp only [List.getElem?_toArray, List.getElem?_cons_succ, List.getElem?_cons_zero]; rfl
    case hd57 => rfl
    case hw57 => kernel_rfl
    case hy57 => intro W hW; (try dsimp only at hW); go_simp <;> with_reducible rfl
    case hQ57 => exact fun _ _ _ h => h
    try simp only [Act.put, List.setIfInBounds_toArray, List.set_cons_zero, List.set_cons_succ]
    refine take_at 9 12 (oi := ?o58) (v := ?v58) ?hi58 ?hd58 (by kernel_rfl) (by kernel_rfl) (by kernel_rfl) ?hQ58 ?hw58 ?hy58 (by assumption) ?rest58
    case hi58 => simp only [List.getElem?_toArray, List.getElem?_cons_succ, List.getElem?_cons_zero]; rfl
    case hd58 => rfl
    case hw58 => kernel_rfl
    case hy58 => intro W hW; (try dsimp only at hW); go_simp <;> with_reducible rfl
    case hQ58 => exact fun _ _ _ h => h
    try simp only [Act.put, List.setIfInBounds_toArray, List.set_cons_zero, List.set_cons_succ]
    refine take_at 10 13 (oi := ?o59) (v := ?v59) ?hi59 ?hd59 (by kernel_rfl) (by kernel_rfl) (by kernel_rfl) ?hQ59 ?hw59 ?hy59 (by assumption) ?rest59
    case hi59 => simp only [List.getElem?_toArray, List.getElem?_cons_succ, List.getElem?_cons_zero]; rfl
    case hd59 => rfl
    case hw59 => kernel_rfl
    case hy59 => intro W hW; (try dsimp only at hW); go_simp <;> with_reducible rfl
    case hQ59 => exact fun _ _ _ h => h
    try simp only [Act.put, List.setIfInBounds_toArray, List.set_cons_zero, List.set_cons_succ]
    refine take_at 11 14 (oi := ?o60) (v := ?v60) ?hi60 ?hd60 (by kernel_rfl) (by kernel_rfl) (by kernel_rfl) ?hQ60 ?hw60 ?hy60 (by assumption) ?rest60
    case hi60 => simp only [List.getElem?_toArray, List.getElem?_cons_succ, List.getElem?_cons_zero]; rfl
    case hd60 => rfl
    case hw60 => kernel_rfl
    case hy60 => intro W hW; (try dsimp only at hW); go_simp <;> with_reducible rfl
    case hQ60 => exact fun _ _ _ h => h
    try simp only [Act.put, List.setIfInBounds_toArray, List.set_cons_zero, List.set_cons_succ]
    refine take_at 12 15 (oi := ?o61) (v := ?v61) ?hi61 ?hd61 (by kernel_rfl) (by kernel_rfl) (by kernel_rfl) ?hQ61 ?hw61 ?hy61 (by assumption) ?rest61
    case hi61 => simp only [List.getElem?_toArray, List.getElem?_cons_succ, List.getElem?_cons_zero]; rfl
    case hd61 => rfl
    case hw61 => kernel_rfl
    case hy61 => intro W hW; (try dsimp only at hW); go_simp <;> with_reducible rfl
    case hQ61 => exact fun _ _ _ h => h
    try simp only [Act.put, List.setIfInBounds_toArray, List.set_cons_zero, List.set_cons_succ]
    refine take_at 13 16 (oi := ?o62) (v := ?v62) ?hi62 ?hd62 (by kernel_rfl) (by kernel_rfl) (by kernel_rfl) ?hQ62 ?hw62 ?hy62 (by assumption) ?rest62
    case hi62 => simp only [List.getElem?_toArray, List.getElem?_cons_succ, List.getElem?_cons_zero]; rfl
    case hd62 => rfl
    case hw62 => kernel_rfl
    case hy62 => intro W hW; (try dsimp only at hW); go_simp <;> with_reducible rfl
    case hQ62 => exact fun _ _ _ h => h
    try simp only [Act.put, List.setIfInBounds_toArray, List.set_cons_zero, List.set_cons_succ]
    refine wpAnyH_ready (rs := [14]) (by kernel_rfl) (by simp) ?_
    refine AllReadyH.cons rfl (fun K hK => ?_) AllReadyH.nil
    go_simp
    refine (HO.out _).mono ?_
    rintro e w2 ⟨v2, rfl, ho, hb⟩
    obtain ⟨a2, p2, rfl⟩ := own_form ho
    have hx2 : w2.heap[w.heap.size]? = some (.cells #[.int .i64 (n : Int), .slice a P.length cap] 31) := (hb.block _ (by simp)).trans Hx.out
    have HB2 := Lib.hid (HB1.out.next hb)
    have Hx2 := Lib.hid hx2
    clear ho hb hx2 hHeld
    go_wp2_with fail
    refine hK.out _ _ (mtC (w := w2) Hx2.out) (fun hHeld => ?_)
    clear hK K
    try simp only [Act.put, List.setIfInBounds_toArray, List.set_cons_zero, List.set_cons_succ]
    refine take_at 15 18 (oi := ?o63) (v := ?v63) ?hi63 ?hd63 (by kernel_rfl) (by kernel_rfl) (by kernel_rfl) ?hQ63 ?hw63 ?hy63 (by assumption) ?rest63
    case hi63 => simp only [List.getElem?_toArray, List.getElem?_cons_succ, List.getElem?_cons_zero]; rfl
    case hd63 => rfl
    case hw63 => kernel_rfl
    case hy63 => intro W hW; (try dsimp only at hW); go_simp <;> with_reducible rfl
    case hQ63 => exact fun _ _ _ h => h
    try simp only [Act.put, List.setIfInBounds_toArray, List.set_cons_zero, List.set_cons_succ]
    refine take_at 16 19 (oi := ?o64) (v := ?v64) ?hi64 ?hd64 (by kernel_rfl) (by kernel_rfl) (by kernel_rfl) ?hQ64 ?hw64 ?hy64 (by assumption) ?rest64
    case hi64 => simp only [List.getElem?_toArray, List.getElem?_cons_succ, List.getElem?_cons_zero]; rfl
    case hd64 => rfl
    case hw64 => kernel_rfl
    case hy64 => intro W hW; (try dsimp only at hW); go_simp <;> with_reducible rfl
    case hQ64 => exact fun _ _ _ h => h
    try simp only [Act.put, List.setIfInBounds_toArray, List.set_cons_zero, List.set_cons_succ]
    refine take_at 17 20 (oi := ?o65) (v := ?v65) ?hi65 ?hd65 (by kernel_rfl) (by kernel_rfl) (by kernel_rfl) ?hQ65 ?hw65 ?hy65 (by assumption) ?rest65
    case hi65 => simp only [List.getElem?_toArray, List.getElem?_cons_succ, List.getElem?_cons_zero]; rfl
    case hd65 => rfl
    case hw65 => kernel_rfl
    case hy65 => intro W hW; (try dsimp only at hW); go_simp <;> with_reducible rfl
    case hQ65 => exact fun _ _ _ h => h
    try simp only [Act.put, List.setIfInBounds_toArray, List.set_cons_zero, List.set_cons_succ]
    refine take_at 18 21 (oi := ?o66) (v := ?v66) ?hi66 ?hd66 (by kernel_rfl) (by kernel_rfl) (by kernel_rfl) ?hQ66 ?hw66 ?hy66 (by assumption) ?rest66
    case hi66 => simp only [List.getElem?_toArray, List.getElem?_cons_succ, List.getElem?_cons_zero]; rfl
    case hd66 => rfl
    case hw66 => kernel_rfl
    case hy66 => intro W hW; (try dsimp only at hW); go_simp <;> with_reducible rfl
    case hQ66 => exact fun _ _ _ h => h
    try simp only [Act.put, List.setIfInBounds_toArray, List.set_cons_zero, List.set_cons_succ]
    refine pass_at 19 22 (oi := ?o67) ?hi67 ?hd67 (by kernel_rfl) (by kernel_rfl) (by kernel_rfl) ?hQ67 ?hw67 (by assumption) ?rest67
    case hi67 => simp only [List.getElem?_toArray, List.getElem?_cons_succ, List.getElem?_cons_zero]; rfl
    case hd67 => rfl
    case hQ67 => exact fun _ _ _ h => h
    case hw67 => kernel_rfl
    try simp only [Act.put, List.setIfInBounds_toArray, List.set_cons_zero, List.set_cons_succ]
    refine pass_at 20 23 (oi := ?o68) ?hi68 ?hd68 (by kernel_rfl) (by kernel_rfl) (by kernel_rfl) ?hQ68 ?hw68 (by assumption) ?rest68
    case hi68 => simp only [List.getElem?_toArray, List.getElem?_cons_succ, List.getElem?_cons_zero]; rfl
    case hd68 => rfl
    case hQ68 => exact fun _ _ _ h => h
    case hw68 => kernel_rfl
    try simp only [Act.put, List.setIfInBounds_toArray, List.set_cons_zero, List.set_cons_succ]
    refine pass_at 21 24 (oi := ?o69) ?hi69 ?hd69 (by kernel_rfl) (by kernel_rfl) (by kernel_rfl) ?hQ69 ?hw69 (by assumption) ?rest69
    case hi69 => simp only [List.getElem?_toArray, List.getElem?_cons_succ, List.getElem?_cons_zero]; rfl
    case hd69 => rfl
    case hQ69 => exact fun _ _ _ h => h
    case hw69 => kernel_rfl
    try simp only [Act.put, List.setIfInBounds_toArray, List.set_cons_zero, List.set_cons_succ]
    refine pass_at 22 25 (oi := ?o70) ?hi70 ?hd70 (by kernel_rfl) (by kernel_rfl) (by kernel_rfl) ?hQ70 ?hw70 (by assumption) ?rest70
    case hi70 => simp only [List.getElem?_toArray, List.getElem?_cons_succ, List.getElem?_cons_zero]; rfl
    case hd70 => rfl
    case hQ70 => exact fun _ _ _ h => h
    case hw70 => kernel_rfl
    try simp only [Act.put, List.setIfInBounds_toArray, List.set_cons_zero, List.set_cons_succ]
    refine take_at 23 26 (oi := ?o71) (v := ?v71) ?hi71 ?hd71 (by kernel_rfl) (by kernel_rfl) (by kernel_rfl) ?hQ71 ?hw71 ?hy71 (by assumption) ?rest71
    case hi71 => simp only [List.getElem?_toArray, List.getElem?_cons_succ, List.getElem?_cons_zero]; rfl
    case hd71 => rfl
    case hw71 => kernel_rfl
    case hy71 => intro W hW; (try dsimp only at hW); go_simp <;> with_reducible rfl
    case hQ71 => exact fun _ _ _ h => h
    try simp only [Act.put, List.setIfInBounds_toArray, List.set_cons_zero, List.set_cons_succ]
    refine wpAnyH_done (by kernel_rfl) ?_ _
    simp only [Exit.then]
    go_wp2
    go_ret
    exact ⟨rfl, HB2.out⟩
  subst c3
  cases hA : all32 P with
  | true =>
    rw [hA] at HW
    have hq : validM (n : Int) P = 0 := by unfold validM; rw [if_pos]; exact okM_iff.2 ⟨by omega, by rw [Int.toNat_natCast, HL.out], hA⟩
    rw [hq]
    clear hq hA
    go_enter Tryd.func31, Tryd.ntmps31
    go_wp2
    refine wp_region_held_drew (S := (fun W : World => W.cell? ⟨w.heap.size, 0, none⟩ = some (.int .i64 (n : Int)) ∧ W.cell? ⟨w.heap.size, 1, none⟩ = some (.slice a P.length cap))) (by kernel_rfl) (mtC (w := w.alloc _) Hx.out) (fun hHeld => ?_)
    refine take_at 0 3 (oi := ?o72) (v := ?v72) ?hi72 ?hd72 (by kernel_rfl) (by kernel_rfl) (by kernel_rfl) ?hQ72 ?hw72 ?hy72 (by assumption) ?rest72
    case hi72 => simp only [List.getElem?_toArray, List.getElem?_cons_zero]; rfl
    case hd72 => rfl
    case hw72 => kernel_rfl
    case hy72 => intro W hW; (try dsimp only at hW); go_simp <;> with_reducible rfl
    case hQ72 => exact fun _ _ _ h => h
    try simp only [Act.put, List.setIfInBounds_toArray, List.set_cons_zero, List.set_cons_succ]
    refine take_at 1 4 (oi := ?o73) (v := ?v73) ?hi73 ?hd73 (by kernel_rfl) (by kernel_rfl) (by kernel_rfl) ?hQ73 ?hw73 ?hy73 (by assumption) ?rest73
    case hi73 => simp only [List.getElem?_toArray, List.getElem?_cons_succ, List.getElem?_cons_zero]; rfl
    case hd73 => rfl
    case hw73 => kernel_rfl
    case hy73 => intro W hW; (try dsimp only at hW); go_simp <;> with_reducible rfl
    case hQ73 => exact fun _ _ _ h => h
    try simp only [Act.put, List.setIfInBounds_toArray, List.set_cons_zero, List.set_cons_succ]
    refine take_at 2 5 (oi := ?o74) (v := ?v74) ?hi74 ?hd74 (by kernel_rfl) (by kernel_rfl) (by kernel_rfl) ?hQ74 ?hw74 ?hy74 (by assumption) ?rest74
    case hi74 => simp only [List.getElem?_toArray, List.getElem?_cons_succ, List.getElem?_cons_zero]; rfl
    case hd74 => rfl
    case hw74 => kernel_rfl
    case hy74 => intro W hW; (try dsimp only at hW); go_simp <;> with_reducible rfl
    case hQ74 => exact fun _ _ _ h => h
    try simp only [Act.put, List.setIfInBounds_toArray, List.set_cons_zero, List.set_cons_succ]
    refine take_at 3 6 (oi := ?o75) (v := ?v75) ?hi75 ?hd75 (by kernel_rfl) (by kernel_rfl) (by kernel_rfl) ?hQ75 ?hw75 ?hy75 (by assumption) ?rest75
    case hi75 => simp only [List.getElem?_toArray, List.getElem?_cons_succ, List.getElem?_cons_zero]; rfl
    case hd75 => rfl
    case hw75 => kernel_rfl
    case hy75 => intro W hW; (try dsimp only at hW); go_simp <;> with_reducible rfl
    case hQ75 => exact fun _ _ _ h => h
    try simp only [Act.put, List.setIfInBounds_toArray, List.set_cons_zero, List.set_cons_succ]
    refine take_at 4 7 (oi := ?o76) (v := ?v76) ?hi76 ?hd76 (by kernel_rfl) (by kernel_rfl) (by kernel_rfl) ?hQ76 ?hw76 ?hy76 (by assumption) ?rest76
    case hi76 => simp only [List.getElem?_toArray, List.getElem?_cons_succ, List.getElem?_cons_zero]; rfl
    case hd76 => rfl
    case hw76 => kernel_rfl
    case hy76 => intro W hW; (try dsimp only at hW); go_simp <;> with_reducible rfl
    case hQ76 => exact fun _ _ _ h => h
    try simp only [Act.put, List.setIfInBounds_toArray, List.set_cons_zero, List.set_cons_succ]
    refine take_at 5 8 (oi := ?o77) (v := ?v77) ?hi77 ?hd77 (by kernel_rfl) (by kernel_rfl) (by kernel_rfl) ?hQ77 ?hw77 ?hy77 (by assumption) ?rest77
    case hi77 => simp only [List.getElem?_toArray, List.getElem?_cons_succ, List.getElem?_cons_zero]; rfl
    case hd77 => rfl
    case hw77 => kernel_rfl
    case hy77 => intro W hW; (try dsimp only at hW); go_simp <;> with_reducible rfl
    case hQ77 => exact fun _ _ _ h => h
    try simp only [Act.put, List.setIfInBounds_toArray, List.set_cons_zero, List.set_cons_succ]
    refine take_at 6 9 (oi := ?o78) (v := ?v78) ?hi78 ?hd78 (by kernel_rfl) (by kernel_rfl) (by kernel_rfl) ?hQ78 ?hw78 ?hy78 (by assumption) ?rest78
    case hi78 => simp only [List.getElem?_toArray, List.getElem?_cons_succ, List.getElem?_cons_zero]; rfl
    case hd78 => rfl
    case hw78 => kernel_rfl
    case hy78 => intro W hW; (try dsimp only at hW); go_simp <;> with_reducible rfl
    case hQ78 => exact fun _ _ _ h => h
    try simp only [Act.put, List.setIfInBounds_toArray, List.set_cons_zero, List.set_cons_succ]
    refine take_at 7 10 (oi := ?o79) (v := ?v79) ?hi79 ?hd79 (by kernel_rfl) (by kernel_rfl) (by kernel_rfl) ?hQ79 ?hw79 ?hy79 (by assumption) ?rest79
    case hi79 => simp only [List.getElem?_toArray, List.getElem?_cons_succ, List.getElem?_cons_zero]; rfl
    case hd79 => rfl
    case hw79 => kernel_rfl
    case hy79 => intro W hW; (try dsimp only at hW); go_simp <;> with_reducible rfl
    case hQ79 => exact fun _ _ _ h => h
    try simp only [Act.put, List.setIfInBounds_toArray, List.set_cons_zero, List.set_cons_succ]
    refine take_at 8 11 (oi := ?o80) (v := ?v80) ?hi80 ?hd80 (by kernel_rfl) (by kernel_rfl) (by kernel_rfl) ?hQ80 ?hw80 ?hy80 (by assumption) ?rest80
    case hi80 => simp only [List.getElem?_toArray, List.getElem?_cons_succ, List.getElem?_cons_zero]; rfl
    case hd80 => rfl
    case hw80 => kernel_rfl
    case hy80 => intro W hW; (try dsimp only at hW); go_simp <;> with_reducible rfl
    case hQ80 => exact fun _ _ _ h => h
    try simp only [Act.put, List.setIfInBounds_toArray, List.set_cons_zero, List.set_cons_succ]
    refine take_at 9 12 (oi := ?o81) (v := ?v81) ?hi81 ?hd81 (by kernel_rfl) (by kernel_rfl) (by kernel_rfl) ?hQ81 ?hw81 ?hy81 (by assumption) ?rest81
    case hi81 => simp only [List.getElem?_toArray, List.getElem?_cons_succ, List.getElem?_cons_zero]; rfl
    case hd81 => rfl
    case hw81 => kernel_rfl
    case hy81 => intro W hW; (try dsimp only at hW); go_simp <;> with_reducible rfl
    case hQ81 => exact fun _ _ _ h => h
    try simp only [Act.put, List.setIfInBounds_toArray, List.set_cons_zero, List.set_cons_succ]
    refine take_at 10 13 (oi := ?o82) (v := ?v82) ?hi82 ?hd82 (by kernel_rfl) (by kernel_rfl) (by kernel_rfl) ?hQ82 ?hw82 ?hy82 (by assumption) ?rest82
    case hi82 => simp only [List.getElem?_toArray, List.getElem?_cons_succ, List.getElem?_cons_zero]; rfl
    case hd82 => rfl
    case hw82 => kernel_rfl
    case hy82 => intro W hW; (try dsimp only at hW); go_simp <;> with_reducible rfl
    case hQ82 => exact fun _ _ _ h => h
    try simp only [Act.put, List.setIfInBounds_toArray, List.set_cons_zero, List.set_cons_succ]
    refine take_at 11 14 (oi := ?o83) (v := ?v83) ?hi83 ?hd83 (by kernel_rfl) (by kernel_rfl) (by kernel_rfl) ?hQ83 ?hw83 ?hy83 (by assumption) ?rest83
    case hi83 => simp only [List.getElem?_toArray, List.getElem?_cons_succ, List.getElem?_cons_zero]; rfl
    case hd83 => rfl
    case hw83 => kernel_rfl
    case hy83 => intro W hW; (try dsimp only at hW); go_simp <;> with_reducible rfl
    case hQ83 => exact fun _ _ _ h => h
    try simp only [Act.put, List.setIfInBounds_toArray, List.set_cons_zero, List.set_cons_succ]
    refine take_at 12 15 (oi := ?o84) (v := ?v84) ?hi84 ?hd84 (by kernel_rfl) (by kernel_rfl) (by kernel_rfl) ?hQ84 ?hw84 ?hy84 (by assumption) ?rest84
    case hi84 => simp only [List.getElem?_toArray, List.getElem?_cons_succ, List.getElem?_cons_zero]; rfl
    case hd84 => rfl
    case hw84 => kernel_rfl
    case hy84 => intro W hW; (try dsimp only at hW); go_simp <;> with_reducible rfl
    case hQ84 => exact fun _ _ _ h => h
    try simp only [Act.put, List.setIfInBounds_toArray, List.set_cons_zero, List.set_cons_succ]
    refine take_at 13 16 (oi := ?o85) (v := ?v85) ?hi85 ?hd85 (by kernel_rfl) (by kernel_rfl) (by kernel_rfl) ?hQ85 ?hw85 ?hy85 (by assumption) ?rest85
    case hi85 => simp only [List.getElem?_toArray, List.getElem?_cons_succ, List.getElem?_cons_zero]; rfl
    case hd85 => rfl
    case hw85 => kernel_rfl
    case hy85 => intro W hW; (try dsimp only at hW); go_simp <;> with_reducible rfl
    case hQ85 => exact fun _ _ _ h => h
    try simp only [Act.put, List.setIfInBounds_toArray, List.set_cons_zero, List.set_cons_succ]
    refine wpAnyH_ready (rs := [14]) (by kernel_rfl) (by simp) ?_
    refine AllReadyH.cons rfl (fun K hK => ?_) AllReadyH.nil
    go_simp
    refine (HO.out _).mono ?_
    rintro e w2 ⟨v2, rfl, ho, hb⟩
    obtain ⟨a2, p2, rfl⟩ := own_form ho
    have hx2 : w2.heap[w.heap.size]? = some (.cells #[.int .i64 (n : Int), .slice a P.length cap] 31) := (hb.block _ (by simp)).trans Hx.out
    have HB2 := Lib.hid (HB1.out.next hb)
    have Hx2 := Lib.hid hx2
    clear ho hb hx2 hHeld
    go_wp2_with fail
    refine hK.out _ _ (mtC (w := w2) Hx2.out) (fun hHeld => ?_)
    clear hK K
    try simp only [Act.put, List.setIfInBounds_toArray, List.set_cons_zero, List.set_cons_succ]
    refine take_at 15 18 (oi := ?o86) (v := ?v86) ?hi86 ?hd86 (by kernel_rfl) (by kernel_rfl) (by kernel_rfl) ?hQ86 ?hw86 ?hy86 (by assumption) ?rest86
    case hi86 => simp only [List.getElem?_toArray, List.getElem?_cons_succ, List.getElem?_cons_zero]; rfl
    case hd86 => rfl
    case hw86 => kernel_rfl
    case hy86 => intro W hW; (try dsimp only at hW); go_simp <;> with_reducible rfl
    case hQ86 => exact fun _ _ _ h => h
    try simp only [Act.put, List.setIfInBounds_toArray, List.set_cons_zero, List.set_cons_succ]
    refine take_at 16 19 (oi := ?o87) (v := ?v87) ?hi87 ?hd87 (by kernel_rfl) (by kernel_rfl) (by kernel_rfl) ?hQ87 ?hw87 ?hy87 (by assumption) ?rest87
    case hi87 => simp only [List.getElem?_toArray, List.getElem?_cons_succ, List.getElem?_cons_zero]; rfl
    case hd87 => rfl
    case hw87 => kernel_rfl
    case hy87 => intro W hW; (try dsimp only at hW); go_simp <;> with_reducible rfl
    case hQ87 => exact fun _ _ _ h => h
    try simp only [Act.put, List.setIfInBounds_toArray, List.set_cons_zero, List.set_cons_succ]
    refine take_at 17 20 (oi := ?o88) (v := ?v88) ?hi88 ?hd88 (by kernel_rfl) (by kernel_rfl) (by kernel_rfl) ?hQ88 ?hw88 ?hy88 (by assumption) ?rest88
    case hi88 => simp only [List.getElem?_toArray, List.getElem?_cons_succ, List.getElem?_cons_zero]; rfl
    case hd88 => rfl
    case hw88 => kernel_rfl
    case hy88 => intro W hW; (try dsimp only at hW); go_simp <;> with_reducible rfl
    case hQ88 => exact fun _ _ _ h => h
    try simp only [Act.put, List.setIfInBounds_toArray, List.set_cons_zero, List.set_cons_succ]
    refine take_at 18 21 (oi := ?o89) (v := ?v89) ?hi89 ?hd89 (by kernel_rfl) (by kernel_rfl) (by kernel_rfl) ?hQ89 ?hw89 ?hy89 (by assumption) ?rest89
    case hi89 => simp only [List.getElem?_toArray, List.getElem?_cons_succ, List.getElem?_cons_zero]; rfl
    case hd89 => rfl
    case hw89 => kernel_rfl
    case hy89 => intro W hW; (try dsimp only at hW); go_simp <;> with_reducible rfl
    case hQ89 => exact fun _ _ _ h => h
    try simp only [Act.put, List.setIfInBounds_toArray, List.set_cons_zero, List.set_cons_succ]
    refine take_at 19 22 (oi := ?o90) (v := ?v90) ?hi90 ?hd90 (by kernel_rfl) (by kernel_rfl) (by kernel_rfl) ?hQ90 ?hw90 ?hy90 (by assumption) ?rest90
    case hi90 => simp only [List.getElem?_toArray, List.getElem?_cons_succ, List.getElem?_cons_zero]; rfl
    case hd90 => rfl
    case hw90 => kernel_rfl
    case hy90 => intro W hW; (try dsimp only at hW); go_simp <;> with_reducible rfl
    case hQ90 => exact fun _ _ _ h => h
    try simp only [Act.put, List.setIfInBounds_toArray, List.set_cons_zero, List.set_cons_succ]
    refine take_at 20 23 (oi := ?o91) (v := ?v91) ?hi91 ?hd91 (by kernel_rfl) (by kernel_rfl) (by kernel_rfl) ?hQ91 ?hw91 ?hy91 (by assumption) ?rest91
    case hi91 => simp only [List.getElem?_toArray, List.getElem?_cons_succ, List.getElem?_cons_zero]; rfl
    case hd91 => rfl
    case hw91 => kernel_rfl
    case hy91 => intro W hW; (try dsimp only at hW); go_simp <;> with_reducible rfl
    case hQ91 => exact fun _ _ _ h => h
    try simp only [Act.put, List.setIfInBounds_toArray, List.set_cons_zero, List.set_cons_succ]
    refine wpAnyH_ready (rs := [21]) (by kernel_rfl) (by simp) ?_
    refine AllReadyH.cons rfl (fun K hK => ?_) AllReadyH.nil
    go_simp
    refine (HW.out _ HB2.out).mono ?_
    rintro e w3 ⟨rfl, rfl⟩
    clear hHeld
    go_wp2_with fail
    refine hK.out _ _ (mtC Hx2.out) (fun hHeld => ?_)
    clear hK K
    try simp only [Act.put, List.setIfInBounds_toArray, List.set_cons_zero, List.set_cons_succ]
    refine take_at 22 25 (oi := ?o92) (v := ?v92) ?hi92 ?hd92 (by kernel_rfl) (by kernel_rfl) (by kernel_rfl) ?hQ92 ?hw92 ?hy92 (by assumption) ?rest92
    case hi92 => simp only [List.getElem?_toArray, List.getElem?_cons_succ, List.getElem?_cons_zero]; rfl
    case hd92 => rfl
    case hw92 => kernel_rfl
    case hy92 => intro W hW; (try dsimp only at hW); go_simp <;> with_reducible rfl
    case hQ92 => exact fun _ _ _ h => h
    try simp only [Act.put, List.setIfInBounds_toArray, List.set_cons_zero, List.set_cons_succ]
    refine take_at 23 26 (oi := ?o93) (v := ?v93) ?hi93 ?hd93 (by kernel_rfl) (by kernel_rfl) (by kernel_rfl) ?hQ93 ?hw93 ?hy93 (by assumption) ?rest93
    case hi93 => simp only [List.getElem?_toArray, List.getElem?_cons_succ, List.getElem?_cons_zero]; rfl
    case hd93 => rfl
    case hw93 => kernel_rfl
    case hy93 => intro W hW; (try dsimp only at hW); go_simp <;> with_reducible rfl
    case hQ93 => exact fun _ _ _ h => h
    try simp only [Act.put, List.setIfInBounds_toArray, List.set_cons_zero, List.set_cons_succ]
    refine wpAnyH_done (by kernel_rfl) ?_ _
    simp only [Exit.then]
    go_wp2
    go_ret
    exact ⟨rfl, HB2.out⟩
  | false =>
    rw [hA] at HW
    have hq : validM (n : Int) P = 1 := by unfold validM; rw [if_neg]; intro h; have := okM_iff.1 h; rw [hA] at this; exact Bool.noConfusion this.2.2
    rw [hq]
    clear hq hA
    go_enter Tryd.func31, Tryd.ntmps31
    go_wp2
    refine wp_region_held_drew (S := (fun W : World => W.cell? ⟨w.heap.size, 0, none⟩ = some (.int .i64 (n : Int)) ∧ W.cell? ⟨w.heap.size, 1, none⟩ = some (.slice a P.length cap))) (by kernel_rfl) (mtC (w := w.alloc _) Hx.out) (fun hHeld => ?_)
    refine take_at 0 3 (oi := ?o94) (v := ?v94) ?hi94 ?hd94 (by kernel_rfl) (by kernel_rfl) (by kernel_rfl) ?hQ94 ?hw94 ?hy94 (by assumption) ?rest94
    case hi94 => simp only [List.getElem?_toArray, List.getElem?_cons_zero]; rfl
    case hd94 => rfl
    case hw94 => kernel_rfl
    case hy94 => intro W hW; (try dsimp only at hW); go_simp <;> with_reducible rfl
    case hQ94 => exact fun _ _ _ h => h
    try simp only [Act.put, List.setIfInBounds_toArray, List.set_cons_zero, List.set_cons_succ]
    refine take_at 1 4 (oi := ?o95) (v := ?v95) ?hi95 ?hd95 (by kernel_rfl) (by kernel_rfl) (by kernel_rfl) ?hQ95 ?hw95 ?hy95 (by assumption) ?rest95
    case hi95 => simp only [List.getElem?_toArray, List.getElem?_cons_succ, List.getElem?_cons_zero]; rfl
    case hd95 => rfl
    case hw95 => kernel_rfl
    case hy95 => intro W hW; (try dsimp only at hW); go_simp <;> with_reducible rfl
    case hQ95 => exact fun _ _ _ h => h
    try simp only [Act.put, List.setIfInBounds_toArray, List.set_cons_zero, List.set_cons_succ]
    refine take_at 2 5 (oi := ?o96) (v := ?v96) ?hi96 ?hd96 (by kernel_rfl) (by kernel_rfl) (by kernel_rfl) ?hQ96 ?hw96 ?hy96 (by assumption) ?rest96
    case hi96 => simp only [List.getElem?_toArray, List.getElem?_cons_succ, List.getElem?_cons_zero]; rfl
    case hd96 => rfl
    case hw96 => kernel_rfl
    case hy96 => intro W hW; (try dsimp only at hW); go_simp <;> with_reducible rfl
    case hQ96 => exact fun _ _ _ h => h
    try simp only [Act.put, List.setIfInBounds_toArray, List.set_cons_zero, List.set_cons_succ]
    refine take_at 3 6 (oi := ?o97) (v := ?v97) ?hi97 ?hd97 (by kernel_rfl) (by kernel_rfl) (by kernel_rfl) ?hQ97 ?hw97 ?hy97 (by assumption) ?rest97
    case hi97 => simp only [List.getElem?_toArray, List.getElem?_cons_succ, List.getElem?_cons_zero]; rfl
    case hd97 => rfl
    case hw97 => kernel_rfl
    case hy97 => intro W hW; (try dsimp only at hW); go_simp <;> with_reducible rfl
    case hQ97 => exact fun _ _ _ h => h
    try simp only [Act.put, List.setIfInBounds_toArray, List.set_cons_zero, List.set_cons_succ]
    refine take_at 4 7 (oi := ?o98) (v := ?v98) ?hi98 ?hd98 (by kernel_rfl) (by kernel_rfl) (by kernel_rfl) ?hQ98 ?hw98 ?hy98 (by assumption) ?rest98
    case hi98 => simp only [List.getElem?_toArray, List.getElem?_cons_succ, List.getElem?_cons_zero]; rfl
    case hd98 => rfl
    case hw98 => kernel_rfl
    case hy98 => intro W hW; (try dsimp only at hW); go_simp <;> with_reducible rfl
    case hQ98 => exact fun _ _ _ h => h
    try simp only [Act.put, List.setIfInBounds_toArray, List.set_cons_zero, List.set_cons_succ]
    refine take_at 5 8 (oi := ?o99) (v := ?v99) ?hi99 ?hd99 (by kernel_rfl) (by kernel_rfl) (by kernel_rfl) ?hQ99 ?hw99 ?hy99 (by assumption) ?rest99
    case hi99 => simp only [List.getElem?_toArray, List.getElem?_cons_succ, List.getElem?_cons_zero]; rfl
    case hd99 => rfl
    case hw99 => kernel_rfl
    case hy99 => intro W hW; (try dsimp only at hW); go_simp <;> with_reducible rfl
    case hQ99 => exact fun _ _ _ h => h
    try simp only [Act.put, List.setIfInBounds_toArray, List.set_cons_zero, List.set_cons_succ]
    refine take_at 6 9 (oi := ?o100) (v := ?v100) ?hi100 ?hd100 (by kernel_rfl) (by kernel_rfl) (by kernel_rfl) ?hQ100 ?hw100 ?hy100 (by assumption) ?rest100
    case hi100 => simp only [List.getElem?_toArray, List.getElem?_cons_succ, List.getElem?_cons_zero]; rfl
    case hd100 => rfl
    case hw100 => kernel_rfl
    case hy100 => intro W hW; (try dsimp only at hW); go_simp <;> with_reducible rfl
    case hQ100 => exact fun _ _ _ h => h
    try simp only [Act.put, List.setIfInBounds_toArray, List.set_cons_zero, List.set_cons_succ]
    refine take_at 7 10 (oi := ?o101) (v := ?v101) ?hi101 ?hd101 (by kernel_rfl) (by kernel_rfl) (by kernel_rfl) ?hQ101 ?hw101 ?hy101 (by assumption) ?rest101
    case hi101 => simp only [List.getElem?_toArray, List.getElem?_cons_succ, List.getElem?_cons_zero]; rfl
    case hd101 => rfl
    case hw101 => kernel_rfl
    case hy101 => intro W hW; (try dsimp only at hW); go_simp <;> with_reducible rfl
    case hQ101 => exact fun _ _ _ h => h
    try simp only [Act.put, List.setIfInBounds_toArray, List.set_cons_zero, List.set_cons_succ]
    refine take_at 8 11 (oi := ?o102) (v := ?v102) ?hi102 ?hd102 (by kernel_rfl) (by kernel_rfl) (by kernel_rfl) ?hQ102 ?hw102 ?hy102 (by assumption) ?rest102
    case hi102 => simp only [List.getElem?_toArray, List.getElem?_cons_succ, List.getElem?_cons_zero]; rfl
    case hd102 => rfl
    case hw102 => kernel_rfl
    case hy102 => intro W hW; (try dsimp only at hW); go_simp <;> with_reducible rfl
    case hQ102 => exact fun _ _ _ h => h
    try simp only [Act.put, List.setIfInBounds_toArray, List.set_cons_zero, List.set_cons_succ]
    refine take_at 9 12 (oi := ?o103) (v := ?v103) ?hi103 ?hd103 (by kernel_rfl) (by kernel_rfl) (by kernel_rfl) ?hQ103 ?hw103 ?hy103 (by assumption) ?rest103
    case hi103 => simp only [List.getElem?_toArray, List.getElem?_cons_succ, List.getElem?_cons_zero]; rfl
    case hd103 => rfl
    case hw103 => kernel_rfl
    case hy103 => intro W hW; (try dsimp only at hW); go_simp <;> with_reducible rfl
    case hQ103 => exact fun _ _ _ h => h
    try simp only [Act.put, List.setIfInBounds_toArray, List.set_cons_zero, List.set_cons_succ]
    refine take_at 10 13 (oi := ?o104) (v := ?v104) ?hi104 ?hd104 (by kernel_rfl) (by kernel_rfl) (by kernel_rfl) ?hQ104 ?hw104 ?hy104 (by assumption) ?rest104
    case hi104 => simp only [List.getElem?_toArray, List.getElem?_cons_succ, List.getElem?_cons_zero]; rfl
    case hd104 => rfl
    case hw104 => kernel_rfl
    case hy104 => intro W hW; (try dsimp only at hW); go_simp <;> with_reducible rfl
    case hQ104 => exact fun _ _ _ h => h
    try simp only [Act.put, List.setIfInBounds_toArray, List.set_cons_zero, List.set_cons_succ]
    refine take_at 11 14 (oi := ?o105) (v := ?v105) ?hi105 ?hd105 (by kernel_rfl) (by kernel_rfl) (by kernel_rfl) ?hQ105 ?hw105 ?hy105 (by assumption) ?rest105
    case hi105 => simp only [List.getElem?_toArray, List.getElem?_cons_succ, List.getElem?_cons_zero]; rfl
    case hd105 => rfl
    case hw105 => kernel_rfl
    case hy105 => intro W hW; (try dsimp only at hW); go_simp <;> with_reducible rfl
    case hQ105 => exact fun _ _ _ h => h
    try simp only [Act.put, List.setIfInBounds_toArray, List.set_cons_zero, List.set_cons_succ]
    refine take_at 12 15 (oi := ?o106) (v := ?v106) ?hi106 ?hd106 (by kernel_rfl) (by kernel_rfl) (by kernel_rfl) ?hQ106 ?hw106 ?hy106 (by assumption) ?rest106
    case hi106 => simp only [List.getElem?_toArray, List.getElem?_cons_succ, List.getElem?_cons_zero]; rfl
    case hd106 => rfl
    case hw106 => kernel_rfl
    case hy106 => intro W hW; (try dsimp only at hW); go_simp <;> with_reducible rfl
    case hQ106 => exact fun _ _ _ h => h
    try simp only [Act.put, List.setIfInBounds_toArray, List.set_cons_zero, List.set_cons_succ]
    refine take_at 13 16 (oi := ?o107) (v := ?v107) ?hi107 ?hd107 (by kernel_rfl) (by kernel_rfl) (by kernel_rfl) ?hQ107 ?hw107 ?hy107 (by assumption) ?rest107
    case hi107 => simp only [List.getElem?_toArray, List.getElem?_cons_succ, List.getElem?_cons_zero]; rfl
    case hd107 => rfl
    case hw107 => kernel_rfl
    case hy107 => intro W hW; (try dsimp only at hW); go_simp <;> with_reducible rfl
    case hQ107 => exact fun _ _ _ h => h
    try simp only [Act.put, List.setIfInBounds_toArray, List.set_cons_zero, List.set_cons_succ]
    refine wpAnyH_ready (rs := [14]) (by kernel_rfl) (by simp) ?_
    refine AllReadyH.cons rfl (fun K hK => ?_) AllReadyH.nil
    go_simp
    refine (HO.out _).mono ?_
    rintro e w2 ⟨v2, rfl, ho, hb⟩
    obtain ⟨a2, p2, rfl⟩ := own_form ho
    have hx2 : w2.heap[w.heap.size]? = some (.cells #[.int .i64 (n : Int), .slice a P.length cap] 31) := (hb.block _ (by simp)).trans Hx.out
    have HB2 := Lib.hid (HB1.out.next hb)
    have Hx2 := Lib.hid hx2
    clear ho hb hx2 hHeld
    go_wp2_with fail
    refine hK.out _ _ (mtC (w := w2) Hx2.out) (fun hHeld => ?_)
    clear hK K
    try simp only [Act.put, List.setIfInBounds_toArray, List.set_cons_zero, List.set_cons_succ]
    refine take_at 15 18 (oi := ?o108) (v := ?v108) ?hi108 ?hd108 (by kernel_rfl) (by kernel_rfl) (by kernel_rfl) ?hQ108 ?hw108 ?hy108 (by assumption) ?rest108
    case hi108 => simp only [List.getElem?_toArray, List.getElem?_cons_succ, List.getElem?_cons_zero]; rfl
    case hd108 => rfl
    case hw108 => kernel_rfl
    case hy108 => intro W hW; (try dsimp only at hW); go_simp <;> with_reducible rfl
    case hQ108 => exact fun _ _ _ h => h
    try simp only [Act.put, List.setIfInBounds_toArray, List.set_cons_zero, List.set_cons_succ]
    refine take_at 16 19 (oi := ?o109) (v := ?v109) ?hi109 ?hd109 (by kernel_rfl) (by kernel_rfl) (by kernel_rfl) ?hQ109 ?hw109 ?hy109 (by assumption) ?rest109
    case hi109 => simp only [List.getElem?_toArray, List.getElem?_cons_succ, List.getElem?_cons_zero]; rfl
    case hd109 => rfl
    case hw109 => kernel_rfl
    case hy109 => intro W hW; (try dsimp only at hW); go_simp <;> with_reducible rfl
    case hQ109 => exact fun _ _ _ h => h
    try simp only [Act.put, List.setIfInBounds_toArray, List.set_cons_zero, List.set_cons_succ]
    refine take_at 17 20 (oi := ?o110) (v := ?v110) ?hi110 ?hd110 (by kernel_rfl) (by kernel_rfl) (by kernel_rfl) ?hQ110 ?hw110 ?hy110 (by assumption) ?rest110
    case hi110 => simp only [List.getElem?_toArray, List.getElem?_cons_succ, List.getElem?_cons_zero]; rfl
    case hd110 => rfl
    case hw110 => kernel_rfl
    case hy110 => intro W hW; (try dsimp only at hW); go_simp <;> with_reducible rfl
    case hQ110 => exact fun _ _ _ h => h
    try simp only [Act.put, List.setIfInBounds_toArray, List.set_cons_zero, List.set_cons_succ]
    refine take_at 18 21 (oi := ?o111) (v := ?v111) ?hi111 ?hd111 (by kernel_rfl) (by kernel_rfl) (by kernel_rfl) ?hQ111 ?hw111 ?hy111 (by assumption) ?rest111
    case hi111 => simp only [List.getElem?_toArray, List.getElem?_cons_succ, List.getElem?_cons_zero]; rfl
    case hd111 => rfl
    case hw111 => kernel_rfl
    case hy111 => intro W hW; (try dsimp only at hW); go_simp <;> with_reducible rfl
    case hQ111 => exact fun _ _ _ h => h
    try simp only [Act.put, List.setIfInBounds_toArray, List.set_cons_zero, List.set_cons_succ]
    refine take_at 19 22 (oi := ?o112) (v := ?v112) ?hi112 ?hd112 (by kernel_rfl) (by kernel_rfl) (by kernel_rfl) ?hQ112 ?hw112 ?hy112 (by assumption) ?rest112
    case hi112 => simp only [List.getElem?_toArray, List.getElem?_cons_succ, List.getElem?_cons_zero]; rfl
    case hd112 => rfl
    case hw112 => kernel_rfl
    case hy112 => intro W hW; (try dsimp only at hW); go_simp <;> with_reducible rfl
    case hQ112 => exact fun _ _ _ h => h
    try simp only [Act.put, List.setIfInBounds_toArray, List.set_cons_zero, List.set_cons_succ]
    refine take_at 20 23 (oi := ?o113) (v := ?v113) ?hi113 ?hd113 (by kernel_rfl) (by kernel_rfl) (by kernel_rfl) ?hQ113 ?hw113 ?hy113 (by assumption) ?rest113
    case hi113 => simp only [List.getElem?_toArray, List.getElem?_cons_succ, List.getElem?_cons_zero]; rfl
    case hd113 => rfl
    case hw113 => kernel_rfl
    case hy113 => intro W hW; (try dsimp only at hW); go_simp <;> with_reducible rfl
    case hQ113 => exact fun _ _ _ h => h
    try simp only [Act.put, List.setIfInBounds_toArray, List.set_cons_zero, List.set_cons_succ]
    refine wpAnyH_ready (rs := [21]) (by kernel_rfl) (by simp) ?_
    refine AllReadyH.cons rfl (fun K hK => ?_) AllReadyH.nil
    go_simp
    refine (HW.out _ HB2.out).mono ?_
    rintro e w3 ⟨rfl, rfl⟩
    clear hHeld
    go_wp2_with fail
    refine hK.out _ _ (mtC Hx2.out) (fun hHeld => ?_)
    clear hK K
    try simp only [Act.put, List.setIfInBounds_toArray, List.set_cons_zero, List.set_cons_succ]
    refine take_at 22 25 (oi := ?o114) (v := ?v114) ?hi114 ?hd114 (by kernel_rfl) (by kernel_rfl) (by kernel_rfl) ?hQ114 ?hw114 ?hy114 (by assumption) ?rest114
    case hi114 => simp only [List.getElem?_toArray, List.getElem?_cons_succ, List.getElem?_cons_zero]; rfl
    case hd114 => rfl
    case hw114 => kernel_rfl
    case hy114 => intro W hW; (try dsimp only at hW); go_simp <;> with_reducible rfl
    case hQ114 => exact fun _ _ _ h => h
    try simp only [Act.put, List.setIfInBounds_toArray, List.set_cons_zero, List.set_cons_succ]
    refine take_at 23 26 (oi := ?o115) (v := ?v115) ?hi115 ?hd115 (by kernel_rfl) (by kernel_rfl) (by kernel_rfl) ?hQ115 ?hw115 ?hy115 (by assumption) ?rest115
    case hi115 => simp only [List.getElem?_toArray, List.getElem?_cons_succ, List.getElem?_cons_zero]; rfl
    case hd115 => rfl
    case hw115 => kernel_rfl
    case hy115 => intro W hW; (try dsimp only at hW); go_simp <;> with_reducible rfl
    case hQ115 => exact fun _ _ _ h => h
    try simp only [Act.put, List.setIfInBounds_toArray, List.set_cons_zero, List.set_cons_succ]
    refine wpAnyH_done (by kernel_rfl) ?_ _
    simp only [Exit.then]
    go_wp2
    go_ret
    exact ⟨rfl, HB2.out⟩
end Go.Proofs.YtfklmjcjjdliiaaDoor
