/- The card of LamportRoots is proved: for every seed and every key the law returns true; the conditions are those of the given row. -/
import Derived.Test.YtdkjehagkmkokaaDoorLawKit48
import Derived.Test.YtdkjehagkmkokaaDoorWkAwake48
import Derived.Test.YtdkjehagkmkokaaDoorWkRefSig2
import Derived.Test.YtdkjehagkmkokaaDoorFrmAll
namespace Go.Proofs.YtdkjehagkmkokaaDoor.lawRoots
open Go Go.RowKit Licit
open Go.ChangeShapes Go.WideShapes Go.ChangeAt

theorem Root_no (seed : Bs) (b h : Int) (w : World) (hk : keyOk b h = false) :
    Gives 13 #[.string (B seed), .agg #[.int .i64 b, .int .i64 h]] w (.tuple #[.string (B []), .int .i64 3]) := by
  have HV := Lib.hid (fun W => Valid_no b h W hk)
  clear hk
  go_enter Tryd.func13, Tryd.ntmps13
  go_wp2_with (first
    | (go_at_call 15; refine (HV.out _).mono ?_; rintro e w1 ⟨rfl, hb1⟩; have Hb1 := Lib.hid (((Below.refl w.heap.size w).alloc (Nat.le_refl _) _).next hb1); clear hb1))
  go_ret2
  exact ⟨rfl, Hb1.out⟩

/-- What both sides answer. -/
def rootR (seed : Bs) (b h : Int) : Bs := if keyOk b h = true then rootB seed b.toNat h.toNat else []
def validR (b h : Int) : Int := if keyOk b h = true then 0 else 3
theorem root_both (seed : Bs) (b h : Int) (w : World) (hs : seed.length ≤ maxLen) (ht : Tab w) :
    Gives 13 #[.string (B seed), .agg #[.int .i64 b, .int .i64 h]] w (.tuple #[.string (B (rootR seed b h)), .int .i64 (validR b h)]) := by
  unfold rootR validR
  cases hk : keyOk b h with
  | false => exact Root_no seed b h w hk
  | true =>
    have hk' : 8 ≤ b ∧ b ≤ 256 ∧ 0 ≤ h ∧ h ≤ 6 := by simpa [keyOk] using hk
    obtain ⟨b, rfl⟩ : ∃ n : Nat, b = (n : Int) := ⟨b.toNat, by omega⟩
    obtain ⟨h, rfl⟩ : ∃ n : Nat, h = (n : Int) := ⟨h.toNat, by omega⟩
    exact Root_any seed b h w hs hk ht
theorem rroot_both (seed : Bs) (b h : Int) (w : World) (hs : seed.length ≤ maxLen) :
    Gives 14 #[.string (B seed), .agg #[.int .i64 b, .int .i64 h]] w (.tuple #[.string (B (rootR seed b h)), .int .i64 (validR b h)]) := by
  unfold rootR validR
  cases hk : keyOk b h with
  | false => exact RRoot_no seed b h w hk
  | true =>
    have hk' : 8 ≤ b ∧ b ≤ 256 ∧ 0 ≤ h ∧ h ≤ 6 := by simpa [keyOk] using hk
    obtain ⟨b, rfl⟩ : ∃ n : Nat, b = (n : Int) := ⟨b.toNat, by omega⟩
    obtain ⟨h, rfl⟩ : ∃ n : Nat, h = (n : Int) := ⟨h.toNat, by omega⟩
    exact RRoot_any seed b h w hs hk
theorem valid_both (b h : Int) (w : World) : Gives 15 #[.agg #[.int .i64 b, .int .i64 h]] w (.int .i64 (validR b h)) := by
  unfold validR
  cases hk : keyOk b h with
  | false => exact Valid_no b h w hk
  | true => exact Valid_yes b h w hk
theorem rvalid_both (b h : Int) (w : World) : Gives 16 #[.agg #[.int .i64 b, .int .i64 h]] w (.int .i64 (validR b h)) := by
  unfold validR
  cases hk : keyOk b h with
  | false => exact RValid_no b h w hk
  | true => exact RValid_yes b h w hk

set_option maxHeartbeats 2000000 in
set_option maxRecDepth 100000 in
theorem walk (seed : Bs) (b h : Int) (w : World) (hs : seed.length ≤ maxLen) (ht : Tab w) :
    Calls Tryd.prog 3 #[.string (B seed), .agg #[.int .i64 b, .int .i64 h]] w fun e w' => e = .returned (.bool true) ∧ Below w.heap.size w w' := by
  have HL := Lib.hid (fun W => Light_any seed b h W)
  have HRt := Lib.hid (fun W (hT : Tab W) => root_both seed b h W hs hT)
  have HRr := Lib.hid (fun W => rroot_both seed b h W hs)
  have HV := Lib.hid (fun W => valid_both b h W)
  have HVr := Lib.hid (fun W => rvalid_both b h W)
  have HA := Lib.hid (fun W (hT : Tab W) => awake_any48 W hT)
  obtain ⟨l, hl⟩ : ∃ l, lightB seed b h = l := ⟨_, rfl⟩
  rw [hl] at HL
  obtain ⟨R, hR⟩ : ∃ R, rootR seed b h = R := ⟨_, rfl⟩
  obtain ⟨V, hV⟩ : ∃ V, validR b h = V := ⟨_, rfl⟩
  rw [hR, hV] at HRt HRr
  rw [hV] at HV HVr
  have hq : ((B R).toList == (B R).toList) = true := beqB_eq R
  clear hl hR hV
  go_enter Tryd.func3, Tryd.ntmps3
  go_wp2_with fail
  refine (HA.out _ (ht.same ((Below.refl _ _).alloc (Nat.le_refl _) _))).mono ?_
  rintro e w1 ⟨rfl, hb⟩
  have hk1 : w1.heap[w.heap.size]? = some (.cells #[.int .i64 b, .int .i64 h] 23) := (hb.block _ (by simp)).trans (new_of _ _)
  have hb1 := ((Below.refl w.heap.size w).alloc (Nat.le_refl _) _).next hb
  have Hk1 := Lib.hid hk1
  have ht1 := ht.same hb1
  have Hb1 := Lib.hid hb1
  obtain ⟨k0, k1⟩ := key_cells hk1
  clear hb hb1 hk1
  go_wp2_with fail
  refine (HL.out _).mono ?_
  rintro e w2 ⟨rfl, hb⟩
  have hk2 := (hb.block _ (lt_of Hk1.out)).trans Hk1.out
  have Hk2 := Lib.hid hk2
  have hb2 := Hb1.out.next hb
  have ht2 := ht.same hb2
  have Hb2 := Lib.hid hb2
  obtain ⟨k0', k1'⟩ := key_cells hk2
  clear hb hb2 hk2 k0 k1
  cases l with
  | false =>
    go_wp2_with fail
    refine (HA.out _ ht2).mono ?_
    rintro e w3 ⟨rfl, hb⟩
    have Hb3 := Lib.hid (Hb2.out.next hb)
    clear hb
    go_wp2
    go_ret
    exact ⟨rfl, Hb3.out⟩
  | true =>
    go_wp2_with fail
    refine (HRt.out _ ht2).mono ?_
    rintro e w3 ⟨rfl, hb⟩
    have hk3 := (hb.block _ (lt_of Hk2.out)).trans Hk2.out
    have Hk3 := Lib.hid hk3
    have Hb3 := Lib.hid (Hb2.out.next hb)
    obtain ⟨m0, m1⟩ := key_cells hk3
    clear hb hk3 k0' k1'
    go_wp2_with fail
    refine (HRr.out _).mono ?_
    rintro e w4 ⟨rfl, hb⟩
    have hk4 := (hb.block _ (lt_of Hk3.out)).trans Hk3.out
    have Hk4 := Lib.hid hk4
    have Hb4 := Lib.hid (Hb3.out.next hb)
    clear hb hk4 m0 m1
    go_wp2
    refine wp_region_held_drew (S := (fun W : World => W.cell? ⟨w.heap.size, 0, none⟩ = some (.int .i64 b) ∧ W.cell? ⟨w.heap.size, 1, none⟩ = some (.int .i64 h))) (by kernel_rfl) (key_cells (w := w4) Hk4.out) (fun hHeld => ?_)
    refine take_at 0 30 (oi := ?o1) (v := ?v1) ?hi1 ?hd1 (by kernel_rfl) (by kernel_rfl) (by kernel_rfl) ?hQ1 ?hw1 ?hy1 (by assumption) ?rest1
    case hi1 => simp only [List.getElem?_toArray, List.getElem?_cons_zero]; rfl
    case hd1 => rfl
    case hw1 => kernel_rfl
    case hy1 => intro W hW; (try dsimp only at hW); go_simp <;> with_reducible rfl
    case hQ1 => exact fun _ _ _ h => h
    try simp only [Act.put, List.setIfInBounds_toArray, List.set_cons_zero, List.set_cons_succ]
    refine take_at 1 31 (oi := ?o2) (v := ?v2) ?hi2 ?hd2 (by kernel_rfl) (by kernel_rfl) (by kernel_rfl) ?hQ2 ?hw2 ?hy2 (by assumption) ?rest2
    case hi2 => simp only [List.getElem?_toArray, List.getElem?_cons_succ, List.getElem?_cons_zero]; rfl
    case hd2 => rfl
    case hw2 => kernel_rfl
    case hy2 => intro W hW; (try dsimp only at hW); go_simp <;> with_reducible rfl
    case hQ2 => exact fun _ _ _ h => h
    try simp only [Act.put, List.setIfInBounds_toArray, List.set_cons_zero, List.set_cons_succ]
    refine take_at 2 32 (oi := ?o3) (v := ?v3) ?hi3 ?hd3 (by kernel_rfl) (by kernel_rfl) (by kernel_rfl) ?hQ3 ?hw3 ?hy3 (by assumption) ?rest3
    case hi3 => simp only [List.getElem?_toArray, List.getElem?_cons_succ, List.getElem?_cons_zero]; rfl
    case hd3 => rfl
    case hw3 => kernel_rfl
    case hy3 => intro W hW; (try dsimp only at hW); go_simp <;> with_reducible rfl
    case hQ3 => exact fun _ _ _ h => h
    try simp only [Act.put, List.setIfInBounds_toArray, List.set_cons_zero, List.set_cons_succ]
    refine take_at 3 33 (oi := ?o4) (v := ?v4) ?hi4 ?hd4 (by kernel_rfl) (by kernel_rfl) (by kernel_rfl) ?hQ4 ?hw4 ?hy4 (by assumption) ?rest4
    case hi4 => simp only [List.getElem?_toArray, List.getElem?_cons_succ, List.getElem?_cons_zero]; rfl
    case hd4 => rfl
    case hw4 => kernel_rfl
    case hy4 => intro W hW; (try dsimp only at hW); go_simp <;> with_reducible rfl
    case hQ4 => exact fun _ _ _ h => h
    try simp only [Act.put, List.setIfInBounds_toArray, List.set_cons_zero, List.set_cons_succ]
    refine take_at 4 34 (oi := ?o5) (v := ?v5) ?hi5 ?hd5 (by kernel_rfl) (by kernel_rfl) (by kernel_rfl) ?hQ5 ?hw5 ?hy5 (by assumption) ?rest5
    case hi5 => simp only [List.getElem?_toArray, List.getElem?_cons_succ, List.getElem?_cons_zero]; rfl
    case hd5 => rfl
    case hw5 => kernel_rfl
    case hy5 => intro W hW; (try dsimp only at hW); go_simp <;> with_reducible rfl
    case hQ5 => exact fun _ _ _ h => h
    try simp only [Act.put, List.setIfInBounds_toArray, List.set_cons_zero, List.set_cons_succ]
    refine take_at 5 35 (oi := ?o6) (v := ?v6) ?hi6 ?hd6 (by kernel_rfl) (by kernel_rfl) (by kernel_rfl) ?hQ6 ?hw6 ?hy6 (by assumption) ?rest6
    case hi6 => simp only [List.getElem?_toArray, List.getElem?_cons_succ, List.getElem?_cons_zero]; rfl
    case hd6 => rfl
    case hw6 => kernel_rfl
    case hy6 => intro W hW; (try dsimp only at hW); go_simp <;> with_reducible rfl
    case hQ6 => exact fun _ _ _ h => h
    try simp only [Act.put, List.setIfInBounds_toArray, List.set_cons_zero, List.set_cons_succ]
    refine take_at 6 36 (oi := ?o7) (v := ?v7) ?hi7 ?hd7 (by kernel_rfl) (by kernel_rfl) (by kernel_rfl) ?hQ7 ?hw7 ?hy7 (by assumption) ?rest7
    case hi7 => simp only [List.getElem?_toArray, List.getElem?_cons_succ, List.getElem?_cons_zero]; rfl
    case hd7 => rfl
    case hw7 => kernel_rfl
    case hy7 => intro W hW; (try dsimp only at hW); go_simp <;> with_reducible rfl
    case hQ7 => exact fun _ _ _ h => h
    try simp only [Act.put, List.setIfInBounds_toArray, List.set_cons_zero, List.set_cons_succ]
    refine take_at 7 37 (oi := ?o8) (v := ?v8) ?hi8 ?hd8 (by kernel_rfl) (by kernel_rfl) (by kernel_rfl) ?hQ8 ?hw8 ?hy8 (by assumption) ?rest8
    case hi8 => simp only [List.getElem?_toArray, List.getElem?_cons_succ, List.getElem?_cons_zero]; rfl
    case hd8 => rfl
    case hw8 => kernel_rfl
    case hy8 => intro W hW; (try dsimp only at hW); go_simp <;> with_reducible rfl
    case hQ8 => exact fun _ _ _ h => h
    try simp only [Act.put, List.setIfInBounds_toArray, List.set_cons_zero, List.set_cons_succ]
    refine take_at 8 38 (oi := ?o9) (v := ?v9) ?hi9 ?hd9 (by kernel_rfl) (by kernel_rfl) (by kernel_rfl) ?hQ9 ?hw9 ?hy9 (by assumption) ?rest9
    case hi9 => simp only [List.getElem?_toArray, List.getElem?_cons_succ, List.getElem?_cons_zero]; rfl
    case hd9 => rfl
    case hw9 => kernel_rfl
    case hy9 => intro W hW; (try dsimp only at hW); go_simp <;> with_reducible rfl
    case hQ9 => exact fun _ _ _ h => h
    try simp only [Act.put, List.setIfInBounds_toArray, List.set_cons_zero, List.set_cons_succ]
    refine take_at 9 39 (oi := ?o10) (v := ?v10) ?hi10 ?hd10 (by kernel_rfl) (by kernel_rfl) (by kernel_rfl) ?hQ10 ?hw10 ?hy10 (by assumption) ?rest10
    case hi10 => simp only [List.getElem?_toArray, List.getElem?_cons_succ, List.getElem?_cons_zero]; rfl
    case hd10 => rfl
    case hw10 => kernel_rfl
    case hy10 => intro W hW; (try dsimp only at hW); go_simp <;> with_reducible rfl
    case hQ10 => exact fun _ _ _ h => h
    try simp only [Act.put, List.setIfInBounds_toArray, List.set_cons_zero, List.set_cons_succ]
    refine take_at 11 41 (oi := ?o11) (v := ?v11) ?hi11 ?hd11 (by kernel_rfl) (by kernel_rfl) (by kernel_rfl) ?hQ11 ?hw11 ?hy11 (by assumption) ?rest11
    case hi11 => simp only [List.getElem?_toArray, List.getElem?_cons_succ, List.getElem?_cons_zero]; rfl
    case hd11 => rfl
    case hw11 => kernel_rfl
    case hy11 => intro W hW; (try dsimp only at hW); go_simp <;> with_reducible rfl
    case hQ11 => exact fun _ _ _ h => h
    try simp only [Act.put, List.setIfInBounds_toArray, List.set_cons_zero, List.set_cons_succ]
    refine wpAnyH_ready (rs := [10]) (by kernel_rfl) (by simp) ?_
    refine AllReadyH.cons rfl (fun K hK => ?_) AllReadyH.nil
    go_simp
    refine (HV.out _).mono ?_
    rintro e w5 ⟨rfl, hb5'⟩
    have hb5 : Below w4.heap.size w4 w5 := ⟨hb5'.os, hb5'.tape, hb5'.output, hb5'.size, hb5'.block⟩
    have Hk5 := Lib.hid ((hb5.block _ (lt_of Hk4.out)).trans Hk4.out)
    have Hb5 := Lib.hid (Hb4.out.next hb5)
    clear hb5' hb5 hHeld
    go_wp2_with fail
    refine hK.out _ _ (key_cells (w := w5) Hk5.out) (fun hHeld => ?_)
    clear hK K
    try simp only [Act.put, List.setIfInBounds_toArray, List.set_cons_zero, List.set_cons_succ]
    refine wpAnyH_ready (rs := [12]) (by kernel_rfl) (by simp) ?_
    refine AllReadyH.cons rfl (fun K hK => ?_) AllReadyH.nil
    go_simp
    refine (HVr.out _).mono ?_
    rintro e w6 ⟨rfl, hb6⟩
    have Hk6 := Lib.hid ((hb6.block _ (lt_of Hk5.out)).trans Hk5.out)
    have Hb6 := Lib.hid (Hb5.out.next hb6)
    clear hb6 hHeld
    go_wp2_with fail
    refine hK.out _ _ (key_cells (w := w6) Hk6.out) (fun hHeld => ?_)
    clear hK K
    try simp only [Act.put, List.setIfInBounds_toArray, List.set_cons_zero, List.set_cons_succ]
    refine take_at 13 43 (oi := ?o12) (v := ?v12) ?hi12 ?hd12 (by kernel_rfl) (by kernel_rfl) (by kernel_rfl) ?hQ12 ?hw12 ?hy12 (by assumption) ?rest12
    case hi12 => simp only [List.getElem?_toArray, List.getElem?_cons_succ, List.getElem?_cons_zero]; rfl
    case hd12 => rfl
    case hw12 => kernel_rfl
    case hy12 => intro W hW; (try dsimp only at hW); go_simp <;> with_reducible rfl
    case hQ12 => exact fun _ _ _ h => h
    try simp only [Act.put, List.setIfInBounds_toArray, List.set_cons_zero, List.set_cons_succ]
    refine take_at 14 44 (oi := ?o13) (v := ?v13) ?hi13 ?hd13 (by kernel_rfl) (by kernel_rfl) (by kernel_rfl) ?hQ13 ?hw13 ?hy13 (by assumption) ?rest13
    case hi13 => simp only [List.getElem?_toArray, List.getElem?_cons_succ, List.getElem?_cons_zero]; rfl
    case hd13 => rfl
    case hw13 => kernel_rfl
    case hy13 => intro W hW; (try dsimp only at hW); go_simp <;> with_reducible rfl
    case hQ13 => exact fun _ _ _ h => h
    try simp only [Act.put, List.setIfInBounds_toArray, List.set_cons_zero, List.set_cons_succ]
    refine take_at 15 4 (oi := ?o14) (v := ?v14) ?hi14 ?hd14 (by kernel_rfl) (by kernel_rfl) (by kernel_rfl) ?hQ14 ?hw14 ?hy14 (by assumption) ?rest14
    case hi14 => simp only [List.getElem?_toArray, List.getElem?_cons_succ, List.getElem?_cons_zero]; rfl
    case hd14 => rfl
    case hw14 => kernel_rfl
    case hy14 => intro W hW; (try dsimp only at hW); go_simp <;> with_reducible rfl
    case hQ14 => exact fun _ _ _ h => h
    try simp only [Act.put, List.setIfInBounds_toArray, List.set_cons_zero, List.set_cons_succ]
    refine wpAnyH_done (by kernel_rfl) ?_ _
    simp only [Exit.then]
    go_wp2
    go_ret
    exact ⟨rfl, Hb6.out⟩


set_option maxRecDepth 100000 in
theorem contract (H : Type) (enc : TypeId × Value → H) (W : World) (base : Nat) (args : Array Value) (ds gs : List (DataW H)) (before : List MemPlace)
    (hval : ∀ (j : Nat) t v, Tryd.f3.params[j]? = some t → args[j]? = some v → Value.okWide Tryd.prog W .any base t v)
    (hW : DataW.Whole enc Tryd.prog Tryd.f3.params.toList Rows.lamportRootsSpec.vars false W args.toList ds gs before) (hL : laidMetH Tryd.prog Rows.lamportRootsRow.laid W) :
    Calls Tryd.prog 3 args W fun e W' => ∃ v, e = .returned v ∧ Rows.lamportRootsSpec.post enc Tryd.prog Tryd.f3 false true false false W args v W' := by
  have hW' := hW
  obtain ⟨p, q, hA0, hV, rfl, hfz, hnd⟩ := hW
  have hA : DataW.TrodAll enc Tryd.prog W 0 (fun _ => true) true Tryd.f3.params.toList args.toList ds p := hA0
  rw [Tryd.params3] at hA hval
  obtain ⟨v0, vs0, d0, ds0, p0, q0, hargs, rfl, rfl, h0, r0⟩ := trodAll_cons hA
  obtain ⟨v1, vs1, d1, ds1, p1, q1, rfl, rfl, rfl, h1, r1⟩ := trodAll_cons r0
  obtain ⟨rfl, rfl, rfl⟩ := trodAll_nil r1
  obtain rfl : args = #[v0, v1] := by cases args; simp_all
  obtain ⟨rfl, rfl⟩ := trodVars_none hV
  obtain ⟨seed, rfl, hsl⟩ := str_in (hval 0 9 v0 rfl rfl) h0
  obtain ⟨b, h, rfl⟩ := key_in (hval 1 23 v1 rfl rfl) h1
  refine (walk seed b h W hsl (tab_of hL)).mono fun e W' ⟨he, hb⟩ => ⟨_, he, ?_⟩
  exact law_post hW' rfl (by kernel_rfl) (by kernel_rfl) rfl hb

theorem laid_met (os : Os) : laidMet Tryd.prog Rows.lamportRootsRow.laid ((laidWorld os).forCall (fun _ _ => 0) ⟨#[], #[.string ⟨#[]⟩, .agg #[.int .i64 0, .int .i64 0]], []⟩).memory :=
  laidMet_of_run' 8 (by kernel_rfl) (by kernel_rfl)
theorem reads (os : Os) {H : Type} (enc : TypeId × Value → H) : ∃ places, DataW.whole enc Tryd.prog ((laidWorld os).forCall (fun _ _ => 0) ⟨#[], #[.string ⟨#[]⟩, .agg #[.int .i64 0, .int .i64 0]], []⟩).memory Tryd.f3.params.toList Rows.lamportRootsSpec.vars false (#[.string ⟨#[]⟩, .agg #[.int .i64 0, .int .i64 0]] : Array Value).toList 8 = some ([.lit (.string []), .agg [.lit (.int .i64 0), .lit (.int .i64 0)]], [], places) :=
  ⟨[], by kernel_rfl⟩

set_option maxRecDepth 100000 in
theorem lifted (os : Os) (started : os.Started) (H : Type) (enc : TypeId × Value → H) (F : Stop.Interp) :
    ReturnsInHanded {} Tryd.checked os 3 .any ((OpenSpec.ofChange Rows.lamportRootsSpec).preRow enc Tryd.prog Tryd.f3 Rows.lamportRootsRow.domain false Rows.lamportRootsRow.laid) (((OpenSpec.ofChange Rows.lamportRootsSpec).at F).post enc Tryd.prog Tryd.f3 false true false false) := by
  obtain ⟨places, hx⟩ := reads os enc
  refine returnsInHanded_of_row (C := Tryd.checked) (s := OpenSpec.ofChange Rows.lamportRootsSpec) own started (by kernel_rfl) Tryd.func3
    (witness_row_at (enc := enc) (C := Tryd.checked) false (laidWorld os) #[.string ⟨#[]⟩, .agg #[.int .i64 0, .int .i64 0]] rfl (by kernel_rfl) (by kernel_rfl) (by kernel_rfl)
      (OpenSpec.preRow_of_cond 8 hx (by kernel_rfl) (fun k hk => by cases hk) (by kernel_rfl) (laid_met os))) ?_
  intro W base args ds gs before hval hW _ _ _ hL _ _
  exact contract H enc W base args ds gs before hval hW hL

set_option maxRecDepth 100000 in
theorem said : Rows.LamportRootsSaid :=
  OpenClaim.holds_of_cond 3 Tryd.f3 rfl rfl rfl rfl rfl rfl rfl ⟨rfl, rfl, rfl, rfl, rfl⟩ rfl rfl rfl rfl rfl (by kernel_rfl) Tryd.func3 (by kernel_rfl)
    (of_decide_eq_true (by kernel_rfl)) (by unfold Func.isWrapper; first | (rw [if_pos (by decide +kernel)]; kernel_rfl) | (rw [if_neg (by decide +kernel)]; exact ⟨rfl, rfl⟩))
    (fun os started H enc _ F => by rw [OpenClaim.pre_eq_preRow]; exact lifted os started H enc F)

/-- No parameter wants a stand-in; the program's own looks are off. -/
theorem plain (f : FuncId) (fn : Func) (hf : Tryd.pinned.checked.prog.funcNamed "licit/licitlaw48.LamportRoots" = some f) (hfn : Tryd.pinned.checked.prog.funcs[f]? = some fn) :
    false = Tryd.pinned.checked.prog.looks [] ∧ ∀ (j : Nat) t, fn.params[j]? = some t → Tryd.pinned.checked.prog.wantsStandIn t = false := by
  obtain rfl : f = 3 := Option.some.inj ((show Tryd.prog.funcNamed "licit/licitlaw48.LamportRoots" = some 3 by kernel_rfl).symm.trans hf) |>.symm
  obtain rfl : fn = Tryd.f3 := (Option.some.inj (Tryd.func3.symm.trans hfn)).symm
  refine ⟨by kernel_rfl, fun j t ht => ?_⟩
  have hall : Tryd.f3.params.toList.all (fun t => !Tryd.prog.wantsStandIn t) = true := by kernel_rfl
  have := List.all_eq_true.1 hall t (Array.mem_toList_iff.2 (Array.mem_of_getElem? ht))
  exact (by simpa using this : Tryd.prog.wantsStandIn t = false)

theorem card : Rows.LamportRootsCardSaid :=
  Claim7.holds_tied_plain_at .later [] _ _ _ _ said (fun _ h => by cases h) (by kernel_rfl) (fun _ h => by cases h) lamportRoots_row_tie rfl ⟨rfl, rfl⟩ (by kernel_rfl) rfl plain (by kernel_rfl)

end Go.Proofs.YtdkjehagkmkokaaDoor.lawRoots
