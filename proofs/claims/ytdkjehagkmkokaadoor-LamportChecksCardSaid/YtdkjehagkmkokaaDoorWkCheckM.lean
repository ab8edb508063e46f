/- Check of package lamport answers as the plain function does, where the signature fits the key. -/
import Derived.Test.YtdkjehagkmkokaaDoorWkCheck
namespace Go.Proofs.YtdkjehagkmkokaaDoor
open Go Go.RowKit Licit

theorem fits_parts {b h : Nat} {i : Int} {S H R : List Bs} (hf : fitsB b h i S H R = true) : sigOk i S H R = true ∧ S.length = b ∧ H.length = b ∧ R.length = h ∧ 0 ≤ i ∧ i < ((2 ^ h : Nat) : Int) ∧ (∀ x ∈ S, x.length = 32) ∧ (∀ x ∈ H, x.length = 32) ∧ (∀ x ∈ R, x.length = 32) := by
  unfold fitsB at hf
  simp only [Bool.and_eq_true, decide_eq_true_eq] at hf
  obtain ⟨⟨⟨h1, h2⟩, h3⟩, h4⟩ := hf
  have h1' := h1
  unfold sigOk at h1
  simp only [Bool.and_eq_true, decide_eq_true_eq, all32, List.all_eq_true] at h1
  obtain ⟨⟨⟨⟨⟨⟨⟨a1, a2⟩, a3⟩, a4⟩, a5⟩, a6⟩, a7⟩, a8⟩ := h1
  exact ⟨h1', h2, by omega, h3, a1, h4, a6, a7, a8⟩
theorem getD_32 {S : List Bs} {k : Nat} (hS : ∀ x ∈ S, x.length = 32) (hk : k < S.length) : (S.getD k []).length = 32 := by
  rw [List.getD_eq_getElem?_getD, List.getElem?_eq_getElem hk]
  exact hS _ (List.getElem_mem _)

theorem Node_built (x y : Bs) (hx : x.length ≤ maxLen) (hy : y.length ≤ maxLen) (W : World) (ht : Tab W) : Calls Tryd.prog 47 #[.slice (some ⟨W.heap.size, 0, none⟩) 3 3] (W.alloc (.cells #[.string ⟨#[110, 111, 100, 101]⟩, .string (B x), .string (B y)] 9)) fun e w' => e = .returned (.string (B (nodeB x y))) ∧ Below W.heap.size W w' :=
  Gives.alloc (mix_built (l := [kNode, x, y]) 3 rfl (by decide) rfl (by decide) (by intro z hz; simp at hz; rcases hz with rfl | rfl | rfl; decide; exact hx; exact hy) W ht)
theorem partsOf_32 {d : Bs} {S H : List Bs} (hH : ∀ x ∈ H, x.length = 32) : ∀ n, n ≤ H.length → ∀ x ∈ partsOf d S H n, x.length = 32
  | 0, _, x, hx => by cases hx
  | n + 1, hn, x, hx => by
    rw [partsOf, List.mem_append] at hx
    rcases hx with hx | hx
    · exact partsOf_32 hH n (by omega) x hx
    · unfold pairB at hx
      have h1 := getD_32 hH (show n < H.length by omega)
      split at hx
      · simp only [List.mem_cons, List.not_mem_nil, or_false] at hx
        rcases hx with rfl | rfl
        · exact pubB_len _
        · exact h1
      · simp only [List.mem_cons, List.not_mem_nil, or_false] at hx
        rcases hx with rfl | rfl
        · exact h1
        · exact pubB_len _
theorem climb_32 {i : Nat} {R : List Bs} {L : Bs} (hL : L.length = 32) : ∀ n, (climbN i R L n).length = 32
  | 0 => hL
  | n + 1 => by rw [climbN, stepB]; split <;> exact hsh_len _
theorem and_two {i j : Nat} (hi : i < 64) : bits .and .i64 ((i : Int) / 2 ^ j) 1 = ((i / 2 ^ j % 2 : Nat) : Int) := by
  have hq : i / 2 ^ j < 256 := Nat.lt_of_le_of_lt (Nat.div_le_self _ _) (by omega)
  have hc : (i : Int) / 2 ^ j = ((i / 2 ^ j : Nat) : Int) := by simp
  rw [hc]
  exact and_one ⟨_, hq⟩

set_option maxHeartbeats 4000000 in
set_option maxRecDepth 100000 in
theorem Check_fit (root m : Bs) (b h i : Nat) (v : Value) (S H R : List Bs) (w : World) (hm : m.length ≤ 1000000000000) (hk : keyOk (b : Int) (h : Int) = true) (hsig : SigIs v (i : Int) S H R w) (hf : fitsB b h (i : Int) S H R = true) (ht : Tab w) :
    Gives 19 #[.string (B root), .agg #[.int .i64 (b : Int), .int .i64 (h : Int)], .string (B m), v] w (.int .i64 (if climbN i R (leafB (partsOf (Sha.sha m) S H b)) h = root then 0 else 18)) := by
  have hk' : 8 ≤ (b : Int) ∧ (b : Int) ≤ 256 ∧ 0 ≤ (h : Int) ∧ (h : Int) ≤ 6 := by simpa [keyOk] using hk
  have hb : b ≤ 256 := by omega
  have hh : h ≤ 6 := by omega
  have HV := Lib.hid (fun W => Valid_yes (b : Int) (h : Int) W hk)
  clear hk hk'
  have hF := fun W (hB : Below w.heap.size w W) => Formed_any v (i : Int) S H R W (hsig.below hB)
  obtain ⟨ok, e1, e1', e2, e3, e4, hS32, hH32, hR32⟩ := fits_parts hf
  clear hf
  rw [ok] at hF
  have HF := Lib.hid hF
  clear hF ok
  obtain ⟨vs, vh, vr, rfl, hS, hH, hR⟩ := hsig
  obtain ⟨sa, sc, rfl⟩ := hS.formMap
  obtain ⟨ha, hc, rfl⟩ := hH.formMap
  obtain ⟨ra, rc, rfl⟩ := hR.formMap
  obtain ⟨d, hd⟩ : ∃ d, Sha.sha m = d := ⟨_, rfl⟩
  have hdl : d.length = 32 := by rw [← hd]; exact Sha.sha_len _
  obtain ⟨i0, hi, hz0, hz1, hz2⟩ := info_parts Tryd.infoStr
  have Hi := Lib.hid hi
  have Hz0 := Lib.hid hz0
  have Hz1 := Lib.hid hz1
  have Hz2 := Lib.hid hz2
  clear hi hz0 hz1 hz2
  rw [e1] at hS HF ⊢
  rw [e1'] at hH HF ⊢
  rw [e2] at hR HF ⊢
  rw [hd]
  have HD := Lib.hid hd
  have HLS := Lib.hid e1
  have HLH := Lib.hid e1'
  have HLR := Lib.hid e2
  have HS := Lib.hid hS
  have HH := Lib.hid hH
  have HR := Lib.hid hR
  have HS32 := Lib.hid hS32
  have HH32 := Lib.hid hH32
  have HR32 := Lib.hid hR32
  obtain ⟨N, hN, hp1, hp2, h64, _⟩ := pow_facts hh
  have hNi : IntKind.i64.wrap (N : Int) = (N : Int) := by rw [IntKind.wrap_i64]; omega
  rw [hN] at e4
  have g3 : decide (N ≤ i) = false := by simp; omega
  obtain ⟨r, hr⟩ : ∃ r : Int, (if climbN i R (leafB (partsOf d S H b)) h = root then (0 : Int) else 18) = r := ⟨_, rfl⟩
  rw [hr]
  have Hr := Lib.hid hr
  have hi64 : i < 64 := by omega
  clear hS hH hR hd e1 e1' e2 e3 e4 hS32 hH32 hR32 hN hr
  go_enter Tryd.func19, Tryd.ntmps19
  go_wp2_with (first
    | (go_at_call 15; refine (HV.out _).mono ?_; rintro e w1 ⟨rfl, hb1⟩
       have hk1 : w1.heap[w.heap.size]? = some (.cells #[.int .i64 (b : Int), .int .i64 (h : Int)] 23) := (hb1.block w.heap.size (by simp; omega)).trans (old_of (new_of _ _))
       have hs1 : w1.heap[w.heap.size + 1]? = some (.cells #[.int .i64 (i : Int), .slice sa b sc, .slice ha b hc, .slice ra h rc] 34) := (hb1.block (w.heap.size + 1) (by simp)).trans (new_at (by simp) rfl)
       have Hb1 := Lib.hid ((((Below.refl w.heap.size w).alloc (Nat.le_refl _) _).alloc (by simp) _).next hb1)
       have HK1 := Lib.hid hk1
       have HS1 := Lib.hid hs1
       clear hb1 hk1 hs1))
  refine wp_region_held_drew (S := (fun W : World => (W.cell? ⟨w.heap.size, 0, none⟩ = some (.int .i64 (b : Int)) ∧ W.cell? ⟨w.heap.size, 1, none⟩ = some (.int .i64 (h : Int))) ∧ W.cell? ⟨w.heap.size + 1, 0, none⟩ = some (.int .i64 (i : Int)) ∧ W.cell? ⟨w.heap.size + 1, 1, none⟩ = some (.slice sa b sc) ∧ W.cell? ⟨w.heap.size + 1, 2, none⟩ = some (.slice ha b hc) ∧ W.cell? ⟨w.heap.size + 1, 3, none⟩ = some (.slice ra h rc))) (by kernel_rfl) ⟨key_cells (w := w1) HK1.out, sig_cells (w := w1) HS1.out⟩ (fun hHeld => ?_)
  refine take_at 0 22 (oi := ?o105) (v := ?v105) ?hi105 ?hd105 (by kernel_rfl) (by kernel_rfl) (by kernel_rfl) ?hQ105 ?hw105 ?hy105 (by assumption) ?rest105
  case hi105 => simp only [List.getElem?_toArray, List.getElem?_cons_zero]; rfl
  case hd105 => rfl
  case hw105 => kernel_rfl
  case hy105 => intro W hW; (try dsimp only at hW); go_simp <;> with_reducible rfl
  case hQ105 => exact fun _ _ _ h => h
  try simp only [Act.put, List.setIfInBounds_toArray, List.set_cons_zero, List.set_cons_succ]
  refine wpAnyH_ready (rs := [1]) (by kernel_rfl) (by simp) ?_
  refine AllReadyH.cons rfl (fun K hK => ?_) AllReadyH.nil
  go_simp
  refine (HF.out _ (by first | exact Hb1.out | exact dr Hb1.out)).mono ?_
  rintro e w2 ⟨rfl, hb2⟩
  have HB2 := Lib.hid (Hb1.out.next (by first | exact hb2 | exact undrew hb2))
  have hk2 : w2.heap[w.heap.size]? = some (.cells #[.int .i64 (b : Int), .int .i64 (h : Int)] 23) := (hb2.block _ (lt_of HK1.out)).trans HK1.out
  have hs2 : w2.heap[w.heap.size + 1]? = some (.cells #[.int .i64 (i : Int), .slice sa b sc, .slice ha b hc, .slice ra h rc] 34) := (hb2.block _ (lt_of HS1.out)).trans HS1.out
  have Hk2 := Lib.hid hk2
  have Hs2 := Lib.hid hs2
  clear hb2 hk2 hs2 hHeld
  go_wp2_with fail
  refine hK.out _ _ ⟨key_cells (w := w2) Hk2.out, sig_cells (w := w2) Hs2.out⟩ (fun hHeld => ?_)
  clear hK K
  try simp only [Act.put, List.setIfInBounds_toArray, List.set_cons_zero, List.set_cons_succ]
  refine take_at 2 24 (oi := ?o106) (v := ?v106) ?hi106 ?hd106 (by kernel_rfl) (by kernel_rfl) (by kernel_rfl) ?hQ106 ?hw106 ?hy106 (by assumption) ?rest106
  case hi106 => simp only [List.getElem?_toArray, List.getElem?_cons_succ, List.getElem?_cons_zero]; rfl
  case hd106 => rfl
  case hw106 => kernel_rfl
  case hy106 => intro W hW; (try dsimp only at hW); go_simp <;> with_reducible rfl
  case hQ106 => exact fun _ _ _ h => h
  try simp only [Act.put, List.setIfInBounds_toArray, List.set_cons_zero, List.set_cons_succ]
  refine take_at 3 25 (oi := ?o107) (v := ?v107) ?hi107 ?hd107 (by kernel_rfl) (by kernel_rfl) (by kernel_rfl) ?hQ107 ?hw107 ?hy107 (by assumption) ?rest107
  case hi107 => simp only [List.getElem?_toArray, List.getElem?_cons_succ, List.getElem?_cons_zero]; rfl
  case hd107 => rfl
  case hw107 => kernel_rfl
  case hy107 => intro W hW; (try dsimp only at hW); go_simp <;> with_reducible rfl
  case hQ107 => exact fun _ _ _ h => h
  try simp only [Act.put, List.setIfInBounds_toArray, List.set_cons_zero, List.set_cons_succ]
  refine take_at 4 26 (oi := ?o108) (v := ?v108) ?hi108 ?hd108 (by kernel_rfl) (by kernel_rfl) (by kernel_rfl) ?hQ108 ?hw108 ?hy108 (by assumption) ?rest108
  case hi108 => simp only [List.getElem?_toArray, List.getElem?_cons_succ, List.getElem?_cons_zero]; rfl
  case hd108 => rfl
  case hw108 => kernel_rfl
  case hy108 => intro W hW; (try dsimp only at hW); go_simp <;> with_reducible rfl
  case hQ108 => exact fun _ _ _ h => h
  try simp only [Act.put, List.setIfInBounds_toArray, List.set_cons_zero, List.set_cons_succ]
  refine take_at 5 27 (oi := ?o109) (v := ?v109) ?hi109 ?hd109 (by kernel_rfl) (by kernel_rfl) (by kernel_rfl) ?hQ109 ?hw109 ?hy109 (by assumption) ?rest109
  case hi109 => simp only [List.getElem?_toArray, List.getElem?_cons_succ, List.getElem?_cons_zero]; rfl
  case hd109 => rfl
  case hw109 => kernel_rfl
  case hy109 => intro W hW; (try dsimp only at hW); go_simp <;> with_reducible rfl
  case hQ109 => exact fun _ _ _ h => h
  try simp only [Act.put, List.setIfInBounds_toArray, List.set_cons_zero, List.set_cons_succ]
  refine take_at 6 28 (oi := ?o110) (v := ?v110) ?hi110 ?hd110 (by kernel_rfl) (by kernel_rfl) (by kernel_rfl) ?hQ110 ?hw110 ?hy110 (by assumption) ?rest110
  case hi110 => simp only [List.getElem?_toArray, List.getElem?_cons_succ, List.getElem?_cons_zero]; rfl
  case hd110 => rfl
  case hw110 => kernel_rfl
  case hy110 => intro W hW; (try dsimp only at hW); go_simp <;> with_reducible rfl
  case hQ110 => exact fun _ _ _ h => h
  try simp only [Act.put, List.setIfInBounds_toArray, List.set_cons_zero, List.set_cons_succ]
  refine take_at 7 29 (oi := ?o111) (v := ?v111) ?hi111 ?hd111 (by kernel_rfl) (by kernel_rfl) (by kernel_rfl) ?hQ111 ?hw111 ?hy111 (by assumption) ?rest111
  case hi111 => simp only [List.getElem?_toArray, List.getElem?_cons_succ, List.getElem?_cons_zero]; rfl
  case hd111 => rfl
  case hw111 => kernel_rfl
  case hy111 => intro W hW; (try dsimp only at hW); go_simp <;> with_reducible rfl
  case hQ111 => exact fun _ _ _ h => h
  try simp only [Act.put, List.setIfInBounds_toArray, List.set_cons_zero, List.set_cons_succ]
  refine take_at 8 30 (oi := ?o112) (v := ?v112) ?hi112 ?hd112 (by kernel_rfl) (by kernel_rfl) (by kernel_rfl) ?hQ112 ?hw112 ?hy112 (by assumption) ?rest112
  case hi112 => simp only [List.getElem?_toArray, List.getElem?_cons_succ, List.getElem?_cons_zero]; rfl
  case hd112 => rfl
  case hw112 => kernel_rfl
  case hy112 => intro W hW; (try dsimp only at hW); go_simp <;> with_reducible rfl
  case hQ112 => exact fun _ _ _ h => h
  try simp only [Act.put, List.setIfInBounds_toArray, List.set_cons_zero, List.set_cons_succ]
  refine take_at 9 31 (oi := ?o113) (v := ?v113) ?hi113 ?hd113 (by kernel_rfl) (by kernel_rfl) (by kernel_rfl) ?hQ113 ?hw113 ?hy113 (by assumption) ?rest113
  case hi113 => simp only [List.getElem?_toArray, List.getElem?_cons_succ, List.getElem?_cons_zero]; rfl
  case hd113 => rfl
  case hw113 => kernel_rfl
  case hy113 => intro W hW; (try dsimp only at hW); go_simp <;> with_reducible rfl
  case hQ113 => exact fun _ _ _ h => h
  try simp only [Act.put, List.setIfInBounds_toArray, List.set_cons_zero, List.set_cons_succ]
  refine take_at 10 32 (oi := ?o114) (v := ?v114) ?hi114 ?hd114 (by kernel_rfl) (by kernel_rfl) (by kernel_rfl) ?hQ114 ?hw114 ?hy114 (by assumption) ?rest114
  case hi114 => simp only [List.getElem?_toArray, List.getElem?_cons_succ, List.getElem?_cons_zero]; rfl
  case hd114 => rfl
  case hw114 => kernel_rfl
  case hy114 => intro W hW; (try dsimp only at hW); go_simp <;> with_reducible rfl
  case hQ114 => exact fun _ _ _ h => h
  try simp only [Act.put, List.setIfInBounds_toArray, List.set_cons_zero, List.set_cons_succ]
  refine take_at 11 33 (oi := ?o115) (v := ?v115) ?hi115 ?hd115 (by kernel_rfl) (by kernel_rfl) (by kernel_rfl) ?hQ115 ?hw115 ?hy115 (by assumption) ?rest115
  case hi115 => simp only [List.getElem?_toArray, List.getElem?_cons_succ, List.getElem?_cons_zero]; rfl
  case hd115 => rfl
  case hw115 => kernel_rfl
  case hy115 => intro W hW; (try dsimp only at hW); go_simp <;> with_reducible rfl
  case hQ115 => exact fun _ _ _ h => h
  try simp only [Act.put, List.setIfInBounds_toArray, List.set_cons_zero, List.set_cons_succ]
  refine take_at 12 34 (oi := ?o116) (v := ?v116) ?hi116 ?hd116 (by kernel_rfl) (by kernel_rfl) (by kernel_rfl) ?hQ116 ?hw116 ?hy116 (by assumption) ?rest116
  case hi116 => simp only [List.getElem?_toArray, List.getElem?_cons_succ, List.getElem?_cons_zero]; rfl
  case hd116 => rfl
  case hw116 => kernel_rfl
  case hy116 => intro W hW; (try dsimp only at hW); go_simp <;> with_reducible rfl
  case hQ116 => exact fun _ _ _ h => h
  try simp only [Act.put, List.setIfInBounds_toArray, List.set_cons_zero, List.set_cons_succ]
  refine take_at 13 35 (oi := ?o117) (v := ?v117) ?hi117 ?hd117 (by kernel_rfl) (by kernel_rfl) (by kernel_rfl) ?hQ117 ?hw117 ?hy117 (by assumption) ?rest117
  case hi117 => simp only [List.getElem?_toArray, List.getElem?_cons_succ, List.getElem?_cons_zero]; rfl
  case hd117 => rfl
  case hw117 => kernel_rfl
  case hy117 => intro W hW; (try dsimp only at hW); go_simp <;> with_reducible rfl
  case hQ117 => exact fun _ _ _ h => h
  try simp only [Act.put, List.setIfInBounds_toArray, List.set_cons_zero, List.set_cons_succ]
  refine take_at 14 36 (oi := ?o118) (v := ?v118) ?hi118 ?hd118 (by kernel_rfl) (by kernel_rfl) (by kernel_rfl) ?hQ118 ?hw118 ?hy118 (by assumption) ?rest118
  case hi118 => simp only [List.getElem?_toArray, List.getElem?_cons_succ, List.getElem?_cons_zero]; rfl
  case hd118 => rfl
  case hw118 => kernel_rfl
  case hy118 => intro W hW; (try dsimp only at hW); go_simp <;> with_reducible rfl
  case hQ118 => exact fun _ _ _ h => h
  try simp only [Act.put, List.setIfInBounds_toArray, List.set_cons_zero, List.set_cons_succ]
  refine take_at 15 37 (oi := ?o119) (v := ?v119) ?hi119 ?hd119 (by kernel_rfl) (by kernel_rfl) (by kernel_rfl) ?hQ119 ?hw119 ?hy119 (by assumption) ?rest119
  case hi119 => simp only [List.getElem?_toArray, List.getElem?_cons_succ, List.getElem?_cons_zero]; rfl
  case hd119 => rfl
  case hw119 => kernel_rfl
  case hy119 => intro W hW; (try dsimp only at hW); go_simp <;> with_reducible rfl
  case hQ119 => exact fun _ _ _ h => h
  try simp only [Act.put, List.setIfInBounds_toArray, List.set_cons_zero, List.set_cons_succ]
  refine take_at 16 38 (oi := ?o120) (v := ?v120) ?hi120 ?hd120 (by kernel_rfl) (by kernel_rfl) (by kernel_rfl) ?hQ120 ?hw120 ?hy120 (by assumption) ?rest120
  case hi120 => simp only [List.getElem?_toArray, List.getElem?_cons_succ, List.getElem?_cons_zero]; rfl
  case hd120 => rfl
  case hw120 => kernel_rfl
  case hy120 => intro W hW; (try dsimp only at hW); go_simp <;> with_reducible rfl
  case hQ120 => exact fun _ _ _ h => h
  try simp only [Act.put, List.setIfInBounds_toArray, List.set_cons_zero, List.set_cons_succ]
  refine take_at 17 39 (oi := ?o121) (v := ?v121) ?hi121 ?hd121 (by kernel_rfl) (by kernel_rfl) (by kernel_rfl) ?hQ121 ?hw121 ?hy121 (by assumption) ?rest121
  case hi121 => simp only [List.getElem?_toArray, List.getElem?_cons_succ, List.getElem?_cons_zero]; rfl
  case hd121 => rfl
  case hw121 => kernel_rfl
  case hy121 => intro W hW; (try dsimp only at hW); go_simp <;> with_reducible rfl
  case hQ121 => exact fun _ _ _ h => h
  try simp only [Act.put, List.setIfInBounds_toArray, List.set_cons_zero, List.set_cons_succ]
  refine take_at 18 40 (oi := ?o122) (v := ?v122) ?hi122 ?hd122 (by kernel_rfl) (by kernel_rfl) (by kernel_rfl) ?hQ122 ?hw122 ?hy122 (by assumption) ?rest122
  case hi122 => simp only [List.getElem?_toArray, List.getElem?_cons_succ, List.getElem?_cons_zero]; rfl
  case hd122 => rfl
  case hw122 => kernel_rfl
  case hy122 => intro W hW; (try dsimp only at hW); go_simp <;> with_reducible rfl
  case hQ122 => exact fun _ _ _ h => h
  try simp only [Act.put, List.setIfInBounds_toArray, List.set_cons_zero, List.set_cons_succ]
  refine take_at 19 41 (oi := ?o123) (v := ?v123) ?hi123 ?hd123 (by kernel_rfl) (by kernel_rfl) (by kernel_rfl) ?hQ123 ?hw123 ?hy123 (by assumption) ?rest123
  case hi123 => simp only [List.getElem?_toArray, List.getElem?_cons_succ, List.getElem?_cons_zero]; rfl
  case hd123 => rfl
  case hw123 => kernel_rfl
  case hy123 => intro W hW; (try dsimp only at hW); go_simp <;> with_reducible rfl
  case hQ123 => exact fun _ _ _ h => h
  try simp only [Act.put, List.setIfInBounds_toArray, List.set_cons_zero, List.set_cons_succ]
  refine take_at 20 42 (oi := ?o124) (v := ?v124) ?hi124 ?hd124 (by kernel_rfl) (by kernel_rfl) (by kernel_rfl) ?hQ124 ?hw124 ?hy124 (by assumption) ?rest124
  case hi124 => simp only [List.getElem?_toArray, List.getElem?_cons_succ, List.getElem?_cons_zero]; rfl
  case hd124 => rfl
  case hw124 => kernel_rfl
  case hy124 => intro W hW; (try dsimp only at hW); go_simp <;> with_reducible rfl
  case hQ124 => exact fun _ _ _ h => h
  try simp only [Act.put, List.setIfInBounds_toArray, List.set_cons_zero, List.set_cons_succ]
  refine take_at 21 43 (oi := ?o125) (v := ?v125) ?hi125 ?hd125 (by kernel_rfl) (by kernel_rfl) (by kernel_rfl) ?hQ125 ?hw125 ?hy125 (by assumption) ?rest125
  case hi125 => simp only [List.getElem?_toArray, List.getElem?_cons_succ, List.getElem?_cons_zero]; rfl
  case hd125 => rfl
  case hw125 => kernel_rfl
  case hy125 => intro W hW; (try dsimp only at hW); go_simp <;> with_reducible rfl
  case hQ125 => exact fun _ _ _ h => h
  try simp only [Act.put, List.setIfInBounds_toArray, List.set_cons_zero, List.set_cons_succ]
  refine take_at 22 44 (oi := ?o126) (v := ?v126) ?hi126 ?hd126 (by kernel_rfl) (by kernel_rfl) (by kernel_rfl) ?hQ126 ?hw126 ?hy126 (by assumption) ?rest126
  case hi126 => simp only [List.getElem?_toArray, List.getElem?_cons_succ, List.getElem?_cons_zero]; rfl
  case hd126 => rfl
  case hw126 => kernel_rfl
  case hy126 => intro W hW; (try dsimp only at hW); go_simp <;> with_reducible rfl
  case hQ126 => exact fun _ _ _ h => h
  try simp only [Act.put, List.setIfInBounds_toArray, List.set_cons_zero, List.set_cons_succ]
  refine take_at 23 45 (oi := ?o127) (v := ?v127) ?hi127 ?hd127 (by kernel_rfl) (by kernel_rfl) (by kernel_rfl) ?hQ127 ?hw127 ?hy127 (by assumption) ?rest127
  case hi127 => simp only [List.getElem?_toArray, List.getElem?_cons_succ, List.getElem?_cons_zero]; rfl
  case hd127 => rfl
  case hw127 => kernel_rfl
  case hy127 => intro W hW; (try dsimp only at hW); go_simp <;> with_reducible rfl
  case hQ127 => exact fun _ _ _ h => h
  try simp only [Act.put, List.setIfInBounds_toArray, List.set_cons_zero, List.set_cons_succ]
  refine take_at 24 46 (oi := ?o128) (v := ?v128) ?hi128 ?hd128 (by kernel_rfl) (by kernel_rfl) (by kernel_rfl) ?hQ128 ?hw128 ?hy128 (by assumption) ?rest128
  case hi128 => simp only [List.getElem?_toArray, List.getElem?_cons_succ, List.getElem?_cons_zero]; rfl
  case hd128 => rfl
  case hw128 => kernel_rfl
  case hy128 => intro W hW; (try dsimp only at hW); go_simp <;> with_reducible rfl
  case hQ128 => exact fun _ _ _ h => h
  try simp only [Act.put, List.setIfInBounds_toArray, List.set_cons_zero, List.set_cons_succ]
  refine take_at 25 47 (oi := ?o129) (v := ?v129) ?hi129 ?hd129 (by kernel_rfl) (by kernel_rfl) (by kernel_rfl) ?hQ129 ?hw129 ?hy129 (by assumption) ?rest129
  case hi129 => simp only [List.getElem?_toArray, List.getElem?_cons_succ, List.getElem?_cons_zero]; rfl
  case hd129 => rfl
  case hw129 => kernel_rfl
  case hy129 => intro W hW; (try dsimp only at hW); go_simp <;> with_reducible rfl
  case hQ129 => exact fun _ _ _ h => h
  try simp only [Act.put, List.setIfInBounds_toArray, List.set_cons_zero, List.set_cons_succ]
  refine take_at 26 48 (oi := ?o130) (v := ?v130) ?hi130 ?hd130 (by kernel_rfl) (by kernel_rfl) (by kernel_rfl) ?hQ130 ?hw130 ?hy130 (by assumption) ?rest130
  case hi130 => simp only [List.getElem?_toArray, List.getElem?_cons_succ, List.getElem?_cons_zero]; rfl
  case hd130 => rfl
  case hw130 => kernel_rfl
  case hy130 => intro W hW; (try dsimp only at hW); go_simp <;> with_reducible rfl
  case hQ130 => exact fun _ _ _ h => h
  try simp only [Act.put, List.setIfInBounds_toArray, List.set_cons_zero, List.set_cons_succ]
  refine wpAnyH_done (by kernel_rfl) ?_ _
  simp only [Exit.then]
  go_wp2_with (first
    | (go_at_call 43; refine (DSum_any m _ hm).mono ?_; rintro e w3 ⟨rfl, hb3⟩; rw [HD.out]
       have hs3 : w3.heap[w.heap.size + 1]? = some (.cells #[.int .i64 (i : Int), .slice sa b sc, .slice ha b hc, .slice ra h rc] 34) := (hb3.block _ (lt_of Hs2.out)).trans Hs2.out
       have hk3 : w3.heap[w.heap.size]? = some (.cells #[.int .i64 (b : Int), .int .i64 (h : Int)] 23) := (hb3.block _ (lt_of Hk2.out)).trans Hk2.out
       obtain ⟨m0, m1⟩ := key_cells hk3
       have HS3 := Lib.hid hs3
       have HB3 := Lib.hid (HB2.out.next hb3)
       clear hb3 hs3 hk3))
  go_loopw [11, 53] (fun v n wr => ∃ k : Nat, k ≤ b ∧ n = .int .i64 k ∧ wr.ownsRow (w.heap.size + 2) 9 1 v (2 * k) ((partsOf d S H k).map vS) ∧ wr.heap[w.heap.size + 1]? = some (.cells #[.int .i64 (i : Int), .slice sa b sc, .slice ha b hc, .slice ra h rc] 34) ∧ Below w.heap.size w wr) (fun _ n _ => b - (intOf n).toNat)
  case atStart => exact ⟨0, by omega, rfl, World.ownsRow_nil _ _ _ _, HS3.out, HB3.out⟩
  case round =>
    obtain ⟨k, hk, rfl, hO, hs, hB⟩ := hrel
    clear m0 m1 HS3 HB3 Hs2 Hk2 HB2 hHeld HS1 HK1 Hb1
    have HO := Lib.hid hO
    have HSg := Lib.hid hs
    have HB := Lib.hid hB
    clear hO hs hB
    by_cases hlt : k < b
    · obtain ⟨sb, so, sc', hv1, hb1, hc1⟩ := (HS.out.below HB.out).text HLS.out hlt
      obtain ⟨hb', ho, hc', hv2, hb2, hc2⟩ := (HH.out.below HB.out).text HLH.out hlt
      simp only [Value.slice.injEq, true_and] at hv1 hv2
      obtain ⟨rfl, rfl⟩ := hv1
      obtain ⟨rfl, rfl⟩ := hv2
      obtain ⟨x, hx⟩ : ∃ x, S.getD k [] = x := ⟨_, rfl⟩
      obtain ⟨y, hy⟩ : ∃ y, H.getD k [] = y := ⟨_, rfl⟩
      rw [hx] at hc1
      rw [hy] at hc2
      have hx32 : x.length = 32 := by rw [← hx]; exact getD_32 HS32.out (by rw [HLS.out]; exact hlt)
      have Hx := Lib.hid hx
      have Hy := Lib.hid hy
      obtain ⟨s0, s1, s2, s3⟩ := sig_cells HSg.out
      have hkb : (k : Int) < (b : Int) := by omega
      clear hx hy
      have hz := lt_of HSg.out
      go_wp2
      go_region_held3 (fun W => (W.cell? ⟨w.heap.size + 1, 2, none⟩ = some (.slice (some ⟨hb', ho, none⟩) b hc)) ∧ W.cell? ⟨hb', ho + k, none⟩ = some (.string (B y)))
        (first | go_keep) (fail)
      obtain ⟨P, hP⟩ : ∃ P, wr.heap.size = P := ⟨_, rfl⟩
      obtain ⟨W, hW⟩ : ∃ W, (wr.alloc (.cells #[.string (B y), .string (B y)] 68)).drew = W := ⟨_, rfl⟩
      have hWP : W.heap[P]? = some (.cells #[.string (B y), .string (B y)] 68) := by rw [← hW, ← hP]; exact new_of wr _
      have hWr : ∀ q, q < wr.heap.size → W.heap[q]? = wr.heap[q]? := fun q hq => by rw [← hW]; exact Below.heap_alloc _ _ _ hq
      have hWz : wr.heap.size < W.heap.size := by rw [← hW]; simp [World.drew]
      have hBW : Below w.heap.size w W := by rw [← hW]; exact dr (HB.out.alloc HB.out.size _)
      rw [hW, hP]
      have hsW := (hWr _ (lt_of HSg.out)).trans HSg.out
      have y1 := (sig_cells hsW).2.1
      have x1 : W.cell? ⟨sb, so + k, none⟩ = some (.string (B x)) := (World.cell?_of_block (w := wr) (hWr sb hb1)).trans hc1
      have hsbW : sb < W.heap.size := by omega
      have hsbP : sb ≠ P := by omega
      have hzP : w.heap.size + 2 ≤ P := by omega
      have hPW : P < W.heap.size := by omega
      have htW := ht.same hBW
      have HTW := Lib.hid htW
      have HP := Lib.hid hWP
      have HWr := Lib.hid (show ∀ q, q < P → W.heap[q]? = wr.heap[q]? by rw [← hP]; exact hWr)
      have HBW := Lib.hid hBW
      have HSW := Lib.hid hsW
      have HPw := Lib.hid hP
      obtain ⟨c, hc⟩ : ∃ c, bitOf d k = c := ⟨_, rfl⟩
      have hc2' : c < 2 := by rw [← hc]; exact bitOf_lt d k
      have HC := Lib.hid hc
      have HVal := Lib.hid (fun W' => value_any d k W' hdl (by omega))
      rw [hc] at HVal
      clear hW hWP hWr hBW hsW htW hc hc1 hc2 s0 s1 s2 s3 hz
      have hzw : wr.heap.size ≤ W.heap.size := by omega
      have hc01 : c = 0 ∨ c = 1 := by omega
      go_wp2
      rcases hc01 with rfl | rfl
      · have hpb : pairB d S H k = [pubB x, y] := by unfold pairB; rw [HC.out, Hx.out, Hy.out]; rfl
        go_region_held3 (fun W => (W.cell? ⟨w.heap.size + 1, 1, none⟩ = some (.slice (some ⟨sb, so, none⟩) b sc)) ∧ W.cell? ⟨sb, so + k, none⟩ = some (.string (B x)))
          (first | go_keep | (exact HS5.out _))
          (first
            | (go_at_call 45; refine (HVal.out _).mono ?_; rintro e w4 ⟨rfl, rfl⟩)
            | (go_at_call 44; refine (public_any x _ (max32 hx32) (HTW.out.drew)).mono ?_; rintro e w5 ⟨rfl, hb5⟩
               have hb5' : Below W.heap.size W w5 := undrew hb5
               have hp5 := (hb5'.block _ (lt_of HP.out)).trans HP.out
               have t0 := (key_cells hp5).1
               have t1 := (key_cells hp5).2
               have f0 : w5.frozen? ⟨P, 0, none⟩ = false := free_of hp5 0
               have f1 : w5.frozen? ⟨P, 1, none⟩ = false := free_of hp5 1
               have hs5 := (hb5'.block _ (lt_of HSW.out)).trans HSW.out
               have u1 := (sig_cells hs5).2.1
               have u2 := (hb5'.cell (p := ⟨sb, so + k, none⟩) hsbW).trans x1
               have HS5 := Lib.hid (show ∀ z : Value, (fun W : World => (W.cell? ⟨w.heap.size + 1, 1, none⟩ = some (.slice (some ⟨sb, so, none⟩) b sc)) ∧ W.cell? ⟨sb, so + k, none⟩ = some (.string (B x))) (w5.setCell ⟨P, 0, none⟩ z) from fun z => ⟨(World.cell?_setCell_far w5 ⟨P, 0, none⟩ _ z (by show P ≠ w.heap.size + 1; omega)).trans u1, (World.cell?_setCell_far w5 ⟨P, 0, none⟩ _ z (by show P ≠ sb; omega)).trans u2⟩)
               have HP5 := Lib.hid hp5
               have HSg5 := Lib.hid hs5
               have HB5 := Lib.hid hb5'
               clear hb5 hb5' hp5 hs5))
        all_goals
          obtain ⟨w6, h6⟩ : ∃ w6, w5.setCell ⟨P, 0, none⟩ (.string (B (pubB x))) = w6 := ⟨_, rfl⟩
          rw [h6]
          have hK6 : Kept (Licit.One P) w5 w6 := h6 ▸ kept_set P 0 w5 _
          have hP6 : w6.heap[P]? = some (.cells #[vS (pubB x), vS y] 68) := h6 ▸ set_of HP5.out 0 _
          have hO6 : w6.ownsRow (w.heap.size + 2) 9 1 u11 (2 * k) ((partsOf d S H k).map vS) := own_at HO.out (fun q hq => by
            have hq1 : q < P := by have := own_lt HO.out hq; have := HPw.out; omega
            exact (hK6.block q (by have := HB5.out.size; omega) (fun e => by have : q = P := e; omega)).trans ((HB5.out.block q (by omega)).trans (HWr.out q hq1)))
          have hs6 := (hK6.block _ (lt_of HSg5.out) (fun e => by have : w.heap.size + 1 = P := e; omega)).trans HSg5.out
          have HB6 := Lib.hid ((HBW.out.next HB5.out).trans (hK6.below (by have := HB5.out.size; have := HBW.out.size; omega) (fun q hq e => by have : q = P := e; omega)))
          have HP6 := Lib.hid hP6
          have HO6 := Lib.hid hO6
          have HSg6 := Lib.hid hs6
          have HZ6 := Lib.hid (show w.heap.size + 2 ≤ w6.heap.size by have := hK6.size; have := HB5.out.size; omega)
          clear hK6 hP6 hO6 hs6 h6 t0 t1 f0 f1 u1 u2 x1
          simp only [Exit.then]
          go_wp2_with (first
            | (at_builtin
               refine wpList_append_own _ rfl _ _ 32 rfl (w.heap.size + 2) 9 i0 (.string ⟨#[]⟩) 1 16 Tryd.underlying32 Hi.out Hz0.out Hz1.out Hz2.out rfl (by decide) _ (2 * k) ((partsOf d S H k).map vS) rfl HO6.out ⟨P, 0, none⟩ 2 2 [vS (pubB x), vS y] rfl rfl (news_two HP6.out) (by simp [vS, Value.oneCell']) (by unfold maxLen; omega) (by omega) HZ6.out ?_
               intro v7 w7 ho7 hg7 _
               have ho7' : w7.ownsRow (w.heap.size + 2) 9 1 v7 (2 * (k + 1)) ((partsOf d S H (k + 1)).map vS) := by
                 rw [partsOf, hpb, List.map_append, show 2 * (k + 1) = 2 * k + 2 by omega]
                 exact ho7
               have hs7 := (hg7.block (w.heap.size + 1) (by have := HZ6.out; omega) (fun e => by have := (HO6.out.lt _ e.symm).1; omega)).trans HSg6.out
               have HO7 := Lib.hid ho7'
               have HSg7 := Lib.hid hs7
               have HB7 := Lib.hid (HB6.out.grown hg7 (by have := HB6.out.size; omega) (fun q hq => by have := (HO6.out.lt q hq).1; omega))
               clear ho7 ho7' hg7 hs7))
          go_roundw
          case rel => exact ⟨k + 1, by omega, by go_num, HO7.out, HSg7.out, HB7.out⟩
          case measure => simp [intOf]; omega
      · have hpb : pairB d S H k = [y, pubB x] := by unfold pairB; rw [HC.out, Hx.out, Hy.out]; rfl
        go_region_held3 (fun W => (W.cell? ⟨w.heap.size + 1, 1, none⟩ = some (.slice (some ⟨sb, so, none⟩) b sc)) ∧ W.cell? ⟨sb, so + k, none⟩ = some (.string (B x)))
          (first | go_keep | (exact HS5.out _))
          (first
            | (go_at_call 45; refine (HVal.out _).mono ?_; rintro e w4 ⟨rfl, rfl⟩)
            | (go_at_call 44; refine (public_any x _ (max32 hx32) (HTW.out.drew)).mono ?_; rintro e w5 ⟨rfl, hb5⟩
               have hb5' : Below W.heap.size W w5 := undrew hb5
               have hp5 := (hb5'.block _ (lt_of HP.out)).trans HP.out
               have t0 := (key_cells hp5).1
               have t1 := (key_cells hp5).2
               have f0 : w5.frozen? ⟨P, 0, none⟩ = false := free_of hp5 0
               have f1 : w5.frozen? ⟨P, 1, none⟩ = false := free_of hp5 1
               have hs5 := (hb5'.block _ (lt_of HSW.out)).trans HSW.out
               have u1 := (sig_cells hs5).2.1
               have u2 := (hb5'.cell (p := ⟨sb, so + k, none⟩) hsbW).trans x1
               have HS5 := Lib.hid (show ∀ z : Value, (fun W : World => (W.cell? ⟨w.heap.size + 1, 1, none⟩ = some (.slice (some ⟨sb, so, none⟩) b sc)) ∧ W.cell? ⟨sb, so + k, none⟩ = some (.string (B x))) (w5.setCell ⟨P, 1, none⟩ z) from fun z => ⟨(World.cell?_setCell_far w5 ⟨P, 1, none⟩ _ z (by show P ≠ w.heap.size + 1; omega)).trans u1, (World.cell?_setCell_far w5 ⟨P, 1, none⟩ _ z (by show P ≠ sb; omega)).trans u2⟩)
               have HP5 := Lib.hid hp5
               have HSg5 := Lib.hid hs5
               have HB5 := Lib.hid hb5'
               clear hb5 hb5' hp5 hs5))
        all_goals
          obtain ⟨w6, h6⟩ : ∃ w6, w5.setCell ⟨P, 1, none⟩ (.string (B (pubB x))) = w6 := ⟨_, rfl⟩
          rw [h6]
          have hK6 : Kept (Licit.One P) w5 w6 := h6 ▸ kept_set P 1 w5 _
          have hP6 : w6.heap[P]? = some (.cells #[vS y, vS (pubB x)] 68) := h6 ▸ set_of HP5.out 1 _
          have hO6 : w6.ownsRow (w.heap.size + 2) 9 1 u11 (2 * k) ((partsOf d S H k).map vS) := own_at HO.out (fun q hq => by
            have hq1 : q < P := by have := own_lt HO.out hq; have := HPw.out; omega
            exact (hK6.block q (by have := HB5.out.size; omega) (fun e => by have : q = P := e; omega)).trans ((HB5.out.block q (by omega)).trans (HWr.out q hq1)))
          have hs6 := (hK6.block _ (lt_of HSg5.out) (fun e => by have : w.heap.size + 1 = P := e; omega)).trans HSg5.out
          have HB6 := Lib.hid ((HBW.out.next HB5.out).trans (hK6.below (by have := HB5.out.size; have := HBW.out.size; omega) (fun q hq e => by have : q = P := e; omega)))
          have HP6 := Lib.hid hP6
          have HO6 := Lib.hid hO6
          have HSg6 := Lib.hid hs6
          have HZ6 := Lib.hid (show w.heap.size + 2 ≤ w6.heap.size by have := hK6.size; have := HB5.out.size; omega)
          clear hK6 hP6 hO6 hs6 h6 t0 t1 f0 f1 u1 u2 x1
          simp only [Exit.then]
          go_wp2_with (first
            | (at_builtin
               refine wpList_append_own _ rfl _ _ 32 rfl (w.heap.size + 2) 9 i0 (.string ⟨#[]⟩) 1 16 Tryd.underlying32 Hi.out Hz0.out Hz1.out Hz2.out rfl (by decide) _ (2 * k) ((partsOf d S H k).map vS) rfl HO6.out ⟨P, 0, none⟩ 2 2 [vS y, vS (pubB x)] rfl rfl (news_two HP6.out) (by simp [vS, Value.oneCell']) (by unfold maxLen; omega) (by omega) HZ6.out ?_
               intro v7 w7 ho7 hg7 _
               have ho7' : w7.ownsRow (w.heap.size + 2) 9 1 v7 (2 * (k + 1)) ((partsOf d S H (k + 1)).map vS) := by
                 rw [partsOf, hpb, List.map_append, show 2 * (k + 1) = 2 * k + 2 by omega]
                 exact ho7
               have hs7 := (hg7.block (w.heap.size + 1) (by have := HZ6.out; omega) (fun e => by have := (HO6.out.lt _ e.symm).1; omega)).trans HSg6.out
               have HO7 := Lib.hid ho7'
               have HSg7 := Lib.hid hs7
               have HB7 := Lib.hid (HB6.out.grown hg7 (by have := HB6.out.size; omega) (fun q hq => by have := (HO6.out.lt q hq).1; omega))
               clear ho7 ho7' hg7 hs7))
          go_roundw
          case rel => exact ⟨k + 1, by omega, by go_num, HO7.out, HSg7.out, HB7.out⟩
          case measure => simp [intOf]; omega
    · obtain rfl : k = b := by omega
      obtain ⟨pa, pc, rfl⟩ := own_form HO.out
      have hsl := IsSl.of_owns (xs := (partsOf d S H k).map vS) (by rw [List.length_map, partsOf_len]; exact HO.out) (by rw [List.length_map, partsOf_len]; unfold maxLen; omega)
      have htr := ht.same HB.out
      have HL := Lib.hid (leaf_any _ (partsOf d S H k) wr hsl (fun x hx => max32 (partsOf_32 HH32.out k (by rw [HLH.out]; exact Nat.le_refl _) x hx)) (by rw [partsOf_len]; omega) htr)
      obtain ⟨L, hL⟩ : ∃ L, leafB (partsOf d S H k) = L := ⟨_, rfl⟩
      have hL32 : L.length = 32 := by rw [← hL]; exact hsh_len _
      rw [hL] at HL Hr
      clear hsl hL
      go_wp2_with (first
        | (go_at_call 46; refine HL.out.mono ?_; rintro e w3' ⟨rfl, hb3⟩
           have hs4 := (hb3.block _ (lt_of HSg.out)).trans HSg.out
           obtain ⟨s0, s1, s2, s3⟩ := sig_cells hs4
           have HS4 := Lib.hid hs4
           have HB4 := Lib.hid (HB.out.next hb3)
           clear hb3 hs4))
      go_loopw [14, 86] (fun v n wx => ∃ j : Nat, j ≤ h ∧ n = .int .i64 j ∧ v = .string (B (climbN i R L j)) ∧ wx.heap[w.heap.size + 1]? = some (.cells #[.int .i64 (i : Int), .slice sa k sc, .slice ha k hc, .slice ra h rc] 34) ∧ Below w.heap.size w wx) (fun _ n _ => h - (intOf n).toNat)
      case atStart => exact ⟨0, by omega, rfl, rfl, HS4.out, HB4.out⟩
      case round =>
        obtain ⟨j, hj, rfl, rfl, hs, hB⟩ := hrel
        obtain ⟨s0', s1', s2', s3'⟩ := sig_cells hs
        have HSx := Lib.hid hs
        have HBx := Lib.hid hB
        have htx := ht.same hB
        clear s0 s1 s2 s3 HS4 HB4 hs hB
        obtain ⟨at_, hat⟩ : ∃ at_, climbN i R L j = at_ := ⟨_, rfl⟩
        have hat32 : at_.length = 32 := by rw [← hat]; exact climb_32 hL32 j
        have Hat := Lib.hid hat
        rw [hat]
        clear hat
        by_cases hlt : j < h
        · obtain ⟨rb, ro, rc', hv1, hb1, hc1⟩ := (HR.out.below HBx.out).text HLR.out hlt
          simp only [Value.slice.injEq, true_and] at hv1
          obtain ⟨rfl, rfl⟩ := hv1
          obtain ⟨x, hx⟩ : ∃ x, R.getD j [] = x := ⟨_, rfl⟩
          rw [hx] at hc1
          have hx32 : x.length = 32 := by rw [← hx]; exact getD_32 HR32.out (by rw [HLR.out]; exact hlt)
          obtain ⟨c, hc⟩ : ∃ c, i / 2 ^ j % 2 = c := ⟨_, rfl⟩
          have hc2 : c = 0 ∨ c = 1 := by omega
          have hand : bits BinOp.and IntKind.i64 ((i : Int) / 2 ^ j) 1 = (c : Int) := by rw [← hc]; exact and_two hi64
          have Hst := Lib.hid (show climbN i R L (j + 1) = (if c = 1 then nodeB x at_ else nodeB at_ x) by rw [climbN, stepB, Hat.out, hx, hc])
          have hjh : (j : Int) < (h : Int) := by omega
          have hN1 := Lib.hid (fun W' hT => Node_built x at_ (max32 hx32) (max32 hat32) W' hT)
          have hN2 := Lib.hid (fun W' hT => Node_built at_ x (max32 hat32) (max32 hx32) W' hT)
          clear hx hc
          rcases hc2 with rfl | rfl
          · go_wp2_with (first
              | (go_at_call 47; refine (hN2.out _ htx).mono ?_; rintro e w5 ⟨rfl, hb5⟩
                 have hs5 := (hb5.block _ (lt_of HSx.out)).trans HSx.out
                 have HS5 := Lib.hid hs5
                 have HB5 := Lib.hid (HBx.out.next hb5)
                 clear hb5 hs5))
            go_roundw
            case rel => exact ⟨j + 1, by omega, by go_num, by rw [Hst.out]; rfl, HS5.out, HB5.out⟩
            case measure => simp [intOf]; omega
          · go_wp2_with (first
              | (go_at_call 47; refine (hN1.out _ htx).mono ?_; rintro e w5 ⟨rfl, hb5⟩
                 have hs5 := (hb5.block _ (lt_of HSx.out)).trans HSx.out
                 have HS5 := Lib.hid hs5
                 have HB5 := Lib.hid (HBx.out.next hb5)
                 clear hb5 hs5))
            go_roundw
            case rel => exact ⟨j + 1, by omega, by go_num, by rw [Hst.out]; rfl, HS5.out, HB5.out⟩
            case measure => simp [intOf]; omega
        · obtain rfl : j = h := by omega
          rw [Hat.out] at Hr
          by_cases he : at_ = root
          · have hq : ((B at_).toList == (B root).toList) = true := by rw [he]; exact beqB_eq _
            have h0 := Hr.out
            rw [if_pos he] at h0
            have H0 := Lib.hid h0
            clear h0 he
            go_wp2
            go_ret
            rw [← H0.out]
            exact ⟨rfl, HBx.out⟩
          · have hq : ((B at_).toList == (B root).toList) = false := beqB_ne he
            have h0 := Hr.out
            rw [if_neg he] at h0
            have H0 := Lib.hid h0
            clear h0 he
            go_wp2
            go_ret
            rw [← H0.out]
            exact ⟨rfl, HBx.out⟩
end Go.Proofs.YtdkjehagkmkokaaDoor
