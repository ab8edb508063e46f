/- Of of the reference of mountain does what the plain function says. -/
import Derived.Test.YtfklmjcjjdliiaaDoorWkMt6
import Derived.Test.YtfklmjcjjdliiaaDoorFrmRange
namespace Go.Proofs.YtfklmjcjjdliiaaDoor
open Go Go.RowKit Licit

theorem sum2_take_succ : ∀ (hs : List Nat) (k h : Nat), hs[k]? = some h → sum2 (hs.take (k + 1)) = sum2 (hs.take k) + 2 ^ h ∧ sum2 (hs.take k) + 2 ^ h ≤ sum2 hs
  | [], _, _, hk => by simp at hk
  | a :: hs, 0, h, hk => by simp at hk; subst hk; simp [sum2]
  | a :: hs, k + 1, h, hk => by
    simp at hk
    have := sum2_take_succ hs k h hk
    simp only [List.take_succ_cons, sum2]
    omega
theorem peaks_snoc {l : List Bs} {k h : Nat} (hk : (hts l.length)[k]? = some h) : (peaksOf l).take (k + 1) = (peaksOf l).take k ++ [peakN h ((l.drop (sum2 ((hts l.length).take k))).take (2 ^ h))] := by
  have h1 := cutsL_get (hts l.length) l k h hk
  rw [List.take_add_one]
  congr 1
  unfold peaksOf
  rw [h1]
  rfl

set_option maxHeartbeats 8000000 in
set_option maxRecDepth 100000 in
theorem of_any (v : Value) (l : List Bs) (w : World) (h : IsSl v (l.map vS) w) (hcv : SlCap v) (hl : l.length ≤ 1024) (h32 : ∀ x ∈ l, x.length = 32) :
    Calls Tryd.prog 54 #[v] w fun e w' => ∃ v', e = .returned v' ∧ MtIs v' (l.length : Int) (peaksOf l) w' ∧ Below w.heap.size w w' := by
  obtain ⟨i0, hi, hz0, hz1, hz2⟩ := info_parts Tryd.infoStr
  have Hi := Lib.hid hi
  have Hz0 := Lib.hid hz0
  have Hz1 := Lib.hid hz1
  have Hz2 := Lib.hid hz2
  clear hi hz0 hz1 hz2
  have H := Lib.hid h
  have H32 := Lib.hid h32
  obtain ⟨a0, cap0, rfl⟩ := h.formMap
  have hcap : l.length ≤ cap0 := hcv
  have hHt := fun W => heights_any l.length W (by omega)
  have HHt := Lib.hid hHt
  obtain ⟨L, hL⟩ : ∃ L, (hts l.length).length = L := ⟨_, rfl⟩
  have HL := Lib.hid hL
  have hL21 : L ≤ 21 := by rw [← hL]; exact hts_len 21 _
  have hPl : (peaksOf l).length = L := by rw [peaksOf_len, hL]
  have HPl := Lib.hid hPl
  clear h hcv h32 hHt hL hPl
  go_enter Tryd.func54, Tryd.ntmps54
  go_wp2_with fail
  obtain ⟨W1, hW1⟩ : ∃ W1, (w.alloc (.cells #[.int .i64 0, .slice none 0 0] 31)).alloc (.cells #[.int .i64 (l.length : Int), .slice none 0 0] 31) = W1 := ⟨_, rfl⟩
  have hB1 : Below w.heap.size w W1 := by rw [← hW1]; exact ((Below.refl _ _).alloc (Nat.le_refl _) _).alloc (by simp) _
  have hR1 : W1.heap[w.heap.size]? = some (.cells #[.int .i64 0, .slice none 0 0] 31) := by rw [← hW1]; exact old_of (new_of _ _)
  have hX1 : W1.heap[w.heap.size + 1]? = some (.cells #[.int .i64 (l.length : Int), .slice none 0 0] 31) := by rw [← hW1]; exact new_at (by simp) rfl
  have hs1 : W1.heap.size = w.heap.size + 2 := by rw [← hW1]; simp
  first | rw [hW1] | skip
  refine (HHt.out W1).mono ?_
  rintro e w2 ⟨hv, rfl, hho, hb⟩
  rw [HL.out] at hho
  have HB2 := Lib.hid (hB1.next hb (by omega))
  have HR2 := Lib.hid ((hb.block _ (by omega)).trans hR1)
  have HX2 := Lib.hid ((hb.block _ (by omega)).trans hX1)
  have HH2 := Lib.hid hho
  have hs2 : w.heap.size + 2 ≤ w2.heap.size := by have := hb.size; omega
  obtain ⟨ha, hc, rfl⟩ := own_form hho
  clear hW1 hB1 hR1 hX1 hb hho HHt
  go_wp2
  go_loopw [5, 6] (fun atv i wr => ∃ (k F : Nat) (pa : Option Addr) (pc : Nat), k ≤ L ∧ i = .int .i64 (k : Int) ∧ atv = .int .i64 (F : Int) ∧ F = sum2 ((hts l.length).take k) ∧ wr.heap[w.heap.size + 1]? = some (.cells #[.int .i64 (l.length : Int), .slice pa k pc] 31) ∧
     wr.ownsRow w2.heap.size 9 1 (.slice pa k pc) k (((peaksOf l).take k).map vS) ∧ Kept (Licit.One (w.heap.size + 1)) w2 wr) (fun _ i _ => L - (intOf i).toNat)
  case atStart => exact ⟨0, 0, none, 0, by omega, rfl, rfl, by simp [sum2], HX2.out, World.ownsRow_nil _ _ _ _, Kept.refl _ _⟩
  case round =>
    obtain ⟨k, F, pa, pc, hk, rfl, rfl, hF, hx, ho, hK⟩ := hrel
    have HF := Lib.hid hF
    have HX := Lib.hid hx
    have HO := Lib.hid ho
    have HK := Lib.hid hK
    have hXz : w.heap.size + 1 < wr.heap.size := lt_of hx
    obtain ⟨c0, c1⟩ := mtC hx
    have hRr : wr.heap[w.heap.size]? = some (.cells #[.int .i64 0, .slice none 0 0] 31) := (hK.block _ (lt_of HR2.out) (fun e => by have : w.heap.size = w.heap.size + 1 := e; omega)).trans HR2.out
    have HR := Lib.hid hRr
    have hHr : wr.ownsRow W1.heap.size 3 1 (.slice ha L hc) L ((hts l.length).map vN) := ownsRow_block HH2.out (fun q hq hlt => hK.block q hlt (fun e => by have : q = w.heap.size + 1 := e; omega))
    have HHr := Lib.hid hHr
    have HBr := Lib.hid (HB2.out.trans (hK.below (by omega) (fun q hq e => by have : q = w.heap.size + 1 := e; omega)))
    clear hF hx ho hK hRr hHr
    by_cases hlt : k < L
    · obtain ⟨h, hh⟩ : ∃ h, (hts l.length)[k]? = some h := ⟨_, List.getElem?_eq_getElem (by rw [HL.out]; exact hlt)⟩
      obtain ⟨g, gc, hg, _, _, _⟩ := own_some HHr.out (by omega)
      simp only [Value.slice.injEq, true_and] at hg
      obtain ⟨rfl, rfl⟩ := hg
      have hcell : wr.cell? ⟨g, k, none⟩ = some (.int .i64 (h : Int)) := by
        rw [ownCell HHr.out (by rw [List.length_map, HL.out]; exact hlt), List.getElem?_map, hh]
        rfl
      obtain ⟨e1, e2⟩ := sum2_take_succ _ k h hh
      rw [← HF.out] at e1 e2
      rw [sum2_hts21 (show l.length < 2 ^ 21 by omega)] at e2
      have hps := peaks_snoc hh
      rw [← HF.out] at hps
      obtain ⟨p2, hp2⟩ : ∃ p2, 2 ^ h = p2 := ⟨_, rfl⟩
      rw [hp2] at e1 e2 hps
      have hp20 : 0 < p2 := by rw [← hp2]; exact Nat.two_pow_pos h
      have hh10 : h ≤ 10 := pow_le_1024 (show 2 ^ h ≤ l.length by omega) hl
      have hpi : (1 : Int) * 2 ^ h = (p2 : Int) := by rw [← hp2]; simp
      have hpi' : (2 : Int) ^ h = (p2 : Int) := by rw [← hp2]; simp
      have hw1 : IntKind.i64.wrap (p2 : Int) = (p2 : Int) := by rw [IntKind.wrap_i64]; omega
      have hw2 : IntKind.i64.wrap ((F : Int) + (p2 : Int)) = (F : Int) + (p2 : Int) := by rw [IntKind.wrap_i64]; omega
      have hcv : IntKind.u64.wrap (h : Int) = (h : Int) := by rw [IntKind.wrap_u64]; omega
      have hkm : min h 64 = h := by omega
      have hk64 : h ≤ 64 := by omega
      have hi1 : (F : Int) ≤ (F : Int) + (p2 : Int) := by omega
      have hi3 : (F : Int) + (p2 : Int) ≤ (cap0 : Int) := by omega
      have hi4 : (0 : Int) ≤ (F : Int) + (p2 : Int) := by omega
      have hn2 : ((F : Int) + (p2 : Int)).toNat = F + p2 := by omega
      have hn3 : F + p2 - F = p2 := by omega
      have hcf : ¬ cap0 = F := by omega
      obtain ⟨b, off, cap', hvv⟩ := sl_some H.out (by rw [List.length_map]; omega)
      rw [List.length_map] at hvv
      simp only [Value.slice.injEq, true_and] at hvv
      obtain ⟨rfl, rfl⟩ := hvv
      obtain ⟨z, hz'⟩ : ∃ z, peakN h ((l.drop F).take p2) = z := ⟨_, rfl⟩
      have HPk := Lib.hid (show ∀ Wc, Below w.heap.size w Wc → Gives 48 #[.slice (some ⟨b, off + F, none⟩) p2 (cap0 - F)] Wc (.string (B z)) from fun Wc hb => by
        rw [← hz']
        exact RPeak_any h (.slice (some ⟨b, off + F, none⟩) p2 (cap0 - F)) ((l.drop F).take p2) Wc (sl_part (H.out.below hb) rfl e2 hp20 _) (show p2 ≤ cap0 - F by omega) (by rw [List.length_take, List.length_drop, hp2]; omega) (by omega) (fun z hz => max32 (H32.out z (List.mem_of_mem_drop (List.mem_of_mem_take hz)))))
      rw [hz'] at hps
      have HPS := Lib.hid (show ((peaksOf l).take k).map vS ++ [vS z] = ((peaksOf l).take (k + 1)).map vS by rw [hps, List.map_append]; rfl)
      have HE1 := Lib.hid e1
      have hkl : k ≤ 21 := by omega
      have hbxx := HX.out
      clear hh hp2 hz' hps e1 e2
      go_wp2
      refine wp_region_held_drew (S := fun _ => True) (by kernel_rfl) trivial (fun hHeld => ?_)
      change wpAnyH _ _ _ _ _ _ _ _ wr.drew
      obtain ⟨Wd, hWd⟩ : ∃ Wd, wr.drew = Wd := ⟨_, rfl⟩
      have HWd := Lib.hid (show Below wr.heap.size wr Wd from hWd ▸ dr (Below.refl _ _))
      rw [hWd]
      clear hWd
      have Hbd := Lib.hid (below_heap HWd.out (lt_of HX.out) HX.out)
      refine take_at 0 26 (oi := ?o1) (v := ?v1) ?hi1 ?hd1 (by kernel_rfl) (by kernel_rfl) (by kernel_rfl) ?hQ1 ?hw1 ?hy1 (by assumption) ?rest1
      case hi1 => simp only [List.getElem?_toArray, List.getElem?_cons_zero]; rfl
      case hd1 => rfl
      case hw1 => kernel_rfl
      case hy1 => intro W hW; (try dsimp only at hW); go_simp <;> with_reducible rfl
      case hQ1 => exact fun _ _ _ h => h
      try simp only [Act.put, List.setIfInBounds_toArray, List.set_cons_zero, List.set_cons_succ]
      refine take_at 2 28 (oi := ?o2) (v := ?v2) ?hi2 ?hd2 (by kernel_rfl) (by kernel_rfl) (by kernel_rfl) ?hQ2 ?hw2 ?hy2 (by assumption) ?rest2
      case hi2 => simp only [List.getElem?_toArray, List.getElem?_cons_succ, List.getElem?_cons_zero]; rfl
      case hd2 => rfl
      case hw2 => kernel_rfl
      case hy2 => intro W hW; (try dsimp only at hW); go_simp <;> with_reducible rfl
      case hQ2 => exact fun _ _ _ h => h
      try simp only [Act.put, List.setIfInBounds_toArray, List.set_cons_zero, List.set_cons_succ]
      refine take_at 3 29 (oi := ?o3) (v := ?v3) ?hi3 ?hd3 (by kernel_rfl) (by kernel_rfl) (by kernel_rfl) ?hQ3 ?hw3 ?hy3 (by assumption) ?rest3
      case hi3 => simp only [List.getElem?_toArray, List.getElem?_cons_succ, List.getElem?_cons_zero]; rfl
      case hd3 => rfl
      case hw3 => kernel_rfl
      case hy3 => intro W hW; (try dsimp only at hW); go_simp <;> with_reducible rfl
      case hQ3 => exact fun _ _ _ h => h
      try simp only [Act.put, List.setIfInBounds_toArray, List.set_cons_zero, List.set_cons_succ]
      refine take_at 4 30 (oi := ?o4) (v := ?v4) ?hi4 ?hd4 (by kernel_rfl) (by kernel_rfl) (by kernel_rfl) ?hQ4 ?hw4 ?hy4 (by assumption) ?rest4
      case hi4 => simp only [List.getElem?_toArray, List.getElem?_cons_succ, List.getElem?_cons_zero]; rfl
      case hd4 => rfl
      case hw4 => kernel_rfl
      case hy4 => intro W hW; (try dsimp only at hW); go_simp <;> with_reducible rfl
      case hQ4 => exact fun _ _ _ h => h
      try simp only [Act.put, List.setIfInBounds_toArray, List.set_cons_zero, List.set_cons_succ]
      refine take_at 5 31 (oi := ?o5) (v := ?v5) ?hi5 ?hd5 (by kernel_rfl) (by kernel_rfl) (by kernel_rfl) ?hQ5 ?hw5 ?hy5 (by assumption) ?rest5
      case hi5 => simp only [List.getElem?_toArray, List.getElem?_cons_succ, List.getElem?_cons_zero]; rfl
      case hd5 => rfl
      case hw5 => kernel_rfl
      case hy5 => intro W hW; (try dsimp only at hW); go_simp <;> with_reducible rfl
      case hQ5 => exact fun _ _ _ h => h
      try simp only [Act.put, List.setIfInBounds_toArray, List.set_cons_zero, List.set_cons_succ]
      refine take_at 6 32 (oi := ?o6) (v := ?v6) ?hi6 ?hd6 (by kernel_rfl) (by kernel_rfl) (by kernel_rfl) ?hQ6 ?hw6 ?hy6 (by assumption) ?rest6
      case hi6 => simp only [List.getElem?_toArray, List.getElem?_cons_succ, List.getElem?_cons_zero]; rfl
      case hd6 => rfl
      case hw6 => kernel_rfl
      case hy6 => intro W hW; (try dsimp only at hW); go_simp <;> with_reducible rfl
      case hQ6 => exact fun _ _ _ h => h
      try simp only [Act.put, List.setIfInBounds_toArray, List.set_cons_zero, List.set_cons_succ]
      refine take_at 7 33 (oi := ?o7) (v := ?v7) ?hi7 ?hd7 (by kernel_rfl) (by kernel_rfl) (by kernel_rfl) ?hQ7 ?hw7 ?hy7 (by assumption) ?rest7
      case hi7 => simp only [List.getElem?_toArray, List.getElem?_cons_succ, List.getElem?_cons_zero]; rfl
      case hd7 => rfl
      case hw7 => kernel_rfl
      case hy7 => intro W hW; (try dsimp only at hW); go_simp <;> with_reducible rfl
      case hQ7 => exact fun _ _ _ h => h
      try simp only [Act.put, List.setIfInBounds_toArray, List.set_cons_zero, List.set_cons_succ]
      refine wpAnyH_ready (rs := [1, 8]) (by kernel_rfl) (by simp) ?_
      refine AllReadyH.cons rfl (fun K hK => ?_) ?_
      · skip
        have hcb := cell_of Hbd.out 1
        go_simp
        clear hcb
        refine hK.out _ _ trivial (fun hHeld => ?_)
        clear hK K
        try simp only [Act.put, List.setIfInBounds_toArray, List.set_cons_zero, List.set_cons_succ]
        refine wpAnyH_ready (rs := [8]) (by kernel_rfl) (by simp) ?_
        refine AllReadyH.cons rfl (fun K hK => ?_) AllReadyH.nil
        go_simp
        refine (HPk.out _ (HBr.out.next HWd.out)).mono ?_
        rintro e W8 ⟨rfl, hb8⟩
        have HW8 := Lib.hid (HWd.out.next hb8)
        clear hb8
        have Hb8 := Lib.hid (below_heap HW8.out (lt_of HX.out) HX.out)
        refine hK.out _ _ trivial (fun hHeld => ?_)
        clear hK K
        try simp only [Act.put, List.setIfInBounds_toArray, List.set_cons_zero, List.set_cons_succ]
        refine wpAnyH_ready (rs := [9]) (by kernel_rfl) (by simp) ?_
        refine AllReadyH.cons rfl (fun K hK => ?_) AllReadyH.nil
        go_simp
        obtain ⟨W9, h9⟩ : ∃ W9, W8.alloc (.cells #[.string (B z)] 9) = W9 := ⟨_, rfl⟩
        rw [h9]
        have HW9 := Lib.hid (show Below wr.heap.size wr W9 from h9 ▸ HW8.out.alloc HW8.out.size _)
        have Hb9 := Lib.hid (below_heap HW9.out (lt_of HX.out) HX.out)
        have Hn9 := Lib.hid (show W9.heap[W8.heap.size]? = some (.cells #[.string (B z)] 9) from h9 ▸ new_of _ _)
        clear h9
        refine hK.out _ _ trivial (fun hHeld => ?_)
        clear hK K
        try simp only [Act.put, List.setIfInBounds_toArray, List.set_cons_zero, List.set_cons_succ]
        refine wpAnyH_ready (rs := [10]) (by kernel_rfl) (by simp) ?_
        refine AllReadyH.cons rfl (fun K hK => ?_) AllReadyH.nil
        refine step_append_own rfl _ _ 22 rfl w2.heap.size 9 i0 (.string ⟨#[]⟩) 1 16 Tryd.underlying22 Hi.out Hz0.out Hz1.out Hz2.out rfl (by decide) (.slice pa k pc) k (((peaksOf l).take k).map vS) rfl (ownsRow_block HO.out (fun q _ hq => HW9.out.block q hq)) ⟨W8.heap.size, 0, none⟩ 1 1 [vS z] rfl rfl (news_one Hn9.out) (by simp [vS, Value.oneCell']) (by unfold maxLen; omega) (by omega) (Nat.le_trans HK.out.size HW9.out.size) ?_
        intro v3 W10 ho3 hg3 _
        have ho9 := ownsRow_block HO.out (fun q _ hq => HW9.out.block q hq)
        have hown := fun q hq => (ho9.lt q hq).1
        have Hb10 := Lib.hid ((hg3.block _ (lt_of Hb9.out) (fun e => by have := hown _ e.symm; omega)).trans Hb9.out)
        have HK10 := Lib.hid ((HK.out.trans (Kept.of_below HW9.out)).grown hg3 (fun q hq => .inl (hown q hq)))
        rw [HPS.out] at ho3
        have HR10 := Lib.hid ho3
        obtain ⟨a3, c3, rfl⟩ := own_form ho3
        clear ho3 hg3 ho9 hown
        refine hK.out _ _ trivial (fun hHeld => ?_)
        clear hK K
        try simp only [Act.put, List.setIfInBounds_toArray]
        refine take_at 11 37 (oi := ?o8) (v := ?v8) ?hi8 ?hd8 (by kernel_rfl) (by kernel_rfl) (by kernel_rfl) ?hQ8 ?hw8 ?hy8 (by assumption) ?rest8
        case hi8 => simp only [List.getElem?_toArray, List.getElem?_cons_succ, List.getElem?_cons_zero]; rfl
        case hd8 => rfl
        case hw8 => kernel_rfl
        case hy8 => intro W hW; (try dsimp only at hW); go_simp <;> with_reducible rfl
        case hQ8 => exact fun _ _ _ h => h
        try simp only [Act.put]
        refine wpAnyH_ready (rs := [12]) (by kernel_rfl) (by simp) ?_
        refine AllReadyH.cons rfl (fun K hK => ?_) AllReadyH.nil
        refine step_store_one rfl 22 _ _ rfl (w.heap.size + 1) 1 rfl (.slice a3 (k + 1) c3) rfl (own_cells HR10.out) (own_oneCell HR10.out) _ _ Hb10.out (by simp) (by kernel_rfl) ?_
        intro W11 hb11 hk11
        have HK11 := Lib.hid (HK10.out.trans (hk11.mono (fun _ _ e => e)))
        have HR11 := Lib.hid (ownsRow_block HR10.out (fun q hq hlt => hk11.block q hlt (fun e => by have : q = w.heap.size + 1 := e; omega)))
        have HX11 := Lib.hid hb11
        clear hb11 hk11
        refine hK.out _ _ trivial (fun hHeld => ?_)
        clear hK K
        try simp only [Act.put]
        refine wpAnyH_done (by kernel_rfl) ?_ _
        simp only [Exit.then]
        go_wp2
        go_roundw
        case rel => exact ⟨k + 1, F + p2, a3, c3, by omega, by go_num, by go_num, HE1.out.symm, HX11.out, HR11.out, HK11.out⟩
        case measure => simp [intOf]; omega
      refine AllReadyH.cons rfl (fun K hK => ?_) AllReadyH.nil
      go_simp
      refine (HPk.out _ (HBr.out.next HWd.out)).mono ?_
      rintro e W8 ⟨rfl, hb8⟩
      have HW8 := Lib.hid (HWd.out.next hb8)
      clear hb8
      have Hb8 := Lib.hid (below_heap HW8.out (lt_of HX.out) HX.out)
      refine hK.out _ _ trivial (fun hHeld => ?_)
      clear hK K
      try simp only [Act.put, List.setIfInBounds_toArray, List.set_cons_zero, List.set_cons_succ]
      refine wpAnyH_ready (rs := [1, 9]) (by kernel_rfl) (by simp) ?_
      refine AllReadyH.cons rfl (fun K hK => ?_) ?_
      · skip
        have hcb := cell_of Hb8.out 1
        go_simp
        clear hcb
        refine hK.out _ _ trivial (fun hHeld => ?_)
        clear hK K
        try simp only [Act.put, List.setIfInBounds_toArray, List.set_cons_zero, List.set_cons_succ]
        refine wpAnyH_ready (rs := [9]) (by kernel_rfl) (by simp) ?_
        refine AllReadyH.cons rfl (fun K hK => ?_) AllReadyH.nil
        go_simp
        obtain ⟨W9, h9⟩ : ∃ W9, W8.alloc (.cells #[.string (B z)] 9) = W9 := ⟨_, rfl⟩
        rw [h9]
        have HW9 := Lib.hid (show Below wr.heap.size wr W9 from h9 ▸ HW8.out.alloc HW8.out.size _)
        have Hb9 := Lib.hid (below_heap HW9.out (lt_of HX.out) HX.out)
        have Hn9 := Lib.hid (show W9.heap[W8.heap.size]? = some (.cells #[.string (B z)] 9) from h9 ▸ new_of _ _)
        clear h9
        refine hK.out _ _ trivial (fun hHeld => ?_)
        clear hK K
        try simp only [Act.put, List.setIfInBounds_toArray, List.set_cons_zero, List.set_cons_succ]
        refine wpAnyH_ready (rs := [10]) (by kernel_rfl) (by simp) ?_
        refine AllReadyH.cons rfl (fun K hK => ?_) AllReadyH.nil
        refine step_append_own rfl _ _ 22 rfl w2.heap.size 9 i0 (.string ⟨#[]⟩) 1 16 Tryd.underlying22 Hi.out Hz0.out Hz1.out Hz2.out rfl (by decide) (.slice pa k pc) k (((peaksOf l).take k).map vS) rfl (ownsRow_block HO.out (fun q _ hq => HW9.out.block q hq)) ⟨W8.heap.size, 0, none⟩ 1 1 [vS z] rfl rfl (news_one Hn9.out) (by simp [vS, Value.oneCell']) (by unfold maxLen; omega) (by omega) (Nat.le_trans HK.out.size HW9.out.size) ?_
        intro v3 W10 ho3 hg3 _
        have ho9 := ownsRow_block HO.out (fun q _ hq => HW9.out.block q hq)
        have hown := fun q hq => (ho9.lt q hq).1
        have Hb10 := Lib.hid ((hg3.block _ (lt_of Hb9.out) (fun e => by have := hown _ e.symm; omega)).trans Hb9.out)
        have HK10 := Lib.hid ((HK.out.trans (Kept.of_below HW9.out)).grown hg3 (fun q hq => .inl (hown q hq)))
        rw [HPS.out] at ho3
        have HR10 := Lib.hid ho3
        obtain ⟨a3, c3, rfl⟩ := own_form ho3
        clear ho3 hg3 ho9 hown
        refine hK.out _ _ trivial (fun hHeld => ?_)
        clear hK K
        try simp only [Act.put, List.setIfInBounds_toArray]
        refine take_at 11 37 (oi := ?o9) (v := ?v9) ?hi9 ?hd9 (by kernel_rfl) (by kernel_rfl) (by kernel_rfl) ?hQ9 ?hw9 ?hy9 (by assumption) ?rest9
        case hi9 => simp only [List.getElem?_toArray, List.getElem?_cons_succ, List.getElem?_cons_zero]; rfl
        case hd9 => rfl
        case hw9 => kernel_rfl
        case hy9 => intro W hW; (try dsimp only at hW); go_simp <;> with_reducible rfl
        case hQ9 => exact fun _ _ _ h => h
        try simp only [Act.put]
        refine wpAnyH_ready (rs := [12]) (by kernel_rfl) (by simp) ?_
        refine AllReadyH.cons rfl (fun K hK => ?_) AllReadyH.nil
        refine step_store_one rfl 22 _ _ rfl (w.heap.size + 1) 1 rfl (.slice a3 (k + 1) c3) rfl (own_cells HR10.out) (own_oneCell HR10.out) _ _ Hb10.out (by simp) (by kernel_rfl) ?_
        intro W11 hb11 hk11
        have HK11 := Lib.hid (HK10.out.trans (hk11.mono (fun _ _ e => e)))
        have HR11 := Lib.hid (ownsRow_block HR10.out (fun q hq hlt => hk11.block q hlt (fun e => by have : q = w.heap.size + 1 := e; omega)))
        have HX11 := Lib.hid hb11
        clear hb11 hk11
        refine hK.out _ _ trivial (fun hHeld => ?_)
        clear hK K
        try simp only [Act.put]
        refine wpAnyH_done (by kernel_rfl) ?_ _
        simp only [Exit.then]
        go_wp2
        go_roundw
        case rel => exact ⟨k + 1, F + p2, a3, c3, by omega, by go_num, by go_num, HE1.out.symm, HX11.out, HR11.out, HK11.out⟩
        case measure => simp [intOf]; omega
      refine AllReadyH.cons rfl (fun K hK => ?_) AllReadyH.nil
      go_simp
      obtain ⟨W9, h9⟩ : ∃ W9, W8.alloc (.cells #[.string (B z)] 9) = W9 := ⟨_, rfl⟩
      rw [h9]
      have HW9 := Lib.hid (show Below wr.heap.size wr W9 from h9 ▸ HW8.out.alloc HW8.out.size _)
      have Hb9 := Lib.hid (below_heap HW9.out (lt_of HX.out) HX.out)
      have Hn9 := Lib.hid (show W9.heap[W8.heap.size]? = some (.cells #[.string (B z)] 9) from h9 ▸ new_of _ _)
      clear h9
      refine hK.out _ _ trivial (fun hHeld => ?_)
      clear hK K
      try simp only [Act.put, List.setIfInBounds_toArray, List.set_cons_zero, List.set_cons_succ]
      refine wpAnyH_ready (rs := [1]) (by kernel_rfl) (by simp) ?_
      refine AllReadyH.cons rfl (fun K hK => ?_) AllReadyH.nil
      have hcb := cell_of Hb9.out 1
      go_simp
      clear hcb
      refine hK.out _ _ trivial (fun hHeld => ?_)
      clear hK K
      try simp only [Act.put, List.setIfInBounds_toArray, List.set_cons_zero, List.set_cons_succ]
      refine wpAnyH_ready (rs := [10]) (by kernel_rfl) (by simp) ?_
      refine AllReadyH.cons rfl (fun K hK => ?_) AllReadyH.nil
      refine step_append_own rfl _ _ 22 rfl w2.heap.size 9 i0 (.string ⟨#[]⟩) 1 16 Tryd.underlying22 Hi.out Hz0.out Hz1.out Hz2.out rfl (by decide) (.slice pa k pc) k (((peaksOf l).take k).map vS) rfl (ownsRow_block HO.out (fun q _ hq => HW9.out.block q hq)) ⟨W8.heap.size, 0, none⟩ 1 1 [vS z] rfl rfl (news_one Hn9.out) (by simp [vS, Value.oneCell']) (by unfold maxLen; omega) (by omega) (Nat.le_trans HK.out.size HW9.out.size) ?_
      intro v3 W10 ho3 hg3 _
      have ho9 := ownsRow_block HO.out (fun q _ hq => HW9.out.block q hq)
      have hown := fun q hq => (ho9.lt q hq).1
      have Hb10 := Lib.hid ((hg3.block _ (lt_of Hb9.out) (fun e => by have := hown _ e.symm; omega)).trans Hb9.out)
      have HK10 := Lib.hid ((HK.out.trans (Kept.of_below HW9.out)).grown hg3 (fun q hq => .inl (hown q hq)))
      rw [HPS.out] at ho3
      have HR10 := Lib.hid ho3
      obtain ⟨a3, c3, rfl⟩ := own_form ho3
      clear ho3 hg3 ho9 hown
      refine hK.out _ _ trivial (fun hHeld => ?_)
      clear hK K
      try simp only [Act.put, List.setIfInBounds_toArray]
      refine take_at 11 37 (oi := ?o10) (v := ?v10) ?hi10 ?hd10 (by kernel_rfl) (by kernel_rfl) (by kernel_rfl) ?hQ10 ?hw10 ?hy10 (by assumption) ?rest10
      case hi10 => simp only [List.getElem?_toArray, List.getElem?_cons_succ, List.getElem?_cons_zero]; rfl
      case hd10 => rfl
      case hw10 => kernel_rfl
      case hy10 => intro W hW; (try dsimp only at hW); go_simp <;> with_reducible rfl
      case hQ10 => exact fun _ _ _ h => h
      try simp only [Act.put]
      refine wpAnyH_ready (rs := [12]) (by kernel_rfl) (by simp) ?_
      refine AllReadyH.cons rfl (fun K hK => ?_) AllReadyH.nil
      refine step_store_one rfl 22 _ _ rfl (w.heap.size + 1) 1 rfl (.slice a3 (k + 1) c3) rfl (own_cells HR10.out) (own_oneCell HR10.out) _ _ Hb10.out (by simp) (by kernel_rfl) ?_
      intro W11 hb11 hk11
      have HK11 := Lib.hid (HK10.out.trans (hk11.mono (fun _ _ e => e)))
      have HR11 := Lib.hid (ownsRow_block HR10.out (fun q hq hlt => hk11.block q hlt (fun e => by have : q = w.heap.size + 1 := e; omega)))
      have HX11 := Lib.hid hb11
      clear hb11 hk11
      refine hK.out _ _ trivial (fun hHeld => ?_)
      clear hK K
      try simp only [Act.put]
      refine wpAnyH_done (by kernel_rfl) ?_ _
      simp only [Exit.then]
      go_wp2
      go_roundw
      case rel => exact ⟨k + 1, F + p2, a3, c3, by omega, by go_num, by go_num, HE1.out.symm, HX11.out, HR11.out, HK11.out⟩
      case measure => simp [intOf]; omega
    · obtain rfl : k = L := by omega
      have ho := HO.out
      rw [← HPl.out, List.take_length] at ho
      have hX := HX.out
      rw [← HPl.out] at hX
      have hR := HR.out
      obtain ⟨z0, z1⟩ := mtC hR
      have f0 := free_of hR 0
      have f1 := free_of hR 1
      have hww : w.heap.size < wr.heap.size := by omega
      have HO2 := Lib.hid ho
      clear ho hX hR
      go_wp2
      have hK := kept2 w.heap.size wr (.int .i64 (l.length : Int)) (.slice pa k pc)
      have hHO : wr.ownsRow w2.heap.size 9 1 (.slice pa k pc) ((peaksOf l).map vS).length ((peaksOf l).map vS) := by
        rw [List.length_map, HPl.out]
        have := HO2.out
        rw [HPl.out] at this
        exact this
      refine ret_whole (p := 2) (ty := 31) rfl w.heap.size 31 _ (0, 0) _ rfl (set_of (set_of HR.out 0 _) 1 _) Tryd.underlying31 rfl (by kernel_rfl) rfl ?_
      exact ⟨_, rfl, ⟨_, rfl, IsSl.of_owns (ownsRow_block hHO (fun q h1 h2 => hK.block q h2 (fun e => by have : q = w.heap.size := e; omega))) (by rw [List.length_map, HPl.out]; unfold maxLen; omega), NilOk.own hHO⟩, HBr.out.trans (hK.below HBr.out.size (fun q hq e => by have : q = w.heap.size := e; omega))⟩

set_option maxHeartbeats 4000000 in
set_option maxRecDepth 100000 in
theorem ROf_any (v : Value) (l : List Bs) (w : World) (h : IsSl v (l.map vS) w) (hcv : SlCap v) :
    Calls Tryd.prog 22 #[v] w fun e w' => ∃ v', e = .returned (.tuple #[v', .int .i64 (checkM l)]) ∧ MtIs v' (ofS l) (ofP l) w' ∧ Below w.heap.size w w' := by
  have hB1 : Below w.heap.size w (w.alloc (.cells #[.int .i64 0, .slice none 0 0] 31)) := (Below.refl _ _).alloc (Nat.le_refl _) _
  have HC := Lib.hid (fun W (hb : Below w.heap.size w W) => RCheck49_any v l W (h.below hb))
  have HO := Lib.hid (fun W (hb : Below w.heap.size w W) hl h32 => of_any v l W (h.below hb) hcv hl h32)
  have HB1 := Lib.hid hB1
  have HX1 := Lib.hid (new_of w (.cells #[.int .i64 0, .slice none 0 0] 31))
  obtain ⟨a0, cap0, rfl⟩ := h.formMap
  clear h hB1
  obtain ⟨C, hC⟩ : ∃ C, checkM l = C := ⟨_, rfl⟩
  rw [hC] at HC ⊢
  by_cases hc : C = 0
  rotate_left
  · have hs : ofS l = 0 := by unfold ofS; rw [hC, if_neg hc]
    have hp : ofP l = [] := by unfold ofP; rw [hC, if_neg hc]
    rw [hs, hp]
    have hcl : (C == 0) = false := by simpa using hc
    clear hC hs hp
    go_enter Tryd.func22, Tryd.ntmps22
    go_wp2_with fail
    refine (HC.out _ HB1.out).mono ?_
    rintro e w1 ⟨rfl, rfl⟩
    have hX := HX1.out
    obtain ⟨x0, x1⟩ := mtC hX
    have f0 := free_of hX 0
    have f1 := free_of hX 1
    clear hX
    go_wp2
    refine ret_whole2 (p := 2) (t' := 3) (ty := 31) rfl w.heap.size 31 _ (0, 0) _ rfl HX1.out Tryd.underlying31 rfl (by kernel_rfl) rfl ?_
    exact ⟨_, rfl, MtIs.nil _, HB1.out⟩
  subst hc
  obtain ⟨hl, h32⟩ := checkM_iff.1 hC
  have hs : ofS l = (l.length : Int) := by unfold ofS; rw [hC, if_pos rfl]
  have hp : ofP l = peaksOf l := by unfold ofP; rw [hC, if_pos rfl]
  rw [hs, hp]
  have HO2 := Lib.hid (HO.out _ HB1.out hl (all32_get h32))
  clear hC hs hp h32
  go_enter Tryd.func22, Tryd.ntmps22
  go_wp2_with fail
  refine (HC.out _ HB1.out).mono ?_
  rintro e w1 ⟨rfl, rfl⟩
  go_wp2_with fail
  refine HO2.out.mono ?_
  rintro e w3 ⟨v3, rfl, ⟨p3, rfl, hp3, hn3⟩, hb⟩
  obtain ⟨a3, c3, rfl⟩ := hp3.formMap
  have HB3 := Lib.hid (HB1.out.next hb)
  have HX3 := Lib.hid ((hb.block _ (lt_of HX1.out)).trans HX1.out)
  have HP3 := Lib.hid hp3
  have HN3 := Lib.hid hn3
  have hX := HX3.out
  obtain ⟨x0, x1⟩ := mtC hX
  have f0 := free_of hX 0
  have f1 := free_of hX 1
  have hww : w.heap.size < w3.heap.size := lt_of hX
  clear hX hp3 hn3 hb
  go_wp2
  have hK := kept2 w.heap.size w3 (.int .i64 (l.length : Int)) (.slice a3 (peaksOf l).length c3)
  refine ret_whole2 (p := 2) (t' := 3) (ty := 31) rfl w.heap.size 31 _ (0, 0) _ rfl (set_of (set_of HX3.out 0 _) 1 _) Tryd.underlying31 rfl (by kernel_rfl) rfl ?_
  exact ⟨_, rfl, ⟨_, rfl, isSl_mtSet (isSl_mtSet HP3.out HX3.out 0 _) (set_of HX3.out 0 _) 1 _, HN3.out⟩, HB3.out.trans (hK.below HB3.out.size (fun k hk e => by have : k = w.heap.size := e; omega))⟩
end Go.Proofs.YtfklmjcjjdliiaaDoor
