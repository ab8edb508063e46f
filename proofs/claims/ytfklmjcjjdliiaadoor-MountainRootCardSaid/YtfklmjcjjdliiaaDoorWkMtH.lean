/- Root and Encode of package mountain and of its reference do what the plain functions say. -/
import Derived.Test.YtfklmjcjjdliiaaDoorWkMt3
import Derived.Test.YtfklmjcjjdliiaaDoorWkMt9
import Derived.Deep.Cut
import Derived.Laws.AppendOwnNone
namespace Go.Proofs.YtfklmjcjjdliiaaDoor
open Go Go.RowKit Licit

theorem step_append_own_none {P : Program} {w : World} {K : Act → World → Prop} {Q : Exit → Act → World → Prop} {ops : Array Oper} {o : Oper} {a : Act} {E : Prop} (hgd : o.guard = none) (s x : Operand) (t : TypeId)
    (ho : o.op = .call { callee := .builtin .append, args := #[s, x], argTypes := #[t, t] })
    (base : Nat) (e : TypeId) (i : TypeInfo) (size : Nat) (ht : P.underlying t = some (.slice e)) (hi : P.info? e = some i)
    (v : Value) (n : Nat) (xs : List Value) (hs : a.eval s = v) (hown : w.ownsRow base e size v n xs) (hx : a.eval x = .slice none 0 0)
    (h : K (a.put o.dst v) w) : if Region.wanted o (yielded ops a.tmps) = true then Oper.wp P o a w K Q else E := by
  rw [if_pos (by simp [Region.wanted, hgd])]
  have hrun := run_append_owned_none (P := P) (w := w) base t o.type e i size ht hi v n xs hown
  unfold Oper.wp
  simp [execOp, ho, resolve, invoke, builtin, hs, hx, hrun, Result.andThen]
  exact h
/-- The digest and the bytes of a range. -/
theorem RVAL (v : Value) (s : Int) (P : List Bs) (w : World) (h : MtIs v s P w) :
    Calls Tryd.prog 31 #[v] w fun e w' => e = .returned (.int .i64 (validM s P)) ∧ Below w.heap.size w w' := RMtValid_any v s P w h
theorem PVAL (v : Value) (s : Int) (P : List Bs) (w : World) (h : MtIs v s P w) :
    Calls Tryd.prog 30 #[v] w fun e w' => e = .returned (.int .i64 (validM s P)) ∧ Below w.heap.size w w' := MtValid_any v s P w h
def rootT (s : Int) (P : List Bs) : Bs := if okM s P = true then hsh (kRange :: num s :: P) else []
def encT (s : Int) (P : List Bs) : Bs := if okM s P = true then num s ++ (eList eText P).1 else []
theorem num_few (n : Int) : (num n).length ≤ 65600 := by
  unfold num
  by_cases h : n ≤ 9223372036854775807
  · exact eNum_len n h
  · unfold eNum; rw [if_pos (by omega)]; simp
theorem range_max {s : Int} {P : List Bs} (h : all32 P = true) : ∀ x ∈ kRange :: num s :: P, x.length ≤ maxLen := by
  intro x hx
  rcases List.mem_cons.1 hx with rfl | hx
  · decide
  · rcases List.mem_cons.1 hx with rfl | hx
    · have := num_few s; unfold maxLen; omega
    · exact max32 (all32_get h x hx)

set_option maxHeartbeats 8000000 in
set_option maxRecDepth 100000 in
theorem MtRoot_any (v : Value) (s : Int) (P : List Bs) (w : World) (hv : MtIs v s P w) (ht : Tab w) :
    Calls Tryd.prog 36 #[v] w fun e w' => e = .returned (.tuple #[.string (B (rootT s P)), .int .i64 (validM s P)]) ∧ Below w.heap.size w w' := by
  obtain ⟨i0, hi0, hz0, hz1, hz2⟩ := info_parts Tryd.infoStr
  have Hi := Lib.hid hi0
  have Hz0 := Lib.hid hz0
  have Hz1 := Lib.hid hz1
  have Hz2 := Lib.hid hz2
  have HV := Lib.hid hv
  obtain ⟨p, rfl, hp, hn0⟩ := hv
  have HP := Lib.hid hp
  obtain ⟨a, c, rfl⟩ := hp.formMap
  have HB1 := Lib.hid ((Below.refl w.heap.size w).alloc (Nat.le_refl _) (.cells #[.int .i64 s, .slice a P.length c] 31))
  have HX1 := Lib.hid (new_of w (.cells #[.int .i64 s, .slice a P.length c] 31))
  have HVl := Lib.hid (fun W (hb : Below w.heap.size w W) => MtValid_any _ s P W (HV.out.below hb))
  clear hi0 hz0 hz1 hz2
  cases hok : okM s P with
  | false =>
    have e0 : validM s P = 1 := by unfold validM; rw [hok]; rfl
    have e1 : rootT s P = [] := by unfold rootT; rw [hok]; rfl
    rw [e0] at HVl ⊢
    rw [e1]
    clear e0 e1 hok hp hn0
    go_enter Tryd.func36, Tryd.ntmps36
    go_wp2_with fail
    refine (HVl.out _ HB1.out).mono ?_
    rintro e w2 ⟨rfl, hb⟩
    have HB2 := Lib.hid (HB1.out.next hb)
    clear hb
    go_wp2
    go_ret2
    exact ⟨rfl, HB2.out⟩
  | true =>
    have e0 : validM s P = 0 := by unfold validM; rw [hok]; rfl
    have e1 : hsh (kRange :: num s :: P) = rootT s P := by unfold rootT; rw [hok]; rfl
    obtain ⟨⟨hs0, hs1⟩, hPl, hP32⟩ := okM_iff.1 hok
    have hP21 : P.length ≤ 21 := by rw [hPl]; exact hts_len 21 _
    have HMx := Lib.hid (range_max (s := s) hP32)
    obtain ⟨RT, hRT⟩ : ∃ x, rootT s P = x := ⟨_, rfl⟩
    rw [hRT] at e1 ⊢
    have HRt := Lib.hid e1
    rw [e0] at HVl ⊢
    clear e0 e1 hok hRT hPl hP32
    go_enter Tryd.func36, Tryd.ntmps36
    go_wp2_with fail
    refine (HVl.out _ HB1.out).mono ?_
    rintro e w2 ⟨rfl, hb⟩
    have HB2 := Lib.hid (HB1.out.next hb)
    have HX2 := Lib.hid ((hb.block _ (lt_of HX1.out)).trans HX1.out)
    have HP2 := Lib.hid (HP.out.below HB2.out)
    clear hb HB1 HX1 HVl
    have HS := Lib.hid (show ∀ Wc, Below w2.heap.size w2 Wc → (fun W : World => W.cell? ⟨w.heap.size, 0, none⟩ = some (.int .i64 s) ∧ W.cell? ⟨w.heap.size, 1, none⟩ = some (.slice a P.length c)) Wc from
      fun Wc hb => ⟨(hb.cell (lt_of HX2.out)).trans (mtC HX2.out).1, (hb.cell (lt_of HX2.out)).trans (mtC HX2.out).2⟩)
    go_upto_region 4 with fail
    refine wp_region_held_drew (S := (fun W : World => W.cell? ⟨w.heap.size, 0, none⟩ = some (.int .i64 s) ∧ W.cell? ⟨w.heap.size, 1, none⟩ = some (.slice a P.length c))) (by kernel_rfl) (HS.out _ (dr (Below.refl _ _))) (fun hHeld => ?_)
    have HF0 := Lib.hid (show Below w2.heap.size w2 w2.drew from dr (Below.refl _ _))
    refine take_at 0 10 (oi := ?o1) (v := ?v1) ?hi1 ?hd1 (by kernel_rfl) (by kernel_rfl) (by kernel_rfl) ?hQ1 ?hw1 ?hy1 (by assumption) ?rest1
    case hi1 => simp only [List.getElem?_toArray, List.getElem?_cons_zero]; rfl
    case hd1 => rfl
    case hw1 => kernel_rfl
    case hy1 => intro W hW; (try dsimp only at hW); go_simp <;> with_reducible rfl
    case hQ1 => exact fun _ _ _ h => h
    try simp only [Act.put, List.setIfInBounds_toArray, List.set_cons_zero, List.set_cons_succ]
    refine take_at 1 11 (oi := ?o2) (v := ?v2) ?hi2 ?hd2 (by kernel_rfl) (by kernel_rfl) (by kernel_rfl) ?hQ2 ?hw2 ?hy2 (by assumption) ?rest2
    case hi2 => simp only [List.getElem?_toArray, List.getElem?_cons_succ, List.getElem?_cons_zero]; rfl
    case hd2 => rfl
    case hw2 => kernel_rfl
    case hy2 => intro W hW; (try dsimp only at hW); go_simp <;> with_reducible rfl
    case hQ2 => exact fun _ _ _ h => h
    try simp only [Act.put, List.setIfInBounds_toArray, List.set_cons_zero, List.set_cons_succ]
    refine take_at 4 14 (oi := ?o3) (v := ?v3) ?hi3 ?hd3 (by kernel_rfl) (by kernel_rfl) (by kernel_rfl) ?hQ3 ?hw3 ?hy3 (by assumption) ?rest3
    case hi3 => simp only [List.getElem?_toArray, List.getElem?_cons_succ, List.getElem?_cons_zero]; rfl
    case hd3 => rfl
    case hw3 => kernel_rfl
    case hy3 => intro W hW; (try dsimp only at hW); go_simp <;> with_reducible rfl
    case hQ3 => exact fun _ _ _ h => h
    try simp only [Act.put, List.setIfInBounds_toArray, List.set_cons_zero, List.set_cons_succ]
    refine take_at 5 15 (oi := ?o4) (v := ?v4) ?hi4 ?hd4 (by kernel_rfl) (by kernel_rfl) (by kernel_rfl) ?hQ4 ?hw4 ?hy4 (by assumption) ?rest4
    case hi4 => simp only [List.getElem?_toArray, List.getElem?_cons_succ, List.getElem?_cons_zero]; rfl
    case hd4 => rfl
    case hw4 => kernel_rfl
    case hy4 => intro W hW; (try dsimp only at hW); go_simp <;> with_reducible rfl
    case hQ4 => exact fun _ _ _ h => h
    try simp only [Act.put, List.setIfInBounds_toArray, List.set_cons_zero, List.set_cons_succ]
    refine wpAnyH_ready (rs := [2]) (by kernel_rfl) (by simp) ?_
    refine AllReadyH.cons rfl (fun K hK => ?_) AllReadyH.nil
    go_simp
    refine (decimal_any48 s _ (ht.same (HB2.out.next HF0.out))).mono ?_
    rintro e W4 ⟨rfl, hb4⟩
    have HF4 := Lib.hid (HF0.out.trans (hb4.mono HF0.out.size))
    clear hb4
    refine hK.out _ _ (HS.out _ HF4.out) (fun hHeld => ?_)
    clear hK K
    try simp only [Act.put, List.setIfInBounds_toArray, List.set_cons_zero, List.set_cons_succ]
    refine wpAnyH_ready (rs := [3]) (by kernel_rfl) (by simp) ?_
    refine AllReadyH.cons rfl (fun K hK => ?_) AllReadyH.nil
    go_simp
    obtain ⟨W5, hW5⟩ : ∃ W5, W4.alloc (.cells #[.string ⟨#[114, 97, 110, 103, 101]⟩, .string (B (num s))] 9) = W5 := ⟨_, rfl⟩
    rw [hW5]
    have HF5 := Lib.hid (show Below w2.heap.size w2 W5 by rw [← hW5]; exact HF4.out.alloc HF4.out.size _)
    have HO5 := Lib.hid (show W5.ownsRow W4.heap.size 9 1 (.slice (some ⟨W4.heap.size, 0, none⟩) 2 2) 2 ([kRange, num s].map vS) by rw [← hW5]; exact own_built (new_of W4 _) (Nat.le_refl _) rfl (by decide))
    have hz5 : W5.heap.size = W4.heap.size + 1 := by rw [← hW5]; simp
    clear hW5
    have HB5 := Lib.hid (HB2.out.next HF5.out)
    refine hK.out _ _ (HS.out _ HF5.out) (fun hHeld => ?_)
    clear hK K
    try simp only [Act.put, List.setIfInBounds_toArray, List.set_cons_zero, List.set_cons_succ]
    refine wpAnyH_ready (rs := [6]) (by kernel_rfl) (by simp) ?_
    refine AllReadyH.cons rfl (fun K hK => ?_) AllReadyH.nil
    rcases a with _ | ad
    · obtain rfl := hn0 _ _ rfl
      have hPe : P = [] := by
        rcases hp.2 with ⟨_, _, _, hr⟩ | ⟨b', o', c', e, _⟩
        · simpa using hr
        · simp at e
      subst hPe
      refine step_append_own_none rfl _ _ 22 rfl W4.heap.size 9 i0 1 Tryd.underlying22 Hi.out (.slice (some ⟨W4.heap.size, 0, none⟩) 2 2) 2 ([kRange, num s].map vS) rfl HO5.out rfl ?_
      refine hK.out _ _ (HS.out _ HF5.out) (fun hHeld => ?_)
      clear hK K
      try simp only [Act.put, List.setIfInBounds_toArray]
      have HSl := Lib.hid (IsSl.of_owns (xs := [kRange, num s].map vS) HO5.out (by show 2 ≤ maxLen; decide))
      refine wpAnyH_ready (rs := [7]) (by kernel_rfl) (by simp) ?_
      refine AllReadyH.cons rfl (fun K hK => ?_) AllReadyH.nil
      go_simp
      refine (mix_any _ (kRange :: num s :: []) _ HSl.out HMx.out (ht.same HB5.out)).mono ?_
      rintro e W8 ⟨rfl, hb8⟩
      have HB8 := Lib.hid (HB5.out.next hb8)
      have HS8 := Lib.hid (HF5.out.next hb8)
      clear hb8
      refine hK.out _ _ (HS.out _ HS8.out) (fun hHeld => ?_)
      clear hK K
      try simp only [Act.put, List.setIfInBounds_toArray, List.set_cons_zero, List.set_cons_succ]
      refine take_at 8 2 (oi := ?o5) (v := ?v5) ?hi5 ?hd5 (by kernel_rfl) (by kernel_rfl) (by kernel_rfl) ?hQ5 ?hw5 ?hy5 (by assumption) ?rest5
      case hi5 => simp only [List.getElem?_toArray, List.getElem?_cons_succ, List.getElem?_cons_zero]; rfl
      case hd5 => rfl
      case hw5 => kernel_rfl
      case hy5 => intro W hW; (try dsimp only at hW); go_simp <;> with_reducible rfl
      case hQ5 => exact fun _ _ _ h => h
      try simp only [Act.put, List.setIfInBounds_toArray, List.set_cons_zero, List.set_cons_succ]
      refine take_at 9 3 (oi := ?o6) (v := ?v6) ?hi6 ?hd6 (by kernel_rfl) (by kernel_rfl) (by kernel_rfl) ?hQ6 ?hw6 ?hy6 (by assumption) ?rest6
      case hi6 => simp only [List.getElem?_toArray, List.getElem?_cons_succ, List.getElem?_cons_zero]; rfl
      case hd6 => rfl
      case hw6 => kernel_rfl
      case hy6 => intro W hW; (try dsimp only at hW); go_simp <;> with_reducible rfl
      case hQ6 => exact fun _ _ _ h => h
      try simp only [Act.put, List.setIfInBounds_toArray, List.set_cons_zero, List.set_cons_succ]
      refine wpAnyH_done (by kernel_rfl) ?_ _
      try simp only [Exit.then]
      go_wp2
      go_ret2
      rw [HRt.out]
      exact ⟨rfl, HB8.out⟩
    · have hnews : ∀ j u, (P.map vS)[j]? = some u → W5.cell? (ad.add j) = some u := by
        intro j u hu
        rcases (HP2.out.below HF5.out).2 with ⟨_, _, _, hr⟩ | ⟨b', o', c', e, _⟩
        · rw [hr] at hu; cases hu
        · simp only [Value.slice.injEq, Option.some.injEq] at e
          obtain ⟨rfl, _⟩ := e
          exact news_of (HP2.out.below HF5.out) rfl (by rw [List.length_map]) j u hu
      have HNw := Lib.hid hnews
      have HO1 := Lib.hid (show ∀ u ∈ P.map vS, u.oneCell' = true by intro u hu; obtain ⟨x, _, rfl⟩ := List.mem_map.1 hu; rfl)
      clear hnews
      refine step_append_own rfl _ _ 22 rfl W4.heap.size 9 i0 (.string ⟨#[]⟩) 1 16 Tryd.underlying22 Hi.out Hz0.out Hz1.out Hz2.out rfl (by decide) (.slice (some ⟨W4.heap.size, 0, none⟩) 2 2) 2 ([kRange, num s].map vS) rfl HO5.out ad P.length c (P.map vS) rfl (by rw [List.length_map, Nat.mul_one]) HNw.out HO1.out (by unfold maxLen; omega) (by omega) (by omega) ?_
      intro v6 W6 ho6 hg6 _
      have HF6 := Lib.hid (HF5.out.grown hg6 (by have := HF5.out.size; exact this) (fun q hq => by cases hq; have := HF4.out.size; exact this))
      have HB6 := Lib.hid (HB2.out.next HF6.out)
      have HSl := Lib.hid (IsSl.of_owns (xs := (kRange :: num s :: P).map vS) (by rw [List.length_map, List.length_cons, List.length_cons, show P.length + 1 + 1 = 2 + P.length by omega]; exact ho6) (by rw [List.length_map, List.length_cons, List.length_cons]; unfold maxLen; omega))
      obtain ⟨a6, c6, rfl⟩ := own_form ho6
      clear ho6 hg6
      refine hK.out _ _ (HS.out _ HF6.out) (fun hHeld => ?_)
      clear hK K
      try simp only [Act.put, List.setIfInBounds_toArray]
      refine wpAnyH_ready (rs := [7]) (by kernel_rfl) (by simp) ?_
      refine AllReadyH.cons rfl (fun K hK => ?_) AllReadyH.nil
      go_simp
      refine (mix_any _ (kRange :: num s :: P) _ HSl.out HMx.out (ht.same HB6.out)).mono ?_
      rintro e W8 ⟨rfl, hb8⟩
      have HB8 := Lib.hid (HB6.out.next hb8)
      have HS8 := Lib.hid (HF6.out.next hb8)
      clear hb8
      refine hK.out _ _ (HS.out _ HS8.out) (fun hHeld => ?_)
      clear hK K
      try simp only [Act.put, List.setIfInBounds_toArray, List.set_cons_zero, List.set_cons_succ]
      refine take_at 8 2 (oi := ?o7) (v := ?v7) ?hi7 ?hd7 (by kernel_rfl) (by kernel_rfl) (by kernel_rfl) ?hQ7 ?hw7 ?hy7 (by assumption) ?rest7
      case hi7 => simp only [List.getElem?_toArray, List.getElem?_cons_succ, List.getElem?_cons_zero]; rfl
      case hd7 => rfl
      case hw7 => kernel_rfl
      case hy7 => intro W hW; (try dsimp only at hW); go_simp <;> with_reducible rfl
      case hQ7 => exact fun _ _ _ h => h
      try simp only [Act.put, List.setIfInBounds_toArray, List.set_cons_zero, List.set_cons_succ]
      refine take_at 9 3 (oi := ?o8) (v := ?v8) ?hi8 ?hd8 (by kernel_rfl) (by kernel_rfl) (by kernel_rfl) ?hQ8 ?hw8 ?hy8 (by assumption) ?rest8
      case hi8 => simp only [List.getElem?_toArray, List.getElem?_cons_succ, List.getElem?_cons_zero]; rfl
      case hd8 => rfl
      case hw8 => kernel_rfl
      case hy8 => intro W hW; (try dsimp only at hW); go_simp <;> with_reducible rfl
      case hQ8 => exact fun _ _ _ h => h
      try simp only [Act.put, List.setIfInBounds_toArray, List.set_cons_zero, List.set_cons_succ]
      refine wpAnyH_done (by kernel_rfl) ?_ _
      try simp only [Exit.then]
      go_wp2
      go_ret2
      rw [HRt.out]
      exact ⟨rfl, HB8.out⟩

set_option maxHeartbeats 8000000 in
set_option maxRecDepth 100000 in
theorem RMtRoot_any (v : Value) (s : Int) (P : List Bs) (w : World) (hv : MtIs v s P w) :
    Calls Tryd.prog 40 #[v] w fun e w' => e = .returned (.tuple #[.string (B (rootT s P)), .int .i64 (validM s P)]) ∧ Below w.heap.size w w' := by
  obtain ⟨i0, hi0, hz0, hz1, hz2⟩ := info_parts Tryd.infoStr
  have Hi := Lib.hid hi0
  have Hz0 := Lib.hid hz0
  have Hz1 := Lib.hid hz1
  have Hz2 := Lib.hid hz2
  have HV := Lib.hid hv
  obtain ⟨p, rfl, hp, hn0⟩ := hv
  have HP := Lib.hid hp
  obtain ⟨a, c, rfl⟩ := hp.formMap
  have HB1 := Lib.hid ((Below.refl w.heap.size w).alloc (Nat.le_refl _) (.cells #[.int .i64 s, .slice a P.length c] 31))
  have HX1 := Lib.hid (new_of w (.cells #[.int .i64 s, .slice a P.length c] 31))
  have HVl := Lib.hid (fun W (hb : Below w.heap.size w W) => RVAL _ s P W (HV.out.below hb))
  clear hi0 hz0 hz1 hz2
  cases hok : okM s P with
  | false =>
    have e0 : validM s P = 1 := by unfold validM; rw [hok]; rfl
    have e1 : rootT s P = [] := by unfold rootT; rw [hok]; rfl
    rw [e0] at HVl ⊢
    rw [e1]
    clear e0 e1 hok hp hn0
    go_enter Tryd.func40, Tryd.ntmps40
    go_wp2_with fail
    refine (HVl.out _ HB1.out).mono ?_
    rintro e w2 ⟨rfl, hb⟩
    have HB2 := Lib.hid (HB1.out.next hb)
    clear hb
    go_wp2
    go_ret2
    exact ⟨rfl, HB2.out⟩
  | true =>
    have e0 : validM s P = 0 := by unfold validM; rw [hok]; rfl
    have e1 : hsh (kRange :: num s :: P) = rootT s P := by unfold rootT; rw [hok]; rfl
    obtain ⟨⟨hs0, hs1⟩, hPl, hP32⟩ := okM_iff.1 hok
    have hP21 : P.length ≤ 21 := by rw [hPl]; exact hts_len 21 _
    have HMx := Lib.hid (range_max (s := s) hP32)
    obtain ⟨RT, hRT⟩ : ∃ x, rootT s P = x := ⟨_, rfl⟩
    rw [hRT] at e1 ⊢
    have HRt := Lib.hid e1
    rw [e0] at HVl ⊢
    clear e0 e1 hok hRT hPl hP32
    go_enter Tryd.func40, Tryd.ntmps40
    go_wp2_with fail
    refine (HVl.out _ HB1.out).mono ?_
    rintro e w2 ⟨rfl, hb⟩
    have HB2 := Lib.hid (HB1.out.next hb)
    have HX2 := Lib.hid ((hb.block _ (lt_of HX1.out)).trans HX1.out)
    have HP2 := Lib.hid (HP.out.below HB2.out)
    clear hb HB1 HX1 HVl
    obtain ⟨c0, c1⟩ := mtC HX2.out
    go_wp2_with fail
    refine (N_any s w2).mono ?_
    rintro e w4 ⟨rfl, hb⟩
    have HB4 := Lib.hid (HB2.out.next hb)
    have HX4 := Lib.hid ((hb.block _ (lt_of HX2.out)).trans HX2.out)
    have HP4 := Lib.hid (HP2.out.below hb)
    clear hb c0 c1
    obtain ⟨W5, hW5⟩ : ∃ W5, w4.alloc (.cells #[.string ⟨#[114, 97, 110, 103, 101]⟩, .string (B (num s))] 9) = W5 := ⟨_, rfl⟩
    have hb5 : Below w4.heap.size w4 W5 := by rw [← hW5]; exact (Below.refl _ _).alloc (Nat.le_refl _) _
    have HB5 := Lib.hid (HB4.out.next hb5)
    have HX5 := Lib.hid ((hb5.block _ (lt_of HX4.out)).trans HX4.out)
    have HP5 := Lib.hid (HP4.out.below hb5)
    have HO5 := Lib.hid (show W5.ownsRow w4.heap.size 9 1 (.slice (some ⟨w4.heap.size, 0, none⟩) 2 2) 2 ([kRange, num s].map vS) by rw [← hW5]; exact own_built (new_of w4 _) (Nat.le_refl _) rfl (by decide))
    have hz5 : W5.heap.size = w4.heap.size + 1 := by rw [← hW5]; simp
    have Hz5 := Lib.hid hz5
    clear hb5 hz5
    go_upto_region 4 with fail
    clear hW5
    obtain ⟨c0, c1⟩ := mtC HX5.out
    rcases a with _ | ad
    · obtain rfl := hn0 _ _ rfl
      have hPe : P = [] := by
        rcases hp.2 with ⟨_, _, _, hr⟩ | ⟨b', o', c', e, _⟩
        · simpa using hr
        · simp at e
      subst hPe
      have HSl := Lib.hid (IsSl.of_owns (xs := [kRange, num s].map vS) HO5.out (by show 2 ≤ maxLen; decide))
      go_wp2_with (first
        | (at_builtin
           go_loud (
           refine wpList_append_own_none rfl _ _ 22 rfl w4.heap.size 9 i0 1 Tryd.underlying22 Hi.out (.slice (some ⟨w4.heap.size, 0, none⟩) 2 2) 2 ([kRange, num s].map vS) rfl HO5.out rfl ?_))
        | (go_at_call 42
           go_loud (
           refine (H_any _ (kRange :: num s :: []) _ HSl.out HMx.out).mono ?_
           rintro e w7 ⟨rfl, hb7⟩
           have HB7 := Lib.hid (HB5.out.next hb7)
           clear hb7)))
      go_ret2
      rw [HRt.out]
      exact ⟨rfl, HB7.out⟩
    · have hnews : ∀ j u, (P.map vS)[j]? = some u → W5.cell? (ad.add j) = some u := by
        intro j u hu
        rcases HP5.out.2 with ⟨_, _, _, hr⟩ | ⟨b', o', c', e, _⟩
        · rw [hr] at hu; cases hu
        · simp only [Value.slice.injEq, Option.some.injEq] at e
          obtain ⟨rfl, _⟩ := e
          exact news_of HP5.out rfl (by rw [List.length_map]) j u hu
      have HNw := Lib.hid hnews
      have HO1 := Lib.hid (show ∀ u ∈ P.map vS, u.oneCell' = true by intro u hu; obtain ⟨x, _, rfl⟩ := List.mem_map.1 hu; rfl)
      clear hnews
      go_wp2_with (first
        | (at_builtin
           go_loud (
           refine wpList_append_own _ rfl _ _ 22 rfl w4.heap.size 9 i0 (.string ⟨#[]⟩) 1 16 Tryd.underlying22 Hi.out Hz0.out Hz1.out Hz2.out rfl (by decide) (.slice (some ⟨w4.heap.size, 0, none⟩) 2 2) 2 ([kRange, num s].map vS) rfl HO5.out ad P.length c (P.map vS) rfl (by rw [List.length_map, Nat.mul_one]) HNw.out HO1.out (by unfold maxLen; omega) (by omega) (by have := Hz5.out; omega) ?_
           intro v6 W6 ho6 hg6 _
           have HB6 := Lib.hid (HB5.out.grown hg6 (by have := HB5.out.size; exact this) (fun q hq => by cases hq; have := HB4.out.size; exact this))
           have HSl := Lib.hid (IsSl.of_owns (xs := (kRange :: num s :: P).map vS) (by rw [List.length_map, List.length_cons, List.length_cons, show P.length + 1 + 1 = 2 + P.length by omega]; exact ho6) (by rw [List.length_map, List.length_cons, List.length_cons]; unfold maxLen; omega))
           obtain ⟨a6, c6, rfl⟩ := own_form ho6
           clear ho6 hg6))
        | (go_at_call 42
           go_loud (
           refine (H_any _ (kRange :: num s :: P) _ HSl.out HMx.out).mono ?_
           rintro e w7 ⟨rfl, hb7⟩
           have HB7 := Lib.hid (HB6.out.next hb7)
           clear hb7)))
      go_ret2
      rw [HRt.out]
      exact ⟨rfl, HB7.out⟩

set_option maxHeartbeats 8000000 in
set_option maxRecDepth 100000 in
theorem MtEnc_any (v : Value) (s : Int) (P : List Bs) (w : World) (hv : MtIs v s P w) (ht : Tab w) :
    Calls Tryd.prog 39 #[v] w fun e w' => e = .returned (.tuple #[.string (B (encT s P)), .int .i64 (validM s P)]) ∧ Below w.heap.size w w' := by
  obtain ⟨i0, hi0, hz0, hz1, hz2⟩ := info_parts Tryd.infoStr
  have Hi := Lib.hid hi0
  have Hz0 := Lib.hid hz0
  have Hz1 := Lib.hid hz1
  have Hz2 := Lib.hid hz2
  have HV := Lib.hid hv
  obtain ⟨p, rfl, hp, hn0⟩ := hv
  have HP := Lib.hid hp
  obtain ⟨a, c, rfl⟩ := hp.formMap
  have HB1 := Lib.hid ((Below.refl w.heap.size w).alloc (Nat.le_refl _) (.cells #[.int .i64 s, .slice a P.length c] 31))
  have HX1 := Lib.hid (new_of w (.cells #[.int .i64 s, .slice a P.length c] 31))
  have HVl := Lib.hid (fun W (hb : Below w.heap.size w W) => PVAL _ s P W (HV.out.below hb))
  clear hi0 hz0 hz1 hz2
  cases hok : okM s P with
  | false =>
    have e0 : validM s P = 1 := by unfold validM; rw [hok]; rfl
    have e1 : encT s P = [] := by unfold encT; rw [hok]; rfl
    rw [e0] at HVl ⊢
    rw [e1]
    clear e0 e1 hok hp hn0
    go_enter Tryd.func39, Tryd.ntmps39
    go_wp2_with fail
    refine (HVl.out _ HB1.out).mono ?_
    rintro e w2 ⟨rfl, hb⟩
    have HB2 := Lib.hid (HB1.out.next hb)
    clear hb
    go_wp2
    go_ret2
    exact ⟨rfl, HB2.out⟩
  | true =>
    have e0 : validM s P = 0 := by unfold validM; rw [hok]; rfl
    have e1 : num s ++ (eList eText P).1 = encT s P := by unfold encT; rw [hok]; rfl
    obtain ⟨⟨hs0, hs1⟩, hPl, hP32⟩ := okM_iff.1 hok
    have hP21 : P.length ≤ 21 := by rw [hPl]; exact hts_len 21 _
    have HMx := Lib.hid (range_max (s := s) hP32)
    obtain ⟨RT, hRT⟩ : ∃ x, encT s P = x := ⟨_, rfl⟩
    rw [hRT] at e1 ⊢
    have HRt := Lib.hid e1
    rw [e0] at HVl ⊢
    clear e0 e1 hok hRT hPl hP32
    go_enter Tryd.func39, Tryd.ntmps39
    go_wp2_with fail
    refine (HVl.out _ HB1.out).mono ?_
    rintro e w2 ⟨rfl, hb⟩
    have HB2 := Lib.hid (HB1.out.next hb)
    have HX2 := Lib.hid ((hb.block _ (lt_of HX1.out)).trans HX1.out)
    have HP2 := Lib.hid (HP.out.below HB2.out)
    clear hb HB1 HX1 HVl
    obtain ⟨c0, c1⟩ := mtC HX2.out
    have HTx := Lib.hid (encTexts_any _ P w2 HP2.out (fun x hx => HMx.out x (List.mem_cons_of_mem _ (List.mem_cons_of_mem _ hx))) (ht.same HB2.out))
    have hl1 := texts_len P
    have hl2 := num_few s
    obtain ⟨T, hT⟩ : ∃ x, (eList eText P).1 = x := ⟨_, rfl⟩
    obtain ⟨M, hM⟩ : ∃ x, num s = x := ⟨_, rfl⟩
    have HDc := Lib.hid (fun W hb => decimal_any48 s W (ht.same (w' := W) hb))
    rw [hT] at HTx hl1 HRt
    rw [hM] at HDc hl2 HRt
    have hz1 : (B T).size = T.length := rfl
    have hz2 : (B M).size = M.length := rfl
    clear hT hM
    go_wp2_with fail
    refine HTx.out.mono ?_
    rintro e w4 ⟨rfl, hb⟩
    have HB4 := Lib.hid (HB2.out.next hb)
    have HX4 := Lib.hid ((hb.block _ (lt_of HX2.out)).trans HX2.out)
    clear hb c0 c1
    obtain ⟨c0, c1⟩ := mtC HX4.out
    go_wp2_with fail
    refine (HDc.out _ HB4.out).mono ?_
    rintro e w5 ⟨rfl, hb⟩
    have HB5 := Lib.hid (HB4.out.next hb)
    clear hb c0 c1
    go_wp2
    go_ret2
    rw [← HRt.out, ← B_append]
    exact ⟨rfl, HB5.out⟩

set_option maxHeartbeats 8000000 in
set_option maxRecDepth 100000 in
theorem RMtEnc_any (v : Value) (s : Int) (P : List Bs) (w : World) (hv : MtIs v s P w) :
    Calls Tryd.prog 41 #[v] w fun e w' => e = .returned (.tuple #[.string (B (encT s P)), .int .i64 (validM s P)]) ∧ Below w.heap.size w w' := by
  obtain ⟨i0, hi0, hz0, hz1, hz2⟩ := info_parts Tryd.infoStr
  have Hi := Lib.hid hi0
  have Hz0 := Lib.hid hz0
  have Hz1 := Lib.hid hz1
  have Hz2 := Lib.hid hz2
  have HV := Lib.hid hv
  obtain ⟨p, rfl, hp, hn0⟩ := hv
  have HP := Lib.hid hp
  obtain ⟨a, c, rfl⟩ := hp.formMap
  have HB1 := Lib.hid ((Below.refl w.heap.size w).alloc (Nat.le_refl _) (.cells #[.int .i64 s, .slice a P.length c] 31))
  have HX1 := Lib.hid (new_of w (.cells #[.int .i64 s, .slice a P.length c] 31))
  have HVl := Lib.hid (fun W (hb : Below w.heap.size w W) => RVAL _ s P W (HV.out.below hb))
  clear hi0 hz0 hz1 hz2
  cases hok : okM s P with
  | false =>
    have e0 : validM s P = 1 := by unfold validM; rw [hok]; rfl
    have e1 : encT s P = [] := by unfold encT; rw [hok]; rfl
    rw [e0] at HVl ⊢
    rw [e1]
    clear e0 e1 hok hp hn0
    go_enter Tryd.func41, Tryd.ntmps41
    go_wp2_with fail
    refine (HVl.out _ HB1.out).mono ?_
    rintro e w2 ⟨rfl, hb⟩
    have HB2 := Lib.hid (HB1.out.next hb)
    clear hb
    go_wp2
    go_ret2
    exact ⟨rfl, HB2.out⟩
  | true =>
    have e0 : validM s P = 0 := by unfold validM; rw [hok]; rfl
    have e1 : num s ++ (eList eText P).1 = encT s P := by unfold encT; rw [hok]; rfl
    obtain ⟨⟨hs0, hs1⟩, hPl, hP32⟩ := okM_iff.1 hok
    have hP21 : P.length ≤ 21 := by rw [hPl]; exact hts_len 21 _
    have HMx := Lib.hid (range_max (s := s) hP32)
    obtain ⟨RT, hRT⟩ : ∃ x, encT s P = x := ⟨_, rfl⟩
    rw [hRT] at e1 ⊢
    have HRt := Lib.hid e1
    rw [e0] at HVl ⊢
    clear e0 e1 hok hRT hPl hP32
    go_enter Tryd.func41, Tryd.ntmps41
    go_wp2_with fail
    refine (HVl.out _ HB1.out).mono ?_
    rintro e w2 ⟨rfl, hb⟩
    have HB2 := Lib.hid (HB1.out.next hb)
    have HX2 := Lib.hid ((hb.block _ (lt_of HX1.out)).trans HX1.out)
    have HP2 := Lib.hid (HP.out.below HB2.out)
    clear hb HB1 HX1 HVl
    obtain ⟨c0, c1⟩ := mtC HX2.out
    have HTx := Lib.hid (rencTexts_any _ P w2 HP2.out (fun x hx => HMx.out x (List.mem_cons_of_mem _ (List.mem_cons_of_mem _ hx))))
    have hl1 := texts_len P
    have hl2 := num_few s
    obtain ⟨T, hT⟩ : ∃ x, (eList eText P).1 = x := ⟨_, rfl⟩
    obtain ⟨M, hM⟩ : ∃ x, num s = x := ⟨_, rfl⟩
    have HDc := Lib.hid (fun W => N_any s W)
    rw [hT] at HTx hl1 HRt
    rw [hM] at HDc hl2 HRt
    have hz1 : (B T).size = T.length := rfl
    have hz2 : (B M).size = M.length := rfl
    clear hT hM
    go_wp2_with fail
    refine HTx.out.mono ?_
    rintro e w4 ⟨rfl, hb⟩
    have HB4 := Lib.hid (HB2.out.next hb)
    have HX4 := Lib.hid ((hb.block _ (lt_of HX2.out)).trans HX2.out)
    clear hb c0 c1
    obtain ⟨c0, c1⟩ := mtC HX4.out
    go_wp2_with fail
    refine (HDc.out _).mono ?_
    rintro e w5 ⟨rfl, hb⟩
    have HB5 := Lib.hid (HB4.out.next hb)
    clear hb c0 c1
    go_wp2
    go_ret2
    rw [← HRt.out, ← B_append]
    exact ⟨rfl, HB5.out⟩
end Go.Proofs.YtfklmjcjjdliiaaDoor
