/- Few and Same of the reference of mountain; Add of package mountain and of its reference do what the plain functions say. -/
import Derived.Test.YtfklmjcjjdliiaaDoorWkMt3
import Derived.Test.YtfklmjcjjdliiaaDoorWkMt4r
import Derived.Test.YtfklmjcjjdliiaaDoorWkMt5
namespace Go.Proofs.YtfklmjcjjdliiaaDoor
open Go Go.RowKit Licit

def allLe (q : Nat) (xs : List Bs) : Bool := xs.all fun x => decide (x.length ≤ q)
def fewM (m : Nat) (xs : List Bs) : Bool := decide (xs.length ≤ m) && allLe 40 xs
theorem allLe_take (q : Nat) (xs : List Bs) (k : Nat) (hk : k < xs.length) (h : allLe q (xs.take k) = true) : allLe q (xs.take (k + 1)) = decide ((xs.getD k []).length ≤ q) := by
  unfold allLe at *
  rw [List.take_add_one, List.all_append, h, List.getElem?_eq_getElem hk, List.getD_eq_getElem?_getD, List.getElem?_eq_getElem hk]
  simp
theorem allLe_no (q : Nat) (xs : List Bs) (k : Nat) (hk : k < xs.length) (h : ¬ (xs.getD k []).length ≤ q) : allLe q xs = false := by
  unfold allLe
  rw [List.all_eq_false]
  refine ⟨xs.getD k [], ?_, by simpa using h⟩
  rw [List.getD_eq_getElem?_getD, List.getElem?_eq_getElem hk]
  exact List.getElem_mem _
theorem fewM_iff {m : Nat} {xs : List Bs} (h : fewM m xs = true) : xs.length ≤ m ∧ ∀ x ∈ xs, x.length ≤ 40 := by
  unfold fewM allLe at h
  simp only [Bool.and_eq_true, decide_eq_true_eq, List.all_eq_true] at h
  exact h

theorem FewM_any (v : Value) (xs : List Bs) (most : Nat) (w : World) (h : IsSl v (xs.map vS) w) : Calls Tryd.prog 14 #[v, .int .i64 (most : Int)] w fun e w' => e = .returned (.bool (fewM most xs)) ∧ w' = w := by
  obtain ⟨a, cap, rfl⟩ := h.formMap
  have hmx := h.1
  rw [List.length_map] at hmx
  unfold maxLen at hmx
  have H := Lib.hid h
  clear h
  unfold fewM
  by_cases hm : most < xs.length
  · have d1 : decide ((most : Int) < (xs.length : Int)) = true := by simp; omega
    rw [decide_eq_false (show ¬ xs.length ≤ most by omega)]
    go_enter Tryd.func14, Tryd.ntmps14
    go_wp2
    go_ret
    exact ⟨rfl, rfl⟩
  have d1 : decide ((most : Int) < (xs.length : Int)) = false := by simp; omega
  rw [decide_eq_true (show xs.length ≤ most by omega), Bool.true_and]
  go_enter Tryd.func14, Tryd.ntmps14
  go_wp2
  go_loopw [5] (fun n wr => wr = w ∧ ∃ k : Nat, k ≤ xs.length ∧ n = .int .i64 k ∧ allLe 40 (xs.take k) = true) (fun n _ => xs.length - (intOf n).toNat)
  case atStart => exact ⟨rfl, 0, by omega, rfl, by simp [allLe]⟩
  case round =>
    obtain ⟨rfl, k, hk, rfl, hA⟩ := hrel
    have HA := Lib.hid hA
    clear hA
    by_cases hlt : k < xs.length
    · have h2 := H.out
      obtain ⟨b, off, cap', hv, hb, hc⟩ := h2.text rfl hlt
      simp only [Value.slice.injEq, true_and] at hv
      obtain ⟨rfl, rfl⟩ := hv
      obtain ⟨x, hx⟩ : ∃ x, xs.getD k [] = x := ⟨_, rfl⟩
      rw [hx] at hc
      obtain ⟨m, hm⟩ : ∃ m : Nat, (B x).size = m := ⟨_, rfl⟩
      have hml : m = (xs.getD k []).length := by rw [hx, ← hm]; rfl
      have Hm := Lib.hid hml
      have Hx := Lib.hid hx
      clear hx hml h2
      by_cases h40 : 40 < m
      · have hq : decide (40 < (m : Int)) = true := by simp; omega
        go_wp2
        go_ret
        rw [allLe_no 40 xs k hlt (by rw [← Hm.out]; omega)]
        exact ⟨rfl, rfl⟩
      · have hq : decide (40 < (m : Int)) = false := by simp; omega
        go_wp2
        go_roundw
        case rel => exact ⟨trivial, k + 1, by omega, by go_num, by rw [allLe_take 40 xs k hlt HA.out, ← Hm.out]; simpa using h40⟩
        case measure => simp [intOf]; omega
    · obtain rfl : k = xs.length := by omega
      have hA := HA.out
      rw [List.take_length] at hA
      go_wp2
      go_ret
      rw [hA]
      exact ⟨rfl, rfl⟩

def sameMt (s : Int) (P : List Bs) (s' : Int) (P' : List Bs) : Bool := decide (s = s') && decide (P = P')
theorem MtSame_any (v u : Value) (s s' : Int) (P P' : List Bs) (w : World) (h : MtIs v s P w) (h' : MtIs u s' P' w) :
    Calls Tryd.prog 26 #[v, u] w fun e w' => e = .returned (.bool (sameMt s P s' P')) ∧ Below w.heap.size w w' := by
  obtain ⟨p, rfl, hp, _⟩ := h
  obtain ⟨p', rfl, hp', _⟩ := h'
  have hB1 : Below w.heap.size w ((w.alloc (.cells #[.int .i64 s, p] 31)).alloc (.cells #[.int .i64 s', p'] 31)) := ((Below.refl _ _).alloc (Nat.le_refl _) _).alloc (by simp) _
  have HTx := Lib.hid (RTexts_any p p' P P' _ (hp.below hB1) (hp'.below hB1))
  obtain ⟨a, c, rfl⟩ := hp.formMap
  obtain ⟨a', c', rfl⟩ := hp'.formMap
  have HB1 := Lib.hid hB1
  clear hp hp' hB1
  unfold sameMt
  by_cases hs : s = s'
  · subst hs
    rw [decide_eq_true rfl, Bool.true_and]
    go_enter Tryd.func26, Tryd.ntmps26
    go_wp2_with fail
    refine HTx.out.mono ?_
    rintro e w2 ⟨rfl, hb⟩
    have HB2 := Lib.hid (HB1.out.next hb)
    clear hb
    go_wp2
    go_ret
    exact ⟨rfl, HB2.out⟩
  · rw [decide_eq_false hs, Bool.false_and]
    have hq : (s == s') = false := by simpa using hs
    go_enter Tryd.func26, Tryd.ntmps26
    go_wp2
    go_ret
    exact ⟨rfl, HB1.out⟩

def addE (s : Int) (P : List Bs) (x : Bs) : Int := if okM s P = true ∧ x.length = 32 then (if s = 1048576 then 15 else 0) else 1
def addS (s : Int) (P : List Bs) (x : Bs) : Int := if addE s P x = 0 then s + 1 else 0
def addP (s : Int) (P : List Bs) (x : Bs) : List Bs := if addE s P x = 0 then raiseQ s.toNat P x else []

set_option maxHeartbeats 8000000 in
set_option maxRecDepth 100000 in
theorem MtAdd_any (v : Value) (s : Int) (P : List Bs) (x : Bs) (w : World) (hv : MtIs v s P w) (ht : Tab w) :
    Calls Tryd.prog 28 #[v, .string (B x)] w fun e w' => ∃ v', e = .returned (.tuple #[v', .int .i64 (addE s P x)]) ∧ MtIs v' (addS s P x) (addP s P x) w' ∧ Below w.heap.size w w' := by
  have HV := Lib.hid hv
  obtain ⟨p, rfl, hp, hn0⟩ := hv
  obtain ⟨a, c, rfl⟩ := hp.formMap
  have hB1 : Below w.heap.size w ((w.alloc (.cells #[.int .i64 s, .slice a P.length c] 31)).alloc (.cells #[.int .i64 0, .slice none 0 0] 31)) := ((Below.refl _ _).alloc (Nat.le_refl _) _).alloc (by simp) _
  have HVl := Lib.hid (fun W (hb : Below w.heap.size w W) => MtValid_any _ s P W (HV.out.below hb))
  have HB1 := Lib.hid hB1
  have HX1 := Lib.hid (show ((w.alloc (.cells #[.int .i64 s, .slice a P.length c] 31)).alloc (.cells #[.int .i64 0, .slice none 0 0] 31)).heap[w.heap.size]? = some (.cells #[.int .i64 s, .slice a P.length c] 31) from old_of (new_of _ _))
  have HR1 := Lib.hid (show ((w.alloc (.cells #[.int .i64 s, .slice a P.length c] 31)).alloc (.cells #[.int .i64 0, .slice none 0 0] 31)).heap[w.heap.size + 1]? = some (.cells #[.int .i64 0, .slice none 0 0] 31) from new_at (by simp) rfl)
  obtain ⟨ER, hER⟩ : ∃ q, addE s P x = q := ⟨_, rfl⟩
  obtain ⟨ES, hES⟩ : ∃ q, addS s P x = q := ⟨_, rfl⟩
  obtain ⟨EP, hEP⟩ : ∃ q, addP s P x = q := ⟨_, rfl⟩
  have HEE := Lib.hid (show ∀ q : Int, addE s P x = q → q ≠ 0 → ER = q ∧ ES = 0 ∧ EP = [] from fun q h hq => by
    refine ⟨hER.symm.trans h, ?_, ?_⟩
    · rw [← hES]; unfold addS; rw [h, if_neg hq]
    · rw [← hEP]; unfold addP; rw [h, if_neg hq])
  have HE0 := Lib.hid (show addE s P x = 0 → ER = 0 ∧ ES = s + 1 ∧ EP = raiseQ s.toNat P x from fun h => by
    refine ⟨hER.symm.trans h, ?_, ?_⟩
    · rw [← hES]; unfold addS; rw [if_pos h]
    · rw [← hEP]; unfold addP; rw [if_pos h])
  rw [hER, hES, hEP]
  clear hp hn0 hB1 hER hES hEP
  go_enter Tryd.func28, Tryd.ntmps28
  go_wp2_with fail
  refine (HVl.out _ HB1.out).mono ?_
  rintro e w2 ⟨rfl, hb⟩
  have HB2 := Lib.hid (HB1.out.next hb)
  have HX2 := Lib.hid ((hb.block _ (lt_of HX1.out)).trans HX1.out)
  have HR2 := Lib.hid ((hb.block _ (lt_of HR1.out)).trans HR1.out)
  have hwz : w.heap.size + 1 < w2.heap.size := lt_of HR2.out
  clear hb
  obtain ⟨c0, c1⟩ := mtC HX2.out
  obtain ⟨z0, z1⟩ := mtC HR2.out
  have f0 := free_of HR2.out 0
  have f1 := free_of HR2.out 1
  unfold validM
  cases hok : okM s P with
  | false =>
    have hE : addE s P x = 1 := by unfold addE; rw [if_neg (fun h => by rw [hok] at h; cases h.1)]
    obtain ⟨rfl, rfl, rfl⟩ := HEE.out _ hE (by decide)
    clear hE hok
    rw [if_neg (by decide)]
    go_wp2
    have hK := kept2 (w.heap.size + 1) w2 (.int .i64 0) (.slice none 0 0)
    refine ret_whole2 (p := 4) (t' := 5) (ty := 31) rfl (w.heap.size + 1) 31 _ (0, 0) _ rfl (set_of (set_of HR2.out 0 _) 1 _) Tryd.underlying31 rfl (by kernel_rfl) rfl ?_
    exact ⟨_, rfl, MtIs.nil _, HB2.out.trans (hK.below HB2.out.size (fun k hk e => by have : k = w.heap.size + 1 := e; omega))⟩
  | true =>
    rw [if_pos rfl]
    by_cases h32 : x.length = 32
    rotate_left
    · have hE : addE s P x = 1 := by unfold addE; rw [if_neg (fun h => h32 h.2)]
      obtain ⟨rfl, rfl, rfl⟩ := HEE.out _ hE (by decide)
      clear hE hok
      go_wp2_with fail
      refine (wrong_any x _).mono ?_
      rintro e w3 ⟨rfl, rfl⟩
      rw [decide_eq_false h32]
      go_wp2
      have hK := kept2 (w.heap.size + 1) w3 (.int .i64 0) (.slice none 0 0)
      refine ret_whole2 (p := 4) (t' := 5) (ty := 31) rfl (w.heap.size + 1) 31 _ (0, 0) _ rfl (set_of (set_of HR2.out 0 _) 1 _) Tryd.underlying31 rfl (by kernel_rfl) rfl ?_
      exact ⟨_, rfl, MtIs.nil _, HB2.out.trans (hK.below HB2.out.size (fun k hk e => by have : k = w.heap.size + 1 := e; omega))⟩
    have H32 := Lib.hid h32
    by_cases hm : s = 1048576
    · have hE : addE s P x = 15 := by unfold addE; rw [if_pos ⟨hok, h32⟩, if_pos hm]
      obtain ⟨rfl, rfl, rfl⟩ := HEE.out _ hE (by decide)
      have hq2 : (s == 1048576) = true := by simpa using hm
      clear hE hok h32
      go_wp2_with fail
      refine (wrong_any x _).mono ?_
      rintro e w3 ⟨rfl, rfl⟩
      rw [decide_eq_true H32.out]
      go_wp2
      have hK := kept2 (w.heap.size + 1) w3 (.int .i64 0) (.slice none 0 0)
      refine ret_whole2 (p := 4) (t' := 5) (ty := 31) rfl (w.heap.size + 1) 31 _ (0, 0) _ rfl (set_of (set_of HR2.out 0 _) 1 _) Tryd.underlying31 rfl (by kernel_rfl) rfl ?_
      exact ⟨_, rfl, MtIs.nil _, HB2.out.trans (hK.below HB2.out.size (fun k hk e => by have : k = w.heap.size + 1 := e; omega))⟩
    · have hE : addE s P x = 0 := by unfold addE; rw [if_pos ⟨hok, h32⟩, if_neg hm]
      obtain ⟨rfl, rfl, rfl⟩ := HE0.out hE
      have hq2 : (s == 1048576) = false := by simpa using hm
      obtain ⟨⟨hs0, hs1⟩, hPl, hP32⟩ := okM_iff.1 hok
      obtain ⟨n, rfl⟩ : ∃ n : Nat, s = (n : Int) := ⟨s.toNat, by omega⟩
      rw [Int.toNat_natCast] at hPl
      have HR := Lib.hid (show Calls Tryd.prog 49 #[.agg #[.int .i64 (n : Int), .slice a P.length c], .int .i64 0, .string (B x)] w2 (fun e w' => ∃ v', e = .returned v' ∧ MtIs v' ((n : Int) + 1) (raiseQ n P x) w' ∧ Below w2.heap.size w2 w') from
        (raise_any _ n 0 P x w2 (HV.out.below HB2.out) (by omega) (by simp) hPl (fun y hy => max32 (all32_get hP32 y hy)) (max32 h32) (ht.same HB2.out)).mono
          (fun e w' ⟨v', e1, h1, h2⟩ => ⟨v', e1, by rw [Nat.pow_zero, Nat.div_one] at h1; exact h1, h2⟩))
      clear hE hok h32 hm hs0 hs1 hPl hP32
      go_wp2_with fail
      refine (wrong_any x _).mono ?_
      rintro e w3 ⟨rfl, rfl⟩
      rw [decide_eq_true H32.out]
      go_wp2_with fail
      refine HR.out.mono ?_
      rintro e w4 ⟨v4, rfl, ⟨p4, rfl, hp4, hn4⟩, hb⟩
      obtain ⟨a4, k4, rfl⟩ := hp4.formMap
      have HB4 := Lib.hid (HB2.out.next hb)
      have HR4 := Lib.hid ((hb.block _ (lt_of HR2.out)).trans HR2.out)
      have HP4 := Lib.hid hp4
      have HN4 := Lib.hid hn4
      clear hb hp4 hn4 z0 z1 f0 f1
      obtain ⟨z0, z1⟩ := mtC HR4.out
      have f0 := free_of HR4.out 0
      have f1 := free_of HR4.out 1
      have hwz4 : w.heap.size + 1 < w4.heap.size := lt_of HR4.out
      go_wp2
      have hK := kept2 (w.heap.size + 1) w4 (.int .i64 ((n : Int) + 1)) (.slice a4 (raiseQ n P x).length k4)
      refine ret_whole2 (p := 4) (t' := 5) (ty := 31) rfl (w.heap.size + 1) 31 _ (0, 0) _ rfl (set_of (set_of HR4.out 0 _) 1 _) Tryd.underlying31 rfl (by kernel_rfl) rfl ?_
      exact ⟨_, rfl, ⟨_, rfl, isSl_mtSet (isSl_mtSet HP4.out HR4.out 0 _) (set_of HR4.out 0 _) 1 _, HN4.out⟩, HB4.out.trans (hK.below HB4.out.size (fun k hk e => by have : k = w.heap.size + 1 := e; omega))⟩

set_option maxHeartbeats 8000000 in
set_option maxRecDepth 100000 in
theorem RMtAdd_any (v : Value) (s : Int) (P : List Bs) (x : Bs) (w : World) (hv : MtIs v s P w) :
    Calls Tryd.prog 29 #[v, .string (B x)] w fun e w' => ∃ v', e = .returned (.tuple #[v', .int .i64 (addE s P x)]) ∧ MtIs v' (addS s P x) (addP s P x) w' ∧ Below w.heap.size w w' := by
  have HV := Lib.hid hv
  obtain ⟨p, rfl, hp, hn0⟩ := hv
  obtain ⟨a, c, rfl⟩ := hp.formMap
  have hB1 : Below w.heap.size w ((w.alloc (.cells #[.int .i64 s, .slice a P.length c] 31)).alloc (.cells #[.int .i64 0, .slice none 0 0] 31)) := ((Below.refl _ _).alloc (Nat.le_refl _) _).alloc (by simp) _
  have HVl := Lib.hid (fun W (hb : Below w.heap.size w W) => RMtValid_any _ s P W (HV.out.below hb))
  have HB1 := Lib.hid hB1
  have HX1 := Lib.hid (show ((w.alloc (.cells #[.int .i64 s, .slice a P.length c] 31)).alloc (.cells #[.int .i64 0, .slice none 0 0] 31)).heap[w.heap.size]? = some (.cells #[.int .i64 s, .slice a P.length c] 31) from old_of (new_of _ _))
  have HR1 := Lib.hid (show ((w.alloc (.cells #[.int .i64 s, .slice a P.length c] 31)).alloc (.cells #[.int .i64 0, .slice none 0 0] 31)).heap[w.heap.size + 1]? = some (.cells #[.int .i64 0, .slice none 0 0] 31) from new_at (by simp) rfl)
  obtain ⟨ER, hER⟩ : ∃ q, addE s P x = q := ⟨_, rfl⟩
  obtain ⟨ES, hES⟩ : ∃ q, addS s P x = q := ⟨_, rfl⟩
  obtain ⟨EP, hEP⟩ : ∃ q, addP s P x = q := ⟨_, rfl⟩
  have HEE := Lib.hid (show ∀ q : Int, addE s P x = q → q ≠ 0 → ER = q ∧ ES = 0 ∧ EP = [] from fun q h hq => by
    refine ⟨hER.symm.trans h, ?_, ?_⟩
    · rw [← hES]; unfold addS; rw [h, if_neg hq]
    · rw [← hEP]; unfold addP; rw [h, if_neg hq])
  have HE0 := Lib.hid (show addE s P x = 0 → ER = 0 ∧ ES = s + 1 ∧ EP = raiseQ s.toNat P x from fun h => by
    refine ⟨hER.symm.trans h, ?_, ?_⟩
    · rw [← hES]; unfold addS; rw [if_pos h]
    · rw [← hEP]; unfold addP; rw [if_pos h])
  rw [hER, hES, hEP]
  clear hp hn0 hB1 hER hES hEP
  go_enter Tryd.func29, Tryd.ntmps29
  go_wp2_with fail
  refine (HVl.out _ HB1.out).mono ?_
  rintro e w2 ⟨rfl, hb⟩
  have HB2 := Lib.hid (HB1.out.next hb)
  have HX2 := Lib.hid ((hb.block _ (lt_of HX1.out)).trans HX1.out)
  have HR2 := Lib.hid ((hb.block _ (lt_of HR1.out)).trans HR1.out)
  have hwz : w.heap.size + 1 < w2.heap.size := lt_of HR2.out
  clear hb
  obtain ⟨c0, c1⟩ := mtC HX2.out
  obtain ⟨z0, z1⟩ := mtC HR2.out
  have f0 := free_of HR2.out 0
  have f1 := free_of HR2.out 1
  unfold validM
  cases hok : okM s P with
  | false =>
    have hE : addE s P x = 1 := by unfold addE; rw [if_neg (fun h => by rw [hok] at h; cases h.1)]
    obtain ⟨rfl, rfl, rfl⟩ := HEE.out _ hE (by decide)
    clear hE hok
    rw [if_neg (by decide)]
    go_wp2
    have hK := kept2 (w.heap.size + 1) w2 (.int .i64 0) (.slice none 0 0)
    refine ret_whole2 (p := 4) (t' := 5) (ty := 31) rfl (w.heap.size + 1) 31 _ (0, 0) _ rfl (set_of (set_of HR2.out 0 _) 1 _) Tryd.underlying31 rfl (by kernel_rfl) rfl ?_
    exact ⟨_, rfl, MtIs.nil _, HB2.out.trans (hK.below HB2.out.size (fun k hk e => by have : k = w.heap.size + 1 := e; omega))⟩
  | true =>
    rw [if_pos rfl]
    have dz : ((B x).size : Int) = (x.length : Int) := rfl
    by_cases h32 : x.length = 32
    rotate_left
    · have hE : addE s P x = 1 := by unfold addE; rw [if_neg (fun h => h32 h.2)]
      obtain ⟨rfl, rfl, rfl⟩ := HEE.out _ hE (by decide)
      clear hE hok
      have hq : ((x.length : Int) == 32) = false := by simp; omega
      go_wp2
      have hK := kept2 (w.heap.size + 1) w2 (.int .i64 0) (.slice none 0 0)
      refine ret_whole2 (p := 4) (t' := 5) (ty := 31) rfl (w.heap.size + 1) 31 _ (0, 0) _ rfl (set_of (set_of HR2.out 0 _) 1 _) Tryd.underlying31 rfl (by kernel_rfl) rfl ?_
      exact ⟨_, rfl, MtIs.nil _, HB2.out.trans (hK.below HB2.out.size (fun k hk e => by have : k = w.heap.size + 1 := e; omega))⟩
    have hq : ((x.length : Int) == 32) = true := by simp; omega
    have H32 := Lib.hid h32
    by_cases hm : s = 1048576
    · have hE : addE s P x = 15 := by unfold addE; rw [if_pos ⟨hok, h32⟩, if_pos hm]
      obtain ⟨rfl, rfl, rfl⟩ := HEE.out _ hE (by decide)
      have hq2 : (s == 1048576) = true := by simpa using hm
      clear hE hok h32
      go_wp2
      have hK := kept2 (w.heap.size + 1) w2 (.int .i64 0) (.slice none 0 0)
      refine ret_whole2 (p := 4) (t' := 5) (ty := 31) rfl (w.heap.size + 1) 31 _ (0, 0) _ rfl (set_of (set_of HR2.out 0 _) 1 _) Tryd.underlying31 rfl (by kernel_rfl) rfl ?_
      exact ⟨_, rfl, MtIs.nil _, HB2.out.trans (hK.below HB2.out.size (fun k hk e => by have : k = w.heap.size + 1 := e; omega))⟩
    · have hE : addE s P x = 0 := by unfold addE; rw [if_pos ⟨hok, h32⟩, if_neg hm]
      obtain ⟨rfl, rfl, rfl⟩ := HE0.out hE
      have hq2 : (s == 1048576) = false := by simpa using hm
      obtain ⟨⟨hs0, hs1⟩, hPl, hP32⟩ := okM_iff.1 hok
      obtain ⟨n, rfl⟩ : ∃ n : Nat, s = (n : Int) := ⟨s.toNat, by omega⟩
      rw [Int.toNat_natCast] at hPl
      have HR := Lib.hid (show Calls Tryd.prog 59 #[.agg #[.int .i64 (n : Int), .slice a P.length c], .int .i64 0, .string (B x)] w2 (fun e w' => ∃ v', e = .returned v' ∧ MtIs v' ((n : Int) + 1) (raiseQ n P x) w' ∧ Below w2.heap.size w2 w') from
        (appended_any _ n 0 P x w2 (HV.out.below HB2.out) (by omega) (by simp) hPl (fun y hy => max32 (all32_get hP32 y hy)) (max32 h32)).mono
          (fun e w' ⟨v', e1, h1, h2⟩ => ⟨v', e1, by rw [Nat.pow_zero, Nat.div_one] at h1; exact h1, h2⟩))
      clear hE hok h32 hm hs0 hs1 hPl hP32
      go_wp2_with fail
      refine HR.out.mono ?_
      rintro e w4 ⟨v4, rfl, ⟨p4, rfl, hp4, hn4⟩, hb⟩
      obtain ⟨a4, k4, rfl⟩ := hp4.formMap
      have HB4 := Lib.hid (HB2.out.next hb)
      have HR4 := Lib.hid ((hb.block _ (lt_of HR2.out)).trans HR2.out)
      have HP4 := Lib.hid hp4
      have HN4 := Lib.hid hn4
      clear hb hp4 hn4 z0 z1 f0 f1
      obtain ⟨z0, z1⟩ := mtC HR4.out
      have f0 := free_of HR4.out 0
      have f1 := free_of HR4.out 1
      have hwz4 : w.heap.size + 1 < w4.heap.size := lt_of HR4.out
      go_wp2
      have hK := kept2 (w.heap.size + 1) w4 (.int .i64 ((n : Int) + 1)) (.slice a4 (raiseQ n P x).length k4)
      refine ret_whole2 (p := 4) (t' := 5) (ty := 31) rfl (w.heap.size + 1) 31 _ (0, 0) _ rfl (set_of (set_of HR4.out 0 _) 1 _) Tryd.underlying31 rfl (by kernel_rfl) rfl ?_
      exact ⟨_, rfl, ⟨_, rfl, isSl_mtSet (isSl_mtSet HP4.out HR4.out 0 _) (set_of HR4.out 0 _) 1 _, HN4.out⟩, HB4.out.trans (hK.below HB4.out.size (fun k hk e => by have : k = w.heap.size + 1 := e; omega))⟩
end Go.Proofs.YtfklmjcjjdliiaaDoor
