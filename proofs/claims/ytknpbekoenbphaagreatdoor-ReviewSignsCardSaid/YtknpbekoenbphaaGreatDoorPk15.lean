/- Parts of the proofs: WkRv9, PlainSo, PlainPa, FrmSort. No condition beyond those at each theorem. -/
import Derived.Shelf.SlSortCmp.NoneTotal
import Derived.Sort.LotA
import Derived.Test.YtknpbekoenbphaaGreatDoorPk14
set_option linter.unusedVariables false
set_option linter.unusedSimpArgs false
set_option maxHeartbeats 16000000
set_option maxRecDepth 100000
namespace Go.Proofs.YtknpbekoenbphaaGreatDoor
open Go Go.RowKit Licit
abbrev ndC (s : Bs) (i r : Int) (e : Rv.Ev) (vn vt vs vh vr : Value) (pb : Nat) : Array Value := #[.string (B s), .int .i64 i, .int .i64 r, .int .i64 e.kind, .string (B e.author), .int .i64 e.number, vn, .string (B e.root), .int .i64 e.bits, .int .i64 e.height, .string (B e.pkg), .string (B e.digest), .string (B e.question), .string (B e.scope), .string (B e.answer), .int .i64 e.till, vt, .int .i64 e.sg.i, vs, vh, vr, .map (some pb)]
def khl (ids : List Bs) (p : Rv.Past) (b : Nat) (w : World) : Prop := ∃ L, kfw w b L ∧ ∀ s, s ∈ L ↔ ∃ j, p.getD j false = true ∧ ids.getD j [] = s
def kfh (ids : List Bs) (e : Rv.Ev) (i : Nat) (row : Rv.Row) (b pb : Nat) (w0 w : World) : Prop := (∃ na nc ta tc sa sc ha hc ra rc, kc1 (evW e na nc ta tc sa sc ha hc ra rc) e w0 ∧ w.heap[b]? = some (.cells (ndC (ids.getD i []) (i : Int) (row.1 : Int) e (.slice na e.names.length nc) (.slice ta e.targets.length tc) (.slice sa e.sg.S.length sc) (.slice ha e.sg.H.length hc) (.slice ra e.sg.R.length rc) pb) 94 (0, 0))) ∧ khl ids row.2 pb w
theorem khl.of_block {ids : List Bs} {p : Rv.Past} {b : Nat} {w w' : World} (h : khl ids p b w) (hb : w'.heap[b]? = w.heap[b]?) : khl ids p b w' := by
 obtain ⟨L, h1, h2⟩ := h
 exact ⟨L, kbj.of_block h1 hb, h2⟩
theorem khl.lt {ids : List Bs} {p : Rv.Past} {b : Nat} {w : World} (h : khl ids p b w) : b < w.heap.size := by
 obtain ⟨L, h1, _⟩ := h
 exact kbj.lt h1
theorem IsSl.kept {S : Nat → Prop} {v : Value} {xs : List Value} {w0 w w' : World} (h0 : IsSl v xs w0) (hb : Below w0.heap.size w0 w) (hk : ka1 S w w') (hS : ∀ k, k < w0.heap.size → ¬ S k) : IsSl v xs w' := h0.below (hb.trans (hk.below hb.size hS))
structure Arr (l : List Rv.Ev) (ids : List Bs) (bd : Nat) (S : Rv.Stt) (pt pb : Nat → Nat) (D : List Nat) (w0 w : World) : Prop where
 below : Below w0.heap.size w0 w
 done : kbj Tryz.prog 9 kS w bd (D.map fun i => (ids.getD i [], ptr (pt i)))
 nodup : D.Nodup
 memD : ∀ i, i ∈ D ↔ i < l.length ∧ (S.getD i none).isSome = true
 node : ∀ i row, S.getD i none = some row → kfh ids (l.getD i Rv.ev0) i row (pt i) (pb i) w0 w
 base : w0.heap.size ≤ bd
 after : ∀ i, i ∈ D → bd < pt i ∧ bd < pb i
 len : S.length = l.length
 fits : Rv.Fits S
 rank : ∀ i r, S.getD i none = some r → r.1 + 1 ≤ D.length
theorem kfh.of_blocks {ids : List Bs} {e : Rv.Ev} {i : Nat} {row : Rv.Row} {b pb : Nat} {w0 w w' : World} (h : kfh ids e i row b pb w0 w) (h1 : w'.heap[b]? = w.heap[b]?) (h2 : w'.heap[pb]? = w.heap[pb]?) : kfh ids e i row b pb w0 w' := by
 obtain ⟨⟨na, nc, ta, tc, sa, sc, ha, hc, ra, rc, he, hb⟩, hp⟩ := h
 exact ⟨⟨na, nc, ta, tc, sa, sc, ha, hc, ra, rc, he, h1.trans hb⟩, hp.of_block h2⟩
theorem kfh.lt {ids : List Bs} {e : Rv.Ev} {i : Nat} {row : Rv.Row} {b pb : Nat} {w0 w : World} (h : kfh ids e i row b pb w0 w) : b < w.heap.size ∧ pb < w.heap.size := by
 obtain ⟨⟨na, nc, ta, tc, sa, sc, ha, hc, ra, rc, he, hb⟩, hp⟩ := h
 exact ⟨kac hb, hp.lt⟩
theorem kfh.cells {ids : List Bs} {e : Rv.Ev} {i : Nat} {row : Rv.Row} {b pb : Nat} {w0 w : World} (h : kfh ids e i row b pb w0 w) :
 w.cell? ⟨b, 0, none⟩ = some (.string (B (ids.getD i []))) ∧ w.cell? ⟨b, 1, none⟩ = some (.int .i64 (i : Int)) ∧ w.cell? ⟨b, 2, none⟩ = some (.int .i64 (row.1 : Int)) ∧ w.cell? ⟨b, 21, none⟩ = some (.map (some pb)) := by
 obtain ⟨⟨na, nc, ta, tc, sa, sc, ha, hc, ra, rc, he, hb⟩, hp⟩ := h
 refine ⟨?_, ?_, ?_, ?_⟩ <;> (rw [kab hb]; rfl)
section
variable {l : List Rv.Ev} {ids : List Bs} {bd : Nat} {S : Rv.Stt} {pt pb : Nat → Nat} {D : List Nat} {w0 w w' : World}
theorem Arr.inD (h : Arr l ids bd S pt pb D w0 w) {i : Nat} {row : Rv.Row} (hr : S.getD i none = some row) : i ∈ D := by
 refine (h.memD i).2 ⟨?_, by rw [hr]; rfl⟩
 rw [← h.len]
 rcases Nat.lt_or_ge i S.length with c | c
 · exact c
 · rw [List.getD_eq_getElem?_getD, List.getElem?_eq_none c] at hr; cases hr
theorem Arr.kept {T : Nat → Prop} (h : Arr l ids bd S pt pb D w0 w) (hk : ka1 T w w') (hb : ∀ k, k < w0.heap.size → ¬ T k) (h1 : ¬ T bd) (h2 : ∀ i, i ∈ D → ¬ T (pt i) ∧ ¬ T (pb i)) : Arr l ids bd S pt pb D w0 w' where
 below := h.below.trans (hk.below h.below.size hb)
 done := h.done.kept hk h1
 nodup := h.nodup
 memD := h.memD
 node i row hr := by
  have hn := h.node i row hr
  have hd := h2 i (h.inD hr)
  exact hn.of_blocks (hk.block _ hn.lt.1 hd.1) (hk.block _ hn.lt.2 hd.2)
 base := h.base
 after := h.after
 len := h.len
 fits := h.fits
 rank := h.rank
theorem Arr.grow (h : Arr l ids bd S pt pb D w0 w) (hb : Below w.heap.size w w') : Arr l ids bd S pt pb D w0 w' :=
 h.kept (T := fun _ => False) (ka1.of_below hb) (fun _ _ e => e) (fun e => e) (fun _ _ => ⟨fun e => e, fun e => e⟩)
theorem Arr.count (h : Arr l ids bd S pt pb D w0 w) : D.length = Rv.cntS S := by
 have e : (List.range S.length).filter (fun i => (S.getD i none).isSome) = ((List.range S.length).filter fun i => decide (i ∈ D)) := by
  refine List.filter_congr fun i hi => ?_
  have h1 := h.memD i
  rw [← h.len] at h1
  rw [Bool.eq_iff_iff, decide_eq_true_eq, h1]
  exact ⟨fun c => ⟨List.mem_range.1 hi, c⟩, fun c => c.2⟩
 have c1 : Rv.cntS S = ((List.range S.length).filter (fun i => (S.getD i none).isSome)).length := by
  unfold Rv.cntS
  have : S = (List.range S.length).map (fun i => S.getD i none) := by
   apply List.ext_getElem
   · simp
   · intro i h1 h2
     simp [List.getD_eq_getElem?_getD, List.getElem?_eq_getElem h1]
  conv => lhs; rw [this]
  rw [List.filter_map, List.length_map]
  rfl
 rw [c1, e]
 refine List.Perm.length_eq ((List.perm_ext_iff_of_nodup h.nodup (List.nodup_range.filter _)).2 fun i => ?_)
 rw [List.mem_filter, List.mem_range, decide_eq_true_eq]
 exact ⟨fun c => ⟨by rw [h.len]; exact ((h.memD i).1 c).1, c⟩, fun c => c.2⟩
theorem kix {α β : Type} {f : α → β} : ∀ {l : List α}, (∀ x ∈ l, ∀ y ∈ l, f x = f y → x = y) → l.Nodup → (l.map f).Nodup
 | [], _, _ => by simp
 | a :: r, hi, hn => by
   simp only [List.map_cons, List.nodup_cons] at hn ⊢
   refine ⟨fun hm => ?_, kix (fun x hx y hy => hi x (by simp [hx]) y (by simp [hy])) hn.2⟩
   obtain ⟨x, hx, e⟩ := List.mem_map.1 hm
   have := hi x (by simp [hx]) a (by simp) e
   subst this
   exact hn.1 hx
theorem Arr.get_some (h : Arr l ids bd S pt pb D w0 w) (hinj : ∀ i j, i < l.length → j < l.length → ids.getD i [] = ids.getD j [] → i = j) {i : Nat} (hi : i ∈ D) : kcb (D.map fun i => (ids.getD i [], ptr (pt i))) (ids.getD i []) = some (ptr (pt i)) := by
 refine khb ?_ (List.mem_map.2 ⟨i, hi, rfl⟩)
 show ((D.map _).map _).Nodup
 rw [List.map_map]
 exact kix (fun x hx y hy e => hinj x y ((h.memD x).1 hx).1 ((h.memD y).1 hy).1 e) h.nodup
theorem Arr.get_none (h : Arr l ids bd S pt pb D w0 w) (hinj : ∀ i j, i < l.length → j < l.length → ids.getD i [] = ids.getD j [] → i = j) {i : Nat} (hl : i < l.length) (hi : i ∉ D) : kcb (D.map fun i => (ids.getD i [], ptr (pt i))) (ids.getD i []) = none := by
 rw [kfg]
 intro hm
 simp only [kbg, List.map_map, List.mem_map, Function.comp] at hm
 obtain ⟨j, hj, he⟩ := hm
 have := hinj j i ((h.memD j).1 hj).1 hl he
 subst this
 exact hi hj
def upN (f : Nat → Nat) (i v : Nat) : Nat → Nat := fun k => if k = i then v else f k
theorem khi (f : Nat → Nat) (i v : Nat) : upN f i v i = v := by simp [upN]
theorem kni (f : Nat → Nat) {i v k : Nat} (h : k ≠ i) : upN f i v k = f k := by simp [upN, h]
theorem Arr.add (h : Arr l ids bd S pt pb D w0 w) (hinj : ∀ i j, i < l.length → j < l.length → ids.getD i [] = ids.getD j [] → i = j) {i q m : Nat} {row : Rv.Row} (hi : i < l.length) (hs : S.getD i none = none) (hrow : row.2.length = l.length) (hrk : row.1 ≤ D.length)
 (hd : kbj Tryz.prog 9 kS w' bd (kju (D.map fun i => (ids.getD i [], ptr (pt i))) (ids.getD i []) (ptr q))) (hk : ka1 (Licit.One bd) w w') (hn : kfh ids (l.getD i Rv.ev0) i row q m w0 w') (hq : bd < q) (hm : bd < m) :
 Arr l ids bd (S.set i (some row)) (upN pt i q) (upN pb i m) (D ++ [i]) w0 w' := by
 have hiD : i ∉ D := fun c => by have := ((h.memD i).1 c).2; rw [hs] at this; cases this
 have hne : ∀ k, k ∈ D → k ≠ i := fun k hk e => hiD (e ▸ hk)
 have hget : ∀ k, (S.set i (some row)).getD k none = if k = i then some row else S.getD k none := by
  intro k
  rw [List.getD_eq_getElem?_getD, List.getElem?_set, List.getD_eq_getElem?_getD]
  by_cases c : i = k
  · subst c
    simp [show i < S.length by rw [h.len]; exact hi]
  · simp [c, Ne.symm c]
 refine ⟨h.below.trans (hk.below h.below.size (fun k hk2 e => by have : k = bd := e; have := h.base; omega)), ?_, ?_, ?_, ?_, h.base, ?_, by rw [List.length_set]; exact h.len, ?_, ?_⟩
 · rw [kjj (fun c => by
    have := kfg.1 (h.get_none hinj hi hiD)
    exact this c)] at hd
   rw [List.map_append, List.map_cons, List.map_nil, khi]
   have e : D.map (fun k => (ids.getD k [], ptr (upN pt i q k))) = D.map (fun k => (ids.getD k [], ptr (pt k))) := List.map_congr_left fun k hk => by rw [kni _ (hne k hk)]
   rw [e]
   exact hd
 · exact List.nodup_append.2 ⟨h.nodup, by simp, fun a ha b hb e => by simp at hb; subst hb; exact hne a ha e⟩
 · intro k
   rw [hget, List.mem_append, List.mem_singleton]
   by_cases c : k = i
   · subst c; simp [hi]
   · simp only [c, or_false, if_false]; exact h.memD k
 · intro k r hr
   rw [hget] at hr
   by_cases c : k = i
   · subst c
     rw [if_pos rfl] at hr
     cases hr
     rw [khi, khi]
     exact hn
   · rw [if_neg c] at hr
     rw [kni _ c, kni _ c]
     have hn2 := h.node k r hr
     have ha := h.after k (h.inD hr)
     exact hn2.of_blocks (hk.block _ hn2.lt.1 (fun e => by have : pt k = bd := e; omega)) (hk.block _ hn2.lt.2 (fun e => by have : pb k = bd := e; omega))
 · intro k hk2
   rcases List.mem_append.1 hk2 with hk2 | hk2
   · rw [kni _ (hne k hk2), kni _ (hne k hk2)]; exact h.after k hk2
   · simp at hk2; subst hk2; rw [khi, khi]; exact ⟨hq, hm⟩
 · intro k r hr
   rw [hget] at hr
   rw [List.length_set, h.len]
   by_cases c : k = i
   · rw [if_pos c] at hr; cases hr; exact hrow
   · rw [if_neg c] at hr; rw [← h.len]; exact h.fits k r hr
 · intro k r hr
   rw [hget] at hr
   rw [List.length_append, List.length_singleton]
   by_cases c : k = i
   · rw [if_pos c] at hr; cases hr; omega
   · rw [if_neg c] at hr; have := h.rank k r hr; omega
end
end Go.Proofs.YtknpbekoenbphaaGreatDoor
namespace Licit.Rv
open Go Licit
section
variable {α : Type}
def ksw (b : α → α → Bool) (x : α) : List α → List α
 | [] => [x]
 | y :: r => if b x y = true then x :: y :: r else y :: ksw b x r
def kri (b : α → α → Bool) (l : List α) : List α := l.foldl (fun o x => ksw b x o) []
def kd4 (b : α → α → Bool) (l : List α) : Prop := l.Pairwise fun x y => b y x = false
theorem swo_asymm {b : α → α → Bool} (h : Sort.SWO b) {x y : α} (h1 : b x y = true) : b y x = false := by
 cases h2 : b y x with
 | false => rfl
 | true => have := h.trans _ _ _ h1 h2; rw [h.irrefl] at this; cases this
theorem kjz (b : α → α → Bool) (x : α) : ∀ l : List α, (ksw b x l).Perm (x :: l)
 | [] => List.Perm.refl _
 | y :: r => by
   unfold ksw
   split
   · exact List.Perm.refl _
   · exact ((kjz b x r).cons y).trans (List.Perm.swap x y r)
theorem kjt {b : α → α → Bool} (h : Sort.SWO b) (x : α) : ∀ l : List α, kd4 b l → kd4 b (ksw b x l)
 | [], _ => List.pairwise_singleton _ _
 | y :: r, hl => by
   have h1 := List.pairwise_cons.1 hl
   unfold ksw
   by_cases c : b x y = true
   · rw [if_pos c]
     refine List.pairwise_cons.2 ⟨fun z hz => ?_, hl⟩
     have hyx := swo_asymm h c
     rcases List.mem_cons.1 hz with rfl | hz
     · exact hyx
     · exact h.ntrans _ _ _ (h1.1 z hz) hyx
   · rw [if_neg c]
     refine List.pairwise_cons.2 ⟨fun z hz => ?_, kjt h x r h1.2⟩
     rcases List.mem_cons.1 ((kjz b x r).mem_iff.1 hz) with rfl | hz
     · simpa using c
     · exact h1.1 z hz
theorem kxe {b : α → α → Bool} (l o : List α) : (l.foldl (fun o x => ksw b x o) o).Perm (l ++ o) := by
 induction l generalizing o with
 | nil => exact List.Perm.refl _
 | cons x r ih =>
   simp only [List.foldl_cons]
   refine (ih _).trans (((kjz b x o).append_left r).trans ?_)
   exact List.perm_middle
theorem sortG_perm (b : α → α → Bool) (l : List α) : (kri b l).Perm l := by
 have := kxe (b := b) l []
 rwa [List.append_nil] at this
theorem kjx {b : α → α → Bool} (h : Sort.SWO b) (l o : List α) (ho : kd4 b o) : kd4 b (l.foldl (fun o x => ksw b x o) o) := by
 induction l generalizing o with
 | nil => exact ho
 | cons x r ih => exact ih _ (kjt h x o ho)
theorem ki5 {b : α → α → Bool} (h : Sort.SWO b) (l : List α) : kd4 b (kri b l) := kjx h l [] List.Pairwise.nil
theorem khe {b : α → α → Bool} {l l' : List α} (hp : l.Perm l') (ht : ∀ x ∈ l, ∀ y ∈ l, b x y = false → b y x = false → x = y) (h1 : kd4 b l) (h2 : kd4 b l') : l = l' :=
 List.Perm.eq_of_pairwise (le := fun x y => b y x = false) (fun x y hx hy a c => ht x hx y (hp.mem_iff.2 hy) c a) h1 h2 hp
end
theorem kov : ∀ x y : Bs, ltB x y = decide (x < y)
 | [], [] => by simp [ltB, Op.bytesLess]
 | _ :: _, [] => by simp [ltB, Op.bytesLess]
 | [], _ :: _ => by simp [ltB, Op.bytesLess]
 | a :: x, b :: y => by
   have ih : Op.bytesLess x y = decide (x < y) := kov x y
   show (decide (a < b) || (a == b && Op.bytesLess x y)) = _
   rw [ih, Bool.eq_iff_iff]
   simp [List.cons_lt_cons_iff]
theorem ltB_false {x y : Bs} : ltB x y = false ↔ y ≤ x := by rw [kov, decide_eq_false_iff_not, List.not_lt]
theorem kwl {x y : Bs} : ltB x y = true ↔ x < y := by rw [kov, decide_eq_true_eq]
theorem ltB_tot {x y : Bs} (h1 : ltB x y = false) (h2 : ltB y x = false) : x = y := List.le_antisymm (ltB_false.1 h2) (ltB_false.1 h1)
theorem ltB_irr (x : Bs) : ltB x x = false := by rw [ltB_false]; exact List.le_refl _
theorem kf7 {x y z : Bs} (h1 : ltB x y = true) (h2 : ltB y z = true) : ltB x z = true := by rw [kwl] at *; exact List.lt_trans h1 h2
theorem kmd : Sort.SWO ltB where
 irrefl := ltB_irr
 trans _ _ _ := kf7
 ntrans x y z h1 h2 := by rw [ltB_false] at *; exact List.le_trans h2 h1
theorem ltB_asymm {x y : Bs} (h : ltB x y = true) : ltB y x = false := swo_asymm kmd h
def befN (r s : Nat) (x y : Bs) : Bool := if r = s then ltB x y else decide (r < s)
theorem befN_swo {α : Type} (f : α → Nat) (g : α → Bs) : Sort.SWO fun x y => befN (f x) (f y) (g x) (g y) where
 irrefl x := by simp [befN, ltB_irr]
 trans x y z h1 h2 := by
  unfold befN at *
  by_cases a : f x = f y
  · rw [if_pos a] at h1
    rw [a]
    by_cases b : f y = f z
    · rw [if_pos b] at h2 ⊢; exact kf7 h1 h2
    · rw [if_neg b] at h2 ⊢; exact h2
  · rw [if_neg a] at h1
    by_cases b : f y = f z
    · rw [← b, if_neg a]; exact h1
    · rw [if_neg b] at h2
      simp only [decide_eq_true_eq] at h1 h2
      rw [if_neg (by omega)]
      simp only [decide_eq_true_eq]; omega
 ntrans x y z h1 h2 := by
  unfold befN at *
  by_cases a : f x = f y
  · rw [if_pos a] at h1
    rw [a]
    by_cases b : f y = f z
    · rw [if_pos b] at h2 ⊢; exact kmd.ntrans _ _ _ h1 h2
    · rw [if_neg b] at h2 ⊢; exact h2
  · rw [if_neg a] at h1
    by_cases b : f y = f z
    · rw [← b, if_neg a]; exact h1
    · rw [if_neg b] at h2
      simp only [decide_eq_false_iff_not] at h1 h2
      rw [if_neg (by omega)]
      simp only [decide_eq_false_iff_not]; omega
theorem ky3 (S : Stt) (ids : List Bs) (i k : Nat) : kzn S ids i k = befN (rankI S i) (rankI S k) (ids.getD i []) (ids.getD k []) := rfl
theorem kwg (S : Stt) (ids : List Bs) : Sort.SWO (kzn S ids) := befN_swo (rankI S) (fun i => ids.getD i [])
theorem befN_tot {r s : Nat} {x y : Bs} (h1 : befN r s x y = false) (h2 : befN s r y x = false) : r = s ∧ x = y := by
 unfold befN at *
 by_cases a : r = s
 · subst a
   simp only [if_true] at h1 h2
   exact ⟨rfl, ltB_tot h1 h2⟩
 · rw [if_neg a] at h1
   rw [if_neg (Ne.symm a)] at h2
   simp only [decide_eq_false_iff_not] at h1 h2
   omega
theorem kub (b : Nat → Nat → Bool) (x : Nat) : ∀ l, k18 b x l = ksw b x l
 | [] => rfl
 | y :: r => by unfold k18 ksw; rw [kub b x r]
theorem ktq (S : Stt) (ids : List Bs) : ordI S ids = kri (kzn S ids) (List.range S.length) := by
 unfold ordI kri
 congr 1
 funext o x
 exact kub _ _ _
theorem ordI_perm (S : Stt) (ids : List Bs) : (ordI S ids).Perm (List.range S.length) := by rw [ktq]; exact sortG_perm _ _
theorem kjr (S : Stt) (ids : List Bs) : kd4 (kzn S ids) (ordI S ids) := by rw [ktq]; exact ki5 (kwg S ids) _
theorem ordI_only {S : Stt} {ids l : List _} (hinj : ∀ i j, i < S.length → j < S.length → ids.getD i [] = ids.getD j [] → i = j) (hp : l.Perm (List.range S.length)) (hs : kd4 (kzn S ids) l) : l = ordI S ids := by
 refine khe (b := kzn S ids) (hp.trans (ordI_perm S ids).symm) (fun x hx y hy h1 h2 => ?_) hs (kjr S ids)
 have hx' := List.mem_range.1 (hp.mem_iff.1 hx)
 have hy' := List.mem_range.1 (hp.mem_iff.1 hy)
 exact hinj x y hx' hy' (befN_tot h1 h2).2
theorem ltP_swo : Sort.SWO ltP where
 irrefl x := by simp [ltP, ltB_irr]
 trans x y z h1 h2 := by
  unfold ltP at *
  by_cases a : x.1 = y.1
  · rw [if_pos a] at h1
    rw [a]
    by_cases b : y.1 = z.1
    · rw [if_pos b] at h2 ⊢; exact kf7 h1 h2
    · rw [if_neg b] at h2 ⊢; exact h2
  · rw [if_neg a] at h1
    by_cases b : y.1 = z.1
    · rw [← b, if_neg a]; exact h1
    · rw [if_neg b] at h2
      have := kf7 h1 h2
      rw [if_neg (fun e => by rw [e, ltB_irr] at this; cases this)]
      exact this
 ntrans x y z h1 h2 := by
  unfold ltP at *
  by_cases a : x.1 = y.1
  · rw [if_pos a] at h1
    rw [a]
    by_cases b : y.1 = z.1
    · rw [if_pos b] at h2 ⊢; exact kmd.ntrans _ _ _ h1 h2
    · rw [if_neg b] at h2 ⊢; exact h2
  · rw [if_neg a] at h1
    by_cases b : y.1 = z.1
    · rw [← b, if_neg a]; exact h1
    · rw [if_neg b] at h2
      have := kmd.ntrans _ _ _ h1 h2
      rw [if_neg (fun e => by rw [← e] at h2; exact a (ltB_tot h1 h2))]
      exact this
theorem ltP_tot {x y : Bs × Bs} (h1 : ltP x y = false) (h2 : ltP y x = false) : x = y := by
 unfold ltP at *
 by_cases a : x.1 = y.1
 · rw [if_pos a] at h1
   rw [if_pos a.symm] at h2
   exact Prod.ext a (ltB_tot h1 h2)
 · rw [if_neg a] at h1
   rw [if_neg (Ne.symm a)] at h2
   exact absurd (ltB_tot h1 h2) a
theorem kud (x : Bs × Bs) : ∀ l, k2d x l = ksw ltP x l
 | [] => rfl
 | y :: r => by unfold k2d ksw; rw [kud x r]
theorem sortP_eq (l : List (Bs × Bs)) : sortP l = kri ltP l := by
 unfold sortP kri
 congr 1
 funext o x
 exact kud _ _
theorem sortP_only {l l' : List (Bs × Bs)} (hp : l'.Perm l) (hs : kd4 ltP l') : l' = sortP l := by
 rw [sortP_eq]
 exact khe (hp.trans (sortG_perm ltP l).symm) (fun _ _ _ _ => ltP_tot) hs (ki5 ltP_swo l)
theorem klx (x : Bs) : ∀ (l : List Bs) (z : Bs), z ∈ kvq x l ↔ z = x ∨ z ∈ l
 | [], z => by simp [kvq]
 | y :: r, z => by
   unfold kvq
   split
   · rename_i e; subst e; simp
   · split
     · simp
     · simp only [List.mem_cons, klx x r z]
       constructor
       · rintro (h | h | h)
         · exact .inr (.inl h)
         · exact .inl h
         · exact .inr (.inr h)
       · rintro (h | h | h)
         · exact .inr (.inl h)
         · exact .inl h
         · exact .inr (.inr h)
def kic (l : List Bs) : Prop := l.Pairwise fun x y => ltB x y = true
theorem kkm (x : Bs) : ∀ l : List Bs, kic l → kic (kvq x l)
 | [], _ => List.pairwise_singleton _ _
 | y :: r, hl => by
   have h1 := List.pairwise_cons.1 hl
   unfold kvq
   by_cases e : x = y
   · rw [if_pos e]; exact hl
   · rw [if_neg e]
     by_cases c : ltB x y = true
     · rw [if_pos c]
       refine List.pairwise_cons.2 ⟨fun z hz => ?_, hl⟩
       rcases List.mem_cons.1 hz with rfl | hz
       · exact c
       · exact kf7 c (h1.1 z hz)
     · rw [if_neg c]
       refine List.pairwise_cons.2 ⟨fun z hz => ?_, kkm x r h1.2⟩
       rcases (klx x r z).1 hz with rfl | hz
       · cases h2 : ltB y z with
         | true => rfl
         | false => exact absurd (ltB_tot (by simpa using c) h2) e
       · exact h1.1 z hz
theorem kpq (l o : List Bs) (ho : kic o) : kic (l.foldl (fun o x => kvq x o) o) ∧ ∀ z, z ∈ l.foldl (fun o x => kvq x o) o ↔ z ∈ l ∨ z ∈ o := by
 induction l generalizing o with
 | nil => exact ⟨ho, fun z => by simp⟩
 | cons x r ih =>
   obtain ⟨h1, h2⟩ := ih (kvq x o) (kkm x o ho)
   refine ⟨h1, fun z => ?_⟩
   simp only [List.foldl_cons]
   rw [h2, klx, List.mem_cons]
   constructor
   · rintro (h | h | h)
     · exact .inl (.inr h)
     · exact .inl (.inl h)
     · exact .inr h
   · rintro ((h | h) | h)
     · exact .inr (.inl h)
     · exact .inl h
     · exact .inr (.inr h)
theorem sortB_strict (l : List Bs) : kic (sortB l) := (kpq l [] List.Pairwise.nil).1
theorem sortB_mem (l : List Bs) (z : Bs) : z ∈ sortB l ↔ z ∈ l := by
 have := (kpq l [] List.Pairwise.nil).2 z
 simp only [List.not_mem_nil, or_false] at this
 exact this
theorem strict_nodup {l : List Bs} (h : kic l) : l.Nodup := List.Pairwise.imp (fun {a b} c e => by subst e; rw [ltB_irr] at c; cases c) h
theorem sortB_only {l l' : List Bs} (hn : l'.Nodup) (hm : ∀ z, z ∈ l' ↔ z ∈ l) (hs : kd4 ltB l') : l' = sortB l := by
 have hp : l'.Perm (sortB l) := (List.perm_ext_iff_of_nodup hn (strict_nodup (sortB_strict l))).2 fun z => by rw [hm, sortB_mem]
 refine khe hp (fun _ _ _ _ => ltB_tot) hs ?_
 exact List.Pairwise.imp (fun {a b} c => ltB_asymm c) (sortB_strict l)
def Lower (S : Stt) : Prop := Fits S ∧ ∀ i row, S.getD i none = some row → ∀ j, row.2.getD j false = true → ∃ r, S.getD j none = some r ∧ r.1 < row.1
theorem kiu {S : Stt} (hS : Lower S) : ∀ (x : Row) (js : List Nat), x.2.length = S.length → (∀ j, x.2.getD j false = true → ∃ r, S.getD j none = some r ∧ r.1 < x.1) → ∀ y, readyL S x js = some y →
 ∀ j, y.2.getD j false = true → ∃ r, S.getD j none = some r ∧ r.1 < y.1
 | x, [], _, hx, y, h => by simp [readyL] at h; rw [← h]; exact hx
 | x, a :: r, hl, hx, y, h => by
   unfold readyL at h
   cases hq : S.getD a none with
   | none => rw [hq] at h; cases h
   | some z =>
     rw [hq] at h
     have hz := hS.1 a z hq
     have ha : a < S.length := by
      rcases Nat.lt_or_ge a S.length with c | c
      · exact c
      · rw [List.getD_eq_getElem?_getD, List.getElem?_eq_none c] at hq; cases hq
     refine kiu hS _ r (by rw [kuv _ _ (by simp [hl, hz])]; simp [hl]) (fun j hj => ?_) y h
     dsimp only at hj ⊢
     rw [orL_at _ _ (by simp [hl, hz]), set_at _ _ _ (by omega), Bool.or_eq_true, Bool.or_eq_true, decide_eq_true_eq] at hj
     rcases hj with (rfl | hj) | hj
     · exact ⟨z, hq, by omega⟩
     · obtain ⟨q, h1, h2⟩ := hx j hj
       exact ⟨q, h1, by omega⟩
     · obtain ⟨q, h1, h2⟩ := hS.2 a z hq j hj
       exact ⟨q, h1, by omega⟩
theorem ko8 (J : List (List Nat)) {S : Stt} (hS : Lower S) (i : Nat) : Lower (stepS J S i) := by
 refine ⟨kse J hS.1 i, ?_⟩
 unfold stepS
 cases hq : S.getD i none with
 | some _ => exact hS.2
 | none =>
   simp only []
   cases hr : readyL S (0, List.replicate S.length false) (J.getD i []) with
   | none => exact hS.2
   | some x =>
     intro k row hk j hj
     have hx := kiu hS _ _ (by simp) (fun j hj => by
      exfalso
      rw [List.getD_eq_getElem?_getD, List.getElem?_replicate] at hj
      split at hj <;> simp at hj) x hr
     have hget : ∀ m r, S.getD m none = some r → (S.set i (some x)).getD m none = some r := fun m r hm => by
      have hne : i ≠ m := fun e => by rw [← e, hq] at hm; cases hm
      rw [List.getD_eq_getElem?_getD, List.getElem?_set, if_neg hne, ← List.getD_eq_getElem?_getD]; exact hm
     rw [List.getD_eq_getElem?_getD, List.getElem?_set] at hk
     by_cases h : i = k
     · rw [if_pos h] at hk
       by_cases hl : i < S.length
       · rw [if_pos hl] at hk
         cases hk
         obtain ⟨r, h1, h2⟩ := hx j hj
         exact ⟨r, hget _ _ h1, h2⟩
       · rw [if_neg hl] at hk; cases hk
     · rw [if_neg h, ← List.getD_eq_getElem?_getD] at hk
       obtain ⟨r, h1, h2⟩ := hS.2 k row hk j hj
       exact ⟨r, hget _ _ h1, h2⟩
theorem kkk (J : List (List Nat)) {S : Stt} (hS : Lower S) : ∀ k, Lower (passS J S k)
 | 0 => hS
 | k + 1 => by rw [passS_succ]; exact ko8 J (kkk J hS k) k
theorem kh2 (J : List (List Nat)) : ∀ (f : Nat) (S T : Stt), Lower S → roundsS J f S = some T → Lower T ∧ T.length = S.length ∧ T.length ≤ cntS T
 | 0, S, T, _, h => by cases h
 | f + 1, S, T, hS, h => by
   unfold roundsS at h
   by_cases c : S.length ≤ cntS S
   · rw [if_pos c] at h; cases h; exact ⟨hS, rfl, c⟩
   · rw [if_neg c] at h
     by_cases d : cntS (passS J S S.length) = cntS S
     · rw [if_pos d] at h; cases h
     · rw [if_neg d] at h
       obtain ⟨h1, h2, h3⟩ := kh2 J f _ T (kkk J hS _) h
       exact ⟨h1, h2.trans (knr _ _ _), h3⟩
theorem arrS_lower {l : List Ev} {ids : List Bs} {S : Stt} (h : arrS l ids = some S) : Lower S ∧ S.length = l.length ∧ ∀ i, i < S.length → ∃ row, S.getD i none = some row := by
 have hn : ∀ i : Nat, (List.replicate l.length (none : Option Row)).getD i none = none := fun i => by
  rw [List.getD_eq_getElem?_getD, List.getElem?_replicate]; split <;> rfl
 obtain ⟨h1, h2, h3⟩ := kh2 _ _ _ _ ⟨fun i r hr => (by rw [hn] at hr; cases hr), fun i r hr => (by rw [hn] at hr; cases hr)⟩ h
 refine ⟨h1, by simpa using h2, fun i hi => ?_⟩
 have hall : S.filter (·.isSome) = S := by
  have hle : (S.filter (·.isSome)).length = S.length := Nat.le_antisymm (List.length_filter_le _ _) h3
  exact List.filter_eq_self.2 (List.length_filter_eq_length_iff.1 hle)
 have hm := List.filter_eq_self.1 hall S[i] (List.getElem_mem hi)
 obtain ⟨row, hr⟩ := Option.isSome_iff_exists.1 hm
 exact ⟨row, by rw [List.getD_eq_getElem?_getD, List.getElem?_eq_getElem hi, hr]; rfl⟩
theorem kla {S : Stt} (hS : Lower S) {i k : Nat} (h : pastI S i k = true) : rankI S k < rankI S i := by
 unfold pastI at h
 cases hi : S.getD i none with
 | none => rw [hi] at h; simp at h
 | some row =>
   rw [hi] at h
   obtain ⟨r, h1, h2⟩ := hS.2 i row hi k h
   unfold rankI
   rw [hi, h1]
   exact h2
theorem past_self {S : Stt} (hS : Lower S) (i : Nat) : pastI S i i = false := by
 cases h : pastI S i i with
 | false => rfl
 | true => have := kla hS h; omega
theorem past_early {S : Stt} {ids : List Bs} (hS : Lower S) {A r : List Nat} {i : Nat} (h : ordI S ids = A ++ i :: r) : ∀ k ∈ A, pastI S k i = false := by
 intro k hk
 cases hp : pastI S k i with
 | false => rfl
 | true =>
   have h1 := kla hS hp
   have hs := kjr S ids
   rw [h] at hs
   have h2 := (List.pairwise_append.1 hs).2.2 k hk i (by simp)
   rw [ky3] at h2
   unfold befN at h2
   rw [if_neg (by omega), decide_eq_false_iff_not] at h2
   omega
theorem getL_find {κ : Type} [DecidableEq κ] (A : List Nat) (f : Nat → κ) (g : Nat → Value) (s : κ) : kcb (A.map fun i => (f i, g i)) s = (A.find? fun i => decide (f i = s)).map g := by
 induction A with
 | nil => rfl
 | cons a r ih =>
   simp only [List.map_cons, kcb, List.find?_cons]
   by_cases c : f a = s
   · simp [c]
   · simp [c, ih]
theorem setL_find {κ : Type} [DecidableEq κ] (A : List Nat) (f : Nat → κ) (g : Nat → Value) (i : Nat) (h : A.find? (fun k => decide (f k = f i)) = none) : kju (A.map fun i => (f i, g i)) (f i) (g i) = (A ++ [i]).map fun i => (f i, g i) := by
 rw [List.map_append]
 refine kjj fun hm => ?_
 rw [kbg, List.map_map, List.mem_map] at hm
 obtain ⟨k, hk, e⟩ := hm
 have := List.find?_eq_none.1 h k hk
 simp at this
 exact this e
theorem turn_find (c : Cx) (A : List Nat) (a : Bs) (n : Int) : A.find? (fun k => decide (((c.ev k).author, (c.ev k).number) = (a, n))) = c.turn A a n := by
 unfold Cx.turn
 congr 1
 funext k
 rw [Bool.eq_iff_iff]
 simp
theorem wd_snoc (c : Cx) (A : List Nat) (i : Nat) (s : Bs) : c.wd (A ++ [i]) s = (c.wd A s || (decide ((c.ev i).kind = 4) && decide ((c.ev i).targets.getD 0 [] = s))) := by
 unfold Cx.wd; rw [List.any_append]; simp
theorem ov_snoc (c : Cx) (A : List Nat) (i : Nat) (s : Bs) : c.ov (A ++ [i]) s = (c.ov A s || (decide ((c.ev i).kind = 5) && decide ((c.ev i).targets.getD 1 [] = s))) := by
 unfold Cx.ov; rw [List.any_append]; simp
def Cx.rpl (c : Cx) (i d : Nat) : Bool := decide ((c.ev i).kind = 3) && (decide ((c.ev d).kind = 3) && c.past i d && asked (c.ev d) (c.ev i))
theorem rp_snoc (c : Cx) (A : List Nat) (i : Nat) (s : Bs) (h : ∀ k ∈ A, c.past k i = false) (hi : c.past i i = false) : c.rp (A ++ [i]) s = (c.rp A s || A.any fun d => c.rpl i d && decide (c.id d = s)) := by
 rw [Bool.eq_iff_iff, Bool.or_eq_true]
 unfold Cx.rp Cx.rpl
 simp only [List.any_eq_true, List.mem_append, List.mem_singleton, Bool.and_eq_true, decide_eq_true_eq]
 constructor
 · rintro ⟨k, hk, h3, d, hd, ⟨⟨h4, h5⟩, h6⟩, h7⟩
   rcases hd with hd | rfl
   · rcases hk with hk | rfl
     · exact .inl ⟨k, hk, h3, d, hd, ⟨⟨h4, h5⟩, h6⟩, h7⟩
     · exact .inr ⟨d, hd, ⟨h3, ⟨h5, h6⟩, h7⟩, h4⟩
   · rcases hk with hk | rfl
     · rw [h k hk] at h6; cases h6
     · rw [hi] at h6; cases h6
 · rintro (⟨k, hk, h3, d, hd, ⟨⟨h4, h5⟩, h6⟩, h7⟩ | ⟨d, hd, ⟨h3, ⟨h5, h6⟩, h7⟩, h4⟩)
   · exact ⟨k, .inl hk, h3, d, .inl hd, ⟨⟨h4, h5⟩, h6⟩, h7⟩
   · exact ⟨i, .inr rfl, h3, d, .inl hd, ⟨⟨h4, h5⟩, h6⟩, h7⟩
end Licit.Rv
namespace Licit
open Go Go.RowKit Go.Sort Go.Proofs Go.Shelf
section
variable {α : Type} [Inhabited α]
theorem kif (enc : α → Value) (w : World) (b off k : Nat) (d : Array α) (h : k ≠ b) : (putRow enc w b off d).heap[k]? = w.heap[k]? := by
 show (w.heap.modify b _)[k]? = _
 rw [Array.getElem?_modify, if_neg (Ne.symm h)]
theorem kft (enc : α → Value) (w : World) (b off : Nat) (d : Array α) {cs : Array Value} {e : TypeId} {fr : Nat × Nat} (h : w.heap[b]? = some (.cells cs e fr)) : (putRow enc w b off d).heap[b]? = some (.cells (putCells enc off d cs) e fr) := by
 show (w.heap.modify b _)[b]? = _
 rw [Array.getElem?_modify, if_pos rfl, h]
 rfl
theorem kdt (enc : α → Value) (w : World) (b q : Nat) (d : Array α) (os : Array Obj) : ka1 (One b) w (sortWorld enc w b 0 q d os) := by
 refine ⟨rfl, rfl, rfl, ?_, fun k hk hn => ?_⟩
 · show w.heap.size ≤ (grow (putRow enc (Sort.ahead w q) b 0 d) os).heap.size
   rw [size_grow, Go.Sort.size_putRow]
   exact Nat.le_add_right _ _
 · show (grow (putRow enc (Sort.ahead w q) b 0 d) os).heap[k]? = _
   rw [heap_grow_old _ _ (by rw [Go.Sort.size_putRow]; exact hk), kif _ _ _ _ _ _ hn]
   rfl
theorem kj7 (xs : List α) (j : Nat) (h : j < xs.length) : xs[j]? = some (xs.toArray[j]!) := by
 rw [getElem!_pos xs.toArray j (by simpa using h), List.getElem?_eq_getElem h]
 rfl
theorem kt6 {w : World} {base b cap : Nat} {e : TypeId} {enc : α → Value} {xs : List α} (h : w.ownsRow base e 1 (.slice (some ⟨b, 0, none⟩) xs.length cap) xs.length (xs.map enc)) : Holds enc w b 0 xs.toArray := by
 intro j hj
 have hj' : j < xs.length := by simpa using hj
 rcases h.2 with ⟨h1, _⟩ | ⟨g, c, cur, hv, hg, hh, h1, h2, h3, h4⟩
 · cases h1
 · cases hv
   have h5 : (xs.map enc)[j]? = (List.take (xs.length * 1) cur.toList)[j]? := by rw [h4]
   refine ⟨?_, ?_⟩
   · rw [kab hh, Nat.zero_add]
     rw [List.getElem?_take_of_lt (by omega)] at h5
     rw [← Array.getElem?_toList, ← h5, List.getElem?_map, kj7 xs j hj']
     rfl
   · unfold World.frozen?
     simp only [hh]
     simp
theorem kmr {w : World} {base b cap q : Nat} {e : TypeId} {enc : α → Value} {xs ys : List α} {os : Array Obj} (h : w.ownsRow base e 1 (.slice (some ⟨b, 0, none⟩) xs.length cap) xs.length (xs.map enc)) (hl : ys.length = xs.length) :
 (sortWorld enc w b 0 q ys.toArray os).ownsRow base e 1 (.slice (some ⟨b, 0, none⟩) xs.length cap) xs.length (ys.map enc) := by
 refine ⟨by simp [hl], ?_⟩
 rcases h.2 with ⟨h1, _⟩ | ⟨g, c, cur, hv, hg, hh, h1, h2, h3, h4⟩
 · cases h1
 · cases hv
   refine .inr ⟨b, cap, putCells enc 0 ys.toArray cur, rfl, hg, ?_, h1, h2, by simp [putCells, h3], ?_⟩
   · show (grow (putRow enc (Sort.ahead w q) b 0 ys.toArray) os).heap[b]? = _
     rw [heap_grow_old _ _ (by rw [Go.Sort.size_putRow]; exact kac hh)]
     exact kft enc (Sort.ahead w q) b 0 _ hh
   · apply List.ext_getElem?
     intro k
     by_cases hk : k < ys.length
     · rw [List.getElem?_take_of_lt (by omega), Array.getElem?_toList, putCells, Array.getElem?_mapIdx, List.getElem?_map, kj7 ys k hk]
       rw [Array.getElem?_eq_getElem (show k < cur.size by omega)]
       simp [hk]
     · rw [List.getElem?_eq_none (by simp; omega), List.getElem?_eq_none (by simp; omega)]
theorem kzj {P : Program} {ρ : Ren} (L : SlLaysF.n6 P ρ) (enc : α → Value) (h1 : OneCell enc) (cf : α → α → Int) (hO : SWO (ltOf cf)) (hT : ∀ x y, ltOf cf x y = false → ltOf cf y x = false → x = y) (g : Nat) (eg : ∀ args w, (callFunc g args).run P w = .ok (.enter g args) w)
 (xs : List α) (w : World) (base b cap : Nat) (e : TypeId) (hown : w.ownsRow base e 1 (.slice (some ⟨b, 0, none⟩) xs.length cap) xs.length (xs.map enc)) (hcap : xs.length < 4611686018427387904)
 (hcmp : ∀ W, ka1 (One b) w W → ∀ x y, Calls P g #[enc x, enc y] W fun en w' => en = .returned (.int .i64 (cf x y)) ∧ ∃ q os', w' = grow (W.drewN q) os') :
 Calls P (ρ.f 6) #[.slice (some ⟨b, 0, none⟩) xs.length cap, .func (.func g) #[] #[]] w fun en w' => en = .returned (.tuple #[]) ∧ w'.ownsRow base e 1 (.slice (some ⟨b, 0, none⟩) xs.length cap) xs.length ((xs.mergeSort fun x y => !(ltOf cf) y x).map enc) ∧ ka1 (One b) w w' := by
 have hlt : b < w.heap.size := (hown.lt b rfl).2
 have hS := Any.slices_SortFunc_total L enc h1 cf hO g #[] b 0 cap xs.toArray w eg (fun m os dk _ x y => by
  have := hcmp (sortWorld enc w b 0 m dk os) (kdt enc w b m dk os) x y
  simpa using this) (kt6 hown) hlt (by simpa using hcap) hT
 rw [List.size_toArray] at hS
 refine hS.mono ?_
 rintro en w' ⟨rfl, n, os, rfl⟩
 exact ⟨rfl, kmr hown (by simp), kdt _ _ _ _ _ _⟩
end
end Licit
