/- rows of package lamport: the tree of a seed, row by row. -/
import Derived.Test.YtdkjehagkmkokaaDoorWkLam3
import Derived.Test.YtdkjehagkmkokaaDoorWkChunk
import Derived.Test.YtdkjehagkmkokaaDoorFrmAll
namespace Go.Proofs.YtdkjehagkmkokaaDoor
open Go Go.RowKit Licit

attribute [local go_sem] Oper.semAt_some

theorem Tryd.infoSl : (Tryd.prog.info? 32).map (fun i => (i.zero, i.size, i.bytes)) = some (some (.slice none 0 0), 1, 24) := by kernel_rfl

/-- A deferred mark of a range over a function, and a list of them. -/
def mark (D : Nat) : Deferred := { target := .collected D, args := #[] }
/-- All blocks but some are as they were. -/
def ButAt (Ds : List Nat) (w w' : World) : Prop := w'.os = w.os ∧ w'.tape = w.tape ∧ w'.output = w.output ∧ w.heap.size ≤ w'.heap.size ∧ ∀ k, k < w.heap.size → k ∉ Ds → w'.heap[k]? = w.heap[k]?
def Marks (Ds : List Nat) (w : World) : Prop := Ds.Nodup ∧ ∀ D ∈ Ds, w.heap[D]? = some (.deferred (some []))

theorem leaves_marks {P : Program} {F : Fence} {n : Nat} {fn : Func} {tmps : Array Value} {R : Ending → World → Prop} : ∀ (Ds : List Nat) (w : World), Marks Ds w →
    (∀ w', ButAt Ds w w' → LeavesIn F n P fn tmps R [] .returning w') → LeavesInM F n P fn tmps R (Ds.map mark) .returning w
  | [], w, _, h => h w ⟨rfl, rfl, rfl, Nat.le_refl _, fun _ _ _ => rfl⟩
  | D :: Ds, w, ⟨hn, hm⟩, h => by
    have hD := hm D (List.mem_cons_self)
    rw [List.nodup_cons] at hn
    refine ⟨by simp, .inl ⟨_, _, rfl, run_takeDeferred hD, ?_⟩⟩
    refine leaves_marks Ds _ ⟨hn.2, fun E hE => ?_⟩ fun w' hw' => h w' ?_
    · rw [World.putObj_heap_other (fun e => by subst e; exact hn.1 hE)]
      exact hm E (List.mem_cons_of_mem _ hE)
    · obtain ⟨h1, h2, h3, h4, h5⟩ := hw'
      refine ⟨h1, h2, h3, by simpa using h4, fun k hk hne => ?_⟩
      rw [List.mem_cons, not_or] at hne
      rw [h5 k (by simpa using hk) hne.2, World.putObj_heap_other hne.1]

/-- The row while it is being filled. -/
def fillK (seed : Bs) (b n k : Nat) : List Bs := leavesN seed b k ++ List.replicate (n - k) []
theorem fillK_zero (seed : Bs) (b n : Nat) : fillK seed b n 0 = List.replicate n [] := by simp [fillK, leavesN]
theorem fillK_end (seed : Bs) (b n : Nat) : fillK seed b n n = leavesN seed b n := by simp [fillK]
theorem fillK_len (seed : Bs) (b : Nat) {n k : Nat} (h : k ≤ n) : (fillK seed b n k).length = n := by simp [fillK, leavesN_len]; omega
theorem fillK_step (seed : Bs) (b : Nat) {n k : Nat} (h : k < n) : (fillK seed b n k).set k (leafAt seed b k) = fillK seed b n (k + 1) := by
  unfold fillK
  rw [leavesN_succ, List.set_append_right _ _ (by rw [leavesN_len]; exact Nat.le_refl _), leavesN_len, show n - k = (n - (k + 1)) + 1 by omega, List.replicate_succ]
  simp
theorem vS_zero (n : Nat) : (madeCells #[Value.string ⟨#[]⟩] n).toList = (List.replicate n []).map vS := by
  simp [madeCells, vS, B]
  apply List.ext_getElem
  · simp
  · intro i h1 h2
    simp [Nat.mod_one]
theorem vS_set (L : List Bs) (i : Nat) (x : Bs) : (L.map vS).toArray.setIfInBounds i (vS x) = ((L.set i x).map vS).toArray := by simp [List.map_set]

/-- A list of lists of texts as a slice of slices; each lies where it is said. -/
def IsRows (v : Value) (rows : List (List Bs)) (w : World) : Prop := ∃ vs : List Value, vs.length = rows.length ∧ IsSl v vs w ∧ ∀ j, j < rows.length → IsSl (vs.getD j undef) ((rows.getD j []).map vS) w
/-- The same, of own rows. -/
def OwnRows (base : Nat) (v : Value) (rows : List (List Bs)) (w : World) : Prop := ∃ vs : List Value, vs.length = rows.length ∧ w.ownsRow base 32 1 v vs.length vs ∧ ∀ j, j < rows.length → w.ownsRow base 9 1 (vs.getD j undef) (rows.getD j []).length ((rows.getD j []).map vS)
theorem OwnRows.isRows {base : Nat} {v : Value} {rows : List (List Bs)} {w : World} (h : OwnRows base v rows w) (h1 : rows.length ≤ maxLen) (h2 : ∀ j, j < rows.length → (rows.getD j []).length ≤ maxLen) : IsRows v rows w := by
  obtain ⟨vs, hl, ho, hv⟩ := h
  exact ⟨vs, hl, IsSl.of_owns ho (by omega), fun j hj => IsSl.of_owns (by rw [List.length_map]; exact hv j hj) (by rw [List.length_map]; exact h2 j hj)⟩
theorem OwnRows.kept {base : Nat} {v : Value} {rows : List (List Bs)} {w w' : World} {S : Nat → Prop} (h : OwnRows base v rows w) (hk : Kept S w w') (hS : ∀ k, base ≤ k → k < w.heap.size → ¬ S k) : OwnRows base v rows w' := by
  obtain ⟨vs, hl, ho, hv⟩ := h
  exact ⟨vs, hl, ownsRow_block ho (fun q h1 h2 => hk.block q h2 (hS q h1 h2)), fun j hj => ownsRow_block (hv j hj) (fun q h1 h2 => hk.block q h2 (hS q h1 h2))⟩

theorem getD_mem {xs : List Bs} {i : Nat} (h : i < xs.length) : xs.getD i [] ∈ xs := by
  rw [List.getD_eq_getElem?_getD, List.getElem?_eq_getElem h]
  exact List.getElem_mem _
/-- One text of an own row. -/
theorem own_cell {w : World} {base : Nat} {t : TypeId} {g n cap : Nat} {xs : List Bs} (h : w.ownsRow base t 1 (.slice (some ⟨g, 0, none⟩) n cap) n (xs.map vS)) {i : Nat} (hi : i < xs.length) : w.cell? ⟨g, i, none⟩ = some (vS (xs.getD i [])) := by
  rcases h.2 with ⟨h0, _⟩ | ⟨g', cap', cur, h1, h2, h3, h4, h5, h6, h7⟩
  · cases h0
  · simp only [Value.slice.injEq, Option.some.injEq, Addr.mk.injEq] at h1
    obtain ⟨⟨rfl, _⟩, _, rfl⟩ := h1
    rw [cell_of h3]
    have hl := h.1
    rw [List.length_map] at hl
    have e : (cur.toList.take (n * 1))[i]? = (xs.map vS)[i]? := by rw [h7]
    rw [List.getElem?_take, if_pos (by omega), Array.getElem?_toList, List.getElem?_map, List.getElem?_eq_getElem hi] at e
    rw [e, List.getD_eq_getElem?_getD, List.getElem?_eq_getElem hi]
    rfl
theorem at_lt {w : World} {q : Nat} {o : Obj} (h : w.heap[q]? = some o) : q < w.heap.size := (Array.getElem?_eq_some_iff.1 h).1
theorem own_at {w w' : World} {base : Nat} {t : TypeId} {size : Nat} {v : Value} {n : Nat} {xs : List Value} (h : w.ownsRow base t size v n xs) (hb : ∀ q, v.ownBlock = some q → w'.heap[q]? = w.heap[q]?) : w'.ownsRow base t size v n xs := by
  refine ⟨h.1, ?_⟩
  rcases h.2 with ⟨rfl, h0⟩ | ⟨g, cap, cur, rfl, h1, h2, h3⟩
  · exact .inl ⟨rfl, h0⟩
  · exact .inr ⟨g, cap, cur, rfl, h1, (hb g rfl).trans h2, h3⟩
theorem own_block {w : World} {base : Nat} {t : TypeId} {size : Nat} {v : Value} {n : Nat} {xs : List Value} (h : w.ownsRow base t size v n xs) {q : Nat} (hq : v.ownBlock = some q) : base ≤ q ∧ ∃ cs, w.heap[q]? = some (.cells cs t (0, 0)) := by
  rcases h.2 with ⟨rfl, h0⟩ | ⟨g, cap, cur, rfl, h1, h2, h3⟩
  · cases hq
  · cases (hq : some g = some q)
    exact ⟨h1, _, h2⟩
theorem own_lt {w : World} {base : Nat} {t : TypeId} {size : Nat} {v : Value} {n : Nat} {xs : List Value} (h : w.ownsRow base t size v n xs) {q : Nat} (hq : v.ownBlock = some q) : q < w.heap.size := by
  obtain ⟨_, cs, hc⟩ := own_block h hq
  exact lt_of hc
theorem own_cells {w : World} {base : Nat} {t : TypeId} {v : Value} {n : Nat} {xs : List Value} (h : w.ownsRow base t 1 v n xs) : v.cells = #[v] := by
  rcases id h.2 with ⟨rfl, _⟩ | ⟨g, cap, cur, rfl, _⟩ <;> rfl
theorem own_oneCell {w : World} {base : Nat} {t : TypeId} {v : Value} {n : Nat} {xs : List Value} (h : w.ownsRow base t 1 v n xs) : v.oneCell' = true := by
  rcases id h.2 with ⟨rfl, _⟩ | ⟨g, cap, cur, rfl, _⟩ <;> rfl

/-- What a range over the pairs of a row holds: block A is the box of the nodes above. -/
def nodesAt (R : List Bs) {m : Nat} (pre : List (Off m)) : List Bs := pre.map fun x => nodeB (R.getD x.1 []) (R.getD (x.1 + 1) [])
def AboveInv (R : List Bs) (A : Nat) (W0 : World) {m : Nat} (pre : List (Off m)) (W : World) : Prop :=
  Kept (One A) W0 W ∧ ∃ v, W.heap[A]? = some (.cells #[v] 32) ∧ W.ownsRow W0.heap.size 9 1 v pre.length ((nodesAt R pre).map vS)
theorem nodesAt_all (R : List Bs) {m : Nat} (ys : List (Off m)) (M : Nat) (h : ys.map (·.1) = offsK M) : nodesAt R ys = aboveN R M := by
  have e : nodesAt R ys = (ys.map (·.1)).map fun x => nodeB (R.getD x []) (R.getD (x + 1) []) := by simp [nodesAt]
  rw [e, h]
  simp [offsK, aboveN]
theorem cells_ne {W : World} {r : Nat} {cs : Array Value} {T : TypeId} {fr : Nat × Nat} (h : W.heap[r]? = some (.cells cs T fr)) {q : Nat} (hq : ∃ o : Obj, W.heap[q]? = some o ∧ o.isCells = false) : r ≠ q := by
  rintro rfl
  obtain ⟨o, h1, h2⟩ := hq
  rw [h] at h1
  cases h1
  cases h2
theorem AboveInv.own (R : List Bs) (A : Nat) (W0 : World) {m : Nat} (_ : A < W0.heap.size) : OwnFrom W0.heap.size (fun (pre : List (Off m)) W => AboveInv R A W0 pre W) := by
  rintro pre W W' row ⟨hK, v, hb, ho⟩ hg hr
  refine ⟨hK.grown hg (fun k hk => .inl (hr k hk).1), v, ?_, ?_⟩
  · rw [hg.block A (lt_of hb) (fun e => cells_ne hb (hr A e.symm).2 rfl)]
    exact hb
  · refine ho.kept hg ?_
    rcases id ho.2 with ⟨rfl, _⟩ | ⟨g, cap, cur, rfl, _, hh, _⟩
    · exact .inl rfl
    · refine .inr fun e => ?_
      have e' : row = some g := e.symm
      exact cells_ne hh (hr g e').2 rfl

/-- What the second loop of rows holds. -/
def RowsInv (seed : Bs) (b h : Nat) (w : World) (a : Act) (wr : World) : Prop :=
  ∃ (j : Nat) (vs : Nat → Value) (ov : Value) (Ds : List Nat) (x6 x8 x9 x10 x11 x12 x13 x14 x15 x16 x17 x18 x19 x20 x21 x22 x23 x24 x25 x26 x27 x28 x29 x30 x31 x32 x33 x34 x35 x36 x37 x38 x39 x40 x41 x42 x43 x44 x45 x46 x47 x48 x49 x50 x51 : Value), j ≤ h ∧
    (∀ i, i ≤ j → wr.ownsRow (w.heap.size + 1) 9 1 (vs i) (rowB seed b h i).length ((rowB seed b h i).map vS)) ∧
    wr.ownsRow (w.heap.size + 1) 32 1 ov (j + 1) ((List.range (j + 1)).map vs) ∧ Marks Ds wr ∧ (∀ D ∈ Ds, w.heap.size ≤ D) ∧ Below w.heap.size w wr ∧
    a = { tmps := #[.string (B seed), .agg #[.int .i64 (b : Int), .int .i64 (h : Int)], undef, .pointer (some ⟨w.heap.size, 0, none⟩), .slice none 0 0, vs j, x6, ov, x8, x9, x10, x11, x12, x13, x14, x15, x16, x17, x18, x19, x20, x21, x22, x23, x24, x25, x26, x27, x28, x29, x30, x31, x32, x33, x34, x35, x36, x37, x38, x39, x40, x41, x42, x43, x44, x45, x46, x47, x48, x49, x50, x51], defers := Ds.map mark }

set_option maxHeartbeats 4000000 in
set_option maxRecDepth 100000 in
theorem rows_any (seed : Bs) (b h : Nat) (w : World) (hs : seed.length ≤ maxLen) (hb : b ≤ 256) (hh : h ≤ 6) (ht : Tab w) :
    Calls Tryd.prog 36 #[.string (B seed), .agg #[.int .i64 (b : Int), .int .i64 (h : Int)]] w fun e w' => ∃ v, e = .returned v ∧ OwnRows w.heap.size v ((List.range (h + 1)).map (rowB seed b h)) w' ∧ Below w.heap.size w w' := by
  obtain ⟨i0, hi, hz0, hz1, hz2⟩ := info_parts Tryd.infoStr
  obtain ⟨i1, hi1, hy0, hy1, hy2⟩ := info_parts Tryd.infoSl
  have Hi := Lib.hid hi
  have Hz0 := Lib.hid hz0
  have Hz1 := Lib.hid hz1
  have Hz2 := Lib.hid hz2
  have Hi1 := Lib.hid hi1
  have Hy0 := Lib.hid hy0
  have Hy1 := Lib.hid hy1
  have Hy2 := Lib.hid hy2
  clear hi hz0 hz1 hz2 hi1 hy0 hy1 hy2
  have hp : 2 ^ h ≤ 64 := Nat.le_trans (Nat.pow_le_pow_right (by decide) hh) (by decide)
  obtain ⟨n, hn⟩ : ∃ n, 2 ^ h = n := ⟨_, rfl⟩
  have hpi : (1 : Int) * 2 ^ h = (n : Int) := by rw [← hn]; simp
  have hpi2 : (2 : Int) ^ h = (n : Int) := by rw [← hn]; simp
  rw [hn] at hp
  have HN := Lib.hid hn
  clear hn
  refine callsIn_wide.1 (callsIn_of_wp_marks (F := Fence.wide) (n := 9) Tryd.func36 rfl trivial (wpIn_wide.2 ?_) rfl)
  simp only [Tryd.ntmps36, List.size_toArray, List.length_cons, List.length_nil, Nat.reduceAdd, Nat.reduceSub, Array.replicate_succ, Array.replicate_zero, List.push_toArray, List.append_toArray, List.nil_append, List.cons_append]
  go_wp2_with (first
    | (at_make
       refine wpList_make_full _ rfl _ _ 32 rfl (w.heap.size + 1) 9 i0 (.string ⟨#[]⟩) 1 Tryd.underlying32 Hi.out Hz0.out Hz1.out _ _ _ _ n rfl rfl rfl rfl (by rw [Hz2.out]; omega) (by unfold maxLen; omega) (by simp) ?_
       intro w1 ho1 hg1
       have hb1 : Below w.heap.size w w1 := ((Below.refl _ _).alloc (Nat.le_refl _) _).grown hg1 (by simp) (by simp)
       have hk1 : w1.heap[w.heap.size]? = some (.cells #[.int .i64 (b : Int), .int .i64 (h : Int)] 23) := (hg1.block _ (by simp) (by simp)).trans (new_of _ _)
       have hr1 := Sha.own_full ho1
       rw [World.size_alloc, show (madeCells (Value.string ⟨#[]⟩).cells (n * 1)).toList = (fillK seed b n 0).map vS by rw [fillK_zero, Nat.mul_one]; exact vS_zero n] at hr1
       have HB1 := Lib.hid hb1
       have HK1 := Lib.hid hk1
       have HR1 := Lib.hid hr1
       clear ho1 hg1 hb1 hk1 hr1))
  go_loopw [16] (fun i wr => ∃ k : Nat, k ≤ n ∧ i = .int .i64 k ∧ wr.heap[w.heap.size + 1]? = some (.cells ((fillK seed b n k).map vS).toArray 9) ∧ wr.heap[w.heap.size]? = some (.cells #[.int .i64 (b : Int), .int .i64 (h : Int)] 23) ∧ Below w.heap.size w wr) (fun i _ => n - (intOf i).toNat)
  case atStart => exact ⟨0, by omega, rfl, HR1.out, HK1.out, HB1.out⟩
  case round =>
    obtain ⟨k, hk, rfl, hr, hK, hB⟩ := hrel
    have hc0 : wr.cell? ⟨w.heap.size, 0, none⟩ = some (.int .i64 (b : Int)) := by rw [cell_of hK]; rfl
    have hc1 : wr.cell? ⟨w.heap.size, 1, none⟩ = some (.int .i64 (h : Int)) := by rw [cell_of hK]; rfl
    have htr := ht.same hB
    have HR := Lib.hid hr
    have HK := Lib.hid hK
    have HB := Lib.hid hB
    clear hr hK hB
    by_cases hlt : k < n
    · have hki : (k : Int) < (n : Int) := by omega
      go_wp2_with (first
        | (go_at_call 64
           refine (own_any seed b (h : Int) (k : Int) _ hs hb htr).mono ?_
           rintro e w2 ⟨rfl, hb2⟩
           have HR2 := Lib.hid (below_heap hb2 (lt_of HR.out) HR.out)
           have HK2 := Lib.hid (below_heap hb2 (lt_of HK.out) HK.out)
           have HB2 := Lib.hid (HB.out.next hb2)
           clear hb2)
        | (refine wpList_store_one rfl 9 _ _ rfl (w.heap.size + 1) k rfl (vS (leafAt seed b k)) rfl rfl rfl _ _ HR2.out (by simp [fillK_len seed b hk]; exact hlt) (by kernel_rfl) ?_
           intro w3 h3 hk3
           rw [vS_set, fillK_step seed b hlt] at h3
           have HR3 := Lib.hid h3
           have HK3 := Lib.hid ((hk3.block _ (lt_of HK2.out) (fun e => by have : w.heap.size = w.heap.size + 1 := e; omega)).trans HK2.out)
           have HB3 := Lib.hid (HB2.out.trans (hk3.below HB2.out.size (fun q hq e => by have : q = w.heap.size + 1 := e; omega)))
           clear h3 hk3))
      go_roundw
      case rel => exact ⟨k + 1, by omega, by go_num, HR3.out, HK3.out, HB3.out⟩
      case measure => simp [intOf]; omega
    · obtain rfl : k = n := by omega
      go_wp2
      have hR0 : rowB seed b h 0 = leavesN seed b k := by show leavesN seed b (2 ^ h) = _; rw [HN.out]
      have hrow0 : (wr.alloc (.cells #[.slice (some ⟨w.heap.size + 1, 0, none⟩) k k] 32)).ownsRow (w.heap.size + 1) 9 1 (.slice (some ⟨w.heap.size + 1, 0, none⟩) k k) (rowB seed b h 0).length ((rowB seed b h 0).map vS) := by
        rw [hR0, leavesN_len]
        have := own_built (base := w.heap.size + 1) (n := k) HR.out (Nat.le_refl _) (by simp [fillK_len seed b (Nat.le_refl k)]) (by unfold maxLen; omega)
        rw [fillK_end] at this
        exact this.alloc _
      have hout0 : (wr.alloc (.cells #[.slice (some ⟨w.heap.size + 1, 0, none⟩) k k] 32)).ownsRow (w.heap.size + 1) 32 1 (.slice (some ⟨wr.heap.size, 0, none⟩) 1 1) 1 [.slice (some ⟨w.heap.size + 1, 0, none⟩) k k] := own_built (new_of _ _) (Nat.le_of_lt (lt_of HR.out)) rfl (by decide)
      refine wp_loop (RowsInv seed b h w) (fun a _ => slLen (a.tmps.getD 5 undef)) ⟨0, fun _ => .slice (some ⟨w.heap.size + 1, 0, none⟩) k k, .slice (some ⟨wr.heap.size, 0, none⟩) 1 1, [], _, _, _, _, _, _, _, _, _, _, _, _, _, _, _, _, _, _, _, _, _, _, _, _, _, _, _, _, _, _, _, _, _, _, _, _, _, _, _, _, _, _, _, _, _, by omega, fun i hi => (show i = 0 by omega) ▸ hrow0, hout0, ⟨List.nodup_nil, by simp⟩, by simp, HB.out.alloc HB.out.size _, rfl⟩ ?_
      clear hrow0 hout0 hR0
      rintro a w2 ⟨j, vs, ov, Ds, x6, x8, x9, x10, x11, x12, x13, x14, x15, x16, x17, x18, x19, x20, x21, x22, x23, x24, x25, x26, x27, x28, x29, x30, x31, x32, x33, x34, x35, x36, x37, x38, x39, x40, x41, x42, x43, x44, x45, x46, x47, x48, x49, x50, x51, hj, hV, hO, hM, hD, hB, ha⟩
      dsimp only at ha
      subst ha
      have hlen := rowB_len seed b h hj
      obtain ⟨m, hm⟩ : ∃ m, (rowB seed b h j).length = m := ⟨_, rfl⟩
      have hVj := hV j (Nat.le_refl j)
      rw [hm] at hVj hlen
      have hm64 : m ≤ 64 := by
        rw [hlen]
        exact Nat.le_trans (Nat.pow_le_pow_right (by decide) (show h - j ≤ 6 by omega)) (by decide)
      have HV := Lib.hid hV
      have HO := Lib.hid hO
      have HM := Lib.hid hM
      have HD := Lib.hid hD
      have HB2 := Lib.hid hB
      have Hm := Lib.hid hm
      have HVj := Lib.hid hVj
      have ht2 := ht.same hB
      clear hV hO hM hD hB hm hVj
      by_cases hlt : j < h
      · obtain ⟨M, hM2⟩ : ∃ M, 2 ^ (h - (j + 1)) = M := ⟨_, rfl⟩
        have hmM : m = 2 * M := by rw [hlen, show h - j = (h - (j + 1)) + 1 by omega, Nat.pow_succ, hM2, Nat.mul_comm]
        have hM0 : 0 < M := by rw [← hM2]; exact Nat.pow_pos (by decide)
        obtain ⟨g, rc, hvj, hgB, hgl, hgc⟩ := own_some HVj.out (by omega)
        rw [hvj]
        have HMM := Lib.hid hmM
        have Hvj := Lib.hid hvj
        have hm1 : 1 < m := by omega
        clear hlen hM2 hmM hvj
        go_wp2_with (go_at_call 65; refine (Chunk_any _ _ _ _).mono ?_; rintro e w3 ⟨rfl, rfl⟩)
        obtain ⟨W0, hW0⟩ : ∃ W0, W0 = ((w2.alloc (.cells #[.slice none 0 0] 32)).alloc (.cells #[.slice (some ⟨g, 0, none⟩) m rc] 32)).alloc (.cells #[.int .i64 2] 3) := ⟨_, rfl⟩
        have hWB : Below w2.heap.size w2 W0 := by rw [hW0]; exact (((Below.refl _ _).alloc (Nat.le_refl _) _).alloc (by simp) _).alloc (by simp; omega) _
        have hWA : W0.heap[w2.heap.size]? = some (.cells #[.slice none 0 0] 32) := by rw [hW0]; exact old_of (old_of (new_of _ _))
        have hWs : W0.heap[w2.heap.size + 1]? = some (.cells #[.slice (some ⟨g, 0, none⟩) m rc] 32) := by rw [hW0]; exact old_of (new_at (by simp) rfl)
        have hWn : W0.heap[w2.heap.size + 1 + 1]? = some (.cells #[.int .i64 2] 3) := by rw [hW0]; exact new_at (by simp) rfl
        have hWz : W0.heap.size = w2.heap.size + 3 := by rw [hW0]; simp
        rw [← hW0]
        have HWB := Lib.hid hWB
        have HWA := Lib.hid hWA
        have HWs := Lib.hid hWs
        have HWn := Lib.hid hWn
        have HWz := Lib.hid hWz
        clear hW0 hWB hWA hWs hWn hWz
        refine wpIn_wide.1 (wpIn_rangeFunc_ownG (F := Fence.wide) (n := 9) rfl (by decide) (gf := 89) (lb := #[.pointer (some ⟨w2.heap.size + 1, 0, none⟩), .pointer (some ⟨w2.heap.size + 1 + 1, 0, none⟩)]) rfl trivial (enters_of Tryd.func89 (by kernel_rfl) rfl)
          (Chunk_stops (9 - 1) (by decide) (w2.heap.size + 1) (w2.heap.size + 1 + 1) g m rc M HMM.out hgc (by omega) W0 HWs.out HWn.out)
          (fun h1 h2 => ⟨h2.1.trans h1.1, h2.2.trans h1.2⟩) (fun W l o o' hl _ _ _ => ⟨World.putObj_heap_other (by have := HWz.out; omega), World.putObj_heap_other (by have := HWz.out; omega)⟩) (Below.refl _ _) (fun _ => rfl)
          (fun pre W => AboveInv (rowB seed b h j) w2.heap.size W0 pre W) (fun _ _ _ => False) (AboveInv.own _ _ _ (by have := HWz.out; omega)) (fun _ _ _ _ _ hs _ _ => hs)
          ⟨Kept.refl _ _, _, HWA.out, World.ownsRow_nil _ _ _ _⟩
          (fun x => { tmps := #[.string (B seed), .agg #[.int .i64 (b : Int), .int .i64 (h : Int)], undef, .pointer (some ⟨w.heap.size, 0, none⟩), .slice none 0 0, .slice (some ⟨g, 0, none⟩) m rc, x6, ov, .pointer (some ⟨w2.heap.size, 0, none⟩), .slice (some ⟨g, x.1, none⟩) 2 2, x10, x11, x12, x13, x14, x15, x16, x17, x18, x19, x20, x21, x22, x23, x24, x25, x26, x27, x28, .slice (some ⟨g, 0, none⟩) m rc, .int .i64 (m : Int), .bool true, .slice (some ⟨g, 0, none⟩) m rc, .func (.func 89) #[] #[.pointer (some ⟨w2.heap.size + 1, 0, none⟩), .pointer (some ⟨w2.heap.size + 1 + 1, 0, none⟩)], .slice (some ⟨g, x.1, none⟩) 2 2, x35, x36, x37, x38, x39, x40, x41, x42, x43, x44, x45, x46, x47, x48, x49, x50, x51], defers := [] }) ?assign ?body ?done ?stop)
        case assign =>
          intro l x W K hK
          dsimp only at hK
          gi_wp2
          exact hK
        case stop =>
          rintro D c pre W _ _ h _
          exact h.elim
        case body =>
          rintro l pre ⟨x, hx⟩ W ⟨hK, v, hbx, hrow⟩ hpre
          dsimp only
          obtain ⟨x0, hx0⟩ : ∃ y, (rowB seed b h j).getD x [] = y := ⟨_, rfl⟩
          obtain ⟨x1, hx1⟩ : ∃ y, (rowB seed b h j).getD (x + 1) [] = y := ⟨_, rfl⟩
          have hstep : nodesAt (rowB seed b h j) pre ++ [nodeB x0 x1] = nodesAt (rowB seed b h j) (pre ++ [⟨x, hx⟩]) := by simp [nodesAt, ← hx0, ← hx1]
          have hl0 : x0.length ≤ maxLen := by rw [← hx0]; exact max32 (levN_mem j _ (getD_mem (show _ < (rowB seed b h j).length by rw [Hm.out]; omega)))
          have hl1 : x1.length ≤ maxLen := by rw [← hx1]; exact max32 (levN_mem j _ (getD_mem (show _ < (rowB seed b h j).length by rw [Hm.out]; omega)))
          have hgA : g ≠ w2.heap.size := by omega
          have hg0 : g < W0.heap.size := by have := HWz.out; omega
          have hA0 : w2.heap.size < W0.heap.size := by have := HWz.out; omega
          have hc2 : w2.cell? ⟨g, x, none⟩ = some (.string (B x0)) ∧ w2.cell? ⟨g, x + 1, none⟩ = some (.string (B x1)) := by
            have hv := HVj.out
            rw [Hvj.out] at hv
            exact ⟨(own_cell hv (by rw [Hm.out]; omega)).trans (by rw [hx0]; rfl), (own_cell hv (by rw [Hm.out]; omega)).trans (by rw [hx1]; rfl)⟩
          have hS : ∀ Wc, Kept (Licit.One w2.heap.size) W0 Wc → (fun W' : World => W'.cell? ⟨g, x, none⟩ = some (.string (B x0)) ∧ W'.cell? ⟨g, x + 1, none⟩ = some (.string (B x1))) Wc := fun Wc hk =>
            ⟨(hk.cell hg0 hgA).trans ((HWB.out.cell hgl).trans hc2.1), (hk.cell hg0 hgA).trans ((HWB.out.cell hgl).trans hc2.2)⟩
          have hK0 := hK
          have htW : Tab W := ht2.same (HWB.out.trans (hK0.below (Nat.le_of_lt hA0) (fun k hk e => by have : k = w2.heap.size := e; omega)))
          have hEnd : ∀ (v3 : Value) (W10 W11 : World), Kept (Licit.One w2.heap.size) W0 W11 → KeepsOthers W W10 → W10.heap[w2.heap.size]? = some (.cells #[v] 32) → W10.ownsRow W0.heap.size 9 1 v3 (pre.length + 1) ((nodesAt (rowB seed b h j) pre).map vS ++ [vS (nodeB x0 x1)]) →
              W11.heap[w2.heap.size]? = some (.cells (#[v].setIfInBounds 0 v3) 32) → Kept (Licit.One w2.heap.size) W10 W11 →
              KeepsFrom W0.heap.size W W11 ∧ KpC (w2.heap.size + 1) (w2.heap.size + 1 + 1) W W11 ∧ AboveInv (rowB seed b h j) w2.heap.size W0 (pre ++ [⟨x, hx⟩]) W11 := by
            intro v3 W10 W11 h1 h2 h3 h4 h5 h6
            have hz := HWz.out
            refine ⟨(h2.trans (others_kept h6 h3)).from _, ⟨(h1.block _ (by omega) (fun e => by have : w2.heap.size + 1 = w2.heap.size := e; omega)).trans (hK0.block _ (by omega) (fun e => by have : w2.heap.size + 1 = w2.heap.size := e; omega)).symm, (h1.block _ (by omega) (fun e => by have : w2.heap.size + 1 + 1 = w2.heap.size := e; omega)).trans (hK0.block _ (by omega) (fun e => by have : w2.heap.size + 1 + 1 = w2.heap.size := e; omega)).symm⟩, h1, v3, h5, ?_⟩
            rw [← hstep, List.length_append, List.map_append]
            refine ownsRow_block h4 (fun q hq hlt => h6.block q hlt (fun e => by have : q = w2.heap.size := e; omega))
          obtain ⟨Wd, hWd⟩ : ∃ Wd, W.drew = Wd := ⟨_, rfl⟩
          have HWd := Lib.hid (show Below W.heap.size W Wd from hWd ▸ ⟨rfl, rfl, rfl, Nat.le_refl _, fun _ _ => rfl⟩)
          have hKd := hK0.trans (Kept.of_below HWd.out)
          have Hbd := Lib.hid (below_heap HWd.out (lt_of hbx) hbx)
          obtain ⟨W7, h7⟩ : ∃ W7, Wd.alloc (.cells #[.string ⟨#[110, 111, 100, 101]⟩, .string (B x0), .string (B x1)] 9) = W7 := ⟨_, rfl⟩
          have HW7 := Lib.hid (show Below W.heap.size W W7 from h7 ▸ HWd.out.alloc HWd.out.size _)
          have hK7 := hK0.trans (Kept.of_below HW7.out)
          have Hb7 := Lib.hid (below_heap HW7.out (lt_of hbx) hbx)
          have hM7 : Calls Tryd.prog 47 #[.slice (some ⟨Wd.heap.size, 0, none⟩) 3 3] W7 fun e w' => e = .returned (.string (B (nodeB x0 x1))) ∧ Below Wd.heap.size Wd w' := by
            rw [← h7]
            exact Gives.alloc (mix_built (l := [kNode, x0, x1]) 3 rfl (by decide) rfl (by decide) (by intro z hz; simp at hz; rcases hz with rfl | rfl | rfl; decide; exact hl0; exact hl1) Wd (htW.same HWd.out))
          have H7 := Lib.hid h7
          have HM7 := Lib.hid hM7
          have HS := Lib.hid hS
          have HKd := Lib.hid hKd
          have HK7 := Lib.hid hK7
          have HEnd := Lib.hid hEnd
          have hpl : pre.length ≤ 1000 := by have := HMM.out; omega
          have hxi : (x : Int) < (2 : Int) ∨ True := .inr trivial
          clear hx0 hx1 hstep hc2 hS htW hEnd h7 hM7 hKd hK7 hK
          gi_wp2
          refine wpIn_region_any (by kernel_rfl) ?_
          refine wpAnyIn_round l (no_defer (by rfl)) ?_ _ _ _ _ (wpAny_of_held (S := fun W' : World => W'.cell? ⟨g, x, none⟩ = some (.string (B x0)) ∧ W'.cell? ⟨g, x + 1, none⟩ = some (.string (B x1))) _ _ _ _ ?_)
          · rintro ⟨a, w, h⟩
            exact h
          change wpAnyH _ _ _ _ _ _ _ _ W.drew
          rw [hWd]
          clear hWd
          -- GEN
          refine wpAnyH_take (i := 1) (v := .slice (some ⟨g, x, none⟩) 2 2) rfl (by kernel_rfl) (by kernel_rfl) (by kernel_rfl) (fun _ _ _ h => h) (Or.inl ⟨by rfl, fun w hSw => by first | (obtain ⟨hS1, hS2⟩ := hSw; go_simp; done) | (obtain ⟨hS1, hS2⟩ := hSw; go_simp; with_reducible rfl)⟩) (HS.out _ HKd.out) ?_
          try simp only [Act.put, List.setIfInBounds_toArray]
          refine wpAnyH_take (i := 2) (v := .pointer (some ⟨g, x, none⟩)) rfl (by kernel_rfl) (by kernel_rfl) (by kernel_rfl) (fun _ _ _ h => h) (Or.inl ⟨by rfl, fun w hSw => by first | (obtain ⟨hS1, hS2⟩ := hSw; go_simp; done) | (obtain ⟨hS1, hS2⟩ := hSw; go_simp; with_reducible rfl)⟩) (HS.out _ HKd.out) ?_
          try simp only [Act.put]
          refine wpAnyH_take (i := 3) (v := .string (B x0)) rfl (by kernel_rfl) (by kernel_rfl) (by kernel_rfl) (fun _ _ _ h => h) (Or.inl ⟨by rfl, fun w hSw => by first | (obtain ⟨hS1, hS2⟩ := hSw; go_simp; done) | (obtain ⟨hS1, hS2⟩ := hSw; go_simp; with_reducible rfl)⟩) (HS.out _ HKd.out) ?_
          try simp only [Act.put]
          refine wpAnyH_take (i := 4) (v := .slice (some ⟨g, x, none⟩) 2 2) rfl (by kernel_rfl) (by kernel_rfl) (by kernel_rfl) (fun _ _ _ h => h) (Or.inl ⟨by rfl, fun w hSw => by first | (obtain ⟨hS1, hS2⟩ := hSw; go_simp; done) | (obtain ⟨hS1, hS2⟩ := hSw; go_simp; with_reducible rfl)⟩) (HS.out _ HKd.out) ?_
          try simp only [Act.put]
          refine wpAnyH_take (i := 5) (v := .pointer (some ⟨g, x + 1, none⟩)) rfl (by kernel_rfl) (by kernel_rfl) (by kernel_rfl) (fun _ _ _ h => h) (Or.inl ⟨by rfl, fun w hSw => by first | (obtain ⟨hS1, hS2⟩ := hSw; go_simp; done) | (obtain ⟨hS1, hS2⟩ := hSw; go_simp; with_reducible rfl)⟩) (HS.out _ HKd.out) ?_
          try simp only [Act.put]
          refine wpAnyH_take (i := 6) (v := .string (B x1)) rfl (by kernel_rfl) (by kernel_rfl) (by kernel_rfl) (fun _ _ _ h => h) (Or.inl ⟨by rfl, fun w hSw => by first | (obtain ⟨hS1, hS2⟩ := hSw; go_simp; done) | (obtain ⟨hS1, hS2⟩ := hSw; go_simp; with_reducible rfl)⟩) (HS.out _ HKd.out) ?_
          try simp only [Act.put]
          refine wpAnyH_ready (rs := [0, 7]) (by kernel_rfl) (by simp) ?_
          refine AllReadyH.cons rfl (fun K hK => ?_) ?_
          · have hcb := cell_of Hbd.out 0
            go_simp
            clear hcb
            refine hK.out _ _ (HS.out _ HKd.out) (fun _ => ?_)
            clear hK K
            try simp only [Act.put, List.setIfInBounds_toArray, List.set_cons_zero, List.set_cons_succ]
            refine wpAnyH_ready (rs := [7]) (by kernel_rfl) (by simp) ?_
            refine AllReadyH.cons rfl (fun K hK => ?_) ?_
            · go_simp
              rw [H7.out]
              refine hK.out _ _ (HS.out _ HK7.out) (fun _ => ?_)
              clear hK K
              try simp only [Act.put, List.setIfInBounds_toArray, List.set_cons_zero, List.set_cons_succ]
              refine wpAnyH_ready (rs := [8]) (by kernel_rfl) (by simp) ?_
              refine AllReadyH.cons rfl (fun K hK => ?_) ?_
              · go_simp
                refine HM7.out.mono ?_
                rintro e W8 ⟨rfl, hb8⟩
                have HW8 := Lib.hid (HWd.out.next hb8)
                clear hb8
                have HK8 := Lib.hid (hK0.trans (Kept.of_below HW8.out))
                have Hb8 := Lib.hid (below_heap HW8.out (lt_of hbx) hbx)
                refine hK.out _ _ (HS.out _ HK8.out) (fun _ => ?_)
                clear hK K
                try simp only [Act.put, List.setIfInBounds_toArray, List.set_cons_zero, List.set_cons_succ]
                refine wpAnyH_ready (rs := [9]) (by kernel_rfl) (by simp) ?_
                refine AllReadyH.cons rfl (fun K hK => ?_) ?_
                · go_simp
                  obtain ⟨W9, h9⟩ : ∃ W9, W8.alloc (.cells #[.string (B (nodeB x0 x1))] 9) = W9 := ⟨_, rfl⟩
                  rw [h9]
                  have HW9 := Lib.hid (show Below W.heap.size W W9 from h9 ▸ HW8.out.alloc HW8.out.size _)
                  have HK9 := Lib.hid (hK0.trans (Kept.of_below HW9.out))
                  have Hb9 := Lib.hid (below_heap HW9.out (lt_of hbx) hbx)
                  have Hn9 := Lib.hid (show W9.heap[W8.heap.size]? = some (.cells #[.string (B (nodeB x0 x1))] 9) from h9 ▸ new_of _ _)
                  clear h9
                  refine hK.out _ _ (HS.out _ HK9.out) (fun _ => ?_)
                  clear hK K
                  try simp only [Act.put, List.setIfInBounds_toArray, List.set_cons_zero, List.set_cons_succ]
                  refine wpAnyH_ready (rs := [10]) (by kernel_rfl) (by simp) ?_
                  refine AllReadyH.cons rfl (fun K hK => ?_) ?_
                  · refine step_append_own rfl _ _ 32 rfl W0.heap.size 9 i0 (.string ⟨#[]⟩) 1 16 Tryd.underlying32 Hi.out Hz0.out Hz1.out Hz2.out rfl (by decide) v pre.length ((nodesAt (rowB seed b h j) pre).map vS) rfl (ownsRow_block hrow (fun q _ hq => HW9.out.block q hq)) ⟨W8.heap.size, 0, none⟩ 1 1 [vS (nodeB x0 x1)] rfl rfl (news_one Hn9.out) (by simp [vS, Value.oneCell']) (by unfold maxLen; omega) (by omega) HK9.out.size ?_
                    intro v3 W10 ho3 hg3 _
                    have ho9 := ownsRow_block hrow (fun q _ hq => HW9.out.block q hq)
                    have hown := fun q hq => (ho9.lt q hq).1
                    have HK10 := Lib.hid (HK9.out.grown hg3 (fun q hq => .inl (hown q hq)))
                    have Hb10 := Lib.hid ((hg3.block _ (lt_of Hb9.out) (fun e => by have := hown _ e.symm; omega)).trans Hb9.out)
                    have HO10 := Lib.hid ((others_below HW9.out).trans (others_own ho9 hg3))
                    have HR10 := Lib.hid ho3
                    clear ho3 hg3 ho9 hown
                    refine hK.out _ _ (HS.out _ HK10.out) (fun _ => ?_)
                    clear hK K
                    try simp only [Act.put, List.setIfInBounds_toArray]
                    refine wpAnyH_ready (rs := [11]) (by kernel_rfl) (by simp) ?_
                    refine AllReadyH.cons rfl (fun K hK => ?_) ?_
                    · refine step_store_one rfl 32 _ _ rfl w2.heap.size 0 rfl v3 rfl (own_cells HR10.out) (own_oneCell HR10.out) _ _ Hb10.out (by simp) (by kernel_rfl) ?_
                      intro W11 hb11 hk11
                      have HK11 := Lib.hid (HK10.out.trans (hk11.mono (fun _ _ e => e)))
                      refine hK.out _ _ (HS.out _ HK11.out) (fun _ => ?_)
                      clear hK K
                      try simp only [Act.put]
                      refine wpAnyH_done (by kernel_rfl) ?_ _
                      exact HEnd.out v3 W10 W11 HK11.out HO10.out Hb10.out HR10.out hb11 hk11
                    exact AllReadyH.nil
                  exact AllReadyH.nil
                exact AllReadyH.nil
              exact AllReadyH.nil
            exact AllReadyH.nil
          refine AllReadyH.cons rfl (fun K hK => ?_) ?_
          · go_simp
            rw [H7.out]
            refine hK.out _ _ (HS.out _ HK7.out) (fun _ => ?_)
            clear hK K
            try simp only [Act.put, List.setIfInBounds_toArray, List.set_cons_zero, List.set_cons_succ]
            refine wpAnyH_ready (rs := [0, 8]) (by kernel_rfl) (by simp) ?_
            refine AllReadyH.cons rfl (fun K hK => ?_) ?_
            · have hcb := cell_of Hb7.out 0
              go_simp
              clear hcb
              refine hK.out _ _ (HS.out _ HK7.out) (fun _ => ?_)
              clear hK K
              try simp only [Act.put, List.setIfInBounds_toArray, List.set_cons_zero, List.set_cons_succ]
              refine wpAnyH_ready (rs := [8]) (by kernel_rfl) (by simp) ?_
              refine AllReadyH.cons rfl (fun K hK => ?_) ?_
              · go_simp
                refine HM7.out.mono ?_
                rintro e W8 ⟨rfl, hb8⟩
                have HW8 := Lib.hid (HWd.out.next hb8)
                clear hb8
                have HK8 := Lib.hid (hK0.trans (Kept.of_below HW8.out))
                have Hb8 := Lib.hid (below_heap HW8.out (lt_of hbx) hbx)
                refine hK.out _ _ (HS.out _ HK8.out) (fun _ => ?_)
                clear hK K
                try simp only [Act.put, List.setIfInBounds_toArray, List.set_cons_zero, List.set_cons_succ]
                refine wpAnyH_ready (rs := [9]) (by kernel_rfl) (by simp) ?_
                refine AllReadyH.cons rfl (fun K hK => ?_) ?_
                · go_simp
                  obtain ⟨W9, h9⟩ : ∃ W9, W8.alloc (.cells #[.string (B (nodeB x0 x1))] 9) = W9 := ⟨_, rfl⟩
                  rw [h9]
                  have HW9 := Lib.hid (show Below W.heap.size W W9 from h9 ▸ HW8.out.alloc HW8.out.size _)
                  have HK9 := Lib.hid (hK0.trans (Kept.of_below HW9.out))
                  have Hb9 := Lib.hid (below_heap HW9.out (lt_of hbx) hbx)
                  have Hn9 := Lib.hid (show W9.heap[W8.heap.size]? = some (.cells #[.string (B (nodeB x0 x1))] 9) from h9 ▸ new_of _ _)
                  clear h9
                  refine hK.out _ _ (HS.out _ HK9.out) (fun _ => ?_)
                  clear hK K
                  try simp only [Act.put, List.setIfInBounds_toArray, List.set_cons_zero, List.set_cons_succ]
                  refine wpAnyH_ready (rs := [10]) (by kernel_rfl) (by simp) ?_
                  refine AllReadyH.cons rfl (fun K hK => ?_) ?_
                  · refine step_append_own rfl _ _ 32 rfl W0.heap.size 9 i0 (.string ⟨#[]⟩) 1 16 Tryd.underlying32 Hi.out Hz0.out Hz1.out Hz2.out rfl (by decide) v pre.length ((nodesAt (rowB seed b h j) pre).map vS) rfl (ownsRow_block hrow (fun q _ hq => HW9.out.block q hq)) ⟨W8.heap.size, 0, none⟩ 1 1 [vS (nodeB x0 x1)] rfl rfl (news_one Hn9.out) (by simp [vS, Value.oneCell']) (by unfold maxLen; omega) (by omega) HK9.out.size ?_
                    intro v3 W10 ho3 hg3 _
                    have ho9 := ownsRow_block hrow (fun q _ hq => HW9.out.block q hq)
                    have hown := fun q hq => (ho9.lt q hq).1
                    have HK10 := Lib.hid (HK9.out.grown hg3 (fun q hq => .inl (hown q hq)))
                    have Hb10 := Lib.hid ((hg3.block _ (lt_of Hb9.out) (fun e => by have := hown _ e.symm; omega)).trans Hb9.out)
                    have HO10 := Lib.hid ((others_below HW9.out).trans (others_own ho9 hg3))
                    have HR10 := Lib.hid ho3
                    clear ho3 hg3 ho9 hown
                    refine hK.out _ _ (HS.out _ HK10.out) (fun _ => ?_)
                    clear hK K
                    try simp only [Act.put, List.setIfInBounds_toArray]
                    refine wpAnyH_ready (rs := [11]) (by kernel_rfl) (by simp) ?_
                    refine AllReadyH.cons rfl (fun K hK => ?_) ?_
                    · refine step_store_one rfl 32 _ _ rfl w2.heap.size 0 rfl v3 rfl (own_cells HR10.out) (own_oneCell HR10.out) _ _ Hb10.out (by simp) (by kernel_rfl) ?_
                      intro W11 hb11 hk11
                      have HK11 := Lib.hid (HK10.out.trans (hk11.mono (fun _ _ e => e)))
                      refine hK.out _ _ (HS.out _ HK11.out) (fun _ => ?_)
                      clear hK K
                      try simp only [Act.put]
                      refine wpAnyH_done (by kernel_rfl) ?_ _
                      exact HEnd.out v3 W10 W11 HK11.out HO10.out Hb10.out HR10.out hb11 hk11
                    exact AllReadyH.nil
                  exact AllReadyH.nil
                exact AllReadyH.nil
              exact AllReadyH.nil
            refine AllReadyH.cons rfl (fun K hK => ?_) ?_
            · go_simp
              refine HM7.out.mono ?_
              rintro e W8 ⟨rfl, hb8⟩
              have HW8 := Lib.hid (HWd.out.next hb8)
              clear hb8
              have HK8 := Lib.hid (hK0.trans (Kept.of_below HW8.out))
              have Hb8 := Lib.hid (below_heap HW8.out (lt_of hbx) hbx)
              refine hK.out _ _ (HS.out _ HK8.out) (fun _ => ?_)
              clear hK K
              try simp only [Act.put, List.setIfInBounds_toArray, List.set_cons_zero, List.set_cons_succ]
              refine wpAnyH_ready (rs := [0, 9]) (by kernel_rfl) (by simp) ?_
              refine AllReadyH.cons rfl (fun K hK => ?_) ?_
              · have hcb := cell_of Hb8.out 0
                go_simp
                clear hcb
                refine hK.out _ _ (HS.out _ HK8.out) (fun _ => ?_)
                clear hK K
                try simp only [Act.put, List.setIfInBounds_toArray, List.set_cons_zero, List.set_cons_succ]
                refine wpAnyH_ready (rs := [9]) (by kernel_rfl) (by simp) ?_
                refine AllReadyH.cons rfl (fun K hK => ?_) ?_
                · go_simp
                  obtain ⟨W9, h9⟩ : ∃ W9, W8.alloc (.cells #[.string (B (nodeB x0 x1))] 9) = W9 := ⟨_, rfl⟩
                  rw [h9]
                  have HW9 := Lib.hid (show Below W.heap.size W W9 from h9 ▸ HW8.out.alloc HW8.out.size _)
                  have HK9 := Lib.hid (hK0.trans (Kept.of_below HW9.out))
                  have Hb9 := Lib.hid (below_heap HW9.out (lt_of hbx) hbx)
                  have Hn9 := Lib.hid (show W9.heap[W8.heap.size]? = some (.cells #[.string (B (nodeB x0 x1))] 9) from h9 ▸ new_of _ _)
                  clear h9
                  refine hK.out _ _ (HS.out _ HK9.out) (fun _ => ?_)
                  clear hK K
                  try simp only [Act.put, List.setIfInBounds_toArray, List.set_cons_zero, List.set_cons_succ]
                  refine wpAnyH_ready (rs := [10]) (by kernel_rfl) (by simp) ?_
                  refine AllReadyH.cons rfl (fun K hK => ?_) ?_
                  · refine step_append_own rfl _ _ 32 rfl W0.heap.size 9 i0 (.string ⟨#[]⟩) 1 16 Tryd.underlying32 Hi.out Hz0.out Hz1.out Hz2.out rfl (by decide) v pre.length ((nodesAt (rowB seed b h j) pre).map vS) rfl (ownsRow_block hrow (fun q _ hq => HW9.out.block q hq)) ⟨W8.heap.size, 0, none⟩ 1 1 [vS (nodeB x0 x1)] rfl rfl (news_one Hn9.out) (by simp [vS, Value.oneCell']) (by unfold maxLen; omega) (by omega) HK9.out.size ?_
                    intro v3 W10 ho3 hg3 _
                    have ho9 := ownsRow_block hrow (fun q _ hq => HW9.out.block q hq)
                    have hown := fun q hq => (ho9.lt q hq).1
                    have HK10 := Lib.hid (HK9.out.grown hg3 (fun q hq => .inl (hown q hq)))
                    have Hb10 := Lib.hid ((hg3.block _ (lt_of Hb9.out) (fun e => by have := hown _ e.symm; omega)).trans Hb9.out)
                    have HO10 := Lib.hid ((others_below HW9.out).trans (others_own ho9 hg3))
                    have HR10 := Lib.hid ho3
                    clear ho3 hg3 ho9 hown
                    refine hK.out _ _ (HS.out _ HK10.out) (fun _ => ?_)
                    clear hK K
                    try simp only [Act.put, List.setIfInBounds_toArray]
                    refine wpAnyH_ready (rs := [11]) (by kernel_rfl) (by simp) ?_
                    refine AllReadyH.cons rfl (fun K hK => ?_) ?_
                    · refine step_store_one rfl 32 _ _ rfl w2.heap.size 0 rfl v3 rfl (own_cells HR10.out) (own_oneCell HR10.out) _ _ Hb10.out (by simp) (by kernel_rfl) ?_
                      intro W11 hb11 hk11
                      have HK11 := Lib.hid (HK10.out.trans (hk11.mono (fun _ _ e => e)))
                      refine hK.out _ _ (HS.out _ HK11.out) (fun _ => ?_)
                      clear hK K
                      try simp only [Act.put]
                      refine wpAnyH_done (by kernel_rfl) ?_ _
                      exact HEnd.out v3 W10 W11 HK11.out HO10.out Hb10.out HR10.out hb11 hk11
                    exact AllReadyH.nil
                  exact AllReadyH.nil
                exact AllReadyH.nil
              refine AllReadyH.cons rfl (fun K hK => ?_) ?_
              · go_simp
                obtain ⟨W9, h9⟩ : ∃ W9, W8.alloc (.cells #[.string (B (nodeB x0 x1))] 9) = W9 := ⟨_, rfl⟩
                rw [h9]
                have HW9 := Lib.hid (show Below W.heap.size W W9 from h9 ▸ HW8.out.alloc HW8.out.size _)
                have HK9 := Lib.hid (hK0.trans (Kept.of_below HW9.out))
                have Hb9 := Lib.hid (below_heap HW9.out (lt_of hbx) hbx)
                have Hn9 := Lib.hid (show W9.heap[W8.heap.size]? = some (.cells #[.string (B (nodeB x0 x1))] 9) from h9 ▸ new_of _ _)
                clear h9
                refine hK.out _ _ (HS.out _ HK9.out) (fun _ => ?_)
                clear hK K
                try simp only [Act.put, List.setIfInBounds_toArray, List.set_cons_zero, List.set_cons_succ]
                refine wpAnyH_ready (rs := [0]) (by kernel_rfl) (by simp) ?_
                refine AllReadyH.cons rfl (fun K hK => ?_) ?_
                · have hcb := cell_of Hb9.out 0
                  go_simp
                  clear hcb
                  refine hK.out _ _ (HS.out _ HK9.out) (fun _ => ?_)
                  clear hK K
                  try simp only [Act.put, List.setIfInBounds_toArray, List.set_cons_zero, List.set_cons_succ]
                  refine wpAnyH_ready (rs := [10]) (by kernel_rfl) (by simp) ?_
                  refine AllReadyH.cons rfl (fun K hK => ?_) ?_
                  · refine step_append_own rfl _ _ 32 rfl W0.heap.size 9 i0 (.string ⟨#[]⟩) 1 16 Tryd.underlying32 Hi.out Hz0.out Hz1.out Hz2.out rfl (by decide) v pre.length ((nodesAt (rowB seed b h j) pre).map vS) rfl (ownsRow_block hrow (fun q _ hq => HW9.out.block q hq)) ⟨W8.heap.size, 0, none⟩ 1 1 [vS (nodeB x0 x1)] rfl rfl (news_one Hn9.out) (by simp [vS, Value.oneCell']) (by unfold maxLen; omega) (by omega) HK9.out.size ?_
                    intro v3 W10 ho3 hg3 _
                    have ho9 := ownsRow_block hrow (fun q _ hq => HW9.out.block q hq)
                    have hown := fun q hq => (ho9.lt q hq).1
                    have HK10 := Lib.hid (HK9.out.grown hg3 (fun q hq => .inl (hown q hq)))
                    have Hb10 := Lib.hid ((hg3.block _ (lt_of Hb9.out) (fun e => by have := hown _ e.symm; omega)).trans Hb9.out)
                    have HO10 := Lib.hid ((others_below HW9.out).trans (others_own ho9 hg3))
                    have HR10 := Lib.hid ho3
                    clear ho3 hg3 ho9 hown
                    refine hK.out _ _ (HS.out _ HK10.out) (fun _ => ?_)
                    clear hK K
                    try simp only [Act.put, List.setIfInBounds_toArray]
                    refine wpAnyH_ready (rs := [11]) (by kernel_rfl) (by simp) ?_
                    refine AllReadyH.cons rfl (fun K hK => ?_) ?_
                    · refine step_store_one rfl 32 _ _ rfl w2.heap.size 0 rfl v3 rfl (own_cells HR10.out) (own_oneCell HR10.out) _ _ Hb10.out (by simp) (by kernel_rfl) ?_
                      intro W11 hb11 hk11
                      have HK11 := Lib.hid (HK10.out.trans (hk11.mono (fun _ _ e => e)))
                      refine hK.out _ _ (HS.out _ HK11.out) (fun _ => ?_)
                      clear hK K
                      try simp only [Act.put]
                      refine wpAnyH_done (by kernel_rfl) ?_ _
                      exact HEnd.out v3 W10 W11 HK11.out HO10.out Hb10.out HR10.out hb11 hk11
                    exact AllReadyH.nil
                  exact AllReadyH.nil
                exact AllReadyH.nil
              exact AllReadyH.nil
            exact AllReadyH.nil
          exact AllReadyH.nil
          -- END
        case done =>
          rintro D ys W hD hys ⟨hK0, v, hbx, hrow⟩ hKD
          have hys2 : ys.length = M := by have := congrArg List.length hys; rw [List.length_map, offsK_len] at this; exact this
          have hrs : nodesAt (rowB seed b h j) ys = rowB seed b h (j + 1) := by
            rw [nodesAt_all _ _ _ hys]
            show _ = level (rowB seed b h j)
            rw [level, Hm.out, HMM.out, show 2 * M / 2 = M by omega]
          have hlr : (rowB seed b h (j + 1)).length = M := by rw [← hrs]; simp [nodesAt, hys2]
          rw [hys2, hrs] at hrow
          have hA0 : w2.heap.size < W0.heap.size := by have := HWz.out; omega
          have hbW : Below w2.heap.size w2 W := HWB.out.trans (hK0.below (Nat.le_of_lt hA0) (fun k hk e => by have : k = w2.heap.size := e; omega))
          obtain ⟨ra, rc2, hv⟩ := own_form hrow
          subst hv
          have hcb := cell_of hbx 0
          have HBW := Lib.hid hbW
          have Hlr := Lib.hid hlr
          have Hrow := Lib.hid hrow
          have HKD := Lib.hid hKD
          have HDD := Lib.hid hD
          clear hys hys2 hrs hrow hbW hlr hKD hD hbx hK0
          dsimp only
          go_wp2_with (first
            | (at_builtin
               go_loud (
               refine wpList_append_own _ rfl _ _ 60 rfl (w.heap.size + 1) 32 i1 (.slice none 0 0) 1 24 Tryd.underlying60 Hi1.out Hy0.out Hy1.out Hy2.out rfl (by decide) _ (j + 1) ((List.range (j + 1)).map vs) rfl ((own_at HO.out (fun q hq => HBW.out.block q (own_lt HO.out hq))).alloc _) ⟨W.heap.size, 0, none⟩ 1 1 [.slice ra M rc2] rfl rfl (news_one (new_of _ _)) (by simp [Value.oneCell']) (by unfold maxLen; omega) (by omega) (by have := HB2.out.size; have := HBW.out.size; have := HWz.out; simp; omega) ?_
               intro v3 w3 ho3 hg3 _
               have HO3 := Lib.hid ho3
               have HG3 := Lib.hid (show (W.alloc (.cells #[.slice ra M rc2] 32)).grownBy w3 ov.ownBlock from hg3)
               clear ho3 hg3)))
          have hOW := own_at HO.out (fun q hq => HBW.out.block q (own_lt HO.out hq))
          have hz0 := HWz.out
          have hz1 := HB2.out.size
          have hz2 := HBW.out.size
          have hzD := at_lt HKD.out
          have hkeep : ∀ q, q < W.heap.size → ov.ownBlock ≠ some q → w3.heap[q]? = W.heap[q]? := fun q hq hne => (HG3.out.block q (by simp; omega) (fun e => hne e.symm)).trans (Below.heap_alloc _ _ _ hq)
          have hne9 : ∀ {base n v xs}, W.ownsRow base 9 1 v n xs → ∀ q, v.ownBlock = some q → w3.heap[q]? = W.heap[q]? := by
            intro base n v xs ho q hq
            refine hkeep q (own_lt ho hq) fun e => ?_
            obtain ⟨_, c1, h1⟩ := own_block ho hq
            obtain ⟨_, c2, h2⟩ := own_block hOW e
            rw [h1] at h2
            simp at h2
          have hneD : ∀ (E : Nat) cs, W.heap[E]? = some (Obj.deferred cs) → w3.heap[E]? = W.heap[E]? := by
            intro E cs hE
            refine hkeep E (at_lt hE) fun e => ?_
            obtain ⟨_, c2, h2⟩ := own_block hOW e
            rw [hE] at h2
            cases h2
          have hmW : ∀ E ∈ Ds, W.heap[E]? = some (.deferred (some [])) := fun E hE => (HBW.out.block E (at_lt (HM.out.2 E hE))).trans (HM.out.2 E hE)
          obtain ⟨vt, hv1, hv2⟩ : ∃ vt : Nat → Value, vt (j + 1) = .slice ra M rc2 ∧ ∀ i, i ≤ j → vt i = vs i :=
            ⟨fun i => if i = j + 1 then .slice ra M rc2 else vs i, if_pos rfl, fun i hi => if_neg (by omega)⟩
          rw [← hv1]
          refine ⟨⟨j + 1, vt, v3, D :: Ds, _, _, _, _, _, _, _, _, _, _, _, _, _, _, _, _, _, _, _, _, _, _, _, _, _, _, _, _, _, _, _, _, _, _, _, _, _, _, _, _, _, _, _, _, _, by omega, ?_, ?_, ⟨?_, ?_⟩, ?_, ?_, rfl⟩, ?_⟩
          · intro i hi
            by_cases he : i = j + 1
            · subst he
              rw [Hlr.out, hv1]
              exact own_at (ownsRow_base Hrow.out (by omega)) (fun q hq => hne9 Hrow.out q hq)
            · rw [hv2 i (by omega)]
              have ho := own_at (HV.out i (by omega)) (fun q hq => HBW.out.block q (own_lt (HV.out i (by omega)) hq))
              exact own_at ho (fun q hq => hne9 ho q hq)
          · have := HO3.out
            rw [List.range_succ, List.map_append]
            have e : (List.range (j + 1)).map vt = (List.range (j + 1)).map vs := List.map_congr_left fun i hi => hv2 i (by have := List.mem_range.1 hi; omega)
            rw [e]
            simpa [hv1] using this
          · rw [List.nodup_cons]
            exact ⟨fun hm => by have := at_lt (HM.out.2 D hm); have := HDD.out; omega, HM.out.1⟩
          · intro E hE
            rcases List.mem_cons.1 hE with rfl | hE
            · exact (hneD _ _ HKD.out).trans HKD.out
            · exact (hneD _ _ (hmW E hE)).trans (hmW E hE)
          · intro E hE
            rcases List.mem_cons.1 hE with rfl | hE
            · have := HDD.out; omega
            · exact HD.out E hE
          · refine ((HB2.out.trans (HBW.out.mono hz1)).alloc (by omega) _).grown HG3.out (by simp; omega) (fun q hq => ?_)
            have := (own_block hOW hq).1
            omega
          · rw [hv1]
            show M < m
            have := HMM.out
            omega
      · obtain rfl : j = h := by omega
        have hm1 : m = 1 := by rw [hlen]; simp
        subst hm1
        obtain ⟨ra, rc, hvj⟩ := own_form HVj.out
        obtain ⟨oa, oc, rfl⟩ := own_form HO.out
        rw [hvj]
        clear hlen hvj
        go_wp2
        refine leaves_marks Ds w2 HM.out fun w4 hw4 => ?_
        refine ⟨_, results_tmp rfl _ _ _, _, rfl, ?_, ?_⟩
        · obtain ⟨h1, h2, h3, h4, h5⟩ := hw4
          have hdef : ∀ q cs T fr, w2.heap[q]? = some (.cells cs T fr) → q ∉ Ds := by
            intro q cs T fr hq hm
            rw [HM.out.2 q hm] at hq
            cases hq
          have hO4 := own_at HO.out (fun q hq => by obtain ⟨_, cs, hc⟩ := own_block HO.out hq; exact h5 q (lt_of hc) (hdef _ _ _ _ hc))
          have hV4 := fun i hi => own_at (HV.out i hi) (fun q hq => by obtain ⟨_, cs, hc⟩ := own_block (HV.out i hi) hq; exact h5 q (lt_of hc) (hdef _ _ _ _ hc))
          refine ⟨(List.range (j + 1)).map vs, by simp, by rw [List.length_map, List.length_range]; exact ownsRow_base hO4 (Nat.le_succ _), fun i hi => ?_⟩
          rw [List.length_map, List.length_range] at hi
          have e1 : ((List.range (j + 1)).map vs).getD i undef = vs i := by simp [List.getD_eq_getElem?_getD, hi]
          have e2 : ((List.range (j + 1)).map (rowB seed b j)).getD i [] = rowB seed b j i := by simp [List.getD_eq_getElem?_getD, hi]
          rw [e1, e2]
          exact ownsRow_base (hV4 i (by omega)) (Nat.le_succ _)
        · obtain ⟨h1, h2, h3, h4, h5⟩ := hw4
          have hB := HB2.out
          exact ⟨h1.trans hB.os, h2.trans hB.tape, h3.trans hB.output, Nat.le_trans hB.size h4, fun k hk => (h5 k (Nat.lt_of_lt_of_le hk hB.size) (fun hm => by have := HD.out k hm; omega)).trans (hB.block k hk)⟩

end Go.Proofs.YtdkjehagkmkokaaDoor
