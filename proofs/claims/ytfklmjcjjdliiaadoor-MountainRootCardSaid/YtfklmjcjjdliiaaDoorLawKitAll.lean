/- Arguments as they come in: slices of integers and of strings read as lists. Over any program. What every law of the seat needs: the tables as listed, the frame of a law that returned true, a world for the witnesses; no condition. -/
import Derived.Test.YtfklmjcjjdliiaaDoorRd
import Derived.ProofKit
import Derived.OpenShut
import Derived.Lib.LaidTab
import Derived.Test.YtfklmjcjjdliiaaDoorCards
import Derived.Test.YtfklmjcjjdliiaaDoorTie
import Derived.Test.YtfklmjcjjdliiaaDoorWkEnc
import Derived.Deep.DeepHandedRow
import Derived.Stop.LaidErr
namespace Licit
open Go Go.RowKit
open Go.ChangeShapes Go.WideShapes Go.ChangeAt

section
variable {P : Program} {H : Type} {enc : TypeId × Value → H} {W : World} {r : Reach} {b0 base : Nat} {sp : Nat → Bool} {held : Bool} {t e : TypeId} {v : Value} {d : DataW H} {ps : List MemPlace}

theorem add_of {a : Addr} {x : Value} (h : W.cell? a = some x) (i : Nat) : a.add i = ⟨a.block, a.off + i, none⟩ := by
  have hs : a.spot = none := by
    unfold World.cell? at h
    split at h
    · cases hs : a.spot with
      | none => rfl
      | some s => simp [hs] at h
    · cases h
  unfold Addr.add
  cases a with
  | mk b o s =>
    simp only at hs
    subst hs
    split
    · rename_i h0; subst h0; rfl
    · rfl

theorem isSl_of_cells {a : Addr} {cap : Nat} {xs : List Value} (hm : xs.length ≤ maxLen) (hc : ∀ i, i < xs.length → W.cell? (a.add i) = xs[i]?) : IsSl (.slice (some a) xs.length cap) xs W := by
  refine ⟨hm, ?_⟩
  by_cases h0 : xs.length = 0
  · exact .inl ⟨_, cap, by rw [h0], List.eq_nil_of_length_eq_zero h0⟩
  · have hx0 := hc 0 (by omega)
    have hadd : a.add 0 = a := by simp [Addr.add]
    rw [hadd, List.getElem?_eq_getElem (by omega)] at hx0
    have hA := fun i => add_of hx0 i
    have ha : a = ⟨a.block, a.off, none⟩ := by have := hA 0; rw [hadd] at this; exact this
    refine .inr ⟨a.block, a.off, cap, by rw [← ha], by omega, fun i hi => ?_⟩
    rw [← hA i]
    exact hc i hi

theorem sl_ints_of {fuel : Nat} {y : DataW H × List MemPlace} (ht : P.underlying t = some (.slice e)) (he : P.underlying e = some (.int .i64)) (hc : P.cellsOf e = 1) (hf : DataW.trod enc P W base (fun _ => true) held fuel t [v] = some y) :
    ∃ xs : List Int, IsSl v (xs.map vI) W ∧ ∀ x ∈ xs, -9223372036854775808 ≤ x ∧ x ≤ 9223372036854775807 := by
  rcases open_ints ht he hc hf with ⟨hcs, hx⟩ | ⟨a, len', cap', zs, hcs, _, hl, hm, hz, hx, hcell, hwz⟩
  · simp only [List.cons.injEq, and_true] at hcs
    subst hcs
    exact ⟨[], ⟨by simp, .inl ⟨none, 0, rfl, rfl⟩⟩, by simp⟩
  · simp only [List.cons.injEq, and_true] at hcs
    subst hcs
    simp only [if_true] at hz
    have hlen : ((zs.take len').map vI).length = len' := by simp; omega
    refine ⟨zs.take len', ?_, fun x hx => bounds_i64 (hwz x (List.mem_of_mem_take hx))⟩
    have := isSl_of_cells (W := W) (a := a) (cap := cap') (xs := (zs.take len').map vI) (by rw [hlen]; omega) (fun i hi => by
      rw [hlen] at hi
      rw [hcell i (by omega)]
      simp [vI, hi, List.getD, List.getElem?_eq_getElem (show i < zs.length by omega)])
    rwa [hlen] at this

theorem sl_strs_of {fuel : Nat} {y : DataW H × List MemPlace} (ht : P.underlying t = some (.slice e)) (he : P.underlying e = some .string) (hc : P.cellsOf e = 1) (hf : DataW.trod enc P W base (fun _ => true) held fuel t [v] = some y) :
    ∃ xs : List Bs, IsSl v (xs.map vS) W ∧ ∀ x ∈ xs, x.length ≤ maxLen := by
  rcases open_strings ht he hc hf with ⟨hcs, hx⟩ | ⟨a, len', cap', zs, hcs, _, hl, hm, hz, hx, hcell, hwz⟩
  · simp only [List.cons.injEq, and_true] at hcs
    subst hcs
    exact ⟨[], ⟨by simp, .inl ⟨none, 0, rfl, rfl⟩⟩, by simp⟩
  · simp only [List.cons.injEq, and_true] at hcs
    subst hcs
    simp only [if_true] at hz
    have hlen : (((zs.take len').map fun s => s.data.toList).map vS).length = len' := by simp; omega
    refine ⟨(zs.take len').map fun s => s.data.toList, ?_, fun x hx => ?_⟩
    · have := isSl_of_cells (W := W) (a := a) (cap := cap') (xs := ((zs.take len').map fun s => s.data.toList).map vS) (by rw [hlen]; omega) (fun i hi => by
        rw [hlen] at hi
        rw [hcell i (by omega)]
        simp [vS, hi, List.getD, List.getElem?_eq_getElem (show i < zs.length by omega), B_eta])
      rwa [hlen] at this
    · obtain ⟨s, hs, rfl⟩ := List.mem_map.1 hx
      exact hwz s (List.mem_of_mem_take hs)

theorem sl_ints (ht : P.underlying t = some (.slice e)) (he : P.underlying e = some (.int .i64)) (hc : P.cellsOf e = 1) (hval : Value.okWide P W r b0 t v) (hd : DataW.Trod enc P W base (fun _ => true) held t v d ps) :
    ∃ xs : List Int, IsSl v (xs.map vI) W ∧ ∀ x ∈ xs, -9223372036854775808 ≤ x ∧ x ≤ 9223372036854775807 := by
  obtain ⟨a1, len, cap, rfl⟩ := okWide_slice ht hval
  obtain ⟨fuel, hf⟩ := hd
  rcases open_ints ht he hc hf with ⟨hcs, hx⟩ | ⟨a, len', cap', zs, hcs, _, hl, hm, hz, hx, hcell, hwz⟩
  · simp only [Value.cells, List.cons.injEq, Value.slice.injEq, and_true] at hcs
    obtain ⟨rfl, rfl, rfl⟩ := hcs
    exact ⟨[], ⟨by simp, .inl ⟨none, 0, rfl, rfl⟩⟩, by simp⟩
  · simp only [Value.cells, List.cons.injEq, Value.slice.injEq, and_true] at hcs
    obtain ⟨rfl, rfl, rfl⟩ := hcs
    simp only [if_true] at hz
    have hlen : ((zs.take len).map vI).length = len := by simp; omega
    refine ⟨zs.take len, ?_, fun x hx => bounds_i64 (hwz x (List.mem_of_mem_take hx))⟩
    have := isSl_of_cells (W := W) (a := a) (cap := cap) (xs := (zs.take len).map vI) (by rw [hlen]; omega) (fun i hi => by
      rw [hlen] at hi
      rw [hcell i (by omega)]
      simp [vI, hi, List.getD, List.getElem?_eq_getElem (show i < zs.length by omega)])
    rwa [hlen] at this

theorem sl_strs (ht : P.underlying t = some (.slice e)) (he : P.underlying e = some .string) (hc : P.cellsOf e = 1) (hval : Value.okWide P W r b0 t v) (hd : DataW.Trod enc P W base (fun _ => true) held t v d ps) :
    ∃ xs : List Bs, IsSl v (xs.map vS) W ∧ ∀ x ∈ xs, x.length ≤ maxLen := by
  obtain ⟨a1, len, cap, rfl⟩ := okWide_slice ht hval
  obtain ⟨fuel, hf⟩ := hd
  rcases open_strings ht he hc hf with ⟨hcs, hx⟩ | ⟨a, len', cap', zs, hcs, _, hl, hm, hz, hx, hcell, hwz⟩
  · simp only [Value.cells, List.cons.injEq, Value.slice.injEq, and_true] at hcs
    obtain ⟨rfl, rfl, rfl⟩ := hcs
    exact ⟨[], ⟨by simp, .inl ⟨none, 0, rfl, rfl⟩⟩, by simp⟩
  · simp only [Value.cells, List.cons.injEq, Value.slice.injEq, and_true] at hcs
    obtain ⟨rfl, rfl, rfl⟩ := hcs
    simp only [if_true] at hz
    have hlen : (((zs.take len).map fun s => s.data.toList).map vS).length = len := by simp; omega
    refine ⟨(zs.take len).map fun s => s.data.toList, ?_, fun x hx => ?_⟩
    · have := isSl_of_cells (W := W) (a := a) (cap := cap) (xs := ((zs.take len).map fun s => s.data.toList).map vS) (by rw [hlen]; omega) (fun i hi => by
        rw [hlen] at hi
        rw [hcell i (by omega)]
        simp [vS, hi, List.getD, List.getElem?_eq_getElem (show i < zs.length by omega), B_eta])
      rwa [hlen] at this
    · obtain ⟨s, hs, rfl⟩ := List.mem_map.1 hx
      exact hwz s (List.mem_of_mem_take hs)
theorem mapM_len {α β : Type} {f : α → Option β} : ∀ {l : List α} {r : List β}, l.mapM f = some r → r.length = l.length
  | [], r, h => by simp at h; subst h; rfl
  | x :: l, r, h => by
    simp only [List.mapM_cons, Option.bind_eq_bind, Option.bind_eq_some_iff, Option.pure_def, Option.some.injEq] at h
    obtain ⟨b, _, r', hr', rfl⟩ := h
    simp [mapM_len hr']

theorem cells_at {a : Addr} {n : Nat} {row : List Value} (h : W.cells? base a n = some row) : row.length = n ∧ ∀ j, j < n → W.cell? (a.add j) = row[j]? := by
  unfold World.cells? at h
  split at h
  · have hl : row.length = n := by
      have := mapM_len h
      simpa using this
    refine ⟨hl, fun j hj => ?_⟩
    obtain ⟨b, hb, hf⟩ := Lib.mapM_at h j j (by simp [hj])
    rw [hb]; exact hf
  · cases h

theorem sl_rows {n : Nat} (hn : 0 < n) (ht : P.underlying t = some (.slice e)) (hc : P.cellsOf e = n) (hval : Value.okWide P W r b0 t v) (hd : DataW.Trod enc P W base (fun _ => true) held t v d ps) :
    ∃ rows : List (List Value), IsSlW n v rows.length rows.flatten W ∧ ∀ row ∈ rows, row.length = n ∧ ∃ fuel y, DataW.trod enc P W base (fun _ => true) held fuel e row = some y := by
  obtain ⟨a1, len, cap, rfl⟩ := okWide_slice ht hval
  obtain ⟨fuel, hf⟩ := hd
  rcases DataW.trod_slice ht hf with ⟨hcs, hx⟩ | ⟨a, len', cap', elems, rest, m, _, hcs, hx, _, hl, hm, hlen, hel, _, _⟩
  · simp only [Value.cells, List.cons.injEq, Value.slice.injEq, and_true] at hcs
    obtain ⟨rfl, rfl, rfl⟩ := hcs
    exact ⟨[], ⟨by simp, by simp, .inl ⟨none, 0, rfl, rfl⟩⟩, by simp⟩
  · simp only [Value.cells, List.cons.injEq, Value.slice.injEq, and_true] at hcs
    obtain ⟨rfl, rfl, rfl⟩ := hcs
    rw [hc] at hel
    have hrow : ∀ i, i < len → ∃ row y, W.cells? base (a.add (i * n)) n = some row ∧ DataW.trod enc P W base (fun _ => true) held m e row = some y := by
      intro i hi
      have := hel i hi
      rw [List.getElem?_eq_getElem (by omega)] at this
      cases hcl : W.cells? base (a.add (i * n)) n with
      | none => rw [hcl] at this; cases this
      | some row => rw [hcl] at this; exact ⟨row, _, rfl, this⟩
    let rows := (List.range len).map fun i => (W.cells? base (a.add (i * n)) n).getD []
    have hrl : rows.length = len := by simp [rows]
    have hri : ∀ i (hi : i < len), W.cells? base (a.add (i * n)) n = some (rows[i]'(by omega)) := by
      intro i hi
      obtain ⟨row, y, h1, _⟩ := hrow i hi
      simp [rows, h1]
    have hall : ∀ row ∈ rows, row.length = n ∧ ∃ fuel y, DataW.trod enc P W base (fun _ => true) held fuel e row = some y := by
      intro row hr
      obtain ⟨i, hi, rfl⟩ := List.getElem_of_mem hr
      obtain ⟨row', y, h1, h2⟩ := hrow i (by omega)
      have h3 := hri i (by omega)
      rw [h1] at h3
      cases h3
      exact ⟨(cells_at h1).1, m, y, h2⟩
    have hfl : rows.flatten.length = len * n := by
      rw [← hrl]
      have hg : ∀ l : List (List Value), (∀ row ∈ l, row.length = n) → l.flatten.length = l.length * n := by
        intro l
        induction l with
        | nil => intro _; simp
        | cons x l ih =>
          intro h
          rw [List.flatten_cons, List.length_append, h x (by simp), ih (fun row hr => h row (by simp [hr])), List.length_cons, Nat.add_mul]
          omega
      exact hg rows (fun row hr => (hall row hr).1)
    refine ⟨rows, ⟨by omega, by rw [hfl, hrl], ?_⟩, hall⟩
    by_cases h0 : len = 0
    · exact .inl ⟨_, cap, by rw [h0], by omega⟩
    · have hA0 := (cells_at (hri 0 (by omega))).2 0 hn
      rw [List.getElem?_eq_getElem (by have := (hall _ (List.getElem_mem (show 0 < rows.length by omega))).1; omega)] at hA0
      have e0 : (a.add (0 * n)).add 0 = a := by simp [Addr.add]
      rw [e0] at hA0
      have hA := fun i => add_of hA0 i
      have ha : a = ⟨a.block, a.off, none⟩ := by have := hA 0; simpa [Addr.add] using this
      refine .inr ⟨a.block, a.off, cap, by rw [← ha, hrl], by omega, fun j hj => ?_⟩
      have hi : j / n < len := Nat.div_lt_of_lt_mul (by rw [hrl] at hj; rw [Nat.mul_comm]; exact hj)
      have hjn : j % n < n := Nat.mod_lt _ hn
      have hx := (cells_at (hri (j / n) hi)).2 (j % n) hjn
      have hadd : (a.add (j / n * n)).add (j % n) = ⟨a.block, a.off + j, none⟩ := by
        have h2 : ((a.add (j / n * n)).add (j % n)) = ⟨a.block, a.off + j / n * n + j % n, none⟩ := by
          rw [hA (j / n * n)]
          unfold Addr.add
          split
          · rename_i h3; rw [h3, Nat.add_zero]
          · rfl
        rw [h2, Nat.add_assoc, Nat.div_add_mod']
      rw [hadd] at hx
      rw [hx]
      have hlen' : ∀ (l : List (List Value)) (i k : Nat), (∀ row ∈ l, row.length = n) → i < l.length → k < n → l.flatten[i * n + k]? = (l[i]?.getD [])[k]? := by
        intro l
        induction l with
        | nil => intro i k _ hi _; simp at hi
        | cons x l ih =>
          intro i k hl hi hk
          have hxl := hl x (by simp)
          cases i with
          | zero => simp [List.getElem?_append_left, hxl, hk]
          | succ i =>
            rw [List.flatten_cons, List.getElem?_append_right (by rw [hxl, Nat.add_mul]; omega), show (i + 1) * n + k - x.length = i * n + k by rw [hxl, Nat.add_mul]; omega]
            rw [ih i k (fun row hr => hl row (by simp [hr])) (by simpa using hi) hk]
            simp
      have h5 := hlen' rows (j / n) (j % n) (fun row hr => (hall row hr).1) (by omega) hjn
      rw [Nat.div_add_mod'] at h5
      rw [h5, List.getElem?_eq_getElem (show j / n < rows.length by omega)]
      simp

end
end Licit
namespace Go.Proofs.YtfklmjcjjdliiaaDoor
open Go Go.RowKit Licit
open Go.ChangeShapes Go.WideShapes Go.ChangeAt

theorem own : ownKnob Tryd.prog.godebug = none := by kernel_rfl
theorem laidOut : laidOutB Tryd.prog = true := by kernel_rfl

abbrev laidList : List (String × DataW Unit) := [("math/bits.deBruijn32tab", Rows.laid_math_bits_deBruijn32tab), ("math/bits.deBruijn64tab", Rows.laid_math_bits_deBruijn64tab), ("internal/strconv.uint64pow10", Rows.laid_internal_strconv_uint64pow10)]

set_option maxRecDepth 100000 in
/-- What the rows' list gives. -/
theorem tab_of {W : World} (h : laidMetH Tryd.prog laidList W) : Tab W := by
  have h' : laidMet Tryd.prog laidList W := h
  have h2 := h'.tail.tail
  have ht : Lib.TabIs Tryd.prog W "internal/strconv.uint64pow10" .u64 Lib.pow10Tab :=
    Lib.tabIs_of_head (rest := []) (g := 2) (t := 136) (e := 84) (n := 20) gPow10 (by kernel_rfl) Tryd.underlying136 Tryd.underlying84 (by kernel_rfl) (by kernel_rfl) h2
  exact ⟨ht, World.block_lt_of_cell? W _ (ht.cell gPow10 0 (by decide))⟩

/-- All arguments read as they read before. -/
theorem trodAll_below {H : Type} {enc : TypeId × Value → H} {W W' : World} (hb : Below W.heap.size W W') (ts : List TypeId) : ∀ (vs : List Value) (ds : List (DataW H)) (ps : List MemPlace),
    ts.all (fun t => Tryd.prog.readableRec t && decide (t < Tryd.prog.types.size)) = true → DataW.TrodAll enc Tryd.prog W 0 (fun _ => true) true ts vs ds ps → (∀ x ∈ ps, x.block < W.heap.size) →
    DataW.TrodAll enc Tryd.prog W' 0 (fun b => decide (b < W.heap.size)) true ts vs ds ps := by
  induction ts with
  | nil =>
    intro vs ds ps _ h _
    obtain ⟨rfl, rfl, rfl⟩ := trodAll_nil h
    exact trodAll_mk0
  | cons t ts ih =>
    intro vs ds ps hr h hlt
    obtain ⟨v, vs', d, ds', p, q, rfl, rfl, rfl, h0, h1⟩ := trodAll_cons h
    simp only [List.all_cons, Bool.and_eq_true, decide_eq_true_eq] at hr
    exact trodAll_cons_mk (Below.trod laidOut hr.1.1 hr.1.2 h0 hb (fun x hx => hlt x (List.mem_append_left _ hx)))
      (ih vs' ds' q hr.2 h1 (fun x hx => hlt x (List.mem_append_right _ hx)))

/-- The post of a law: it returned true, and of what was there nothing has turned. -/
theorem law_post {H : Type} {enc : TypeId × Value → H} {f : Func} {s : ChangeSpec} {W W' : World} {args : Array Value} {ds gs : List (DataW H)} {before : List MemPlace}
    (hW : DataW.Whole enc Tryd.prog f.params.toList s.vars false W args.toList ds gs before) (hv : s.vars = []) (hres : f.resultTypes.toList = [4])
    (hr : f.params.toList.all (fun t => Tryd.prog.readableRec t && decide (t < Tryd.prog.types.size)) = true)
    (hs : s.fn H (ds ++ []) = { results := [.lit (.bool true)], args := ds }) (hb : Below W.heap.size W W') :
    s.post enc Tryd.prog f false true false false W args (.bool true) W' := by
  have hlt : ∀ x ∈ before, x.block < W.heap.size := fun x hx => by simpa using hW.lt x hx
  have hW' := hW
  obtain ⟨p, q, hA, hV, rfl, _, _⟩ := hW
  rw [hv] at hV
  obtain ⟨rfl, rfl⟩ := trodVars_none hV
  have hs' : s.fn H (ds ++ []) = { results := [.lit (.bool true)], args := ds } := hs
  refine ⟨ds, [], p ++ [], [], p, [], hW', ?_, ?_, ?_, hb.frame _, fun h => by cases h⟩
  · rw [hres, hs']
    have h1 : f.resultTypes.size = 1 := by rw [← Array.length_toList, hres]; rfl
    rw [h1]
    exact trodAll_mk1 (shut_bool Tryd.underlying4 _)
  · rw [hs']
    exact trodAll_below hb _ _ _ _ hr hA (fun x hx => hlt x (by simpa using hx))
  · rw [hs', hv]; rfl

/-- The cells of a block laid anew. -/
def relay (cs : Array Value) : Obj → Obj
  | .cells _ t frozen => .cells cs t frozen
  | o => o

/-- A world for the witnesses: the settled one, the tables holding what their initialisers lay. -/
noncomputable def laidWorld (os : Os) : World :=
  let w := World.holding Tryd.prog os ⟨#[], #[], []⟩
  { w with heap := ((w.heap.modify 2 (relay #[.int .u64 1, .int .u64 10, .int .u64 100, .int .u64 1000, .int .u64 10000, .int .u64 100000, .int .u64 1000000, .int .u64 10000000, .int .u64 100000000, .int .u64 1000000000, .int .u64 10000000000, .int .u64 100000000000, .int .u64 1000000000000, .int .u64 10000000000000, .int .u64 100000000000000, .int .u64 1000000000000000, .int .u64 10000000000000000, .int .u64 100000000000000000, .int .u64 1000000000000000000, .int .u64 10000000000000000000])).modify 0 (relay #[.int .u8 0, .int .u8 1, .int .u8 28, .int .u8 2, .int .u8 29, .int .u8 14, .int .u8 24, .int .u8 3, .int .u8 30, .int .u8 22, .int .u8 20, .int .u8 15, .int .u8 25, .int .u8 17, .int .u8 4, .int .u8 8, .int .u8 31, .int .u8 27, .int .u8 13, .int .u8 23, .int .u8 21, .int .u8 19, .int .u8 16, .int .u8 7, .int .u8 26, .int .u8 12, .int .u8 18, .int .u8 6, .int .u8 11, .int .u8 5, .int .u8 10, .int .u8 9])).modify 1 (relay #[.int .u8 0, .int .u8 1, .int .u8 56, .int .u8 2, .int .u8 57, .int .u8 49, .int .u8 28, .int .u8 3, .int .u8 61, .int .u8 58, .int .u8 42, .int .u8 50, .int .u8 38, .int .u8 29, .int .u8 17, .int .u8 4, .int .u8 62, .int .u8 47, .int .u8 59, .int .u8 36, .int .u8 45, .int .u8 43, .int .u8 51, .int .u8 22, .int .u8 53, .int .u8 39, .int .u8 33, .int .u8 30, .int .u8 24, .int .u8 18, .int .u8 12, .int .u8 5, .int .u8 63, .int .u8 55, .int .u8 48, .int .u8 27, .int .u8 60, .int .u8 41, .int .u8 37, .int .u8 16, .int .u8 46, .int .u8 35, .int .u8 44, .int .u8 21, .int .u8 52, .int .u8 32, .int .u8 23, .int .u8 11, .int .u8 54, .int .u8 26, .int .u8 40, .int .u8 15, .int .u8 34, .int .u8 20, .int .u8 31, .int .u8 10, .int .u8 25, .int .u8 14, .int .u8 19, .int .u8 9, .int .u8 13, .int .u8 8, .int .u8 7, .int .u8 6]) }

end Go.Proofs.YtfklmjcjjdliiaaDoor
