/- Small facts on memory: what stays as it was, blocks, cells, slices and byte strings; over any program, no condition. Whole arrays out of and into blocks, as a walk meets them, by what lies in the block; over any program. Steps of a region that draws its order, for appends to an own row; over any program. More steps of a region, for one cell; over any program. append to an own row: where the new row lies (so that two own rows stay apart); over any program. A function hands back its one variable that is a struct, and a number; over any program. One operation of a region that draws is taken first, and its slot is named; over any program. A region that draws its order, within a round of a range over a function: as everywhere; over any program. -/
import Derived.WalkKit
import Derived.WalkLawsBesides
import Derived.Lib.Hide
import Derived.Lib.Builder
import Derived.Laws.DeepStrings4
import Derived.Lib.Strings
import Derived.Laws.Rows
import Derived.Laws.Tables
import Derived.Deep.MidRow
import Derived.Laws.IdiomCopy
import Derived.Laws.IdiomStrings
import Derived.StillTailTactics
import Derived.Deep.RegionHeld3
import Derived.RangeFuncOwn
import Derived.RangeFuncCalls
import Derived.RangeFuncNested
import Derived.OwnWalkIn
import Derived.RegionTactic
namespace Licit
open Go Go.RowKit

abbrev Bs := List UInt8

/-- The byte string with some bytes. -/
def B (l : Bs) : ByteArray := ⟨l.toArray⟩
@[simp] theorem B_list (l : Bs) : (B l).data.toList = l := rfl
theorem B_eta (s : ByteArray) : B s.data.toList = s := rfl
theorem B_size (l : Bs) : (B l).size = l.length := rfl
theorem size_list (s : ByteArray) : s.data.toList.length = s.size := rfl
theorem B_inj {a b : Bs} (h : B a = B b) : a = b := by have := congrArg (fun s : ByteArray => s.data.toList) h; simpa using this
theorem B_append (a b : Bs) : B a ++ B b = B (a ++ b) := by
  show ByteArray.append _ _ = _
  apply ByteArray.ext
  simp [B, ByteArray.append]

/-- Of the blocks that were there only those in S may have turned; the streams are as they were. -/
structure Kept (S : Nat → Prop) (w w' : World) : Prop where
  os : w'.os = w.os
  tape : w'.tape = w.tape
  output : w'.output = w.output
  size : w.heap.size ≤ w'.heap.size
  block : ∀ k, k < w.heap.size → ¬ S k → w'.heap[k]? = w.heap[k]?

abbrev One (r : Nat) : Nat → Prop := fun k => k = r

section
variable {S S' : Nat → Prop} {w w' w'' : World}
theorem Kept.refl (S : Nat → Prop) (w : World) : Kept S w w := ⟨rfl, rfl, rfl, Nat.le_refl _, fun _ _ _ => rfl⟩
theorem Kept.trans (h : Kept S w w') (k : Kept S w' w'') : Kept S w w'' :=
  ⟨k.os.trans h.os, k.tape.trans h.tape, k.output.trans h.output, Nat.le_trans h.size k.size, fun i hi hs => (k.block i (Nat.lt_of_lt_of_le hi h.size) hs).trans (h.block i hi hs)⟩
theorem Kept.mono (h : Kept S w w') (hs : ∀ k, k < w.heap.size → S k → S' k) : Kept S' w w' :=
  ⟨h.os, h.tape, h.output, h.size, fun i hi hn => h.block i hi (fun c => hn (hs i hi c))⟩
theorem Kept.of_below (h : Below w.heap.size w w') : Kept S w w' := ⟨h.os, h.tape, h.output, h.size, fun i hi _ => h.block i hi⟩
theorem Kept.of_below' {B : Nat} (h : Below B w w') (hB : ∀ k, k < w.heap.size → B ≤ k → S k) : Kept S w w' :=
  ⟨h.os, h.tape, h.output, h.size, fun i hi hn => h.block i (by rcases Nat.lt_or_ge i B with c | c; exact c; exact (hn (hB i hi c)).elim)⟩
theorem Kept.below {B : Nat} (h : Kept S w w') (hB : B ≤ w.heap.size) (hS : ∀ k, k < B → ¬ S k) : Below B w w' :=
  ⟨h.os, h.tape, h.output, h.size, fun i hi => h.block i (Nat.lt_of_lt_of_le hi hB) (hS i hi)⟩
theorem Kept.drew (h : Kept S w w') : Kept S w w'.drew := ⟨h.os, h.tape, h.output, h.size, h.block⟩
theorem Kept.alloc (h : Kept S w w') (o : Obj) : Kept S w (w'.alloc o) :=
  h.trans (Kept.of_below ((Below.refl _ _).alloc (Nat.le_refl _) o))
theorem Kept.setCell (h : Kept S w w') {p : Addr} (hp : w.heap.size ≤ p.block ∨ S p.block) (u : Value) : Kept S w (w'.setCell p u) :=
  ⟨h.os, h.tape, h.output, by simpa [World.setCell] using h.size, fun k hk hs => by
    rw [Below.heap_setCell _ _ _ _ (fun e => by subst e; rcases hp with c | c; omega; exact hs c)]; exact h.block k hk hs⟩
theorem Kept.grown {row : Option Nat} (h : Kept S w w') (hg : w'.grownBy w'' row) (hr : ∀ k, row = some k → w.heap.size ≤ k ∨ S k) : Kept S w w'' :=
  ⟨hg.os.trans h.os, hg.tape.trans h.tape, hg.output.trans h.output, Nat.le_trans h.size hg.size, fun k hk hs => by
    rw [hg.block k (Nat.lt_of_lt_of_le hk h.size) (fun e => by rcases hr k e.symm with c | c; omega; exact hs c)]; exact h.block k hk hs⟩
theorem Kept.cell (h : Kept S w w') {b o : Nat} (hb : b < w.heap.size) (hs : ¬ S b) : w'.cell? ⟨b, o, none⟩ = w.cell? ⟨b, o, none⟩ :=
  World.cell?_of_block (w := w) (h.block b hb hs)
theorem Kept.frozen (h : Kept S w w') {b o : Nat} (hb : b < w.heap.size) (hs : ¬ S b) : w'.frozen? ⟨b, o, none⟩ = w.frozen? ⟨b, o, none⟩ :=
  World.frozen?_of_block (w := w) (h.block b hb hs)
end

section
variable {w : World} {r : Nat} {cs : Array Value} {T : TypeId} {fr : Nat × Nat}
theorem cell_of (h : w.heap[r]? = some (.cells cs T fr)) (i : Nat) : w.cell? ⟨r, i, none⟩ = cs[i]? := Lib.cell_of_heap h i
theorem free_of (h : w.heap[r]? = some (.cells cs T (0, 0))) (i : Nat) : w.frozen? ⟨r, i, none⟩ = false := by simp [World.frozen?, h]
theorem lt_of (h : w.heap[r]? = some (.cells cs T fr)) : r < w.heap.size := by
  rcases Nat.lt_or_ge r w.heap.size with c | c
  · exact c
  · simp [Array.getElem?_eq_none c] at h
theorem set_of (h : w.heap[r]? = some (.cells cs T fr)) (i : Nat) (v : Value) : (w.setCell ⟨r, i, none⟩ v).heap[r]? = some (.cells (cs.setIfInBounds i v) T fr) := by
  simp [World.setCell, Array.getElem?_modify, h]
theorem new_of (w : World) (o : Obj) : (w.alloc o).heap[w.heap.size]? = some o := by show (w.heap.push o)[w.heap.size]? = _; simp
end

/-- The cells of one new block, to be appended. -/
theorem news_one {w : World} {o : Nat} {x : Value} {t : TypeId} {fr : Nat × Nat} (hb : w.heap[o]? = some (.cells #[x] t fr)) : ∀ j u, [x][j]? = some u → w.cell? ((⟨o, 0, none⟩ : Addr).add j) = some u := fun j u hu => by
  have hadd : (⟨o, 0, none⟩ : Addr).add j = ⟨o, j, none⟩ := by unfold Addr.add; split <;> simp_all
  rw [hadd, cell_of hb]
  simpa using hu

theorem ownsRow_kept {S : Nat → Prop} {w w' : World} {base : Nat} {e : TypeId} {size : Nat} {v : Value} {n : Nat} {xs : List Value} (h : w.ownsRow base e size v n xs) (hk : Kept S w w') (hS : ∀ k, base ≤ k → ¬ S k) : w'.ownsRow base e size v n xs := by
  obtain ⟨h1, h2⟩ := h
  refine ⟨h1, ?_⟩
  rcases h2 with h2 | ⟨g, cap, cur, hv, hg, hh, r⟩
  · exact .inl h2
  · exact .inr ⟨g, cap, cur, hv, hg, by rw [hk.block g (lt_of hh) (hS g hg)]; exact hh, r⟩

theorem ownsRow_base {w : World} {base base' : Nat} {e : TypeId} {size : Nat} {v : Value} {n : Nat} {xs : List Value} (h : w.ownsRow base e size v n xs) (hb : base' ≤ base) : w.ownsRow base' e size v n xs := by
  obtain ⟨h1, h2⟩ := h
  refine ⟨h1, ?_⟩
  rcases h2 with h2 | ⟨g, cap, cur, hv, hg, hh, r⟩
  · exact .inl h2
  · exact .inr ⟨g, cap, cur, hv, Nat.le_trans hb hg, hh, r⟩

section
variable (w : World) (a b c : Value) {T U V : TypeId}
theorem cell1a : (w.alloc (.cells #[a] T)).cell? ⟨w.heap.size, 0, none⟩ = some a := by rw [cell_of (new_of _ _)]; rfl
theorem cell2b : ((w.alloc (.cells #[a] T)).alloc (.cells #[b] U)).cell? ⟨w.heap.size + 1, 0, none⟩ = some b := by
  have := cell1a (w.alloc (.cells #[a] T)) b (T := U)
  rwa [World.size_alloc] at this
theorem cell2a : ((w.alloc (.cells #[a] T)).alloc (.cells #[b] U)).cell? ⟨w.heap.size, 0, none⟩ = some a := by
  rw [World.cell?_alloc_lt _ _ _ (by simp)]; exact cell1a w a
theorem cell3c : (((w.alloc (.cells #[a] T)).alloc (.cells #[b] U)).alloc (.cells #[c] V)).cell? ⟨w.heap.size + 2, 0, none⟩ = some c := by
  have := cell2b (w.alloc (.cells #[a] T)) b c (T := U) (U := V)
  rwa [World.size_alloc] at this
theorem cell3b : (((w.alloc (.cells #[a] T)).alloc (.cells #[b] U)).alloc (.cells #[c] V)).cell? ⟨w.heap.size + 1, 0, none⟩ = some b := by
  rw [World.cell?_alloc_lt _ _ _ (by simp)]; exact cell2b w a b
theorem cell3a : (((w.alloc (.cells #[a] T)).alloc (.cells #[b] U)).alloc (.cells #[c] V)).cell? ⟨w.heap.size, 0, none⟩ = some a := by
  rw [World.cell?_alloc_lt _ _ _ (by simp; omega)]; exact cell2a w a b
end

/-- v is a slice that reads as the values xs, one cell each. -/
def IsSl (v : Value) (xs : List Value) (w : World) : Prop :=
  xs.length ≤ maxLen ∧ ((∃ a cap, v = .slice a 0 cap ∧ xs = []) ∨
    ∃ b off cap, v = .slice (some ⟨b, off, none⟩) xs.length cap ∧ 0 < xs.length ∧ ∀ i, i < xs.length → w.cell? ⟨b, off + i, none⟩ = xs[i]?)

theorem IsSl.below {v : Value} {xs : List Value} {w w' : World} (h : IsSl v xs w) (hb : Below w.heap.size w w') : IsSl v xs w' := by
  refine ⟨h.1, ?_⟩
  rcases h.2 with h | ⟨b, off, cap, rfl, h0, hc⟩
  · exact .inl h
  · refine .inr ⟨b, off, cap, rfl, h0, fun i hi => ?_⟩
    have hx := hc i hi
    have hlt : b < w.heap.size := World.block_lt_of_cell? w _ (hx.trans (List.getElem?_eq_getElem hi))
    rw [hb.cell (p := ⟨b, off + i, none⟩) hlt]; exact hx

/-- The slice that was handed out of an owned row. -/
theorem IsSl.of_owns {w : World} {base : Nat} {e : TypeId} {v : Value} {xs : List Value} (h : w.ownsRow base e 1 v xs.length xs) (hm : xs.length ≤ maxLen) : IsSl v xs w := by
  refine ⟨hm, ?_⟩
  rcases h.2 with ⟨rfl, h0⟩ | ⟨g, cap, cur, rfl, hg, hh, h1, h2, h3, h4⟩
  · exact .inl ⟨none, 0, by rw [], List.eq_nil_of_length_eq_zero h0⟩
  · by_cases h0 : xs.length = 0
    · exact .inl ⟨_, cap, by rw [h0], List.eq_nil_of_length_eq_zero h0⟩
    · refine .inr ⟨g, 0, cap, rfl, by omega, fun i hi => ?_⟩
      have h5 : xs[i]? = (List.take (xs.length * 1) cur.toList)[i]? := by rw [h4]
      rw [cell_of hh, Nat.zero_add, h5, List.getElem?_take_of_lt (by omega), Array.getElem?_toList]

/-- An own row is a slice. -/
theorem own_form {w : World} {base : Nat} {e : TypeId} {size : Nat} {v : Value} {n : Nat} {xs : List Value} (h : w.ownsRow base e size v n xs) : ∃ a cap, v = .slice a n cap := by
  rcases h.2 with ⟨rfl, rfl⟩ | ⟨g, cap, cur, rfl, _⟩
  · exact ⟨none, 0, rfl⟩
  · exact ⟨_, cap, rfl⟩
/-- An own row that is not empty. -/
theorem own_some {w : World} {base : Nat} {e : TypeId} {size : Nat} {v : Value} {n : Nat} {xs : List Value} (h : w.ownsRow base e size v n xs) (hn : 0 < n) : ∃ g cap, v = .slice (some ⟨g, 0, none⟩) n cap ∧ base ≤ g ∧ g < w.heap.size ∧ n ≤ cap := by
  rcases h.2 with ⟨rfl, rfl⟩ | ⟨g, cap, cur, rfl, h1, h2, h3, _⟩
  · omega
  · exact ⟨g, cap, rfl, h1, lt_of h2, h3⟩

theorem IsSl.form {v : Value} {xs : List Value} {w : World} (h : IsSl v xs w) : ∃ a cap, v = .slice a xs.length cap := by
  rcases h.2 with ⟨a, cap, rfl, rfl⟩ | ⟨b, off, cap, rfl, _⟩
  · exact ⟨a, cap, rfl⟩
  · exact ⟨_, cap, rfl⟩
theorem IsSl.formMap {α : Type} {V : α → Value} {v : Value} {xs : List α} {w : World} (h : IsSl v (xs.map V) w) : ∃ a cap, v = .slice a xs.length cap := by
  obtain ⟨a, cap, h⟩ := h.form
  exact ⟨a, cap, by rw [h, List.length_map]⟩

/-- v is a slice of n elements of some cells each; xs are all the cells. -/
def IsSlW (size : Nat) (v : Value) (n : Nat) (xs : List Value) (w : World) : Prop :=
  n ≤ maxLen ∧ xs.length = n * size ∧ ((∃ a cap, v = .slice a 0 cap ∧ n = 0) ∨
    ∃ b off cap, v = .slice (some ⟨b, off, none⟩) n cap ∧ 0 < n ∧ ∀ j, j < n * size → w.cell? ⟨b, off + j, none⟩ = xs[j]?)

theorem IsSlW.form {size : Nat} {v : Value} {n : Nat} {xs : List Value} {w : World} (h : IsSlW size v n xs w) : ∃ a cap, v = .slice a n cap := by
  rcases h.2.2 with ⟨a, cap, rfl, rfl⟩ | ⟨b, off, cap, rfl, _⟩
  · exact ⟨a, cap, rfl⟩
  · exact ⟨_, cap, rfl⟩

/-- The cells of element k. -/
theorem IsSlW.at {size : Nat} {a : Option Addr} {cap : Nat} {n : Nat} {xs : List Value} {w : World} (h : IsSlW size (.slice a n cap) n xs w) (hs : 0 < size) {k : Nat} (hk : k < n) :
    ∃ b off, a = some ⟨b, off, none⟩ ∧ b < w.heap.size ∧ ∀ j, j < size → w.cell? ⟨b, off + (k * size + j), none⟩ = xs[k * size + j]? := by
  rcases h.2.2 with ⟨a', cap', e, h0⟩ | ⟨b, off, cap', e, h0, hc⟩
  · omega
  · simp only [Value.slice.injEq] at e
    have hlt : ∀ j, j < size → k * size + j < n * size := fun j hj => by
      have : (k + 1) * size ≤ n * size := Nat.mul_le_mul_right _ hk
      rw [Nat.add_mul] at this
      omega
    have h1 := hc (k * size + 0) (hlt 0 hs)
    rw [List.getElem?_eq_getElem (by rw [h.2.1]; exact hlt 0 hs)] at h1
    exact ⟨b, off, e.1, World.block_lt_of_cell? w _ h1, fun j hj => hc _ (hlt j hj)⟩

theorem IsSl.at {a : Option Addr} {cap : Nat} {xs : List Value} {w : World} (h : IsSl (.slice a xs.length cap) xs w) {k : Nat} (hk : k < xs.length) :
    ∃ b off, a = some ⟨b, off, none⟩ ∧ b < w.heap.size ∧ w.cell? ⟨b, off + k, none⟩ = some xs[k] := by
  rcases h.2 with ⟨a', cap', e, h0⟩ | ⟨b, off, cap', e, h0, hc⟩
  · subst h0; exact (Nat.not_lt_zero _ hk).elim
  · simp only [Value.slice.injEq] at e
    have hx := hc k hk
    rw [List.getElem?_eq_getElem hk] at hx
    exact ⟨b, off, e.1, World.block_lt_of_cell? w _ hx, hx⟩

end Licit
namespace Licit
open Go Go.RowKit

section
variable {P : Program}

/-- A whole array is stored into a block of its own. -/
theorem wpList_store_whole {ops : Array Oper} {rest : List Oper} {o : Oper} {a : Act} {w : World} {Q : Exit → Act → World → Prop} (hgd : o.guard = none) (ty : TypeId) (x y : Operand) (ho : o.op = .store ty x y)
    (g : Nat) (hx : a.eval x = .pointer (some ⟨g, 0, none⟩)) (cs : Array Value) (hy : a.eval y = .agg cs) (t : TypeId) (old : Array Value) (hg : w.heap[g]? = some (.cells old t (0, 0)))
    (hi : (P.info? ty).map (·.size) = some cs.size) (hs : old.size = cs.size) (h1 : cs.all (·.oneCell') = true)
    (h : wpList P ops Q rest (a.put o.dst undef) (w.setRow g cs)) : wpList P ops Q (o :: rest) a w :=
  wpList_plain hgd fun K hK => by
    unfold Oper.wp execOp
    simp only [ho, hx, hy, Instr.storeAt, Instr.sureAddr, Sem.run_bind, Sem.run_pure, Result.andThen_ok, run_storeVar_row w g t ty old cs hg hi hs h1]
    exact hK _ _ h

/-- A function hands back its one variable, an array. -/
theorem ret_whole {fn : Func} {p : Tmp} {ty : TypeId} (h : fn.results = #[.cell p ty]) {a : Act} {w : World} {R : Ending → World → Prop} (g : Nat) (t : TypeId) (cs : Array Value) (fr : Nat × Nat) (d : TypeDesc)
    (hp : a.tmps.getD p undef = .pointer (some ⟨g, 0, none⟩)) (hg : w.heap[g]? = some (.cells cs t fr))
    (hu : P.underlying ty = some d) (hd : (match d with | .struct _ | .array _ _ => true | _ => false) = true) (hi : (P.info? ty).map (·.size) = some cs.size)
    (hde : a.defers = []) (hR : R (.returned (.agg cs)) w) : bodyPost P fn R .ret a w :=
  bodyPost_ret (results_cell_row h _ w g t cs fr d hp hg hu hd hi) hde hR

/-- One cell of an array by value. -/
theorem run_index_one {t e : TypeId} {n : Nat} {cs : Array Value} {v : Value} (h : P.underlying t = some (.array n e)) (he : ∀ w : World, (isAgg e).run P w = Result.ok false w) (hz : ∀ w : World, (Go.sizeOf e).run P w = Result.ok 1 w) {i : Nat} (hi : i < n) (hv : cs[i]? = some v) (w : World) :
    (Instr.index t (.agg cs) (.int .i64 (i : Int))).run P w = .ok v w := by
  have hin : (0 : Int) ≤ (i : Int) ∧ (i : Int) < (n : Int) := by omega
  simp [Instr.index, run_underlying h, asIntOf, hi, part, he, hz, hv, go_sem]

theorem row_of {w : World} {r : Nat} {cs cs' : Array Value} {T : TypeId} {fr : Nat × Nat} (h : w.heap[r]? = some (.cells cs T fr)) : (w.setRow r cs').heap[r]? = some (.cells cs' T fr) := setRow_heap w r cs cs' T fr h
theorem row_other {w : World} {r k : Nat} {cs : Array Value} {o : Obj} (h : w.heap[k]? = some o) (hn : k ≠ r) : (w.setRow r cs).heap[k]? = some o := by rw [setRow_other _ _ _ _ hn]; exact h
theorem set_other {w : World} {p : Addr} {k : Nat} {v : Value} {o : Obj} (h : w.heap[k]? = some o) (hn : k ≠ p.block) : (w.setCell p v).heap[k]? = some o := by rw [Below.heap_setCell _ _ _ _ hn]; exact h
theorem old_of {w : World} {k : Nat} {o o' : Obj} (h : w.heap[k]? = some o) : (w.alloc o').heap[k]? = some o := by
  have hlt : k < w.heap.size := (Array.getElem?_eq_some_iff.1 h).1
  show (w.heap.push o')[k]? = some o
  rw [Array.getElem?_push, if_neg (by omega)]
  exact h
theorem new_at {w : World} {o o' : Obj} {k : Nat} (hk : k = w.heap.size) (ho : o = o') : (w.alloc o).heap[k]? = some o' := by subst hk; subst ho; exact new_of _ _
theorem _root_.Go.RowKit.Below.setRow' {B : Nat} {w w' : World} (h : Below B w w') {r : Nat} (hr : B ≤ r) (cs : Array Value) : Below B w (w'.setRow r cs) :=
  ⟨h.os, h.tape, h.output, by simpa using h.size, fun k hk => by rw [setRow_other _ _ _ _ (by omega)]; exact h.block k hk⟩
theorem below_heap {B : Nat} {w w' : World} (h : Below B w w') {k : Nat} (hk : k < B) {o : Obj} (ho : w.heap[k]? = some o) : w'.heap[k]? = some o := by rw [h.block k hk]; exact ho
end

/-- A store into a block below the base leaves an own row. -/
theorem ownsRow_set {w : World} {base : Nat} {e : TypeId} {size : Nat} {v : Value} {n : Nat} {xs : List Value} (h : w.ownsRow base e size v n xs) {p : Addr} {v' : Value} (hp : p.block < base) : (w.setCell p v').ownsRow base e size v n xs := by
  obtain ⟨h1, h2⟩ := h
  refine ⟨h1, ?_⟩
  rcases h2 with h2 | ⟨g, cap, cur, hv, hg, hh, r⟩
  · exact .inl h2
  · exact .inr ⟨g, cap, cur, hv, hg, set_other hh (by omega), r⟩
theorem ownsRow_block {w w' : World} {base : Nat} {e : TypeId} {size : Nat} {v : Value} {n : Nat} {xs : List Value} (h : w.ownsRow base e size v n xs) (hb : ∀ k, base ≤ k → k < w.heap.size → w'.heap[k]? = w.heap[k]?) : w'.ownsRow base e size v n xs := by
  obtain ⟨h1, h2⟩ := h
  refine ⟨h1, ?_⟩
  rcases h2 with h2 | ⟨g, cap, cur, hv, hg, hh, r⟩
  · exact .inl h2
  · exact .inr ⟨g, cap, cur, hv, hg, by rw [hb g hg (lt_of hh)]; exact hh, r⟩

/-- A slice that was built out of values owns its block. -/
theorem own_built {w : World} {b : Nat} {cs : Array Value} {e : TypeId} {base n : Nat} (h : w.heap[b]? = some (.cells cs e (0, 0))) (hb : base ≤ b) (hn : cs.size = n) (hm : n ≤ maxLen) : w.ownsRow base e 1 (.slice (some ⟨b, 0, none⟩) n n) n cs.toList := by
  subst hn
  exact ⟨by simp, .inr ⟨b, cs.size, cs, rfl, hb, h, Nat.le_refl _, hm, by simp, by rw [List.take_of_length_le (by simp)]⟩⟩

/-- Cells laid over others from a place on. -/
def putA (C : Array Value) : Nat → List Value → Array Value
  | _, [] => C
  | o, v :: r => putA (C.setIfInBounds o v) (o + 1) r
theorem putA_size : ∀ (vs : List Value) (C : Array Value) (o : Nat), (putA C o vs).size = C.size
  | [], _, _ => rfl
  | v :: r, C, o => by rw [putA, putA_size r]; simp
theorem putA_out : ∀ (vs : List Value) (C : Array Value) (o i : Nat), i < o ∨ o + vs.length ≤ i → (putA C o vs)[i]? = C[i]?
  | [], _, _, _, _ => rfl
  | v :: r, C, o, i, h => by
    have h' : i < o + 1 ∨ o + 1 + r.length ≤ i := by simp at h; omega
    rw [putA, putA_out r _ _ _ h', Array.getElem?_setIfInBounds_ne (by simp at h; omega)]
theorem putA_in : ∀ (vs : List Value) (C : Array Value) (o i : Nat), o + vs.length ≤ C.size → i < vs.length → (putA C o vs)[o + i]? = vs[i]?
  | [], _, _, _, _, h => by simp at h
  | v :: r, C, o, i, hs, h => by
    simp only [List.length_cons] at hs h
    cases i with
    | zero =>
      rw [putA, Nat.add_zero, putA_out r _ _ _ (by omega)]
      simp [show o < C.size by omega]
    | succ i =>
      rw [putA, show o + (i + 1) = o + 1 + i by omega, putA_in r _ _ _ (by simp; omega) (by omega)]
      rfl
theorem heap_setCells {b : Nat} {T : TypeId} {fr : Nat × Nat} : ∀ (vs : List Value) (C : Array Value) (o : Nat) (w : World), w.heap[b]? = some (.cells C T fr) → (w.setCells b o vs).heap[b]? = some (.cells (putA C o vs) T fr)
  | [], _, _, _, h => h
  | v :: r, C, o, w, h => by
    rw [World.setCells, putA]
    exact heap_setCells r _ _ _ (set_of h o v)
theorem kept_setCells {S : Nat → Prop} {b : Nat} : ∀ (vs : List Value) (o : Nat) (w0 w : World), Kept S w0 w → w0.heap.size ≤ b ∨ S b → Kept S w0 (w.setCells b o vs)
  | [], _, _, _, h, _ => h
  | v :: r, o, w0, w, h, hb => by
    rw [World.setCells]
    exact kept_setCells r _ _ _ (h.setCell (p := ⟨b, o, none⟩) hb v) hb
theorem range_of {w : World} {b : Nat} {C : Array Value} {T : TypeId} {fr : Nat × Nat} (h : w.heap[b]? = some (.cells C T fr)) (o : Nat) (vs : List Value) (hv : ∀ i, i < vs.length → C[o + i]? = vs[i]?) : w.rangeAt b o vs := by
  intro j v hj
  rw [cell_of h, hv j (by
    rcases Nat.lt_or_ge j vs.length with c | c
    · exact c
    · rw [List.getElem?_eq_none c] at hj; cases hj)]
  exact hj
theorem there_of {w : World} {b : Nat} {C : Array Value} {T : TypeId} (h : w.heap[b]? = some (.cells C T (0, 0))) (o n : Nat) (hn : o + n ≤ C.size) : w.there b o n := by
  intro j hj
  refine ⟨?_, free_of h _⟩
  rw [cell_of h, Array.getElem?_eq_getElem (by omega)]
  rfl

section
variable {P : Program}
/-- As wpList_store_whole; the world behind it is a variable. -/
theorem wpList_store_new {ops : Array Oper} {rest : List Oper} {o : Oper} {a : Act} {w : World} {Q : Exit → Act → World → Prop} (hgd : o.guard = none) (ty : TypeId) (x y : Operand) (ho : o.op = .store ty x y)
    (g : Nat) (hx : a.eval x = .pointer (some ⟨g, 0, none⟩)) (cs : Array Value) (hy : a.eval y = .agg cs) (t : TypeId) (old : Array Value) (hg : w.heap[g]? = some (.cells old t (0, 0)))
    (hi : (P.info? ty).map (·.size) = some cs.size) (hs : old.size = cs.size) (h1 : cs.all (·.oneCell') = true)
    (h : ∀ w', w'.heap[g]? = some (.cells cs t (0, 0)) → Kept (One g) w w' → wpList P ops Q rest (a.put o.dst undef) w') : wpList P ops Q (o :: rest) a w :=
  wpList_store_whole hgd ty x y ho g hx cs hy t old hg hi hs h1 (h _ (row_of hg) ⟨rfl, rfl, rfl, by simp, fun k _ hn => setRow_other _ _ _ _ hn⟩)
/-- A store of cells into a part of a block; the world behind it is a variable. -/
theorem wpList_store_part {ops : Array Oper} {rest : List Oper} {op : Oper} {a : Act} {w : World} {Q : Exit → Act → World → Prop} (hgd : op.guard = none) (ty : TypeId) (x y : Operand) (ho : op.op = .store ty x y)
    (b o : Nat) (cells : Array Value) (hx : a.eval x = .pointer (some ⟨b, o, none⟩)) (hy : a.eval y = .agg cells) (C : Array Value) (T : TypeId) (hg : w.heap[b]? = some (.cells C T (0, 0))) (hn : o + cells.size ≤ C.size)
    (hi : (P.info? ty).map (·.size) = some cells.size) (h1 : cells.all (·.oneCell') = true)
    (h : ∀ w', w'.heap[b]? = some (.cells (putA C o cells.toList) T (0, 0)) → Kept (One b) w w' → wpList P ops Q rest (a.put op.dst undef) w') : wpList P ops Q (op :: rest) a w :=
  wpList_store_mid hgd ty x y ho b o cells hx hy (there_of hg o _ hn) hi h1 (h _ (heap_setCells _ _ _ _ hg) (kept_setCells _ _ _ _ (Kept.refl _ _) (.inr rfl)))
/-- A store of one cell; the world behind it is a variable. -/
theorem wpList_store_one {ops : Array Oper} {rest : List Oper} {op : Oper} {a : Act} {w : World} {Q : Exit → Act → World → Prop} (hgd : op.guard = none) (ty : TypeId) (x y : Operand) (ho : op.op = .store ty x y)
    (b o : Nat) (hx : a.eval x = .pointer (some ⟨b, o, none⟩)) (v : Value) (hy : a.eval y = v) (hv : v.cells = #[v]) (h1 : v.oneCell' = true) (C : Array Value) (T : TypeId) (hg : w.heap[b]? = some (.cells C T (0, 0))) (hn : o < C.size)
    (hi : (P.info? ty).map (·.size) = some 1)
    (h : ∀ w', w'.heap[b]? = some (.cells (C.setIfInBounds o v) T (0, 0)) → Kept (One b) w w' → wpList P ops Q rest (a.put op.dst undef) w') : wpList P ops Q (op :: rest) a w := by
  refine wpList_plain hgd fun K hK => ?_
  have hr : (storeVar ty ⟨b, o, none⟩ v).run P w = .ok () (w.setCell ⟨b, o, none⟩ v) := by
    have ht := there_of hg o 1 (by omega)
    have := run_storeCells_cells (P := P) b o [v] 0 w (fun j hj => by simpa using (ht j (by simpa using hj)).1) (fun j hj => by simpa using (ht j (by simpa using hj)).2)
      (fun u hu => by simp at hu; subst hu; exact h1)
    cases hq : P.info? ty with
    | none => simp [hq] at hi
    | some i =>
      have hs : 1 = i.size := by simp [hq] at hi; omega
      simp only [Nat.add_zero] at this
      simp [storeVar, Go.sizeOf, Go.typeInfo, hq, hv, ← hs, this, World.setCells]
  unfold Oper.wp execOp
  simp only [ho, hx, hy, Instr.storeAt, Instr.sureAddr, Sem.run_bind, Sem.run_pure, Result.andThen_ok, hr]
  exact hK _ _ (h _ (set_of hg o v) ((Kept.refl (One b) w).setCell (p := ⟨b, o, none⟩) (.inr rfl) v))
/-- In a region that only reads before its last operations: a whole array out of a part of a block. -/
theorem wpStill_load_mid {ops : Array Oper} {rest : List Oper} {op : Oper} {a : Act} {w : World} {Q : Act → Prop} (hgd : op.guard = none) (ty : TypeId) (x : Operand) (ho : op.op = .load ty x)
    (b o : Nat) (hx : a.eval x = .pointer (some ⟨b, o, none⟩)) (cs : List Value) (d : TypeDesc) (hc : w.rangeAt b o cs)
    (hu : P.underlying ty = some d) (hd : d.isRow = true) (hi : (P.info? ty).map (·.size) = some cs.length)
    (h : wpStill P ops w Q rest (a.put op.dst (.agg cs.toArray))) : wpStill P ops w Q (op :: rest) a := by
  refine wpStill_step fun K hK => ?_
  rw [if_pos (by simp [Region.wanted, hgd])]
  unfold Oper.still execOp
  simp only [ho, hx, Instr.loadAt, Instr.sureAddr, Sem.run_bind, Sem.run_pure, Result.andThen_ok, run_loadVar_mid w b o ty cs d hc hu hd hi, Oper.stillUpon_value]
  exact hK _ h
/-- And string(b). -/
theorem wpStill_string {ops : Array Oper} {rest : List Oper} {op : Oper} {a : Act} {w : World} {Q : Act → Prop} (hgd : op.guard = none) (src dst _e : TypeId) (x : Operand) (ho : op.op = .convert src dst x)
    (v : Value) (hx : a.eval x = v) (u : Value) (hr : (convert src dst v).run P w = .ok u w)
    (h : wpStill P ops w Q rest (a.put op.dst u)) : wpStill P ops w Q (op :: rest) a := by
  refine wpStill_step fun K hK => ?_
  rw [if_pos (by simp [Region.wanted, hgd])]
  unfold Oper.still execOp
  simp only [ho, hx, Sem.run_bind, Sem.run_pure, Result.andThen_ok, hr, Oper.stillUpon_value]
  exact hK _ h
/-- One step of a region that draws: a whole array is loaded. -/
theorem step_load_whole {ops : Array Oper} {o : Oper} {a : Act} {w : World} {K : Act → World → Prop} {Q : Exit → Act → World → Prop} {E : Prop} (hgd : o.guard = none) (ty : TypeId) (x : Operand) (ho : o.op = .load ty x)
    (g : Nat) (hx : a.eval x = .pointer (some ⟨g, 0, none⟩)) (t : TypeId) (cs : Array Value) (fr : Nat × Nat) (d : TypeDesc) (hg : w.heap[g]? = some (.cells cs t fr))
    (hu : P.underlying ty = some d) (hd : (match d with | .struct _ | .array _ _ => true | _ => false) = true) (hi : (P.info? ty).map (·.size) = some cs.size)
    (hK : K (a.put o.dst (.agg cs)) w) : if Region.wanted o (yielded ops a.tmps) = true then Oper.wp P o a w K Q else E := by
  rw [if_pos (by simp [Region.wanted, hgd])]
  exact wp_load_row ty x ho g hx t cs fr d hg hu hd hi hK
/-- And stored. -/
theorem step_store_new {ops : Array Oper} {o : Oper} {a : Act} {w : World} {K : Act → World → Prop} {Q : Exit → Act → World → Prop} {E : Prop} (hgd : o.guard = none) (ty : TypeId) (x y : Operand) (ho : o.op = .store ty x y)
    (g : Nat) (hx : a.eval x = .pointer (some ⟨g, 0, none⟩)) (cs : Array Value) (hy : a.eval y = .agg cs) (t : TypeId) (old : Array Value) (hg : w.heap[g]? = some (.cells old t (0, 0)))
    (hi : (P.info? ty).map (·.size) = some cs.size) (hs : old.size = cs.size) (h1 : cs.all (·.oneCell') = true)
    (h : ∀ w', w'.heap[g]? = some (.cells cs t (0, 0)) → Kept (One g) w w' → K (a.put o.dst undef) w') : if Region.wanted o (yielded ops a.tmps) = true then Oper.wp P o a w K Q else E := by
  rw [if_pos (by simp [Region.wanted, hgd])]
  unfold Oper.wp execOp
  simp only [ho, hx, hy, Instr.storeAt, Instr.sureAddr, Sem.run_bind, Sem.run_pure, Result.andThen_ok, run_storeVar_row w g t ty old cs hg hi hs h1]
  exact h _ (row_of hg) ⟨rfl, rfl, rfl, by simp, fun k _ hn => setRow_other _ _ _ _ hn⟩
end

end Licit
namespace Licit
open Go Go.RowKit
section
variable {P : Program}
theorem step_append_own {ops : Array Oper} {o : Oper} {a : Act} {w : World} {K : Act → World → Prop} {Q : Exit → Act → World → Prop} {E : Prop} (hgd : o.guard = none) (s x : Operand) (t : TypeId)
    (ho : o.op = .call { callee := .builtin .append, args := #[s, x], argTypes := #[t, t] })
    (base : Nat) (e : TypeId) (i : TypeInfo) (z : Value) (size bytes : Nat) (ht : P.underlying t = some (.slice e)) (hi : P.info? e = some i) (hz : i.zero = some z)
    (hsize : i.size = size) (hby : i.bytes = bytes) (hzs : z.cells.size = size) (hsz : 0 < size)
    (v : Value) (n : Nat) (xs : List Value) (hs : a.eval s = v) (hown : w.ownsRow base e size v n xs)
    (ad : Addr) (m c : Nat) (news : List Value) (hx : a.eval x = .slice (some ad) m c) (hl : news.length = m * size) (hnews : ∀ j u, news[j]? = some u → w.cell? (ad.add j) = some u) (h1 : ∀ u ∈ news, u.oneCell' = true)
    (h63 : n + m ≤ maxLen) (hbytes : (n + m) * bytes ≤ 140737488355328) (hbase : base ≤ w.heap.size)
    (h : ∀ v' w', w'.ownsRow base e size v' (n + m) (xs ++ news) → w.grownBy w' v.ownBlock → (v' = .slice none 0 0 ↔ v = .slice none 0 0 ∧ m = 0) → K (a.put o.dst v') w') :
    if Region.wanted o (yielded ops a.tmps) = true then Oper.wp P o a w K Q else E := by
  rw [if_pos (by simp [Region.wanted, hgd])]
  exact wp_append_own w s x t ho base e i z size bytes ht hi hz hsize hby hzs hsz v n xs hs hown ad m c news hx hl hnews h1 h63 hbytes hbase h
end
end Licit
namespace Licit
open Go Go.RowKit
section
variable {P : Program}
theorem step_store_one {ops : Array Oper} {op : Oper} {a : Act} {w : World} {K : Act → World → Prop} {Q : Exit → Act → World → Prop} {E : Prop} (hgd : op.guard = none) (ty : TypeId) (x y : Operand) (ho : op.op = .store ty x y)
    (b o : Nat) (hx : a.eval x = .pointer (some ⟨b, o, none⟩)) (v : Value) (hy : a.eval y = v) (hv : v.cells = #[v]) (h1 : v.oneCell' = true) (C : Array Value) (T : TypeId) (hg : w.heap[b]? = some (.cells C T (0, 0))) (hn : o < C.size)
    (hi : (P.info? ty).map (·.size) = some 1)
    (h : ∀ w', w'.heap[b]? = some (.cells (C.setIfInBounds o v) T (0, 0)) → Kept (One b) w w' → K (a.put op.dst undef) w') : if Region.wanted op (yielded ops a.tmps) = true then Oper.wp P op a w K Q else E := by
  rw [if_pos (by simp [Region.wanted, hgd])]
  have hr : (storeVar ty ⟨b, o, none⟩ v).run P w = .ok () (w.setCell ⟨b, o, none⟩ v) := by
    have ht := there_of hg o 1 (by omega)
    have := run_storeCells_cells (P := P) b o [v] 0 w (fun j hj => by simpa using (ht j (by simpa using hj)).1) (fun j hj => by simpa using (ht j (by simpa using hj)).2)
      (fun u hu => by simp at hu; subst hu; exact h1)
    cases hq : P.info? ty with
    | none => simp [hq] at hi
    | some i =>
      have hs : 1 = i.size := by simp [hq] at hi; omega
      simp only [Nat.add_zero] at this
      simp [storeVar, Go.sizeOf, Go.typeInfo, hq, hv, ← hs, this, World.setCells]
  unfold Oper.wp execOp
  simp only [ho, hx, hy, Instr.storeAt, Instr.sureAddr, Sem.run_bind, Sem.run_pure, Result.andThen_ok, hr]
  exact h _ (set_of hg o v) ((Kept.refl (One b) w).setCell (p := ⟨b, o, none⟩) (.inr rfl) v)

theorem no_defer {ops : Array Oper} (h : (ops.toList.all fun o => match o.op with | .defer _ => false | _ => true) = true) : ∀ (i : Nat) (o : Oper), ops[i]? = some o → ∀ c, o.op ≠ .defer c := by
  intro i o ho c hc
  obtain ⟨hi, he⟩ := Array.getElem?_eq_some_iff.1 ho
  have := List.all_eq_true.1 h o (by rw [← he]; simp)
  rw [hc] at this
  cases this
theorem others_below {w w' : World} (h : Below w.heap.size w w') : KeepsOthers w w' := ⟨h.size, fun k _ hk _ => (h.block k (Array.getElem?_eq_some_iff.1 hk).1).trans hk⟩
theorem others_kept {b : Nat} {cs : Array Value} {T : TypeId} {fr : Nat × Nat} {w w' : World} (h : Kept (One b) w w') (hb : w.heap[b]? = some (.cells cs T fr)) : KeepsOthers w w' :=
  ⟨h.size, fun k o hk ho => (h.block k (Array.getElem?_eq_some_iff.1 hk).1 (by rintro rfl; rw [hb] at hk; cases hk; cases ho)).trans hk⟩
theorem others_own {w w' : World} {base : Nat} {t : TypeId} {size : Nat} {v : Value} {n : Nat} {xs : List Value} (ho : w.ownsRow base t size v n xs) (hg : w.grownBy w' v.ownBlock) : KeepsOthers w w' := by
  refine .of_grownBy hg fun j o hj hk => ?_
  rcases id ho.2 with ⟨rfl, _⟩ | ⟨g, cap, cur, rfl, _, hh, _⟩
  · cases hj
  · cases (hj : some g = some j)
    rw [hh] at hk
    cases hk
    rfl
end
end Licit
namespace Licit
open Go Go.RowKit
section
variable {P : Program} (w : World)
theorem append_where (base : Nat) (t ty e : TypeId) (i : TypeInfo) (z : Value) (size bytes : Nat) (ht : P.underlying t = some (.slice e)) (hi : P.info? e = some i) (hz : i.zero = some z)
    (hsize : i.size = size) (hby : i.bytes = bytes) (hzs : z.cells.size = size) (hsz : 0 < size)
    (v : Value) (n : Nat) (xs : List Value) (hown : w.ownsRow base e size v n xs)
    (a : Addr) (m c : Nat) (news : List Value) (hl : news.length = m * size) (hnews : ∀ j u, news[j]? = some u → w.cell? (a.add j) = some u) (h1 : ∀ u ∈ news, u.oneCell' = true)
    (h63 : n + m ≤ maxLen) (hbytes : (n + m) * bytes ≤ 140737488355328) (hbase : base ≤ w.heap.size) (_ : 0 < m) :
    ∃ v' w', (Builtin.append_ #[t, t] ty #[v, .slice (some a) m c]).run P w = .ok v' w' ∧ w'.ownsRow base e size v' (n + m) (xs ++ news) ∧ w.grownBy w' v.ownBlock ∧
      (∀ q, v'.ownBlock = some q → v.ownBlock = some q ∨ w.heap.size ≤ q) := by
  obtain ⟨v', w', hr, h2, h3, _⟩ := run_append_own (P := P) w base t ty e i z size bytes ht hi hz hsize hby hzs hsz v n xs hown a m c news hl hnews h1 h63 hbytes hbase
  refine ⟨v', w', hr, h2, h3, fun q hq => ?_⟩
  rcases hown.2 with ⟨rfl, rfl⟩ | ⟨g, cap, cur, rfl, hbg, hg, hnc, hcm, hcs, htake⟩
  · right
    have hx : xs = [] := List.eq_nil_of_length_eq_zero (by simpa using hown.1)
    subst hx
    obtain ⟨v2, w2, hr2, k2, _, _⟩ := run_append_own (P := P) w w.heap.size t ty e i z size bytes ht hi hz hsize hby hzs hsz (.slice none 0 0) 0 [] (World.ownsRow_nil _ _ _ _) a m c news hl hnews h1 h63 hbytes (Nat.le_refl _)
    rw [hr] at hr2
    cases hr2
    exact (k2.lt q hq).1
  · by_cases hroom : n + m ≤ cap
    · left
      subst hsize
      have hfit : n * i.size + news.length ≤ cur.size := by rw [hl, hcs, ← Nat.add_mul]; exact Nat.mul_le_mul_right _ hroom
      have hr2 := run_append_room (P := P) w t ty e i ht hi g n cap cur hg a m c news hl hnews h1 hroom hfit
      rw [hr] at hr2
      cases hr2
      exact hq
    · right
      subst hsize
      subst hby
      have holds : ∀ j u, xs[j]? = some u → w.cell? ((⟨g, 0, none⟩ : Addr).add j) = some u := hown.cells (g := g) rfl
      have hr2 := run_append_grow (P := P) w t ty e i z ht hi hz ⟨g, 0, none⟩ n cap xs hown.1 holds a m c news hl hnews (by omega) (by simp only [maxLen] at h63; omega) (growslice_fits (by omega) hbytes)
      rw [hr] at hr2
      cases hr2
      cases hq
      exact Nat.le_refl _
variable {w}
theorem wp_append_two {o : Oper} {a : Act} {K : Act → World → Prop} {Q : Exit → Act → World → Prop} (s x : Operand) (t : TypeId)
    (ho : o.op = .call { callee := .builtin .append, args := #[s, x], argTypes := #[t, t] })
    (base : Nat) (e : TypeId) (i : TypeInfo) (z : Value) (size bytes : Nat) (ht : P.underlying t = some (.slice e)) (hi : P.info? e = some i) (hz : i.zero = some z)
    (hsize : i.size = size) (hby : i.bytes = bytes) (hzs : z.cells.size = size) (hsz : 0 < size)
    (v : Value) (n : Nat) (xs : List Value) (hs : a.eval s = v) (hown : w.ownsRow base e size v n xs)
    (ad : Addr) (m c : Nat) (news : List Value) (hx : a.eval x = .slice (some ad) m c) (hl : news.length = m * size) (hnews : ∀ j u, news[j]? = some u → w.cell? (ad.add j) = some u) (h1 : ∀ u ∈ news, u.oneCell' = true)
    (h63 : n + m ≤ maxLen) (hbytes : (n + m) * bytes ≤ 140737488355328) (hbase : base ≤ w.heap.size) (hm : 0 < m)
    (h : ∀ v' w', w'.ownsRow base e size v' (n + m) (xs ++ news) → w.grownBy w' v.ownBlock → (∀ q, v'.ownBlock = some q → v.ownBlock = some q ∨ w.heap.size ≤ q) → K (a.put o.dst v') w') : o.wp P a w K Q := by
  obtain ⟨v', w', hr, h2, h3, h4⟩ := append_where (P := P) w base t o.type e i z size bytes ht hi hz hsize hby hzs hsz v n xs hown ad m c news hl hnews h1 h63 hbytes hbase hm
  unfold Oper.wp execOp
  simp only [ho, resolve, invoke, builtin, Sem.run_bind, Sem.run_pure, Result.andThen_ok, List.map_toArray, List.map_cons, List.map_nil, hs, hx, hr]
  exact h v' w' h2 h3 h4
theorem wpList_append_two {ops : Array Oper} {rest : List Oper} {o : Oper} {a : Act} {Q : Exit → Act → World → Prop} (hgd : o.guard = none) (s x : Operand) (t : TypeId)
    (ho : o.op = .call { callee := .builtin .append, args := #[s, x], argTypes := #[t, t] })
    (base : Nat) (e : TypeId) (i : TypeInfo) (z : Value) (size bytes : Nat) (ht : P.underlying t = some (.slice e)) (hi : P.info? e = some i) (hz : i.zero = some z)
    (hsize : i.size = size) (hby : i.bytes = bytes) (hzs : z.cells.size = size) (hsz : 0 < size)
    (v : Value) (n : Nat) (xs : List Value) (hs : a.eval s = v) (hown : w.ownsRow base e size v n xs)
    (ad : Addr) (m c : Nat) (news : List Value) (hx : a.eval x = .slice (some ad) m c) (hl : news.length = m * size) (hnews : ∀ j u, news[j]? = some u → w.cell? (ad.add j) = some u) (h1 : ∀ u ∈ news, u.oneCell' = true)
    (h63 : n + m ≤ maxLen) (hbytes : (n + m) * bytes ≤ 140737488355328) (hbase : base ≤ w.heap.size) (hm : 0 < m)
    (h : ∀ v' w', w'.ownsRow base e size v' (n + m) (xs ++ news) → w.grownBy w' v.ownBlock → (∀ q, v'.ownBlock = some q → v.ownBlock = some q ∨ w.heap.size ≤ q) → wpList P ops Q rest (a.put o.dst v') w') : wpList P ops Q (o :: rest) a w :=
  wpList_plain hgd fun _ hK => wp_append_two s x t ho base e i z size bytes ht hi hz hsize hby hzs hsz v n xs hs hown ad m c news hx hl hnews h1 h63 hbytes hbase hm fun v' w' h2 h3 h4 => hK _ _ (h v' w' h2 h3 h4)
theorem step_append_two {ops : Array Oper} {o : Oper} {a : Act} {K : Act → World → Prop} {Q : Exit → Act → World → Prop} {E : Prop} (hgd : o.guard = none) (s x : Operand) (t : TypeId)
    (ho : o.op = .call { callee := .builtin .append, args := #[s, x], argTypes := #[t, t] })
    (base : Nat) (e : TypeId) (i : TypeInfo) (z : Value) (size bytes : Nat) (ht : P.underlying t = some (.slice e)) (hi : P.info? e = some i) (hz : i.zero = some z)
    (hsize : i.size = size) (hby : i.bytes = bytes) (hzs : z.cells.size = size) (hsz : 0 < size)
    (v : Value) (n : Nat) (xs : List Value) (hs : a.eval s = v) (hown : w.ownsRow base e size v n xs)
    (ad : Addr) (m c : Nat) (news : List Value) (hx : a.eval x = .slice (some ad) m c) (hl : news.length = m * size) (hnews : ∀ j u, news[j]? = some u → w.cell? (ad.add j) = some u) (h1 : ∀ u ∈ news, u.oneCell' = true)
    (h63 : n + m ≤ maxLen) (hbytes : (n + m) * bytes ≤ 140737488355328) (hbase : base ≤ w.heap.size) (hm : 0 < m)
    (h : ∀ v' w', w'.ownsRow base e size v' (n + m) (xs ++ news) → w.grownBy w' v.ownBlock → (∀ q, v'.ownBlock = some q → v.ownBlock = some q ∨ w.heap.size ≤ q) → K (a.put o.dst v') w') : if Region.wanted o (yielded ops a.tmps) = true then Oper.wp P o a w K Q else E := by
  rw [if_pos (by simp [Region.wanted, hgd])]
  exact wp_append_two s x t ho base e i z size bytes ht hi hz hsize hby hzs hsz v n xs hs hown ad m c news hx hl hnews h1 h63 hbytes hbase hm h
theorem kept_set (b o : Nat) (w : World) (v : Value) : Kept (One b) w (w.setCell ⟨b, o, none⟩ v) := (Kept.refl (One b) w).setCell (p := ⟨b, o, none⟩) (.inr rfl) v
/-- Two own rows lie apart. -/
def Apart (u v : Value) : Prop := ∀ q, u.ownBlock = some q → v.ownBlock ≠ some q
theorem Apart.symm {u v : Value} (h : Apart u v) : Apart v u := fun q hv hu => h q hu hv
theorem Apart.nil {v : Value} : Apart (.slice none 0 0) v := fun q h => by cases h
end
end Licit
namespace Licit
open Go Go.RowKit
section
variable {P : Program}
theorem results_cell_tmp {fn : Func} {p t' : Tmp} {ty : TypeId} (h : fn.results = #[.cell p ty, .tmp t']) (tmps : Array Value) (w : World) (g : Nat) (t : TypeId) (cs : Array Value) (fr : Nat × Nat) (d : TypeDesc)
    (hp : tmps.getD p undef = .pointer (some ⟨g, 0, none⟩)) (hg : w.heap[g]? = some (.cells cs t fr))
    (hu : P.underlying ty = some d) (hd : (match d with | .struct _ | .array _ _ => true | _ => false) = true) (hi : (P.info? ty).map (·.size) = some cs.size) :
    (results fn tmps).run P w = .ok (.tuple #[.agg cs, tmps.getD t' undef]) w := by
  have hp' : tmps[p]?.getD undef = .pointer (some ⟨g, 0, none⟩) := by simpa using hp
  simp [results, h, hp', asAddr, run_loadVar_row w g t ty cs fr d hg hu hd hi]
theorem ret_whole2 {fn : Func} {p t' : Tmp} {ty : TypeId} (h : fn.results = #[.cell p ty, .tmp t']) {a : Act} {w : World} {R : Ending → World → Prop} (g : Nat) (t : TypeId) (cs : Array Value) (fr : Nat × Nat) (d : TypeDesc)
    (hp : a.tmps.getD p undef = .pointer (some ⟨g, 0, none⟩)) (hg : w.heap[g]? = some (.cells cs t fr))
    (hu : P.underlying ty = some d) (hd : (match d with | .struct _ | .array _ _ => true | _ => false) = true) (hi : (P.info? ty).map (·.size) = some cs.size)
    (hde : a.defers = []) (hR : R (.returned (.tuple #[.agg cs, a.tmps.getD t' undef])) w) : bodyPost P fn R .ret a w :=
  bodyPost_ret (results_cell_tmp h _ w g t cs fr d hp hg hu hd hi) hde hR
end
end Licit
namespace Licit
open Go Go.RowKit
section
variable {P : Program} {ops : Array Oper} {Q : Exit → Act → World → Prop} {md : Region.Mode} {S : World → Prop}
theorem take_at (i t : Nat) {oi : Oper} {v : Value} {fuel : Nat} {listed : Array Bool} {a : Act} {w : World} (hi : ops[i]? = some oi) (hd : oi.dst = some t)
    (hs : Region.noSelect ops = true) (hf : Region.free md ops listed i = true) (hr : (Region.ready md ops listed).contains i = true)
    (hQ : ∀ c a w, Q (.panic c) (a.put oi.dst v) w → Q (.panic c) a w) (hw : Region.wanted oi (yielded ops a.tmps) = true) (hy : ∀ w, S w → (execOp a.eval oi).run P w = .ok (.value v) w) (hS : S w)
    (h : wpAnyH P md ops Q S fuel (listed.setIfInBounds i true) (a.put (some t) v) w) : wpAnyH P md ops Q S (fuel + 1) listed a w :=
  wpAnyH_take hi hs hf hr hQ (.inl ⟨hw, hy⟩) hS (hd ▸ h)
theorem pass_at (i t : Nat) {oi : Oper} {fuel : Nat} {listed : Array Bool} {a : Act} {w : World} (hi : ops[i]? = some oi) (hd : oi.dst = some t)
    (hs : Region.noSelect ops = true) (hf : Region.free md ops listed i = true) (hr : (Region.ready md ops listed).contains i = true)
    (hQ : ∀ c a w, Q (.panic c) (a.put oi.dst undef) w → Q (.panic c) a w) (hw : Region.wanted oi (yielded ops a.tmps) = false) (hS : S w)
    (h : wpAnyH P md ops Q S fuel (listed.setIfInBounds i true) (a.put (some t) undef) w) : wpAnyH P md ops Q S (fuel + 1) listed a w :=
  wpAnyH_take hi hs hf hr hQ (.inr ⟨hw, rfl⟩) hS (hd ▸ h)
end
end Licit
namespace Licit
open Go Go.RowKit
section
variable {P : Program} {ops : Array Oper} {Q : Exit → Act → World → Prop} {md : Region.Mode} {n : Nat}

theorem oper_round (l : Nat) {o : Oper} {a : Act} {w : World} {K : Act → World → Prop} (hd : ∀ c, o.op ≠ .defer c) (h : o.wp P a w K Q) : o.wpIn (Fence.wide.inRound l) n P a w K Q := by
  refine ⟨fun _ _ => trivial, ?_⟩
  have e : o.semAt (Fence.wide.inRound l).round a.eval = execOp a.eval o := Oper.semAt_plain _ _ _ hd
  rw [e]
  unfold Oper.wp at h
  generalize hq : (execOp a.eval o).run P w = r at *
  cases r with
  | ok x w' =>
    cases x with
    | value v => exact h
    | skip => exact h
    | defer d => exact h
    | enter f args => exact ⟨fun hh => by simp [Fence.wide] at hh, CallsIn.inRound l (callsIn_wide.2 h)⟩
    | row row args => exact ⟨fun hh => by simp [Fence.wide] at hh, fun c cs _ => let ⟨v, w', r, s⟩ := h c cs; ⟨v, w', r, stepsIn_wide.2 s⟩⟩
    | _ => exact (h : False).elim
  | halt x w' => cases x <;> first | exact h | exact (h : False).elim

theorem wpAnyIn_round (l : Nat) (hd : ∀ (i : Nat) (o : Oper), ops[i]? = some o → ∀ c, o.op ≠ .defer c) (hQ : ¬ LetsOut Q) :
    ∀ (fuel : Nat) (listed : Array Bool) (a : Act) (w : World), wpAny P md ops Q fuel listed a w → wpAnyIn (Fence.wide.inRound l) n P md ops Q fuel listed a w
  | 0, _, _, _, h => h
  | fuel + 1, listed, a, w, h => ⟨h.1, fun i hi => by
      have h2 := h.2 i hi
      unfold wpOp at h2
      unfold wpOpIn
      split at h2
      · rename_i ho
        rw [ho]
        exact wpAnyIn_round l hd hQ fuel _ _ _ h2
      · rename_i o ho
        rw [ho]
        dsimp only
        split at h2
        · rename_i hw
          rw [if_pos hw]
          rcases h2 with h2 | h2
          · exact Oper.wpIn_mono (fun a w h3 => wpAnyIn_round l hd hQ fuel _ a w h3) (oper_round l (hd i o ho) h2)
          · exact absurd h2.2 hQ
        · rename_i hw
          rw [if_neg hw]
          exact ⟨fun _ _ => trivial, wpAnyIn_round l hd hQ fuel _ _ _ h2⟩⟩
end
end Licit
