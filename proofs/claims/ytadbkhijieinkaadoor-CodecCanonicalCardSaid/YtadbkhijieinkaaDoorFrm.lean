/- Small facts on memory: what stays as it was, blocks, cells, slices and byte strings; over any program, no condition. -/
import Derived.WalkKit
import Derived.WalkLawsBesides
import Derived.Lib.Hide
import Derived.Lib.Builder
import Derived.Laws.DeepStrings4
import Derived.Lib.Strings
namespace Licit
open Go Go.RowKit

abbrev Bs := List UInt8

/-- The byte string with some bytes. -/
def B (l : Bs) : ByteArray := ⟨l.toArray⟩
@[simp] theorem B_list (l : Bs) : (B l).data.toList = l := rfl
theorem B_eta (s : ByteArray) : B s.data.toList = s := rfl
theorem B_size (l : Bs) : (B l).size = l.length := rfl
theorem size_list (s : ByteArray) : s.data.toList.length = s.size := rfl
theorem B_inj {a b : Bs} (h : B a = B b) : a = b := by have := congrArg (fun s : ByteArray => s.data.toList) h; simpa using this
theorem B_append (a b : Bs) : B a ++ B b = B (a ++ b) := by
  show ByteArray.append _ _ = _
  apply ByteArray.ext
  simp [B, ByteArray.append]

/-- Of the blocks that were there only those in S may have turned; the streams are as they were. -/
structure Kept (S : Nat → Prop) (w w' : World) : Prop where
  os : w'.os = w.os
  tape : w'.tape = w.tape
  output : w'.output = w.output
  size : w.heap.size ≤ w'.heap.size
  block : ∀ k, k < w.heap.size → ¬ S k → w'.heap[k]? = w.heap[k]?

abbrev One (r : Nat) : Nat → Prop := fun k => k = r

section
variable {S S' : Nat → Prop} {w w' w'' : World}
theorem Kept.refl (S : Nat → Prop) (w : World) : Kept S w w := ⟨rfl, rfl, rfl, Nat.le_refl _, fun _ _ _ => rfl⟩
theorem Kept.trans (h : Kept S w w') (k : Kept S w' w'') : Kept S w w'' :=
  ⟨k.os.trans h.os, k.tape.trans h.tape, k.output.trans h.output, Nat.le_trans h.size k.size, fun i hi hs => (k.block i (Nat.lt_of_lt_of_le hi h.size) hs).trans (h.block i hi hs)⟩
theorem Kept.mono (h : Kept S w w') (hs : ∀ k, k < w.heap.size → S k → S' k) : Kept S' w w' :=
  ⟨h.os, h.tape, h.output, h.size, fun i hi hn => h.block i hi (fun c => hn (hs i hi c))⟩
theorem Kept.of_below (h : Below w.heap.size w w') : Kept S w w' := ⟨h.os, h.tape, h.output, h.size, fun i hi _ => h.block i hi⟩
theorem Kept.of_below' {B : Nat} (h : Below B w w') (hB : ∀ k, k < w.heap.size → B ≤ k → S k) : Kept S w w' :=
  ⟨h.os, h.tape, h.output, h.size, fun i hi hn => h.block i (by rcases Nat.lt_or_ge i B with c | c; exact c; exact (hn (hB i hi c)).elim)⟩
theorem Kept.below {B : Nat} (h : Kept S w w') (hB : B ≤ w.heap.size) (hS : ∀ k, k < B → ¬ S k) : Below B w w' :=
  ⟨h.os, h.tape, h.output, h.size, fun i hi => h.block i (Nat.lt_of_lt_of_le hi hB) (hS i hi)⟩
theorem Kept.drew (h : Kept S w w') : Kept S w w'.drew := ⟨h.os, h.tape, h.output, h.size, h.block⟩
theorem Kept.alloc (h : Kept S w w') (o : Obj) : Kept S w (w'.alloc o) :=
  h.trans (Kept.of_below ((Below.refl _ _).alloc (Nat.le_refl _) o))
theorem Kept.setCell (h : Kept S w w') {p : Addr} (hp : w.heap.size ≤ p.block ∨ S p.block) (u : Value) : Kept S w (w'.setCell p u) :=
  ⟨h.os, h.tape, h.output, by simpa [World.setCell] using h.size, fun k hk hs => by
    rw [Below.heap_setCell _ _ _ _ (fun e => by subst e; rcases hp with c | c; omega; exact hs c)]; exact h.block k hk hs⟩
theorem Kept.grown {row : Option Nat} (h : Kept S w w') (hg : w'.grownBy w'' row) (hr : ∀ k, row = some k → w.heap.size ≤ k ∨ S k) : Kept S w w'' :=
  ⟨hg.os.trans h.os, hg.tape.trans h.tape, hg.output.trans h.output, Nat.le_trans h.size hg.size, fun k hk hs => by
    rw [hg.block k (Nat.lt_of_lt_of_le hk h.size) (fun e => by rcases hr k e.symm with c | c; omega; exact hs c)]; exact h.block k hk hs⟩
theorem Kept.cell (h : Kept S w w') {b o : Nat} (hb : b < w.heap.size) (hs : ¬ S b) : w'.cell? ⟨b, o, none⟩ = w.cell? ⟨b, o, none⟩ :=
  World.cell?_of_block (w := w) (h.block b hb hs)
theorem Kept.frozen (h : Kept S w w') {b o : Nat} (hb : b < w.heap.size) (hs : ¬ S b) : w'.frozen? ⟨b, o, none⟩ = w.frozen? ⟨b, o, none⟩ :=
  World.frozen?_of_block (w := w) (h.block b hb hs)
end

section
variable {w : World} {r : Nat} {cs : Array Value} {T : TypeId} {fr : Nat × Nat}
theorem cell_of (h : w.heap[r]? = some (.cells cs T fr)) (i : Nat) : w.cell? ⟨r, i, none⟩ = cs[i]? := Lib.cell_of_heap h i
theorem free_of (h : w.heap[r]? = some (.cells cs T (0, 0))) (i : Nat) : w.frozen? ⟨r, i, none⟩ = false := by simp [World.frozen?, h]
theorem lt_of (h : w.heap[r]? = some (.cells cs T fr)) : r < w.heap.size := by
  rcases Nat.lt_or_ge r w.heap.size with c | c
  · exact c
  · simp [Array.getElem?_eq_none c] at h
theorem set_of (h : w.heap[r]? = some (.cells cs T fr)) (i : Nat) (v : Value) : (w.setCell ⟨r, i, none⟩ v).heap[r]? = some (.cells (cs.setIfInBounds i v) T fr) := by
  simp [World.setCell, Array.getElem?_modify, h]
theorem new_of (w : World) (o : Obj) : (w.alloc o).heap[w.heap.size]? = some o := by show (w.heap.push o)[w.heap.size]? = _; simp
end

/-- The cells of one new block, to be appended. -/
theorem news_one {w : World} {o : Nat} {x : Value} {t : TypeId} {fr : Nat × Nat} (hb : w.heap[o]? = some (.cells #[x] t fr)) : ∀ j u, [x][j]? = some u → w.cell? ((⟨o, 0, none⟩ : Addr).add j) = some u := fun j u hu => by
  have hadd : (⟨o, 0, none⟩ : Addr).add j = ⟨o, j, none⟩ := by unfold Addr.add; split <;> simp_all
  rw [hadd, cell_of hb]
  simpa using hu

theorem ownsRow_kept {S : Nat → Prop} {w w' : World} {base : Nat} {e : TypeId} {size : Nat} {v : Value} {n : Nat} {xs : List Value} (h : w.ownsRow base e size v n xs) (hk : Kept S w w') (hS : ∀ k, base ≤ k → ¬ S k) : w'.ownsRow base e size v n xs := by
  obtain ⟨h1, h2⟩ := h
  refine ⟨h1, ?_⟩
  rcases h2 with h2 | ⟨g, cap, cur, hv, hg, hh, r⟩
  · exact .inl h2
  · exact .inr ⟨g, cap, cur, hv, hg, by rw [hk.block g (lt_of hh) (hS g hg)]; exact hh, r⟩

theorem ownsRow_base {w : World} {base base' : Nat} {e : TypeId} {size : Nat} {v : Value} {n : Nat} {xs : List Value} (h : w.ownsRow base e size v n xs) (hb : base' ≤ base) : w.ownsRow base' e size v n xs := by
  obtain ⟨h1, h2⟩ := h
  refine ⟨h1, ?_⟩
  rcases h2 with h2 | ⟨g, cap, cur, hv, hg, hh, r⟩
  · exact .inl h2
  · exact .inr ⟨g, cap, cur, hv, Nat.le_trans hb hg, hh, r⟩

section
variable (w : World) (a b c : Value) {T U V : TypeId}
theorem cell1a : (w.alloc (.cells #[a] T)).cell? ⟨w.heap.size, 0, none⟩ = some a := by rw [cell_of (new_of _ _)]; rfl
theorem cell2b : ((w.alloc (.cells #[a] T)).alloc (.cells #[b] U)).cell? ⟨w.heap.size + 1, 0, none⟩ = some b := by
  have := cell1a (w.alloc (.cells #[a] T)) b (T := U)
  rwa [World.size_alloc] at this
theorem cell2a : ((w.alloc (.cells #[a] T)).alloc (.cells #[b] U)).cell? ⟨w.heap.size, 0, none⟩ = some a := by
  rw [World.cell?_alloc_lt _ _ _ (by simp)]; exact cell1a w a
theorem cell3c : (((w.alloc (.cells #[a] T)).alloc (.cells #[b] U)).alloc (.cells #[c] V)).cell? ⟨w.heap.size + 2, 0, none⟩ = some c := by
  have := cell2b (w.alloc (.cells #[a] T)) b c (T := U) (U := V)
  rwa [World.size_alloc] at this
theorem cell3b : (((w.alloc (.cells #[a] T)).alloc (.cells #[b] U)).alloc (.cells #[c] V)).cell? ⟨w.heap.size + 1, 0, none⟩ = some b := by
  rw [World.cell?_alloc_lt _ _ _ (by simp)]; exact cell2b w a b
theorem cell3a : (((w.alloc (.cells #[a] T)).alloc (.cells #[b] U)).alloc (.cells #[c] V)).cell? ⟨w.heap.size, 0, none⟩ = some a := by
  rw [World.cell?_alloc_lt _ _ _ (by simp; omega)]; exact cell2a w a b
end

/-- v is a slice that reads as the values xs, one cell each. -/
def IsSl (v : Value) (xs : List Value) (w : World) : Prop :=
  xs.length ≤ maxLen ∧ ((∃ a cap, v = .slice a 0 cap ∧ xs = []) ∨
    ∃ b off cap, v = .slice (some ⟨b, off, none⟩) xs.length cap ∧ 0 < xs.length ∧ ∀ i, i < xs.length → w.cell? ⟨b, off + i, none⟩ = xs[i]?)

theorem IsSl.below {v : Value} {xs : List Value} {w w' : World} (h : IsSl v xs w) (hb : Below w.heap.size w w') : IsSl v xs w' := by
  refine ⟨h.1, ?_⟩
  rcases h.2 with h | ⟨b, off, cap, rfl, h0, hc⟩
  · exact .inl h
  · refine .inr ⟨b, off, cap, rfl, h0, fun i hi => ?_⟩
    have hx := hc i hi
    have hlt : b < w.heap.size := World.block_lt_of_cell? w _ (hx.trans (List.getElem?_eq_getElem hi))
    rw [hb.cell (p := ⟨b, off + i, none⟩) hlt]; exact hx

/-- The slice that was handed out of an owned row. -/
theorem IsSl.of_owns {w : World} {base : Nat} {e : TypeId} {v : Value} {xs : List Value} (h : w.ownsRow base e 1 v xs.length xs) (hm : xs.length ≤ maxLen) : IsSl v xs w := by
  refine ⟨hm, ?_⟩
  rcases h.2 with ⟨rfl, h0⟩ | ⟨g, cap, cur, rfl, hg, hh, h1, h2, h3, h4⟩
  · exact .inl ⟨none, 0, by rw [], List.eq_nil_of_length_eq_zero h0⟩
  · by_cases h0 : xs.length = 0
    · exact .inl ⟨_, cap, by rw [h0], List.eq_nil_of_length_eq_zero h0⟩
    · refine .inr ⟨g, 0, cap, rfl, by omega, fun i hi => ?_⟩
      have h5 : xs[i]? = (List.take (xs.length * 1) cur.toList)[i]? := by rw [h4]
      rw [cell_of hh, Nat.zero_add, h5, List.getElem?_take_of_lt (by omega), Array.getElem?_toList]

theorem IsSl.form {v : Value} {xs : List Value} {w : World} (h : IsSl v xs w) : ∃ a cap, v = .slice a xs.length cap := by
  rcases h.2 with ⟨a, cap, rfl, rfl⟩ | ⟨b, off, cap, rfl, _⟩
  · exact ⟨a, cap, rfl⟩
  · exact ⟨_, cap, rfl⟩
theorem IsSl.formMap {α : Type} {V : α → Value} {v : Value} {xs : List α} {w : World} (h : IsSl v (xs.map V) w) : ∃ a cap, v = .slice a xs.length cap := by
  obtain ⟨a, cap, h⟩ := h.form
  exact ⟨a, cap, by rw [h, List.length_map]⟩

/-- v is a slice of n elements of some cells each; xs are all the cells. -/
def IsSlW (size : Nat) (v : Value) (n : Nat) (xs : List Value) (w : World) : Prop :=
  n ≤ maxLen ∧ xs.length = n * size ∧ ((∃ a cap, v = .slice a 0 cap ∧ n = 0) ∨
    ∃ b off cap, v = .slice (some ⟨b, off, none⟩) n cap ∧ 0 < n ∧ ∀ j, j < n * size → w.cell? ⟨b, off + j, none⟩ = xs[j]?)

theorem IsSlW.form {size : Nat} {v : Value} {n : Nat} {xs : List Value} {w : World} (h : IsSlW size v n xs w) : ∃ a cap, v = .slice a n cap := by
  rcases h.2.2 with ⟨a, cap, rfl, rfl⟩ | ⟨b, off, cap, rfl, _⟩
  · exact ⟨a, cap, rfl⟩
  · exact ⟨_, cap, rfl⟩

/-- The cells of element k. -/
theorem IsSlW.at {size : Nat} {a : Option Addr} {cap : Nat} {n : Nat} {xs : List Value} {w : World} (h : IsSlW size (.slice a n cap) n xs w) (hs : 0 < size) {k : Nat} (hk : k < n) :
    ∃ b off, a = some ⟨b, off, none⟩ ∧ b < w.heap.size ∧ ∀ j, j < size → w.cell? ⟨b, off + (k * size + j), none⟩ = xs[k * size + j]? := by
  rcases h.2.2 with ⟨a', cap', e, h0⟩ | ⟨b, off, cap', e, h0, hc⟩
  · omega
  · simp only [Value.slice.injEq] at e
    have hlt : ∀ j, j < size → k * size + j < n * size := fun j hj => by
      have : (k + 1) * size ≤ n * size := Nat.mul_le_mul_right _ hk
      rw [Nat.add_mul] at this
      omega
    have h1 := hc (k * size + 0) (hlt 0 hs)
    rw [List.getElem?_eq_getElem (by rw [h.2.1]; exact hlt 0 hs)] at h1
    exact ⟨b, off, e.1, World.block_lt_of_cell? w _ h1, fun j hj => hc _ (hlt j hj)⟩

theorem IsSl.at {a : Option Addr} {cap : Nat} {xs : List Value} {w : World} (h : IsSl (.slice a xs.length cap) xs w) {k : Nat} (hk : k < xs.length) :
    ∃ b off, a = some ⟨b, off, none⟩ ∧ b < w.heap.size ∧ w.cell? ⟨b, off + k, none⟩ = some xs[k] := by
  rcases h.2 with ⟨a', cap', e, h0⟩ | ⟨b, off, cap', e, h0, hc⟩
  · subst h0; exact (Nat.not_lt_zero _ hk).elim
  · simp only [Value.slice.injEq] at e
    have hx := hc k hk
    rw [List.getElem?_eq_getElem hk] at hx
    exact ⟨b, off, e.1, World.block_lt_of_cell? w _ hx, hx⟩

end Licit
