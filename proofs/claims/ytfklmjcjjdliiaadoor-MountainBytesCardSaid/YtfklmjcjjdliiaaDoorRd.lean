/- A reader in memory: a block of two cells, the rest and the error (the program's and the reference's have one layout, two types). -/
import Derived.Test.YtfklmjcjjdliiaaDoorPlainAll
namespace Licit
open Go Go.RowKit

/-- Block r is a reader of type T: the rest s, the error E. -/
def Rd (T : TypeId) (r : Nat) (s : ByteArray) (E : Int) (w : World) : Prop := w.heap[r]? = some (.cells #[.string s, .int .i64 E] T (0, 0))

section
variable {T : TypeId} {r : Nat} {s : ByteArray} {E : Int} {w w' : World}
theorem Rd.lt (h : Rd T r s E w) : r < w.heap.size := lt_of h
theorem Rd.c0 (h : Rd T r s E w) : w.cell? ⟨r, 0, none⟩ = some (.string s) := by rw [cell_of h]; rfl
theorem Rd.c1 (h : Rd T r s E w) : w.cell? ⟨r, 1, none⟩ = some (.int .i64 E) := by rw [cell_of h]; rfl
theorem Rd.f (h : Rd T r s E w) (i : Nat) : w.frozen? ⟨r, i, none⟩ = false := free_of h i
theorem Rd.put0 (h : Rd T r s E w) (s' : ByteArray) : Rd T r s' E (w.setCell ⟨r, 0, none⟩ (.string s')) := set_of h 0 _
theorem Rd.put1 (h : Rd T r s E w) (E' : Int) : Rd T r s E' (w.setCell ⟨r, 1, none⟩ (.int .i64 E')) := set_of h 1 _
theorem Rd.below (h : Rd T r s E w) (hb : Below w.heap.size w w') : Rd T r s E w' := (hb.block r (lt_of h)).trans h
theorem Rd.kept (h : Rd T r s E w) {S : Nat → Prop} (hb : Kept S w w') (hs : ¬ S r) : Rd T r s E w' := (hb.block r (lt_of h) hs).trans h
theorem Rd.alloc (h : Rd T r s E w) (o : Obj) : Rd T r s E (w.alloc o) := (Below.heap_alloc w o r (lt_of h)).trans h
theorem Rd.drew (h : Rd T r s E w) : Rd T r s E w.drew := h
theorem Rd.grown {o : Obj} {row : Option Nat} (h : Rd T r s E w) (hg : (w.alloc o).grownBy w' row) (hne : row ≠ some r) : Rd T r s E w' :=
  (hg.block r (by have := lt_of h; simp; omega) (fun e => hne e.symm)).trans ((Below.heap_alloc w o r (lt_of h)).trans h)
end

/-- What becomes of a reader that hands back a value. -/
def RdTo (T : TypeId) (r : Nat) (w : World) (v : Value) (st : St) (e : Ending) (w' : World) : Prop := e = .returned v ∧ Rd T r (B st.1) st.2 w' ∧ Kept (One r) w w'

/-- What becomes of a reader that hands back a list: a new slice. -/
def RdToL (T : TypeId) (base : Nat) (e : TypeId) (r : Nat) (w : World) (xs : List Value) (st : St) (en : Ending) (w' : World) : Prop :=
  ∃ v, en = .returned v ∧ w'.ownsRow base e 1 v xs.length xs ∧ Rd T r (B st.1) st.2 w' ∧ Kept (One r) w w'

def vI (n : Int) : Value := .int .i64 n
def vS (l : Bs) : Value := .string (B l)

theorem extract_B (s : ByteArray) (a b : Nat) : s.extract a b = B ((s.data.toList.drop a).take (b - a)) := by
  rw [← Lib.extract_data]; exact (B_eta _).symm
theorem extract_end (s : ByteArray) (a : Nat) : s.extract a s.size = B (s.data.toList.drop a) := by
  rw [extract_B, List.take_of_length_le (by rw [List.length_drop, size_list]; omega)]

end Licit
