/- A range over a function: the marks that it leaves, and own rows that are kept; over any program. -/
import Derived.Test.YtfklmjcjjdliiaaDoorFrmMore
import Derived.RangeFuncBox
import Derived.RangeFuncLeaves
import Derived.RangeFuncNested
import Derived.Shelf.Abstract
import Derived.WalkKit
import Derived.OwnWalkIn
import Derived.TacticsInMore
import Derived.LoopNIn
import Derived.LoopIn
namespace Licit
open Go Go.RowKit

/-- A deferred mark of a range over a function, and a list of them. -/
def mark (D : Nat) : Deferred := { target := .collected D, args := #[] }
/-- All blocks but some are as they were. -/
def ButAt (Ds : List Nat) (w w' : World) : Prop := w'.os = w.os ∧ w'.tape = w.tape ∧ w'.output = w.output ∧ w.heap.size ≤ w'.heap.size ∧ ∀ k, k < w.heap.size → k ∉ Ds → w'.heap[k]? = w.heap[k]?
def Marks (Ds : List Nat) (w : World) : Prop := Ds.Nodup ∧ ∀ D ∈ Ds, w.heap[D]? = some (.deferred (some []))

theorem leaves_marks {P : Program} {F : Fence} {n : Nat} {fn : Func} {tmps : Array Value} {R : Ending → World → Prop} : ∀ (Ds : List Nat) (w : World), Marks Ds w →
    (∀ w', ButAt Ds w w' → LeavesIn F n P fn tmps R [] .returning w') → LeavesInM F n P fn tmps R (Ds.map mark) .returning w
  | [], w, _, h => h w ⟨rfl, rfl, rfl, Nat.le_refl _, fun _ _ _ => rfl⟩
  | D :: Ds, w, ⟨hn, hm⟩, h => by
    have hD := hm D (List.mem_cons_self)
    rw [List.nodup_cons] at hn
    refine ⟨by simp, .inl ⟨_, _, rfl, run_takeDeferred hD, ?_⟩⟩
    refine leaves_marks Ds _ ⟨hn.2, fun E hE => ?_⟩ fun w' hw' => h w' ?_
    · rw [World.putObj_heap_other (fun e => by subst e; exact hn.1 hE)]
      exact hm E (List.mem_cons_of_mem _ hE)
    · obtain ⟨h1, h2, h3, h4, h5⟩ := hw'
      refine ⟨h1, h2, h3, by simpa using h4, fun k hk hne => ?_⟩
      rw [List.mem_cons, not_or] at hne
      rw [h5 k (by simpa using hk) hne.2, World.putObj_heap_other hne.1]

theorem at_lt {w : World} {q : Nat} {o : Obj} (h : w.heap[q]? = some o) : q < w.heap.size := (Array.getElem?_eq_some_iff.1 h).1
theorem own_at {w w' : World} {base : Nat} {t : TypeId} {size : Nat} {v : Value} {n : Nat} {xs : List Value} (h : w.ownsRow base t size v n xs) (hb : ∀ q, v.ownBlock = some q → w'.heap[q]? = w.heap[q]?) : w'.ownsRow base t size v n xs := by
  refine ⟨h.1, ?_⟩
  rcases h.2 with ⟨rfl, h0⟩ | ⟨g, cap, cur, rfl, h1, h2, h3⟩
  · exact .inl ⟨rfl, h0⟩
  · exact .inr ⟨g, cap, cur, rfl, h1, (hb g rfl).trans h2, h3⟩
theorem own_block {w : World} {base : Nat} {t : TypeId} {size : Nat} {v : Value} {n : Nat} {xs : List Value} (h : w.ownsRow base t size v n xs) {q : Nat} (hq : v.ownBlock = some q) : base ≤ q ∧ ∃ cs, w.heap[q]? = some (.cells cs t (0, 0)) := by
  rcases h.2 with ⟨rfl, h0⟩ | ⟨g, cap, cur, rfl, h1, h2, h3⟩
  · cases hq
  · cases (hq : some g = some q)
    exact ⟨h1, _, h2⟩
theorem own_lt {w : World} {base : Nat} {t : TypeId} {size : Nat} {v : Value} {n : Nat} {xs : List Value} (h : w.ownsRow base t size v n xs) {q : Nat} (hq : v.ownBlock = some q) : q < w.heap.size := by
  obtain ⟨_, cs, hc⟩ := own_block h hq
  exact lt_of hc
theorem own_cells {w : World} {base : Nat} {t : TypeId} {v : Value} {n : Nat} {xs : List Value} (h : w.ownsRow base t 1 v n xs) : v.cells = #[v] := by
  rcases id h.2 with ⟨rfl, _⟩ | ⟨g, cap, cur, rfl, _⟩ <;> rfl
theorem own_oneCell {w : World} {base : Nat} {t : TypeId} {v : Value} {n : Nat} {xs : List Value} (h : w.ownsRow base t 1 v n xs) : v.oneCell' = true := by
  rcases id h.2 with ⟨rfl, _⟩ | ⟨g, cap, cur, rfl, _⟩ <;> rfl

end Licit
