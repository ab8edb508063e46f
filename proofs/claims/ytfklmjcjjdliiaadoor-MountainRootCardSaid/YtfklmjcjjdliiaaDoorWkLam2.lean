/- own of package lamport, and leaf of its reference, are the plain leaf of a one-time key. -/
import Derived.Test.YtfklmjcjjdliiaaDoorWkLam1
namespace Go.Proofs.YtfklmjcjjdliiaaDoor
open Go Go.RowKit Licit

theorem news_two {w : World} {o : Nat} {x y : Value} {t : TypeId} {fr : Nat × Nat} (hb : w.heap[o]? = some (.cells #[x, y] t fr)) : ∀ j u, [x, y][j]? = some u → w.cell? ((⟨o, 0, none⟩ : Addr).add j) = some u := fun j u hu => by
  have hadd : (⟨o, 0, none⟩ : Addr).add j = ⟨o, j, none⟩ := by unfold Addr.add; split <;> simp_all
  rw [hadd, cell_of hb]
  simpa using hu
theorem map_snoc {α β : Type} (f : α → β) (l : List α) (x : α) : (l ++ [x]).map f = l.map f ++ [f x] := by simp

/-- H of a list that was just built. -/
theorem H_built {l : List Bs} {cs : Array Value} (n : Nat) (hn : l.length = n) (h0 : 0 < n) (hc : l.map vS = cs.toList) (hm : n ≤ 1000) (hl : ∀ x ∈ l, x.length ≤ maxLen) (W : World) :
    Gives 42 #[.slice (some ⟨W.heap.size, 0, none⟩) n n] (W.alloc (.cells cs 9)) (.string (B (hsh l))) := by
  subst hn
  refine H_any _ l _ ?_ hl
  have := sl_block (cap := l.length) (new_of W (.cells cs 9)) hc (by rw [List.length_map]; unfold maxLen; omega) (by rw [List.length_map]; exact h0)
  rw [List.length_map] at this
  exact this
/-- mix of a list that was just built. -/
theorem mix_built {l : List Bs} {cs : Array Value} (n : Nat) (hn : l.length = n) (h0 : 0 < n) (hc : l.map vS = cs.toList) (hm : n ≤ 1000) (hl : ∀ x ∈ l, x.length ≤ maxLen) (W : World) (ht : Tab W) :
    Gives 58 #[.slice (some ⟨W.heap.size, 0, none⟩) n n] (W.alloc (.cells cs 9)) (.string (B (hsh l))) := by
  subst hn
  refine mix_any _ l _ ?_ hl (ht.same ((Below.refl _ _).alloc (Nat.le_refl _) _))
  have := sl_block (cap := l.length) (new_of W (.cells cs 9)) hc (by rw [List.length_map]; unfold maxLen; omega) (by rw [List.length_map]; exact h0)
  rw [List.length_map] at this
  exact this
theorem Gives.alloc {f : FuncId} {args : Array Value} {W : World} {o : Obj} {v : Value} (h : Gives f args (W.alloc o) v) : Calls Tryd.prog f args (W.alloc o) fun e w' => e = .returned v ∧ Below W.heap.size W w' :=
  h.mono fun _ _ ⟨h1, h2⟩ => ⟨h1, ((Below.refl _ _).alloc (Nat.le_refl _) _).trans (h2.mono (by simp))⟩

theorem RPub_built (s : Bs) (hs : s.length ≤ maxLen) (W : World) : Calls Tryd.prog 42 #[.slice (some ⟨W.heap.size, 0, none⟩) 2 2] (W.alloc (.cells #[.string ⟨#[112, 117, 98, 108, 105, 99]⟩, .string (B s)] 9)) fun e w' => e = .returned (.string (B (pubB s))) ∧ Below W.heap.size W w' :=
  Gives.alloc (H_built (l := [kPublic, s]) 2 rfl (by decide) rfl (by decide) (by intro x hx; simp at hx; rcases hx with rfl | rfl; decide; exact hs) W)

theorem partsN_two (seed : Bs) (i : Int) (k : Nat) : partsN seed i (2 * (k + 1)) = partsN seed i (2 * k) ++ [pubB (secretB seed i (k : Int) 0), pubB (secretB seed i (k : Int) 1)] := by
  have h0 := partAt_at seed i k 0 (by decide)
  have h1 := partAt_at seed i k 1 (by decide)
  rw [show 2 * (k + 1) = 2 * k + 1 + 1 by omega, partsN_succ, partsN_succ, h1, show 2 * k = 2 * k + 0 from rfl, h0, List.append_assoc]
  rfl

end Go.Proofs.YtfklmjcjjdliiaaDoor
