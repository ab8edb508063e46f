/- Own rows of texts: a cell, a beginning, a draw; a slice that was read, cut at both ends; over any program. -/
import Derived.Test.YtfklmjcjjdliiaaDoorRd
namespace Licit
open Go Go.RowKit

theorem ownCell {w : World} {base : Nat} {t : TypeId} {g n cap : Nat} {xs : List Value} (h : w.ownsRow base t 1 (.slice (some ⟨g, 0, none⟩) n cap) n xs) {i : Nat} (hi : i < xs.length) : w.cell? ⟨g, i, none⟩ = xs[i]? := by
  rcases h.2 with ⟨h0, _⟩ | ⟨g', cap', cur, h1, h2, h3, h4, h5, h6, h7⟩
  · cases h0
  · simp only [Value.slice.injEq, Option.some.injEq, Addr.mk.injEq] at h1
    obtain ⟨⟨rfl, _⟩, _, rfl⟩ := h1
    rw [cell_of h3]
    have hl := h.1
    have e : (cur.toList.take (n * 1))[i]? = xs[i]? := by rw [h7]
    rw [← e, List.getElem?_take_of_lt (by omega), Array.getElem?_toList]
theorem ownTake {w : World} {base : Nat} {t : TypeId} {g n cap : Nat} {xs : List Value} (h : w.ownsRow base t 1 (.slice (some ⟨g, 0, none⟩) n cap) n xs) {k : Nat} (hk : k ≤ n) : w.ownsRow base t 1 (.slice (some ⟨g, 0, none⟩) k cap) k (xs.take k) := by
  have hl := h.1
  refine ⟨by rw [List.length_take]; omega, ?_⟩
  rcases h.2 with ⟨h0, _⟩ | ⟨g', cap', cur, h1, h2, h3, h4, h5, h6, h7⟩
  · cases h0
  · simp only [Value.slice.injEq, Option.some.injEq, Addr.mk.injEq] at h1
    obtain ⟨⟨rfl, _⟩, _, rfl⟩ := h1
    exact .inr ⟨g, cap, cur, rfl, h2, h3, by omega, h5, h6, by rw [← h7, List.take_take]; congr 1; omega⟩
theorem ownDrew {w : World} {base : Nat} {t : TypeId} {size : Nat} {v : Value} {n : Nat} {xs : List Value} (h : w.ownsRow base t size v n xs) : w.drew.ownsRow base t size v n xs := h
theorem newsDrew {w : World} {l : List Value} {ad : Addr} (h : ∀ j u, l[j]? = some u → w.cell? (ad.add j) = some u) : ∀ j u, l[j]? = some u → w.drew.cell? (ad.add j) = some u := h
theorem news_of {v : Value} {b off n cap : Nat} {xs : List Value} {w : World} (h : IsSl v xs w) (hv : v = .slice (some ⟨b, off, none⟩) n cap) (hn : xs.length = n) : ∀ j u, xs[j]? = some u → w.cell? ((⟨b, off, none⟩ : Addr).add j) = some u := by
  intro j u hu
  have hj : j < xs.length := by
    rcases Nat.lt_or_ge j xs.length with c | c
    · exact c
    · rw [List.getElem?_eq_none c] at hu; cases hu
  rw [Addr.add_lit]
  rcases h.2 with ⟨a, c, e, hx⟩ | ⟨b', off', c, e, h1, hc⟩
  · subst hx; simp at hj
  · rw [hv] at e
    simp only [Value.slice.injEq, Option.some.injEq, Addr.mk.injEq, and_true] at e
    obtain ⟨⟨rfl, rfl⟩, _⟩ := e
    rw [hc j hj]; exact hu
theorem map_vS_getD (xs : List Bs) {i : Nat} (hi : i < xs.length) : (xs.map vS)[i]? = some (.string (B (xs.getD i []))) := by
  rw [List.getElem?_map, List.getElem?_eq_getElem hi, List.getD_eq_getElem?_getD, List.getElem?_eq_getElem hi]
  rfl
theorem getLastD_at (xs : List Bs) (_ : 0 < xs.length) : xs.getLastD [] = xs.getD (xs.length - 1) [] := by
  rw [List.getLastD_eq_getLast?, List.getLast?_eq_getElem?, List.getD_eq_getElem?_getD]
end Licit
