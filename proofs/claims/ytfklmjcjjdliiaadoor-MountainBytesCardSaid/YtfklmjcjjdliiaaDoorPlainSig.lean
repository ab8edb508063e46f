/- The bytes of a well-formed signature are read back, and whatever is read has just those bytes; plain functions, no condition beyond those at each theorem. -/
import Derived.Test.YtfklmjcjjdliiaaDoorPlainAll
namespace Licit

def encSig (i : Int) (S H R : List Bs) : Bs := num i ++ (eList eText S).1 ++ (eList eText H).1 ++ (eList eText R).1

theorem sigOk_iff {i : Int} {S H R : List Bs} : sigOk i S H R = true ↔ 0 ≤ i ∧ i < 64 ∧ S.length = H.length ∧ S.length ≤ 256 ∧ R.length ≤ 6 ∧ all32 S = true ∧ all32 H = true ∧ all32 R = true := by
  unfold sigOk
  simp only [Bool.and_eq_true, decide_eq_true_eq]
  constructor
  · rintro ⟨⟨⟨⟨⟨⟨⟨a, b⟩, c⟩, d⟩, e⟩, f⟩, g⟩, h⟩; exact ⟨a, b, c, d, e, f, g, h⟩
  · rintro ⟨a, b, c, d, e, f, g, h⟩; exact ⟨⟨⟨⟨⟨⟨⟨a, b⟩, c⟩, d⟩, e⟩, f⟩, g⟩, h⟩
theorem all32_mem {l : List Bs} (h : all32 l = true) : ∀ x ∈ l, x.length = 32 := by
  unfold all32 at h
  rw [List.all_eq_true] at h
  intro x hx
  simpa using h x hx
/-- A list of texts of 32 bytes is written, and read back. -/
theorem all32_good {l : List Bs} (h : all32 l = true) (hl : l.length ≤ 1024) : Good (rdTexts 32) (eList eText l).1 l ∧ (eList eText l).2 = 0 := by
  have hx := all32_mem h
  have he : ∀ x ∈ l, (eText x).2 = 0 := fun x m => by unfold eText; rw [if_neg (by rw [hx x m]; omega)]
  have h2 : eList eText l = ((Go.Lib.decDigits l.length ++ [59]) ++ (l.map fun x => (eText x).1).flatten, 0) := by
    unfold eList
    rw [if_neg (by omega), eAll_err _ _ _ he]
  refine ⟨?_, by rw [h2]⟩
  have := list_good (one := rdText 32) (enc := eText) hl (fun x m => text_good (by rw [hx x m]; omega) (by rw [hx x m]; omega))
  rw [h2]
  have hn : (eNum (l.length : Int)).1 = Go.Lib.decDigits l.length ++ [59] := by
    unfold eNum
    rw [if_neg (by omega)]
    simp
  rw [hn] at this
  exact this
theorem num63_good {i : Int} (h0 : 0 ≤ i) (h1 : i < 64) : Good (rdNum 0 63) (eNum i).1 i := num_good h0 (by omega) h0 (by omega)

theorem sig_back {i : Int} {S H R : List Bs} (h : sigOk i S H R = true) : ∃ d1 d2 d3 : Bs,
    rdNum 0 63 (encSig i S H R, 0) = (i, (d1, 0)) ∧ rdTexts 32 (d1, 0) = (S, (d2, 0)) ∧ rdTexts 32 (d2, 0) = (H, (d3, 0)) ∧ rdTexts 32 (d3, 0) = (R, ([], 0)) := by
  obtain ⟨a, b, c, d, e, f, g, k⟩ := sigOk_iff.1 h
  refine ⟨(eList eText S).1 ++ ((eList eText H).1 ++ ((eList eText R).1 ++ [])), (eList eText H).1 ++ ((eList eText R).1 ++ []), (eList eText R).1 ++ [], ?_, (all32_good f (by omega)).1.back _, (all32_good g (by omega)).1.back _, (all32_good k (by omega)).1.back _⟩
  rw [← (num63_good a b).back ((eList eText S).1 ++ ((eList eText H).1 ++ ((eList eText R).1 ++ [])))]
  unfold encSig num
  simp only [List.append_assoc, List.append_nil]

theorem sig_canon {d : Bs} {i : Int} {S H R : List Bs} {s1 s2 s3 s4 : St} (h1 : rdNum 0 63 (d, 0) = (i, s1)) (h2 : rdTexts 32 s1 = (S, s2)) (h3 : rdTexts 32 s2 = (H, s3)) (h4 : rdTexts 32 s3 = (R, s4)) (h0 : rdClose s4 = 0) : d = encSig i S H R := by
  have e4 : s4.2 = 0 ∧ s4.1 = [] := by
    unfold rdClose at h0
    split at h0
    · cases h0
    · rename_i c
      refine ⟨h0, ?_⟩
      rcases Decidable.em (s4.1 = []) with x | x
      · exact x
      · exact absurd ⟨h0, x⟩ c
  have back : ∀ (s t : St) (l : List Bs), rdTexts 32 s = (l, t) → t.2 = 0 → s.2 = 0 := by
    intro s t l h ht
    rcases Decidable.em (s.2 = 0) with x | x
    · exact x
    · rw [show rdTexts 32 s = ([], s) from many_stop x] at h
      exact absurd (by rw [(Prod.mk.inj h).2]; exact ht) x
  have e3 := back _ _ _ h4 e4.1
  have e2 := back _ _ _ h3 e3
  have e1 := back _ _ _ h2 e2
  have f1 : s1 = (s1.1, 0) := Prod.ext rfl e1
  have f2 : s2 = (s2.1, 0) := Prod.ext rfl e2
  have f3 : s3 = (s3.1, 0) := Prod.ext rfl e3
  rw [f1] at h2
  rw [f2] at h3
  rw [f3] at h4
  have c1 := num_canon (low := 0) (high := 63) d (by rw [h1]; exact e1)
  have c2 := texts_canon (most := 32) s1.1 (by rw [h2]; exact e2)
  have c3 := texts_canon (most := 32) s2.1 (by rw [h3]; exact e3)
  have c4 := texts_canon (most := 32) s3.1 (by rw [h4]; exact e4.1)
  rw [h1] at c1
  rw [h2] at c2
  rw [h3] at c3
  rw [h4] at c4
  have g1 := c1.1
  rw [c2.1, c3.1, c4.1, e4.2] at g1
  rw [g1]
  unfold encSig num
  simp only [List.append_assoc, List.append_nil]
theorem texts_le (most : Int) (st : St) : (rdTexts most st).2.1.length ≤ st.1.length := rdMany_st _ (rdText_len most) st
theorem texts_cnt (most : Int) (st : St) : (rdTexts most st).1.length ≤ 1024 := rdMany_len _ st
end Licit
