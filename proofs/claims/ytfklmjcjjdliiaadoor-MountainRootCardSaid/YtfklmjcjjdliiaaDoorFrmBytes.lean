/- A slice of bytes made out of a string, and appended to: a row whose mark lies behind its cells; over any program. -/
import Derived.Test.YtfklmjcjjdliiaaDoorShaProg
import Derived.ArgAppend
import Derived.Lib.ConvBytes
namespace Licit
open Go Go.RowKit

/-- v is a slice of cells xs at the head of a block from base on; nothing up to its capacity is frozen. -/
def OwnM (w : World) (base : Nat) (e : TypeId) (v : Value) (xs : List Value) : Prop :=
  ∃ g cap cur fz, v = .slice (some ⟨g, 0, none⟩) xs.length cap ∧ base ≤ g ∧ w.heap[g]? = some (.cells cur e fz) ∧ (fz = (0, 0) ∨ cap ≤ fz.1) ∧ xs.length ≤ cap ∧ cap ≤ maxLen ∧ cap ≤ cur.size ∧ cur.toList.take xs.length = xs

theorem OwnM.form {w : World} {base : Nat} {e : TypeId} {v : Value} {xs : List Value} (h : OwnM w base e v xs) : ∃ g cap, v = .slice (some ⟨g, 0, none⟩) xs.length cap ∧ base ≤ g ∧ g < w.heap.size ∧ (∀ i u, xs[i]? = some u → w.cell? ⟨g, i, none⟩ = some u) ∧ (∀ i, i < xs.length → w.frozen? ⟨g, i, none⟩ = false) := by
  obtain ⟨g, cap, cur, fz, rfl, h1, h2, h3, h4, h5, h6, h7⟩ := h
  refine ⟨g, cap, rfl, h1, lt_of h2, fun i u hu => ?_, fun i hi => ?_⟩
  · have hi : i < xs.length := by
      rcases Nat.lt_or_ge i xs.length with c | c
      · exact c
      · rw [List.getElem?_eq_none c] at hu; cases hu
    rw [cell_of h2, ← hu]
    have h8 : xs[i]? = (cur.toList.take xs.length)[i]? := by rw [h7]
    rw [h8, List.getElem?_take_of_lt hi, Array.getElem?_toList]
  · simp only [World.frozen?, h2]
    rcases h3 with rfl | h3
    · simp
    · have : ¬ fz.1 ≤ i := by omega
      simp [this]
theorem OwnM.of_owns {w : World} {base : Nat} {e : TypeId} {v : Value} {xs : List Value} (h : w.ownsRow base e 1 v xs.length xs) (h0 : 0 < xs.length) : OwnM w base e v xs := by
  rcases h.2 with ⟨_, h1⟩ | ⟨g, cap, cur, rfl, h1, h2, h3, h4, h5, h6⟩
  · omega
  · exact ⟨g, cap, cur, (0, 0), rfl, h1, h2, .inl rfl, h3, h4, by omega, by simpa using h6⟩
theorem OwnM.below {w w' : World} {base : Nat} {e : TypeId} {v : Value} {xs : List Value} (h : OwnM w base e v xs) (hb : Below w.heap.size w w') : OwnM w' base e v xs := by
  obtain ⟨g, cap, cur, fz, h0, h1, h2, h3⟩ := h
  exact ⟨g, cap, cur, fz, h0, h1, below_heap hb (lt_of h2) h2, h3⟩
theorem OwnM.base {w : World} {base base' : Nat} {e : TypeId} {v : Value} {xs : List Value} (h : OwnM w base e v xs) (hb : base' ≤ base) : OwnM w base' e v xs := by
  obtain ⟨g, cap, cur, fz, h0, h1, h2, h3⟩ := h
  exact ⟨g, cap, cur, fz, h0, by omega, h2, h3⟩
theorem OwnM.set {w : World} {base : Nat} {e : TypeId} {g n cap : Nat} {xs : List Value} (h : OwnM w base e (.slice (some ⟨g, 0, none⟩) n cap) xs) (i : Nat) (_ : i < xs.length) (u : Value) :
    OwnM (w.setCell ⟨g, i, none⟩ u) base e (.slice (some ⟨g, 0, none⟩) n cap) (xs.set i u) := by
  obtain ⟨g', cap', cur, fz, h0, h1, h2, h3, h4, h5, h6, h7⟩ := h
  simp only [Value.slice.injEq, Option.some.injEq, Addr.mk.injEq] at h0
  obtain ⟨⟨rfl, _⟩, rfl, rfl⟩ := h0
  refine ⟨g, cap, _, fz, by simp, h1, set_of h2 i u, h3, by simpa using h4, h5, by simpa using h6, ?_⟩
  simp only [Array.toList_setIfInBounds, List.length_set]
  rw [← h7, ← List.take_set]
  simp [h7]

/-- The same of bytes. -/
def OwnB (w : World) (base : Nat) (e : TypeId) (v : Value) (l : Bs) : Prop := OwnM w base e v (Sha.vBs l)
theorem OwnB.form {w : World} {base : Nat} {e : TypeId} {v : Value} {l : Bs} (h : OwnB w base e v l) : ∃ g cap, v = .slice (some ⟨g, 0, none⟩) l.length cap ∧ base ≤ g ∧ g < w.heap.size := by
  obtain ⟨g, cap, h0, h1, h2, _⟩ := OwnM.form h
  rw [Sha.vBs_len] at h0
  exact ⟨g, cap, h0, h1, h2⟩
theorem OwnB.formN {w : World} {base : Nat} {e : TypeId} {v : Value} {l : Bs} (h : OwnB w base e v l) {n : Nat} (hn : l.length = n) : ∃ g cap, v = .slice (some ⟨g, 0, none⟩) n cap ∧ base ≤ g ∧ g < w.heap.size := by
  subst hn
  exact h.form
theorem OwnB.cell {w : World} {base : Nat} {e : TypeId} {g n cap : Nat} {l : Bs} (h : OwnB w base e (.slice (some ⟨g, 0, none⟩) n cap) l) {i : Nat} (hi : i < l.length) : w.cell? ⟨g, i, none⟩ = some (Sha.vB (l.getD i 0)) := by
  obtain ⟨g', cap', h0, h1, h2, h3, _⟩ := OwnM.form h
  simp only [Value.slice.injEq, Option.some.injEq, Addr.mk.injEq] at h0
  obtain ⟨⟨rfl, _⟩, _⟩ := h0
  exact h3 i _ (Sha.vBs_at l hi)
theorem OwnB.free {w : World} {base : Nat} {e : TypeId} {g n cap : Nat} {l : Bs} (h : OwnB w base e (.slice (some ⟨g, 0, none⟩) n cap) l) {i : Nat} (hi : i < l.length) : w.frozen? ⟨g, i, none⟩ = false := by
  obtain ⟨g', cap', h0, h1, h2, _, h3⟩ := OwnM.form h
  simp only [Value.slice.injEq, Option.some.injEq, Addr.mk.injEq] at h0
  obtain ⟨⟨rfl, _⟩, _⟩ := h0
  exact h3 i (by rw [Sha.vBs_len]; exact hi)
theorem OwnB.set {w : World} {base : Nat} {e : TypeId} {g n cap : Nat} {l : Bs} (h : OwnB w base e (.slice (some ⟨g, 0, none⟩) n cap) l) {i : Nat} (hi : i < l.length) (b : UInt8) :
    OwnB (w.setCell ⟨g, i, none⟩ (Sha.vB b)) base e (.slice (some ⟨g, 0, none⟩) n cap) (l.set i b) := by
  have := OwnM.set h i (by rw [Sha.vBs_len]; exact hi) (Sha.vB b)
  unfold OwnB
  have e : Sha.vBs (l.set i b) = (Sha.vBs l).set i (Sha.vB b) := by simp [Sha.vBs, List.map_set]
  rw [e]
  exact this
theorem OwnB.append {w : World} {base : Nat} {e : TypeId} {v : Value} {l r : Bs} (h : OwnM w base e v (Sha.vBs l ++ Sha.vBs r)) : OwnB w base e v (l ++ r) := by
  unfold OwnB Sha.vBs
  rw [List.map_append]
  exact h

section
variable {P : Program}
/-- []byte(s). -/
theorem wpList_bytes {ops : Array Oper} {rest : List Oper} {o : Oper} {a : Act} {w : World} {Q : Exit → Act → World → Prop} (hgd : o.guard = none) (src dst e : TypeId) (x : Operand) (ho : o.op = .convert src dst x)
    (s : ByteArray) (hx : a.eval x = .string s) {u : TypeDesc} (hs : P.underlying src = some u) (hd : P.underlying dst = some (.slice e)) (he : P.underlying e = some (.int .u8)) (hm : s.size ≤ maxLen)
    (h : ∀ v w', OwnM w' w.heap.size e v (Lib.strCells s) → Below w.heap.size w w' → wpList P ops Q rest (a.put o.dst v) w') : wpList P ops Q (o :: rest) a w := by
  refine wpList_plain hgd fun K hK => ?_
  have hr := Lib.run_convert_string_bytes (P := P) w src dst e s hs hd he
  unfold Oper.wp execOp
  simp only [ho, hx, Sem.run_bind, Sem.run_pure, Result.andThen_ok, hr]
  refine hK _ _ (h _ _ ?_ ?_)
  · have hge := grownCap_ge w s.size 0 e
    have hsz : (Lib.bytesCells w e s).size = grownCap w s.size 0 e := by simp [Lib.bytesCells]; show s.size + _ = _; omega
    refine ⟨w.heap.size, grownCap w s.size 0 e, _, _, by rw [Lib.strCells_length], Nat.le_refl _, Lib.bytesWorld_at_new w e s, .inr (by rw [hsz]; exact Nat.le_refl _), by rw [Lib.strCells_length]; exact hge, grownCap_le_maxLen w s.size 0 e hm, by rw [hsz]; exact Nat.le_refl _, ?_⟩
    rw [Lib.strCells_length]
    unfold Lib.bytesCells Lib.strCells
    simp
  · exact ⟨rfl, rfl, rfl, by rw [Lib.bytesWorld_size]; omega, fun k hk => Lib.bytesWorld_at_old w e s k hk⟩

/-- append of further cells. -/
theorem wpList_append_M {ops : Array Oper} {rest : List Oper} {o : Oper} {a : Act} {Q : Exit → Act → World → Prop} (w : World) (hgd : o.guard = none) (s x : Operand) (t : TypeId)
    (ho : o.op = .call { callee := .builtin .append, args := #[s, x], argTypes := #[t, t] })
    (base : Nat) (e : TypeId) (i : TypeInfo) (z : Value) (bytes : Nat) (ht : P.underlying t = some (.slice e)) (hi : P.info? e = some i) (hz : i.zero = some z)
    (hsize : i.size = 1) (hby : i.bytes = bytes) (hzs : z.cells.size = 1)
    (v : Value) (xs : List Value) (hs : a.eval s = v) (hown : OwnM w base e v xs)
    (ad : Addr) (m c : Nat) (news : List Value) (hx : a.eval x = .slice (some ad) m c) (hl : news.length = m) (hm : 0 < m) (hnews : ∀ j u, news[j]? = some u → w.cell? (ad.add j) = some u) (h1 : ∀ u ∈ news, u.oneCell' = true)
    (h63 : xs.length + m ≤ maxLen) (hbytes : (xs.length + m) * bytes ≤ 140737488355328) (hbase : base ≤ w.heap.size)
    (h : ∀ v' w', OwnM w' base e v' (xs ++ news) → Below base w w' → wpList P ops Q rest (a.put o.dst v') w') : wpList P ops Q (o :: rest) a w := by
  obtain ⟨g, cap, cur, fz, hv, hg0, hg1, hg2, hg3, hg4, hg5, hg6⟩ := id hown
  obtain ⟨g', cap', hv', _, _, hcell, hfr⟩ := hown.form
  subst hv
  simp only [Value.slice.injEq, Option.some.injEq, Addr.mk.injEq] at hv'
  obtain ⟨⟨rfl, _⟩, _, rfl⟩ := hv'
  refine wpList_append_arg w hgd s x t ho e i z 1 bytes ht hi hz hsize hby hzs (by decide) g 0 xs.length cap xs hs (by simp) (fun j u hu => by rw [Nat.zero_add]; exact hcell j u hu) ad m c news hx (by simp [hl]) hnews h1 ?_ h63 hbytes ?_ ?_
  · intro hroom j hj
    rw [Nat.zero_add, Nat.mul_one]
    refine ⟨?_, ?_⟩
    · rw [cell_of hg1, Array.getElem?_eq_getElem (by omega)]; rfl
    · simp only [World.frozen?, hg1]
      rcases hg2 with rfl | hg2
      · simp
      · have : ¬ fz.1 ≤ xs.length + j := by omega
        simp [this]
  · intro hroom
    rw [Nat.zero_add, Nat.mul_one]
    refine h _ _ ⟨g, cap, putA cur xs.length news, fz, by rw [List.length_append, hl], hg0, heap_setCells news cur _ w hg1, hg2, by rw [List.length_append, hl]; exact hroom, hg4, by rw [putA_size]; exact hg5, ?_⟩ ?_
    · apply List.ext_getElem?
      intro k
      by_cases hk : k < (xs ++ news).length
      · rw [List.getElem?_take_of_lt hk, Array.getElem?_toList]
        rw [List.length_append] at hk
        by_cases hk2 : k < xs.length
        · rw [putA_out _ _ _ _ (.inl hk2), List.getElem?_append_left hk2]
          have h8 : xs[k]? = (cur.toList.take xs.length)[k]? := by rw [hg6]
          rw [h8, List.getElem?_take_of_lt hk2, Array.getElem?_toList]
        · rw [List.getElem?_append_right (by omega)]
          have := putA_in news cur xs.length (k - xs.length) (by omega) (by omega)
          rw [show xs.length + (k - xs.length) = k by omega] at this
          exact this
      · rw [List.getElem?_eq_none (by rw [List.length_take]; omega), List.getElem?_eq_none (by omega)]
    · have hk : Kept (One g) w (w.setCells g xs.length news) := kept_setCells _ _ _ _ (Kept.refl _ _) (.inr rfl)
      exact hk.below hbase (fun k hk e => by have : k = g := e; omega)
  · intro _ v' w' hown' hgrow
    refine h _ _ ((OwnM.of_owns ?_ ?_).base hbase) ?_
    · rw [List.length_append, hl]; exact hown'
    · rw [List.length_append]; omega
    · exact ((Below.refl w.heap.size w).grown hgrow (Nat.le_refl _) (by simp)).mono hbase
end

end Licit
