/- The cells of a sponge: a state of 25 words, and 29 further cells; bytes as values; plain. absorb of a sponge takes in one block. Write of a sponge that has taken in nothing, of one string. Clone of a sponge. Sum of a sponge that has not been asked yet. digest.Sum is the plain digest. -/
import Derived.Test.YtfklmjcjjdliiaaDoorPlainShaAll
import Derived.Test.YtfklmjcjjdliiaaDoorFrmAll
import Derived.OwnWalk
import Derived.Laws.BytesArg
import Derived.Laws.CopyOwn
import Derived.Test.YtfklmjcjjdliiaaDoorShaPerm
import Derived.Lib.AppendStr
import Derived.Laws.AppendOwnNone
import Derived.Deep.RegionHeld3
namespace Licit.Sha
open Go Go.RowKit Licit

def vB (b : UInt8) : Value := .int .u8 (b.toNat : Int)
def vBs (l : Bs) : List Value := l.map vB
theorem vBs_len (l : Bs) : (vBs l).length = l.length := by simp [vBs]
theorem vBs_at (l : Bs) {i : Nat} (h : i < l.length) : (vBs l)[i]? = some (vB (l.getD i 0)) := by
  simp [vBs, List.getD_eq_getElem?_getD, h]

/-- All cells of a sponge. -/
def spA (st : Sha.St) (M : Array Value) : Array Value := wA 25 st ++ M
theorem spA_size (st : Sha.St) (M : Array Value) : (spA st M).size = 25 + M.size := by simp [spA, wA_size]
theorem spA_at {st : Sha.St} {M : Array Value} {i : Nat} (h : i < 25) : (spA st M)[i]? = some (vW (st i)) := by
  unfold spA
  rw [Array.getElem?_append_left (by rw [wA_size]; exact h), wA_at st h]
theorem spA_tail {st : Sha.St} {M : Array Value} (j : Nat) : (spA st M)[25 + j]? = M[j]? := by
  unfold spA
  rw [Array.getElem?_append_right (by rw [wA_size]; omega), wA_size]
  congr 1
  omega
theorem spA_set {st : Sha.St} {M : Array Value} {i : Nat} (h : i < 25) (v : W64) : (spA st M).setIfInBounds i (vW v) = spA (upd st i v) M := by
  unfold spA
  rw [Array.setIfInBounds_append_left (by rw [wA_size]; exact h), wA_set]
theorem spA_setT {st : Sha.St} {M : Array Value} (j : Nat) (v : Value) : (spA st M).setIfInBounds (25 + j) v = spA st (M.setIfInBounds j v) := by
  unfold spA
  rw [Array.setIfInBounds_append_right (by rw [wA_size]; omega), wA_size, show 25 + j - 25 = j by omega]

theorem wA_len (n : Nat) (f : Sha.St) : (wA n f).toList.length = n := by simp [wA]
theorem spA_put (st st' : Sha.St) (M : Array Value) : putA (spA st M) 0 (wA 25 st').toList = spA st' M := by
  apply Array.ext_getElem?
  intro i
  by_cases h : i < 25
  · have := putA_in (wA 25 st').toList (spA st M) 0 i (by rw [wA_len, spA_size]; omega) (by rw [wA_len]; exact h)
    rw [Nat.zero_add] at this
    rw [this, spA_at h, Array.getElem?_toList, wA_at st' h]
  · rw [putA_out _ _ _ _ (.inr (by rw [wA_len]; omega))]
    unfold spA
    rw [Array.getElem?_append_right (by rw [wA_size]; omega), Array.getElem?_append_right (by rw [wA_size]; omega), wA_size, wA_size]

/-- Block p is a sponge. -/
def Spg (T : TypeId) (p : Nat) (st : Sha.St) (M : Array Value) (w : World) : Prop := w.heap[p]? = some (.cells (spA st M) T (0, 0))
section
variable {T : TypeId} {p : Nat} {st : Sha.St} {M : Array Value} {w w' : World}
theorem Spg.lt (h : Spg T p st M w) : p < w.heap.size := lt_of h
theorem Spg.word (h : Spg T p st M w) {i : Nat} (hi : i < 25) : w.cell? ⟨p, i, none⟩ = some (vW (st i)) := by rw [cell_of h, spA_at hi]
theorem Spg.more (h : Spg T p st M w) (j : Nat) : w.cell? ⟨p, 25 + j, none⟩ = M[j]? := by rw [cell_of h, spA_tail]
theorem Spg.f (h : Spg T p st M w) (i : Nat) : w.frozen? ⟨p, i, none⟩ = false := free_of h i
theorem Spg.put (h : Spg T p st M w) {i : Nat} (hi : i < 25) (v : W64) : Spg T p (upd st i v) M (w.setCell ⟨p, i, none⟩ (vW v)) := by
  have := set_of h i (vW v)
  rw [spA_set hi] at this
  exact this
theorem Spg.putM (h : Spg T p st M w) (j : Nat) (v : Value) : Spg T p st (M.setIfInBounds j v) (w.setCell ⟨p, 25 + j, none⟩ v) := by
  have := set_of h (25 + j) v
  rw [spA_setT] at this
  exact this
theorem Spg.state (h : Spg T p st M w) : w.rangeAt p 0 (wA 25 st).toList := range_of h 0 _ fun i hi => by
  rw [wA_len] at hi
  rw [Nat.zero_add, spA_at hi, Array.getElem?_toList, wA_at st hi]
theorem Spg.there (h : Spg T p st M w) : w.there p 0 25 := there_of h 0 25 (by rw [spA_size]; omega)
theorem Spg.putSt (h : Spg T p st M w) (st' : Sha.St) : Spg T p st' M (w.setCells p 0 (wA 25 st').toList) := by
  have := heap_setCells (wA 25 st').toList _ 0 w h
  rw [spA_put] at this
  exact this
theorem Spg.kept {S : Nat → Prop} (h : Spg T p st M w) (hk : Kept S w w') (hs : ¬ S p) : Spg T p st M w' := (hk.block p h.lt hs).trans h
theorem Spg.below (h : Spg T p st M w) (hk : Below w.heap.size w w') : Spg T p st M w' := (hk.block p h.lt).trans h
end

/-- The further cells: what is not yet absorbed, how much was taken, and the rest. -/
def spM (rest : Value) (n : Nat) (X : Array Value) : Array Value := #[rest, .int .i64 (n : Int)] ++ X
section
variable {T : TypeId} {p : Nat} {st : Sha.St} {rv : Value} {n : Nat} {X : Array Value} {w w' : World}
theorem spM_size : (spM rv n X).size = 2 + X.size := by simp [spM]
theorem Spg.rest (h : Spg T p st (spM rv n X) w) : w.cell? ⟨p, 25, none⟩ = some rv := by
  have := h.more 0
  rw [Nat.add_zero] at this
  rw [this]
  unfold spM
  rw [Array.getElem?_append_left (by simp)]
  rfl
theorem Spg.taken (h : Spg T p st (spM rv n X) w) : w.cell? ⟨p, 26, none⟩ = some (.int .i64 (n : Int)) := by
  have := h.more 1
  rw [this]
  unfold spM
  rw [Array.getElem?_append_left (by simp)]
  rfl
theorem spM_set0 (v : Value) : (spM rv n X).setIfInBounds 0 v = spM v n X := by
  unfold spM
  rw [Array.setIfInBounds_append_left (by simp)]
  rfl
theorem spM_set1 (m : Nat) : (spM rv n X).setIfInBounds 1 (.int .i64 (m : Int)) = spM rv m X := by
  unfold spM
  rw [Array.setIfInBounds_append_left (by simp)]
  rfl
theorem Spg.putRest (h : Spg T p st (spM rv n X) w) (v : Value) : Spg T p st (spM v n X) (w.setCell ⟨p, 25, none⟩ v) := by
  have := h.putM 0 v
  rw [spM_set0] at this
  exact this
theorem Spg.putTaken (h : Spg T p st (spM rv n X) w) (m : Nat) : Spg T p st (spM rv m X) (w.setCell ⟨p, 26, none⟩ (.int .i64 (m : Int))) := by
  have := h.putM 1 (.int .i64 (m : Int))
  rw [spM_set1] at this
  exact this
theorem Spg.grown {M : Array Value} {row : Option Nat} (h : Spg T p st M w) (hg : w.grownBy w' row) (hr : row ≠ some p) : Spg T p st M w' :=
  (hg.block p h.lt (fun e => hr e.symm)).trans h
end

theorem vBs_one (l : Bs) : ∀ u ∈ vBs l, u.oneCell' = true := by
  intro u hu
  obtain ⟨b, _, rfl⟩ := List.mem_map.1 hu
  rfl
/-- The cells of an own row of bytes. -/
theorem row_byte {w : World} {base : Nat} {e : TypeId} {g cap n : Nat} {l : Bs} (h : w.ownsRow base e 1 (.slice (some ⟨g, 0, none⟩) n cap) n (vBs l)) {i : Nat} (hi : i < l.length) : w.cell? ⟨g, i, none⟩ = some (vB (l.getD i 0)) := by
  have := h.cells (g := g) rfl i _ (vBs_at l hi)
  have e : (⟨g, 0, none⟩ : Addr).add i = ⟨g, i, none⟩ := by unfold Addr.add; split <;> simp_all
  rw [e] at this
  exact this

/-- What is appended of an own row from a place on. -/
theorem row_drop {w : World} {base : Nat} {e : TypeId} {g cap n : Nat} {l : Bs} (h : w.ownsRow base e 1 (.slice (some ⟨g, 0, none⟩) n cap) n (vBs l)) (k : Nat) : ∀ j u, (vBs (l.drop k))[j]? = some u → w.cell? ((⟨g, k, none⟩ : Addr).add j) = some u := by
  intro j u hu
  have e : (⟨g, k, none⟩ : Addr).add j = ⟨g, k + j, none⟩ := by unfold Addr.add; split <;> simp_all
  have hlt : j < (l.drop k).length := by
    rcases Nat.lt_or_ge j (l.drop k).length with c | c
    · exact c
    · rw [List.getElem?_eq_none (by rw [vBs_len]; exact c)] at hu; cases hu
  rw [vBs_at _ hlt] at hu
  rw [e, ← hu, row_byte h (by simp at hlt; omega), getD_drop]
theorem row_none {w : World} {l : Bs} {k : Nat} (h : l.length ≤ k) {a : Addr} : ∀ j u, (vBs (l.drop k))[j]? = some u → w.cell? (a.add j) = some u := by
  intro j u hu
  rw [List.drop_eq_nil_of_le h] at hu
  simp [vBs] at hu

/-- An own row that is full, as a block. -/
theorem own_full {w : World} {base : Nat} {e : TypeId} {g n : Nat} {xs : List Value} (h : w.ownsRow base e 1 (.slice (some ⟨g, 0, none⟩) n n) n xs) : w.heap[g]? = some (.cells xs.toArray e (0, 0)) := by
  rcases h.2 with ⟨h0, _⟩ | ⟨g', cap, cur, h1, h2, h3, h4, h5, h6, h7⟩
  · cases h0
  · simp only [Value.slice.injEq, Option.some.injEq, Addr.mk.injEq] at h1
    obtain ⟨⟨rfl, _⟩, _, rfl⟩ := h1
    rw [h3]
    congr 2
    rw [← h7, List.take_of_length_le (by simp; omega)]
theorem vBs_zero (n : Nat) : (madeCells #[Value.int .u8 0] n).toList = vBs (List.replicate n 0) := by
  simp [madeCells, vBs, vB]
  apply List.ext_getElem
  · simp
  · intro i h1 h2
    simp [Nat.mod_one]
theorem vBs_set (L : Bs) (i : Nat) (b : UInt8) : (vBs L).toArray.setIfInBounds i (vB b) = (vBs (L.set i b)).toArray := by
  simp [vBs, List.map_set]
theorem vBs_splice (L l : Bs) : splice (vBs L) 0 (vBs l) = vBs (l ++ L.drop l.length) := by
  simp [splice, vBs]

/-- A word of the block with a byte in it. -/
theorem xorB_step (b : Nat → UInt8) (s : Sha.St) (k : Nat) : xorB b s (k + 1) = upd (xorB b s k) (k / 8) (xorB b s k (k / 8) ^^^ (BitVec.ofNat 64 (b k).toNat <<< (8 * (k % 8)))) := rfl
theorem byte_word (b : UInt8) : (BitVec.ofNat 64 b.toNat).toNat = b.toNat := by
  rw [BitVec.toNat_ofNat, Nat.mod_eq_of_lt]
  have := b.toNat_lt
  omega

/-- string(b) of an own row of bytes. -/
theorem own_string {P : Program} {src dst e : TypeId} (hs : P.underlying src = some (.slice e)) (he : P.underlying e = some (.int .u8)) (hd : P.underlying dst = some .string) {w : World} {base : Nat} {v : Value} {l : Bs} (h : w.ownsRow base e 1 v l.length (vBs l)) :
    (convert src dst v).run P w = .ok (.string (B l)) w := by
  rcases id h.2 with ⟨rfl, h0⟩ | ⟨g, cap, cur, rfl, _⟩
  · obtain rfl := List.eq_nil_of_length_eq_zero h0
    exact run_convert_bytes_nil w src e hs he _ _ dst hd
  · refine run_convert_bytes_back w src dst e ⟨g, 0, none⟩ cap l hs he hd fun j hj => ?_
    have e : (⟨g, 0, none⟩ : Addr).add j = ⟨g, j, none⟩ := by unfold Addr.add; split <;> simp_all
    rw [e, row_byte h hj]
    simp [vB, List.getD_eq_getElem?_getD, hj]
theorem block_string {P : Program} {src dst e : TypeId} (hs : P.underlying src = some (.slice e)) (he : P.underlying e = some (.int .u8)) (hd : P.underlying dst = some .string) {w : World} {g cap : Nat} {l : Bs} (h : w.heap[g]? = some (.cells (vBs l).toArray e (0, 0))) :
    (convert src dst (.slice (some ⟨g, 0, none⟩) l.length cap)).run P w = .ok (.string (B l)) w := by
  refine run_convert_bytes_back w src dst e ⟨g, 0, none⟩ cap l hs he hd fun j hj => ?_
  have e : (⟨g, 0, none⟩ : Addr).add j = ⟨g, j, none⟩ := by unfold Addr.add; split <;> simp_all
  rw [e, cell_of h, List.getElem?_toArray, vBs_at _ hj]
  simp [vB, List.getD_eq_getElem?_getD, hj]

theorem bxor8 (x y : UInt8) : bits .xor .u8 (x.toNat : Int) (y.toNat : Int) = ((x ^^^ y).toNat : Int) := by
  rw [u8_xor_nat _ _ x.toNat_lt y.toNat_lt, UInt8.toNat_xor]
/-- What lies in the last block's array. -/
def lastL (l : Bs) : Bs := ((l ++ (List.replicate 136 0).drop l.length).set l.length 6)
theorem lastL_len {l : Bs} (h : l.length < 136) : (lastL l).length = 136 := by simp [lastL]; omega
theorem lastL_at {l : Bs} (h : l.length < 136) (i : Nat) (hi : i < 136) : (lastL l).getD i 0 = if i < l.length then l.getD i 0 else if i = l.length then 6 else 0 := by
  unfold lastL
  by_cases h1 : i = l.length
  · subst h1
    rw [if_neg (by omega), if_pos rfl, List.getD_eq_getElem?_getD, List.getElem?_set_self (by simp; omega)]
    rfl
  · rw [List.getD_eq_getElem?_getD, List.getElem?_set_ne (by omega), if_neg h1]
    by_cases h2 : i < l.length
    · rw [if_pos h2, List.getElem?_append_left h2, ← List.getD_eq_getElem?_getD]
    · rw [if_neg h2, List.getElem?_append_right (by omega), List.getElem?_drop, List.getElem?_replicate]
      split <;> rfl
theorem lastL_pad {l : Bs} (h : l.length < 136) (i : Nat) (hi : i < 136) : ((lastL l).set 135 ((lastL l).getD 135 0 ^^^ 128)).getD i 0 = (padL l).getD i 0 := by
  have hp : (padL l).getD i 0 = padB l i := by
    unfold padL
    rw [List.getD_eq_getElem?_getD, List.getElem?_map, List.getElem?_range hi]
    rfl
  rw [hp]
  unfold padB
  by_cases h1 : i = 135
  · subst h1
    rw [List.getD_eq_getElem?_getD, List.getElem?_set_self (by rw [lastL_len h]; omega), Option.getD_some, lastL_at h 135 hi]
    rfl
  · rw [List.getD_eq_getElem?_getD, List.getElem?_set_ne (by omega), ← List.getD_eq_getElem?_getD, lastL_at h i hi, if_neg h1]
    simp

/-- The first k bytes of what is given out. -/
def outK (s : Sha.St) (k : Nat) : Bs := (List.range 32).map fun i => if i < k then byteAt s i else 0
theorem outK_zero (s : Sha.St) : outK s 0 = List.replicate 32 0 := by
  have : outK s 0 = (List.range 32).map fun _ => 0 := by
    unfold outK
    refine List.map_congr_left fun i _ => ?_
    rw [if_neg (by omega)]
  rw [this]
  rfl
theorem outK_end (s : Sha.St) : outK s 32 = outB s := by
  unfold outK outB
  refine List.map_congr_left fun i hi => ?_
  rw [if_pos (List.mem_range.1 hi)]
theorem outK_step (s : Sha.St) (k : Nat) (_ : k < 32) : (outK s k).set k (byteAt s k) = outK s (k + 1) := by
  apply List.ext_getElem
  · simp [outK]
  · intro i h1 h2
    simp only [outK, List.getElem_set, List.getElem_map, List.getElem_range]
    by_cases e : k = i
    · subst e; simp
    · rw [if_neg e]
      by_cases hlt : i < k
      · rw [if_pos hlt, if_pos (by omega)]
      · rw [if_neg hlt, if_neg (by omega)]
theorem outK_len (s : Sha.St) (k : Nat) : (outK s k).length = 32 := by simp [outK]
theorem byteAt_val (s : Sha.St) (i : Nat) : IntKind.u8.wrap ((s (i / 8) >>> (8 * (i % 8))).toNat : Int) = ((byteAt s i).toNat : Int) := by
  rw [IntKind.wrap_u8]
  unfold byteAt
  rw [UInt8.toNat_ofNat', Int.natCast_emod]
  rfl

end Licit.Sha
namespace Go.Proofs.YtfklmjcjjdliiaaDoor
open Go Go.RowKit Licit Licit.Sha

set_option maxHeartbeats 2000000 in
set_option maxRecDepth 100000 in
theorem absorb_any (p : Nat) (st : Sha.St) (M : Array Value) (g o cap : Nat) (l : Bs) (w : World) (hM : M.size = 29) (h : Spg 114 p st M w) (hg : g ≠ p) (hc : ∀ i, i < 136 → w.cell? ⟨g, o + i, none⟩ = some (vB (l.getD i 0))) :
    Calls Tryd.prog 110 #[.pointer (some ⟨p, 0, none⟩), .slice (some ⟨g, o, none⟩) 136 cap] w fun e w' => (∃ v, e = .returned v) ∧ Spg 114 p (take1 st l) M w' ∧ Kept (One p) w w' := by
  obtain ⟨F, hF⟩ : ∃ F : Nat → UInt8, F = fun i => l.getD i 0 := ⟨_, rfl⟩
  have hgl : g < w.heap.size := World.block_lt_of_cell? w _ (hc 0 (by omega))
  have hc' : ∀ i, i < 136 → w.cell? ⟨g, o + i, none⟩ = some (vB (F i)) := by rw [hF]; exact hc
  have HC := Lib.hid hc'
  have HF := Lib.hid hF
  have H := Lib.hid h
  have HM := Lib.hid hM
  clear hc hc' hF h hM
  go_enter Tryd.func110, Tryd.ntmps110
  go_wp2
  go_loopw [7] (fun i wr => ∃ k : Nat, k ≤ 136 ∧ i = .int .i64 k ∧ Spg 114 p (xorB F st k) M wr ∧ Kept (One p) w wr) (fun i _ => 136 - (intOf i).toNat)
  case atStart => exact ⟨0, by omega, rfl, H.out, Kept.refl _ _⟩
  case round =>
    obtain ⟨k, hk, rfl, h0, hK⟩ := hrel
    by_cases hlt : k < 136
    · obtain ⟨Q, hQ⟩ : ∃ Q, k / 8 = Q := ⟨_, rfl⟩
      obtain ⟨R, hR⟩ : ∃ R, k % 8 = R := ⟨_, rfl⟩
      obtain ⟨N, hN⟩ : ∃ N, 8 * R = N := ⟨_, rfl⟩
      have hq : (k : Int).tdiv 8 = (Q : Int) := by rw [← hQ]; rfl
      have hr : (k : Int).tmod 8 = (R : Int) := by rw [← hR]; rfl
      have hn : IntKind.i64.wrap (8 * (R : Int)) = (N : Int) := by rw [IntKind.wrap_i64]; omega
      have hqw : IntKind.i64.wrap (Q : Int) = (Q : Int) := by rw [IntKind.wrap_i64]; omega
      have hrw : IntKind.i64.wrap (R : Int) = (R : Int) := by rw [IntKind.wrap_i64]; omega
      have hQl : Q < 25 := by omega
      have hQi : (Q : Int) < 25 := by omega
      have hNl : N < 64 := by omega
      have hNi : (N : Int) < 64 := by omega
      have hcell := HC.out k hlt
      rw [← hK.cell (b := g) (o := o + k) hgl hg] at hcell
      have hw := h0.word (i := Q) hQl
      have hf := h0.f Q
      have hb := byte_word (F k)
      obtain ⟨X, hX⟩ : ∃ X : W64, BitVec.ofNat 64 (F k).toNat = X := ⟨_, rfl⟩
      rw [hX] at hb
      have hs := bshl X N
      obtain ⟨Y, hY⟩ : ∃ Y, X <<< N = Y := ⟨_, rfl⟩
      rw [hY] at hs
      have hx := bxor (xorB F st k Q) Y
      obtain ⟨V, hV⟩ : ∃ V, xorB F st k Q ^^^ Y = V := ⟨_, rfl⟩
      rw [hV] at hx
      have hvb : vB (F k) = .int .u8 (X.toNat : Int) := by unfold vB; rw [← hb]
      rw [hvb] at hcell
      have hXb : (X.toNat : Int) < 256 := by have := (F k).toNat_lt; rw [hb]; omega
      have hstep : xorB F st (k + 1) = upd (xorB F st k) Q V := by rw [xorB_step, hQ, hR, hN, hX, hY, hV]
      have hXw : IntKind.u64.wrap (X.toNat : Int) = (X.toNat : Int) := by rw [IntKind.wrap_u64]; omega
      have HST := Lib.hid hstep
      have H0 := Lib.hid h0
      have HK := Lib.hid hK
      clear hstep h0 hK hvb hV hY hX hb hQ hR hN
      go_wp2
      go_still_tail 20, (by kernel_rfl)
      change wpList _ _ _ _ _ wr.drew
      go_wp2
      go_roundw
      case rel =>
        refine ⟨k + 1, by omega, by go_num, ?_, ?_⟩
        · rw [HST.out]; exact H0.out.put hQl V
        · exact HK.out.drew.setCell (p := ⟨p, Q, none⟩) (.inr rfl) _
      case measure => simp [intOf]; omega
    · obtain rfl : k = 136 := by omega
      have hpl := h0.lt
      have H0 := Lib.hid h0
      have HK := Lib.hid hK
      clear h0 hK
      go_wp2_with (first
        | (refine wpList_load_mid rfl 99 _ rfl p 0 rfl _ _ H0.out.state rfl rfl (by rw [wA_len]; kernel_rfl) ?_; rw [Array.toArray_toList])
        | (go_at_call 117; refine (Permute_any _ _).mono ?_; rintro e w2 ⟨rfl, hb⟩; have Hb := Lib.hid hb; clear hb)
        | (refine wpList_store_mid rfl 99 _ _ rfl p 0 (wA 25 (perm (xorB F st 136))) rfl rfl (by rw [wA_size]; exact (H0.out.below Hb.out).there) (by rw [wA_size]; kernel_rfl) (wA_one _ _) ?_))
      go_end0
      refine ⟨⟨_, rfl⟩, ?_, kept_setCells _ _ _ _ (HK.out.trans (Kept.of_below Hb.out)) (.inr rfl)⟩
      have := (H0.out.below Hb.out).putSt (perm (xorB F st 136))
      rw [HF.out] at this ⊢
      exact this

end Go.Proofs.YtfklmjcjjdliiaaDoor
namespace Go.Proofs.YtfklmjcjjdliiaaDoor
open Go Go.RowKit Licit Licit.Sha

theorem Tryd.infoByte : (Tryd.prog.info? 5).map (fun i => (i.zero, i.size, i.bytes)) = some (some (.int .u8 0), 1, 1) := by kernel_rfl

def restLen (p : Nat) (w : World) : Nat := match w.cell? ⟨p, 25, none⟩ with | some (.slice _ n _) => n | _ => 0
theorem restLen_of {p : Nat} {w : World} {a : Option Addr} {n c : Nat} (h : w.cell? ⟨p, 25, none⟩ = some (.slice a n c)) : restLen p w = n := by simp [restLen, h]

/-- What the loop of Write holds. -/
def WrAt (p : Nat) (data : Bs) (X : Array Value) (w wr : World) : Prop :=
  ∃ (j : Nat) (rv : Value), 136 * j ≤ data.length ∧ Spg 114 p (absN st0 data j) (spM rv data.length X) wr ∧
    wr.ownsRow w.heap.size 5 1 rv (data.drop (136 * j)).length (vBs (data.drop (136 * j))) ∧ Kept (One p) w wr

set_option maxHeartbeats 2000000 in
set_option maxRecDepth 100000 in
theorem Write_any (p q : Nat) (X : Array Value) (data : Bs) (w : World) (hd : data.length ≤ 1000000000000) (hX : X.size = 27) (hq : w.cell? ⟨q, 0, none⟩ = some (.string (B data))) (h : Spg 114 p st0 (spM (.slice none 0 0) 0 X) w) :
    Calls Tryd.prog 100 #[.pointer (some ⟨p, 0, none⟩), .slice (some ⟨q, 0, none⟩) 1 1] w fun e w' => (∃ v, e = .returned v) ∧
      ∃ rv, Spg 114 p (absN st0 data (data.length / 136)) (spM rv data.length X) w' ∧ w'.ownsRow w.heap.size 5 1 rv (data.drop (136 * (data.length / 136))).length (vBs (data.drop (136 * (data.length / 136)))) ∧ Kept (One p) w w' := by
  obtain ⟨i0, hi, hz0, hz1, hz2⟩ := info_parts Tryd.infoByte
  have hr := h.rest
  have ht := h.taken
  have hf25 := h.f 25
  have hf26 := h.f 26
  have hpl := h.lt
  have hsz : (B data).size = data.length := rfl
  have H := Lib.hid h
  have HX := Lib.hid hX
  have Hi := Lib.hid hi
  have Hz0 := Lib.hid hz0
  have Hz1 := Lib.hid hz1
  have Hz2 := Lib.hid hz2
  clear h hX hi hz0 hz1 hz2
  go_enter Tryd.func100, Tryd.ntmps100
  go_wp2
  refine wp_loop_rounds 2 ?_
  rw [rounds_succ]
  go_wp2_with (first
    | (at_builtin
       go_loud (
       refine Lib.wpList_append_own_string _ rfl _ _ 98 9 rfl w.heap.size 5 i0 Tryd.underlying98 Tryd.underlying9 Hi.out Hz0.out Hz1.out Hz2.out (.slice none 0 0) 0 [] rfl (World.ownsRow_nil _ _ _ _) (B data) rfl (by unfold maxLen; omega) (by omega) (by simp) ?_
       intro v1 w1 hown1 hgrow1 _
       have hS1 := (H.out.putTaken data.length).grown hgrow1 (by simp [Value.ownBlock])
       have hK1 : Kept (One p) w w1 := ((Kept.refl (One p) w).setCell (p := ⟨p, 26, none⟩) (.inr rfl) (.int .i64 (data.length : Int))).grown hgrow1 (by simp [Value.ownBlock])
       rw [Nat.zero_add, List.nil_append] at hown1
       have hown1 : w1.ownsRow w.heap.size 5 1 v1 data.length (vBs data) := hown1
       obtain ⟨a1, c1, rfl⟩ := own_form hown1
       have hr1 := hS1.rest
       have hf1 := hS1.f 25
       have hp1 := hS1.lt
       have HS1 := Lib.hid (hS1.putRest (.slice a1 data.length c1))
       have HK1 := Lib.hid (hK1.setCell (p := ⟨p, 25, none⟩) (.inr rfl) (.slice a1 data.length c1))
       have HO1 := Lib.hid (ownsRow_set hown1 (p := ⟨p, 25, none⟩) (v' := .slice a1 data.length c1) hpl)
       clear hS1 hK1 hown1 hgrow1)))
  go_loopw [36] (fun _ wr => WrAt p data X w wr) (fun _ wr => restLen p wr)
  case atStart => exact ⟨0, _, by omega, HS1.out, HO1.out, HK1.out⟩
  case round =>
    obtain ⟨j, rv, hj, hS, hO, hK⟩ := hrel
    have hlr : (data.drop (136 * j)).length = data.length - 136 * j := by simp
    obtain ⟨l, hl⟩ : ∃ l, data.drop (136 * j) = l := ⟨_, rfl⟩
    rw [hl] at hO hlr
    by_cases hn : 136 ≤ l.length
    · obtain ⟨g, cap, rfl, hg, hgl, hcap⟩ := own_some hO (by omega)
      have hrest := hS.rest
      have hpl2 := hS.lt
      have hml := restLen_of hrest
      have hlle : l.length ≤ 1000000000000 := by omega
      have HML := Lib.hid hml
      have HS := Lib.hid hS
      have HO := Lib.hid hO
      have HK := Lib.hid hK
      have HL := Lib.hid hl
      have HJ := Lib.hid hlr
      clear hS hO hK hl hml hlr
      have HA := Lib.hid (absorb_any p _ _ g 0 cap l wr (by rw [spM_size, HX.out]) HS.out (by omega) (fun i hi => by rw [Nat.zero_add]; exact row_byte HO.out (by omega)))
      have hc : cap = 136 ∨ cap ≠ 136 := by omega
      rcases hc with rfl | hc
      · go_wp2_with (first
          | (go_at_call 110
             go_loud (
             refine HA.out.mono ?_
             rintro e w2 ⟨⟨v2, rfl⟩, hS2, hK2⟩
             have hr2 := hS2.rest
             have hf2 := hS2.f 25
             have HS2 := Lib.hid hS2
             have HK2 := Lib.hid hK2
             have HO2 := Lib.hid (ownsRow_kept HO.out hK2 (fun k hk e => by have : k = p := e; omega))
             clear hS2 hK2)))
        have hnext : data.drop (136 * (j + 1)) = [] := List.drop_eq_nil_of_le (by have := HJ.out; omega)
        have hstep : absN st0 data (j + 1) = take1 (absN st0 data j) l := by rw [← HL.out]; rfl
        have hS3 := HS2.out.putRest (.slice none 0 0)
        refine ⟨⟨j + 1, .slice none 0 0, by have := HJ.out; omega, ?_, ?_, ?_⟩, ?_⟩
        · rw [hstep]; exact hS3
        · rw [hnext]; exact World.ownsRow_nil _ _ _ _
        · exact (HK.out.trans (HK2.out.mono (fun _ _ h => h))).setCell (p := ⟨p, 25, none⟩) (.inr rfl) _
        · rw [restLen_of hS3.rest, HML.out]; omega
      · go_wp2_with (first
          | (go_at_call 110
             go_loud (
             refine HA.out.mono ?_
             rintro e w2 ⟨⟨v2, rfl⟩, hS2, hK2⟩
             have hr2 := hS2.rest
             have hf2 := hS2.f 25
             have HS2 := Lib.hid hS2
             have HK2 := Lib.hid hK2
             have HO2 := Lib.hid (ownsRow_kept HO.out hK2 (fun k hk e => by have : k = p := e; omega))
             clear hS2 hK2))
          | (at_builtin
             go_loud (
             refine wpList_append_own _ rfl _ _ 98 rfl w.heap.size 5 i0 (.int .u8 0) 1 1 Tryd.underlying98 Hi.out Hz0.out Hz1.out Hz2.out rfl (by decide) (.slice none 0 0) 0 [] rfl (World.ownsRow_nil _ _ _ _) ⟨g, 136, none⟩ (l.length - 136) (cap - 136) (vBs (l.drop 136)) rfl (by rw [vBs_len, List.length_drop]; omega) (row_drop HO2.out 136) (vBs_one _) (by unfold maxLen; omega) (by omega) (by have := HK.out.size; have := HK2.out.size; omega) ?_
             intro v3 w3 hown3 hgrow3 _
             have hS3 := HS2.out.grown hgrow3 (by simp [Value.ownBlock])
             have hK3 := (HK.out.trans (HK2.out.mono (fun _ _ h => h))).grown hgrow3 (by simp [Value.ownBlock])
             rw [Nat.zero_add, List.nil_append] at hown3
             obtain ⟨a3, c3, rfl⟩ := own_form hown3
             have hr3 := hS3.rest
             have hf3 := hS3.f 25
             have hp3 := hS3.lt
             have HS3 := Lib.hid (hS3.putRest (.slice a3 (l.length - 136) c3))
             have HK3 := Lib.hid (hK3.setCell (p := ⟨p, 25, none⟩) (.inr rfl) (.slice a3 (l.length - 136) c3))
             have HO3 := Lib.hid (ownsRow_set hown3 (p := ⟨p, 25, none⟩) (v' := .slice a3 (l.length - 136) c3) hpl)
             clear hS3 hK3 hown3 hgrow3)))
        have hnext : data.drop (136 * (j + 1)) = l.drop 136 := by rw [← HL.out, List.drop_drop]; rfl
        have hstep : absN st0 data (j + 1) = take1 (absN st0 data j) l := by rw [← HL.out]; rfl
        refine ⟨⟨j + 1, .slice a3 (l.length - 136) c3, by have := HJ.out; omega, ?_, ?_, HK3.out⟩, ?_⟩
        · rw [hstep]; exact HS3.out
        · rw [hnext, List.length_drop]; exact HO3.out
        · rw [restLen_of HS3.out.rest, HML.out]; omega
    · obtain ⟨a, c, rfl⟩ := own_form hO
      have hrest := hS.rest
      have htk := hS.taken
      have hj2 : data.length / 136 = j := by omega
      have HS := Lib.hid hS
      have HO := Lib.hid hO
      have HK := Lib.hid hK
      have HL := Lib.hid hl
      have HJ := Lib.hid hj2
      have HE := Lib.hid hlr
      clear hS hO hK hl hj2 hlr
      go_wp2
      rw [rounds_succ]
      go_wp2
      go_ret
      refine ⟨⟨_, rfl⟩, .slice a l.length c, ?_, ?_, HK.out⟩
      · rw [HJ.out]; exact HS.out
      · rw [HJ.out, HL.out]; exact HO.out

end Go.Proofs.YtfklmjcjjdliiaaDoor
namespace Go.Proofs.YtfklmjcjjdliiaaDoor
open Go Go.RowKit Licit Licit.Sha

/-- A sponge that was cloned: a new block, its rest in a row of its own. -/
def Cloned (st : Sha.St) (n : Nat) (X : Array Value) (l : Bs) (w : World) (e : Ending) (w' : World) : Prop :=
  e = .returned (.pointer (some ⟨w.heap.size, 0, none⟩)) ∧ ∃ rv, Spg 114 w.heap.size st (spM rv n X) w' ∧ w'.ownsRow (w.heap.size + 1) 5 1 rv l.length (vBs l) ∧ Below w.heap.size w w'

theorem one_append {A B : Array Value} (ha : A.all (·.oneCell') = true) (hb : B.all (·.oneCell') = true) : (A ++ B).all (·.oneCell') = true := by simp [ha, hb]

/-- The cells of an own row, in a world that has more. -/
theorem row_at {w w1 : World} {base : Nat} {e : TypeId} {g cap n : Nat} {l : Bs} (h : w.ownsRow base e 1 (.slice (some ⟨g, 0, none⟩) n cap) n (vBs l)) (hb : Below w.heap.size w w1) : ∀ j u, (vBs l)[j]? = some u → w1.cell? ((⟨g, 0, none⟩ : Addr).add j) = some u := by
  intro j u hu
  have h1 := h.cells (g := g) rfl j u hu
  have e : (⟨g, 0, none⟩ : Addr).add j = ⟨g, j, none⟩ := by unfold Addr.add; split <;> simp_all
  rw [e] at h1 ⊢
  rw [hb.cell (p := ⟨g, j, none⟩) (World.block_lt_of_cell? w _ h1)]
  exact h1

set_option maxHeartbeats 2000000 in
set_option maxRecDepth 100000 in
theorem Clone_nil (p : Nat) (st : Sha.St)  (n base : Nat) (X : Array Value) (l : Bs) (w : World) (hX : X.size = 27) (hX1 : X.all (·.oneCell') = true) (hl : l.length < 136) (h : Spg 114 p st (spM (Value.slice none 0 0) n X) w) (ho : w.ownsRow base 5 1 (Value.slice none 0 0) l.length (vBs l)) (_ : p < base) :
    Calls Tryd.prog 111 #[.pointer (some ⟨p, 0, none⟩)] w (Cloned st n X l w) := by
  obtain ⟨i0, hi, hz0, hz1, hz2⟩ := info_parts Tryd.infoByte
  have hsz : (spA st (spM (Value.slice none 0 0) n X)).size = 54 := by rw [spA_size, spM_size, hX]
  have hone : (spA st (spM (Value.slice none 0 0) n X)).all (·.oneCell') = true := one_append (wA_one _ _) (one_append (by simp [Value.oneCell']) hX1)
  obtain ⟨A, hA⟩ : ∃ A, spA st (spM (Value.slice none 0 0) n X) = A := ⟨_, rfl⟩
  have hr := h.rest
  have hA25 : A[25]? = some (Value.slice none 0 0) := by
    have := cell_of h 25
    rw [hr] at this
    rw [← hA]; exact this.symm
  rw [hA] at hsz hone
  have HA25 := Lib.hid hA25
  have hpl := h.lt
  have h' : w.heap[p]? = some (.cells A 114) := by rw [← hA]; exact h
  have H := Lib.hid h'
  have HO := Lib.hid ho
  have HA := Lib.hid hA
  have HS := Lib.hid hsz
  have H1 := Lib.hid hone
  have Hi := Lib.hid hi
  have Hz0 := Lib.hid hz0
  have Hz1 := Lib.hid hz1
  have Hz2 := Lib.hid hz2
  clear hA25 h h' ho hA hsz hone hi hz0 hz1 hz2 hr
  go_enter Tryd.func111, Tryd.ntmps111
  go_wp2_with (first
    | (refine wpList_load_row rfl 114 _ rfl p rfl 114 A (0, 0) _ H.out rfl rfl (by rw [HS.out]; kernel_rfl) ?_)
    | (refine wpList_store_new rfl 114 _ _ rfl w.heap.size rfl A rfl 114 _ (new_at rfl rfl) (by rw [HS.out]; kernel_rfl) (by rw [HS.out]; kernel_rfl) H1.out ?_
       intro w1 hw1 hk1
       have hk2 : Below w.heap.size w w1 := (((Below.refl _ _).alloc (Nat.le_refl _) _).trans ((hk1.below (B := w.heap.size) (by simp) (fun k hk e => by have : k = w.heap.size := e; omega)).mono (Nat.le_refl _)))
       have hz1 := lt_of hw1
       rw [← HA.out] at hw1
       have hr1 := Spg.rest hw1
       have hq1 : w1.cell? ⟨p, 25, none⟩ = some (Value.slice none 0 0) := by rw [hk2.cell (p := ⟨p, 25, none⟩) hpl, cell_of H.out]; exact HA25.out
       have hf1 := Spg.f hw1 25
       have HW1 := Lib.hid hw1
       have HK1 := Lib.hid hk2
       clear hw1 hk1 hk2))
  go_ret
  refine ⟨rfl, .slice none 0 0, Spg.putRest HW1.out _, ?_, HK1.out.setCell (p := ⟨w.heap.size, 25, none⟩) (Nat.le_refl _) _⟩
  have hl0 : l = [] := by
    rcases HO.out.2 with ⟨_, h0⟩ | ⟨g, cap, cur, h0, _⟩
    · exact List.eq_nil_of_length_eq_zero h0
    · cases h0
  subst hl0
  exact World.ownsRow_nil _ _ _ _

set_option maxHeartbeats 2000000 in
set_option maxRecDepth 100000 in
theorem Clone_some (p : Nat) (st : Sha.St) (g c : Nat) (n base : Nat) (X : Array Value) (l : Bs) (w : World) (hX : X.size = 27) (hX1 : X.all (·.oneCell') = true) (hl : l.length < 136) (h : Spg 114 p st (spM (Value.slice (some ⟨g, 0, none⟩) l.length c) n X) w) (ho : w.ownsRow base 5 1 (Value.slice (some ⟨g, 0, none⟩) l.length c) l.length (vBs l)) (_ : p < base) :
    Calls Tryd.prog 111 #[.pointer (some ⟨p, 0, none⟩)] w (Cloned st n X l w) := by
  obtain ⟨i0, hi, hz0, hz1, hz2⟩ := info_parts Tryd.infoByte
  have hsz : (spA st (spM (Value.slice (some ⟨g, 0, none⟩) l.length c) n X)).size = 54 := by rw [spA_size, spM_size, hX]
  have hone : (spA st (spM (Value.slice (some ⟨g, 0, none⟩) l.length c) n X)).all (·.oneCell') = true := one_append (wA_one _ _) (one_append (by simp [Value.oneCell']) hX1)
  obtain ⟨A, hA⟩ : ∃ A, spA st (spM (Value.slice (some ⟨g, 0, none⟩) l.length c) n X) = A := ⟨_, rfl⟩
  have hr := h.rest
  have hA25 : A[25]? = some (Value.slice (some ⟨g, 0, none⟩) l.length c) := by
    have := cell_of h 25
    rw [hr] at this
    rw [← hA]; exact this.symm
  rw [hA] at hsz hone
  have HA25 := Lib.hid hA25
  have hpl := h.lt
  have h' : w.heap[p]? = some (.cells A 114) := by rw [← hA]; exact h
  have H := Lib.hid h'
  have HO := Lib.hid ho
  have HA := Lib.hid hA
  have HS := Lib.hid hsz
  have H1 := Lib.hid hone
  have Hi := Lib.hid hi
  have Hz0 := Lib.hid hz0
  have Hz1 := Lib.hid hz1
  have Hz2 := Lib.hid hz2
  clear hA25 h h' ho hA hsz hone hi hz0 hz1 hz2 hr
  go_enter Tryd.func111, Tryd.ntmps111
  go_wp2_with (first
    | (refine wpList_load_row rfl 114 _ rfl p rfl 114 A (0, 0) _ H.out rfl rfl (by rw [HS.out]; kernel_rfl) ?_)
    | (refine wpList_store_new rfl 114 _ _ rfl w.heap.size rfl A rfl 114 _ (new_at rfl rfl) (by rw [HS.out]; kernel_rfl) (by rw [HS.out]; kernel_rfl) H1.out ?_
       intro w1 hw1 hk1
       have hk2 : Below w.heap.size w w1 := (((Below.refl _ _).alloc (Nat.le_refl _) _).trans ((hk1.below (B := w.heap.size) (by simp) (fun k hk e => by have : k = w.heap.size := e; omega)).mono (Nat.le_refl _)))
       have hz1 := lt_of hw1
       rw [← HA.out] at hw1
       have hr1 := Spg.rest hw1
       have hq1 : w1.cell? ⟨p, 25, none⟩ = some (Value.slice (some ⟨g, 0, none⟩) l.length c) := by rw [hk2.cell (p := ⟨p, 25, none⟩) hpl, cell_of H.out]; exact HA25.out
       have hf1 := Spg.f hw1 25
       have HW1 := Lib.hid hw1
       have HK1 := Lib.hid hk2
       clear hw1 hk1 hk2)
    | (at_builtin
       refine wpList_append_own _ rfl _ _ 98 rfl (w.heap.size + 1) 5 i0 (.int .u8 0) 1 1 Tryd.underlying98 Hi.out Hz0.out Hz1.out Hz2.out rfl (by decide) (.slice none 0 0) 0 [] rfl (World.ownsRow_nil _ _ _ _) ⟨g, 0, none⟩ l.length c (vBs l) rfl (by rw [vBs_len]; omega) (row_at HO.out HK1.out) (vBs_one _) (by unfold maxLen; omega) (by omega) (by omega) ?_
       intro v3 w3 hown3 hgrow3 _
       have hS3 := Spg.grown HW1.out hgrow3 (by simp [Value.ownBlock])
       have hK3 := HK1.out.grown hgrow3 HK1.out.size (by simp [Value.ownBlock])
       rw [Nat.zero_add, List.nil_append] at hown3
       obtain ⟨a3, c3, rfl⟩ := own_form hown3
       have hr3 := hS3.rest
       have hf3 := hS3.f 25
       have hp3 := hS3.lt
       have HS3 := Lib.hid (hS3.putRest (.slice a3 l.length c3))
       have HK3 := Lib.hid (hK3.setCell (p := ⟨w.heap.size, 25, none⟩) (Nat.le_refl _) (.slice a3 l.length c3))
       have HO3 := Lib.hid (ownsRow_set hown3 (p := ⟨w.heap.size, 25, none⟩) (v' := .slice a3 l.length c3) (Nat.lt_succ_self _))
       clear hS3 hK3 hown3 hgrow3))
  go_ret
  exact ⟨rfl, _, HS3.out, HO3.out, HK3.out⟩

theorem Clone_any (p : Nat) (st : Sha.St) (rv : Value) (n base : Nat) (X : Array Value) (l : Bs) (w : World) (hX : X.size = 27) (hX1 : X.all (·.oneCell') = true) (hl : l.length < 136) (h : Spg 114 p st (spM rv n X) w) (ho : w.ownsRow base 5 1 rv l.length (vBs l)) (hp : p < base) :
    Calls Tryd.prog 111 #[.pointer (some ⟨p, 0, none⟩)] w (Cloned st n X l w) := by
  rcases id ho.2 with ⟨rfl, _⟩ | ⟨g, cap, cur, rfl, _⟩
  · exact Clone_nil p st n base X l w hX hX1 hl h ho hp
  · exact Clone_some p st g cap n base X l w hX hX1 hl h ho hp

end Go.Proofs.YtfklmjcjjdliiaaDoor
namespace Go.Proofs.YtfklmjcjjdliiaaDoor
open Go Go.RowKit Licit Licit.Sha

def sumX : Array Value := wA 25 st0 ++ #[.string (B []), .string (B [])]
theorem sumX_size : sumX.size = 27 := by unfold sumX; simp [wA_size]
theorem sumX_one : sumX.all (·.oneCell') = true := one_append (wA_one _ _) (by simp [Value.oneCell'])
theorem sumX_25 : sumX[25]? = some (.string (B [])) := by
  unfold sumX
  rw [Array.getElem?_append_right (by rw [wA_size]; omega), wA_size]
  rfl
theorem sumX_last : sumX[26]? = some (.string (B [])) := by
  unfold sumX
  rw [Array.getElem?_append_right (by rw [wA_size]; omega), wA_size]
  rfl

/-- What stays of the sponge while its last three fields are written. -/
structure SumG (p : Nat) (A : Array Value) (w0 w : World) : Prop where
  at0 : ∃ C, w.heap[p]? = some (.cells C 114 (0, 0)) ∧ C.size = 54 ∧ ∀ i, i < 26 → C[i]? = A[i]?
  rest : ∀ k, k < w0.heap.size → k ≠ p → w.heap[k]? = w0.heap[k]?
theorem SumG.drew {p : Nat} {A : Array Value} {w0 w : World} (h : SumG p A w0 w) : SumG p A w0 w.drew := ⟨h.at0, h.rest⟩
theorem SumG.set {p : Nat} {A : Array Value} {w0 w : World} (h : SumG p A w0 w) {i : Nat} (hi : 26 ≤ i) (v : Value) : SumG p A w0 (w.setCell ⟨p, i, none⟩ v) := by
  obtain ⟨C, h1, h2, h3⟩ := h.at0
  exact ⟨⟨_, set_of h1 i v, by simp [h2], fun j hj => by rw [Array.getElem?_setIfInBounds_ne (by omega)]; exact h3 j hj⟩, fun k hk hn => by rw [Below.heap_setCell _ _ _ _ hn]; exact h.rest k hk hn⟩
theorem SumG.sets {p : Nat} {A : Array Value} {w0 : World} : ∀ (vs : List Value) {i : Nat} {w : World}, 26 ≤ i → SumG p A w0 w → SumG p A w0 (w.setCells p i vs)
  | [], _, _, _, h => h
  | v :: r, i, w, hi, h => by
    rw [World.setCells]
    exact SumG.sets r (by omega) (h.set hi v)
theorem SumG.cell {p : Nat} {A : Array Value} {w0 w : World} (h : SumG p A w0 w) {i : Nat} (hi : i < 26) : w.cell? ⟨p, i, none⟩ = A[i]? := by
  obtain ⟨C, h1, h2, h3⟩ := h.at0
  rw [cell_of h1, h3 i hi]
theorem SumG.there {p : Nat} {A : Array Value} {w0 w : World} (h : SumG p A w0 w) (o n : Nat) (hn : o + n ≤ 54) : w.there p o n := by
  obtain ⟨C, h1, h2, h3⟩ := h.at0
  exact there_of h1 o n (by omega)
theorem SumG.range {p : Nat} {st : Sha.St} {M : Array Value} {w0 w : World} (h : SumG p (spA st M) w0 w) : w.rangeAt p 0 (wA 25 st).toList := by
  obtain ⟨C, h1, h2, h3⟩ := h.at0
  refine range_of h1 0 _ fun i hi => ?_
  rw [wA_len] at hi
  rw [Nat.zero_add, h3 i (by omega), spA_at hi, Array.getElem?_toList, wA_at st hi]

set_option maxHeartbeats 2000000 in
set_option maxRecDepth 100000 in
theorem SumM_any (p : Nat) (st : Sha.St) (rv : Value) (n base : Nat) (l : Bs) (w : World) (hl : l.length < 136) (h : Spg 114 p st (spM rv n sumX) w) (ho : w.ownsRow base 5 1 rv l.length (vBs l)) (hp : p < base) (_ : base ≤ w.heap.size) :
    Calls Tryd.prog 101 #[.pointer (some ⟨p, 0, none⟩)] w fun e w' => e = .returned (.string (B (outB (fin st l)))) ∧ Kept (One p) w w' := by
  obtain ⟨i0, hi, hz0, hz1, hz2⟩ := info_parts Tryd.infoByte
  have h53 : w.cell? ⟨p, 53, none⟩ = some (.string (B [])) := by
    have := h.more 28
    rw [this]
    unfold spM
    rw [Array.getElem?_append_right (by simp)]
    exact sumX_last
  have hpl := h.lt
  have hq := Lib.hid (fun w => Clone_any p st rv n base sumX l w sumX_size sumX_one hl)
  have H := Lib.hid h
  have HO := Lib.hid ho
  have Hi := Lib.hid hi
  have Hz0 := Lib.hid hz0
  have Hz1 := Lib.hid hz1
  have Hz2 := Lib.hid hz2
  have hB0 : (!(B []).toList.isEmpty) = false := by rw [ByteArray.toList_eq]; rfl
  clear h ho hi hz0 hz1 hz2
  go_enter Tryd.func101, Tryd.ntmps101
  go_wp2
  go_quiet (fail)
  go_wp2_with fail
  refine (hq.out (w.drewN nq) H.out HO.out hp).mono ?_
  rintro e w1 ⟨rfl, rv2, hS1, hO1, hb1'⟩
  have hb1 : Below w.heap.size w w1 := ⟨hb1'.os, hb1'.tape, hb1'.output, hb1'.size, hb1'.block⟩
  have hS1 : Spg 114 w.heap.size st (spM rv2 n sumX) w1 := hS1
  have hO1 : w1.ownsRow (w.heap.size + 1) 5 1 rv2 l.length (vBs l) := hO1
  have hsz1 := hS1.lt
  have HB1 := Lib.hid hb1
  have HS1 := Lib.hid hS1
  have HO1 := Lib.hid hO1
  obtain ⟨a2, c2, rfl⟩ := own_form hO1
  have hr1 := hS1.rest
  clear hb1 hb1' hS1 hO1
  have hpos : 0 < l.length → ∃ g, a2 = some ⟨g, 0, none⟩ ∧ ∀ j v, (vBs l)[j]? = some v → w1.cell? ((⟨g, 0, none⟩ : Addr).add j) = some v := by
    intro h0
    obtain ⟨g, cap, h1, _⟩ := own_some HO1.out h0
    simp only [Value.slice.injEq] at h1
    obtain ⟨rfl, _, rfl⟩ := h1
    exact ⟨g, rfl, HO1.out.cells (g := g) rfl⟩
  have HPos := Lib.hid hpos
  clear hpos
  go_wp2_with (first
    | (at_make
       go_loud (
       refine wpList_make_full _ rfl _ _ 98 rfl (w1.heap.size) 5 i0 (.int .u8 0) 1 Tryd.underlying98 Hi.out Hz0.out Hz1.out _ _ _ _ 136 rfl rfl rfl rfl (by rw [Hz2.out]; omega) (by decide) (Nat.le_refl _) ?_
       intro w2 hown2 hgrow2
       have hk2 : Below w1.heap.size w1 w2 := (Below.refl _ _).grown hgrow2 (Nat.le_refl _) (by simp)
       have hg2 := own_full hown2
       rw [show (madeCells (Value.int IntKind.u8 0).cells (136 * 1)).toList = vBs (List.replicate 136 0) from vBs_zero 136] at hg2
       have hr2 : w2.cell? ⟨w.heap.size, 25, none⟩ = some (.slice a2 l.length c2) := by rw [hk2.cell (p := ⟨w.heap.size, 25, none⟩) hsz1]; exact hr1
       have hpos2 : 0 < (vBs l).length → ∃ ad, a2 = some ad ∧ ∀ j v, (vBs l)[j]? = some v → w2.cell? (ad.add j) = some v := by
         intro h0
         rw [vBs_len] at h0
         obtain ⟨g, h1, h2⟩ := HPos.out h0
         refine ⟨_, h1, fun j v hv => ?_⟩
         have h3 := h2 j v hv
         have e : (⟨g, 0, none⟩ : Addr).add j = ⟨g, j, none⟩ := by unfold Addr.add; split <;> simp_all
         rw [e] at h3 ⊢
         rw [hk2.cell (p := ⟨g, j, none⟩) (World.block_lt_of_cell? w1 _ h3)]
         exact h3
       have HG2 := Lib.hid hg2
       have HK2 := Lib.hid hk2
       have HP2 := Lib.hid hpos2
       clear hown2 hgrow2 hk2 hg2 hpos2))
    | (with_reducible refine wpList_copy_splice rfl _ _ 98 98 rfl 5 Tryd.underlying98 (by kernel_rfl) _ _ _ _ _ _ rfl rfl w1.heap.size 0 (vBs (List.replicate 136 0)) 5 HG2.out (vBs l) (by rw [vBs_len]; exact (Nat.min_eq_left (by omega)).symm) (fun h => ⟨rfl, HP2.out h⟩) (by rw [vBs_len, vBs_len, List.length_replicate]; omega) (vBs_one l) w1.heap.size w1 HK2.out (Nat.le_refl _) ?_
       go_loud (
       intro w3 hg3 hk3
       have hg3 := hg3.out
       rw [vBs_splice] at hg3
       have hr3 : w3.cell? ⟨w.heap.size, 25, none⟩ = some (.slice a2 l.length c2) := by rw [hk3.cell (p := ⟨w.heap.size, 25, none⟩) hsz1]; exact hr1
       have HG3 := Lib.hid hg3
       have HK3 := Lib.hid hk3
       clear hg3 hk3 hr2))
    | (refine wpList_store_one rfl 5 _ _ rfl w1.heap.size l.length rfl (.int .u8 6) rfl rfl rfl _ _ HG3.out (by simp [vBs]; omega) (by kernel_rfl) ?_
       go_loud (
       intro w4 hg4 hk4
       rw [show Value.int .u8 6 = vB 6 from rfl, vBs_set] at hg4
       have hg4 : w4.heap[w1.heap.size]? = some (.cells (vBs (lastL l)).toArray 5) := hg4
       have hk34 := HK3.out.trans (hk4.below (Nat.le_of_lt (lt_of HG3.out)) (fun k hk e => by have : k = w1.heap.size := e; omega))
       have hc4 : w4.cell? ⟨w1.heap.size, 135, none⟩ = some (.int .u8 (((lastL l).getD 135 0).toNat : Int)) := by rw [cell_of hg4]; simp; exact vBs_at _ (by rw [lastL_len hl]; omega)
       have hf4 := free_of hg4 135
       have hx := bxor8 ((lastL l).getD 135 0) 128
       have HX := Lib.hid hx
       clear hx
       have HG4 := Lib.hid hg4
       have HK4 := Lib.hid hk34
       clear hg4 hk4 hk34))
    | (refine wpList_store_one rfl 5 _ _ rfl w1.heap.size 135 rfl (vB ((lastL l).getD 135 0 ^^^ 128)) (congrArg (Value.int .u8) HX.out) rfl rfl _ _ HG4.out (by simp [vBs, lastL_len hl]) (by kernel_rfl) ?_
       go_loud (
       intro w5 hg5 hk5
       rw [vBs_set] at hg5
       have hk5 := HK4.out.trans (hk5.below (Nat.le_of_lt (lt_of HG4.out)) (fun k hk e => by have : k = w1.heap.size := e; omega))
       have HS5 := Lib.hid (HS1.out.below hk5)
       have ha := absorb_any w.heap.size _ _ w1.heap.size 0 136 ((lastL l).set 135 ((lastL l).getD 135 0 ^^^ 128)) w5 (by rw [spM_size, sumX_size]) HS5.out (by omega) (fun i hi => by
         rw [Nat.zero_add, cell_of hg5, List.getElem?_toArray]
         exact vBs_at _ (by rw [List.length_set, lastL_len hl]; exact hi))
       rw [take1_congr st (lastL_pad hl)] at ha
       have HA := Lib.hid ha
       have HK5 := Lib.hid hk5
       have hz5 := hk5.size
       clear hg5 hk5 ha))
    | (go_at_call 110
       refine HA.out.mono ?_
       go_loud (
       rintro e w6 ⟨⟨v6, rfl⟩, hS6, hK6⟩
       have hk6 : Below w.heap.size w w6 := HB1.out.trans ((HK5.out.mono (Nat.le_of_lt hsz1)).trans (hK6.below (by omega) (fun k hk e => by have : k = w.heap.size := e; omega)))
       have hz6 := hS6.lt
       have HS6 := Lib.hid hS6
       have HK6 := Lib.hid hk6
       clear hS6 hK6 hk6))
    | (at_make
       go_loud (
       refine wpList_make_full _ rfl _ _ 98 rfl (w6.heap.size) 5 i0 (.int .u8 0) 1 Tryd.underlying98 Hi.out Hz0.out Hz1.out _ _ _ _ 32 rfl rfl rfl rfl (by rw [Hz2.out]; omega) (by decide) (Nat.le_refl _) ?_
       intro w7 hown7 hgrow7
       have hk7 : Below w6.heap.size w6 w7 := (Below.refl _ _).grown hgrow7 (Nat.le_refl _) (by simp)
       have hg7 := own_full hown7
       rw [show (madeCells (Value.int IntKind.u8 0).cells (32 * 1)).toList = vBs (List.replicate 32 0) from vBs_zero 32, ← outK_zero (fin st l)] at hg7
       have HG7 := Lib.hid hg7
       have HS7 := Lib.hid (HS6.out.below hk7)
       have HK7 := Lib.hid (HK6.out.trans (hk7.mono (Nat.le_of_lt hz6)))
       clear hown7 hgrow7 hk7 hg7)))
  go_loopw [66] (fun i wr => ∃ k : Nat, k ≤ 32 ∧ i = .int .i64 k ∧ wr.heap[w6.heap.size]? = some (.cells (vBs (outK (fin st l) k)).toArray 5) ∧ Spg 114 w.heap.size (fin st l) (spM (.slice a2 l.length c2) n sumX) wr ∧ Below w.heap.size w wr) (fun i _ => 32 - (intOf i).toNat)
  case atStart => exact ⟨0, by omega, rfl, HG7.out, HS7.out, HK7.out⟩
  case round =>
    obtain ⟨k, hk, rfl, hg, hS, hB⟩ := hrel
    by_cases hlt : k < 32
    · obtain ⟨Q, hQ⟩ : ∃ Q, k / 8 = Q := ⟨_, rfl⟩
      obtain ⟨R, hR⟩ : ∃ R, k % 8 = R := ⟨_, rfl⟩
      obtain ⟨N, hN⟩ : ∃ N, 8 * R = N := ⟨_, rfl⟩
      have hq : (k : Int).tdiv 8 = (Q : Int) := by rw [← hQ]; rfl
      have hq' : (k : Int) / 8 = (Q : Int) := by rw [← hQ]; rfl
      have hr : (k : Int).tmod 8 = (R : Int) := by rw [← hR]; rfl
      have hr' : (k : Int) % 8 = (R : Int) := by rw [← hR]; rfl
      have hn : 8 * (R : Int) = (N : Int) := by omega
      have hQi : (Q : Int) < 25 := by omega
      have hNi : (N : Int) < 64 := by omega
      have hw := hS.word (i := Q) (by omega)
      have hb := byteAt_val (fin st l) k
      rw [hQ, hR, hN] at hb
      have hsh := bshr (fin st l Q) N
      obtain ⟨V, hV⟩ : ∃ V, (fin st l Q) >>> N = V := ⟨_, rfl⟩
      rw [hV] at hb hsh
      have HBV := Lib.hid hb
      have HS := Lib.hid hS
      have HG := Lib.hid hg
      have HB := Lib.hid hB
      clear hg hS hB hQ hR hN hV hb
      go_wp2_with (first
        | (refine wpList_store_one rfl 5 _ _ rfl w6.heap.size k rfl (vB (byteAt (fin st l) k)) (congrArg (Value.int .u8) HBV.out) rfl rfl _ _ HG.out (by simp [vBs, outK_len]; omega) (by kernel_rfl) ?_
           intro w8 hg8 hk8
           rw [vBs_set, outK_step _ _ hlt] at hg8
           have HG8 := Lib.hid hg8
           have HS8 := Lib.hid (HS.out.kept hk8 (fun e => by have : w.heap.size = w6.heap.size := e; omega))
           have HB8 := Lib.hid (HB.out.trans (hk8.below HB.out.size (fun k hk e => by have : k = w6.heap.size := e; omega)))
           clear hg8 hk8))
      go_roundw
      case rel => exact ⟨k + 1, by omega, by go_num, HG8.out, HS8.out, HB8.out⟩
      case measure => simp [intOf]; omega
    · obtain rfl : k = 32 := by omega
      rw [outK_end] at hg
      have hlen : (outB (fin st l)).length = 32 := by simp [outB]
      have hP := H.out.below hB
      have hG0 : SumG p (spA st (spM rv n sumX)) wr wr := ⟨⟨_, hP, by rw [spA_size, spM_size, sumX_size], fun _ _ => rfl⟩, fun _ _ _ => rfl⟩
      have hg2 : p ≠ w6.heap.size := by omega
      have hkeep : ∀ W, SumG p (spA st (spM rv n sumX)) wr W → W.rangeAt p 0 (wA 25 st).toList ∧ W.cell? ⟨p, 25, none⟩ = some rv ∧ (convert 98 9 rv).run Tryd.prog W = .ok (.string (B l)) W ∧ (convert 98 9 (.slice (some ⟨w6.heap.size, 0, none⟩) 32 32)).run Tryd.prog W = .ok (.string (B (outB (fin st l)))) W ∧ W.there p 27 25 := by
        intro W hW
        refine ⟨hW.range, ?_, ?_, ?_, hW.there _ _ (by decide)⟩
        · rw [hW.cell (by decide)]
          have := hP.rest
          rw [cell_of hP] at this
          exact this
        · exact own_string (P := Tryd.prog) Tryd.underlying98 Tryd.underlying5 Tryd.underlying9 (ownsRow_block HO.out (fun k hk hk2 => (hW.rest k (Nat.lt_of_lt_of_le hk2 hB.size) (by omega)).trans (hB.block k hk2)))
        · have := block_string (P := Tryd.prog) (src := 98) (dst := 9) (cap := 32) (w := W) Tryd.underlying98 Tryd.underlying5 Tryd.underlying9 ((hW.rest _ (lt_of hg) (Ne.symm hg2)).trans hg)
          rw [hlen] at this
          exact this
      have HP := Lib.hid hP
      have HG0 := Lib.hid hG0
      have HKeep := Lib.hid hkeep
      have HG := Lib.hid hg
      have HB := Lib.hid hB
      have HL := Lib.hid hlen
      have hu78 := Tryd.underlying99
      have hi78 : (Tryd.prog.info? 99).map (·.size) = some (wA 25 st).toList.length := by rw [wA_len]; kernel_rfl
      have hn78 : (wA 25 st).toList.length = 25 := wA_len 25 st
      have ho78 : ∀ v ∈ (wA 25 st).toList, v.oneCell' = true := fun v hv => Array.all_eq_true'.1 (wA_one 25 st) v (by simpa using hv)
      clear hP hg hS hB hlen hG0 hkeep
      obtain ⟨L25, hL25⟩ : ∃ L, (wA 25 st).toList = L := ⟨_, rfl⟩
      rw [hL25] at HKeep hi78 hn78 ho78
      have HL25 := Lib.hid hL25
      clear hL25
      go_wp2
      have hq52 : (wr.drew.setCells p 27 L25).cell? ⟨p, 52, none⟩ = some (.string (B [])) := by
        rw [World.cell?_setCells_out p L25 27 _ _ (fun _ _ => .inr (by show 27 + L25.length ≤ 52; omega))]
        have := HP.out.more 27
        show wr.cell? ⟨p, 52, none⟩ = _
        rw [this]
        unfold spM
        rw [Array.getElem?_append_right (by simp)]
        exact sumX_25
      have hq53 : (wr.drew.setCells p 27 L25).cell? ⟨p, 53, none⟩ = some (.string (B [])) := by
        rw [World.cell?_setCells_out p L25 27 _ _ (fun _ _ => .inr (by show 27 + L25.length ≤ 53; omega))]
        have := HP.out.more 28
        show wr.cell? ⟨p, 53, none⟩ = _
        rw [this]
        unfold spM
        rw [Array.getElem?_append_right (by simp)]
        exact sumX_last
      have hfz : ∀ i, (wr.drew.setCells p 27 L25).frozen? ⟨p, i, none⟩ = false := by
        intro i
        rw [World.frozen?_setCells]
        exact HP.out.f i
      have hfz52 := hfz 52
      have hfz53 := hfz 53
      clear hfz
      go_region_held3 (fun W => W.rangeAt p 0 L25 ∧ W.cell? ⟨p, 25, none⟩ = some rv ∧ (convert 98 9 rv).run Tryd.prog W = .ok (.string (B l)) W ∧ (convert 98 9 (.slice (some ⟨w6.heap.size, 0, none⟩) 32 32)).run Tryd.prog W = .ok (.string (B (outB (fin st l)))) W ∧ W.there p 27 25)
        (exact HKeep.out _ (by repeat (first | exact HG0.out | refine SumG.sets _ (by decide) ?_ | refine SumG.set ?_ (by decide) _ | refine SumG.drew ?_)))
        (fail)
      all_goals
        go_wp2
        go_ret
        refine ⟨rfl, ?_⟩
        have hk0 : Kept (One p) w wr.drew := (Kept.of_below HB.out).drew
        have hk1 : Kept (One p) w (wr.drew.setCells p 27 L25) := kept_setCells _ _ _ _ hk0 (.inr rfl)
        exact (hk1.setCell (p := ⟨p, 52, none⟩) (.inr rfl) _).setCell (p := ⟨p, 53, none⟩) (.inr rfl) _

end Go.Proofs.YtfklmjcjjdliiaaDoor
namespace Go.Proofs.YtfklmjcjjdliiaaDoor
open Go Go.RowKit Licit Licit.Sha

theorem newSp_eq : (#[Value.int .u64 0, .int .u64 0, .int .u64 0, .int .u64 0, .int .u64 0, .int .u64 0, .int .u64 0, .int .u64 0, .int .u64 0, .int .u64 0, .int .u64 0, .int .u64 0, .int .u64 0, .int .u64 0, .int .u64 0, .int .u64 0, .int .u64 0, .int .u64 0, .int .u64 0, .int .u64 0, .int .u64 0, .int .u64 0, .int .u64 0, .int .u64 0, .int .u64 0, .slice none 0 0, .int .i64 0, .int .u64 0, .int .u64 0, .int .u64 0, .int .u64 0, .int .u64 0, .int .u64 0, .int .u64 0, .int .u64 0, .int .u64 0, .int .u64 0, .int .u64 0, .int .u64 0, .int .u64 0, .int .u64 0, .int .u64 0, .int .u64 0, .int .u64 0, .int .u64 0, .int .u64 0, .int .u64 0, .int .u64 0, .int .u64 0, .int .u64 0, .int .u64 0, .int .u64 0, .string ⟨#[]⟩, .string ⟨#[]⟩] : Array Value) = spA st0 (spM (.slice none 0 0) 0 sumX) := by kernel_rfl

set_option maxRecDepth 100000 in
theorem New_any (w : World) :
    Calls Tryd.prog 99 #[] w fun e w' => e = .returned (.pointer (some ⟨w.heap.size, 0, none⟩)) ∧ Spg 114 w.heap.size st0 (spM (.slice none 0 0) 0 sumX) w' ∧ Below w.heap.size w w' := by
  go_enter Tryd.func99, Tryd.ntmps99
  go_wp2
  go_ret
  refine ⟨rfl, ?_, (Below.refl _ _).alloc (Nat.le_refl _) _⟩
  exact new_at rfl (congrArg (fun c => Obj.cells c 114 (0, 0)) newSp_eq)

set_option maxRecDepth 100000 in
theorem DSum_any (l : Bs) (w : World) (hl : l.length ≤ 1000000000000) :
    Calls Tryd.prog 78 #[.string (B l)] w fun e w' => e = .returned (.string (B (sha l))) ∧ Below w.heap.size w w' := by
  obtain ⟨R, hR⟩ : ∃ R, sha l = R := ⟨_, rfl⟩
  rw [hR]
  have HR := Lib.hid hR
  clear hR
  go_enter Tryd.func78, Tryd.ntmps78
  go_wp2_with (go_at_call 99; refine (New_any _).mono ?_; rintro e w1 ⟨rfl, hS1, hb1⟩; have hz1 := hS1.lt; have HS1 := Lib.hid hS1; have HB1 := Lib.hid hb1; clear hS1 hb1)
  have hS2 : Spg 114 w.heap.size st0 (spM (.slice none 0 0) 0 sumX) (w1.alloc (.cells #[.string (B l)] 9)) := old_of HS1.out
  refine (Write_any w.heap.size w1.heap.size sumX l (w1.alloc (.cells #[.string (B l)] 9)) hl sumX_size (cell1a _ _) hS2).mono ?_
  rintro e w3 ⟨⟨v3, rfl⟩, rv, hS3, hO3, hK3⟩
  have hz3 := hS3.lt
  have hk3 : Below w.heap.size w w3 := (HB1.out.trans (((Below.refl _ _).alloc (Nat.le_refl _) _).mono (Nat.le_of_lt hz1))).trans (hK3.below (by simp; omega) (fun k hk e => by have : k = w.heap.size := e; omega))
  have hsz3 := hK3.size
  have HS3 := Lib.hid hS3
  have HO3 := Lib.hid hO3
  have HK3 := Lib.hid hk3
  have hr : (l.drop (136 * (l.length / 136))).length < 136 := by simp; omega
  clear hS2 hS3 hO3 hK3 hk3
  go_wp2_with fail
  refine (SumM_any w.heap.size _ rv l.length _ _ w3 hr HS3.out HO3.out (by simp; omega) hsz3).mono ?_
  rintro e w4 ⟨rfl, hk4⟩
  have HK4 := Lib.hid (HK3.out.trans (hk4.below (Nat.le_of_lt hz3) (fun k hk e => by have : k = w.heap.size := e; omega)))
  clear hk4
  go_wp2
  go_ret
  exact ⟨congrArg (fun x => Ending.returned (.string (B x))) HR.out, HK4.out⟩

end Go.Proofs.YtfklmjcjjdliiaaDoor
