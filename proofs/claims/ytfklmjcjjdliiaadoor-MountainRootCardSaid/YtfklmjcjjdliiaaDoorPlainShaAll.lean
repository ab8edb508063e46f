/- SHA3-256 as plain functions on words of 64 bits: rotation, round, permutation, absorbing, the digest. What the loops of a round hold after some turns; plain. What the loops of the reference's round hold after some turns; plain. SHA3-256 of a list of bytes: the blocks of the program and of the reference lead to one state; plain. -/
import Derived.WalkKit
import Derived.Laws.BitsAllLaws
import Derived.Laws.Bits64
import Derived.Test.YtfklmjcjjdliiaaDoorFrmAll
namespace Licit.Sha
open Go

abbrev W64 := BitVec 64
abbrev St := Nat → W64

def rot (w : W64) (n : Nat) : W64 := (w <<< n) ||| (w >>> (64 - n))
def offs : List Nat := [0, 1, 62, 28, 27, 36, 44, 6, 55, 20, 3, 10, 43, 25, 39, 41, 45, 15, 21, 8, 18, 2, 61, 56, 14]
def off (i : Nat) : Nat := offs.getD i 0
def cons : List Nat := [1, 32898, 9223372036854808714, 9223372039002292224, 32907, 2147483649, 9223372039002292353, 9223372036854808585, 138, 136, 2147516425, 2147483658, 2147516555, 9223372036854775947, 9223372036854808713, 9223372036854808579, 9223372036854808578, 9223372036854775936, 32778, 9223372039002259466, 9223372039002292353, 9223372036854808704, 2147483649, 9223372039002292232]
def con (i : Nat) : W64 := BitVec.ofNat 64 (cons.getD i 0)

def upd (f : St) (i : Nat) (v : W64) : St := fun j => if j = i then v else f j

def sum5 (s : St) (x : Nat) : W64 := s x ^^^ s (x + 5) ^^^ s (x + 10) ^^^ s (x + 15) ^^^ s (x + 20)
def dif (s : St) (x : Nat) : W64 := sum5 s ((x + 4) % 5) ^^^ rot (sum5 s ((x + 1) % 5)) 1
def mvAt (s : St) (i : Nat) : W64 := rot (s i ^^^ dif s (i % 5)) (off i)
/-- From which place the word at a place comes. -/
def src (p : Nat) : Nat := (3 * (p / 5) + p % 5) % 5 + 5 * (p % 5)
def mv (s : St) (p : Nat) : W64 := mvAt s (src p)
def chi (t : St) (p : Nat) : W64 := t p ^^^ (~~~ t (p - p % 5 + (p + 1) % 5) &&& t (p - p % 5 + (p + 2) % 5))
def rnd (s : St) (c : W64) : St := upd (chi (mv s)) 0 (chi (mv s) 0 ^^^ c)
def rnds (s : St) : Nat → St
  | 0 => s
  | k + 1 => rnd (rnds s k) (con k)
def perm (s : St) : St := rnds s 24

/-- The state with the first k bytes of a block in it. -/
def xorB (b : Nat → UInt8) (s : St) : Nat → St
  | 0 => s
  | k + 1 => upd (xorB b s k) (k / 8) (xorB b s k (k / 8) ^^^ (BitVec.ofNat 64 (b k).toNat <<< (8 * (k % 8))))
def take1 (s : St) (l : List UInt8) : St := perm (xorB (fun i => l.getD i 0) s 136)

/-- The value of a word, of a list of words. -/
abbrev vW (x : W64) : Value := .int .u64 (x.toNat : Int)
def wA (n : Nat) (f : St) : Array Value := ((List.range n).map (fun i => vW (f i))).toArray

theorem wA_size (n : Nat) (f : St) : (wA n f).size = n := by simp [wA]
theorem wA_at {n : Nat} (f : St) {i : Nat} (h : i < n) : (wA n f)[i]? = some (vW (f i)) := by simp [wA, h]
theorem wA_ext {n : Nat} {f g : St} (h : ∀ i, i < n → f i = g i) : wA n f = wA n g := by
  unfold wA
  congr 1
  refine List.map_congr_left fun i hi => ?_
  rw [h i (List.mem_range.1 hi)]
theorem wA_set {n : Nat} (f : St) {i : Nat} (v : W64) : (wA n f).setIfInBounds i (vW v) = wA n (upd f i v) := by
  apply Array.ext_getElem?
  intro j
  by_cases hj : j < n
  · rw [wA_at _ hj, Array.getElem?_setIfInBounds, wA_size]
    unfold upd
    by_cases h : i = j
    · subst h; simp [hj]
    · have h' : ¬ j = i := fun e => h e.symm
      simp [h, h', wA_at f hj]
  · rw [Array.getElem?_eq_none (by rw [Array.size_setIfInBounds, wA_size]; omega), Array.getElem?_eq_none (by rw [wA_size]; omega)]

theorem lt64 (x : W64) : (x.toNat : Int) < 18446744073709551616 := by have := x.isLt; omega
theorem bxor (x y : W64) : bits .xor .u64 (x.toNat : Int) (y.toNat : Int) = ((x ^^^ y).toNat : Int) := by
  rw [u64_xor_nat _ _ x.isLt y.isLt, BitVec.toNat_xor]
theorem band (x y : W64) : bits .and .u64 (x.toNat : Int) (y.toNat : Int) = ((x &&& y).toNat : Int) := by
  rw [u64_and_nat _ _ x.isLt y.isLt, BitVec.toNat_and]
theorem bor (x y : W64) : bits .or .u64 (x.toNat : Int) (y.toNat : Int) = ((x ||| y).toNat : Int) := by
  rw [u64_or_nat _ _ x.isLt y.isLt, BitVec.toNat_or]
theorem bshl (x : W64) (n : Nat) : IntKind.u64.wrap ((x.toNat : Int) * 2 ^ n) = ((x <<< n).toNat : Int) := by
  rw [IntKind.wrap_u64, BitVec.toNat_shiftLeft, Nat.shiftLeft_eq, Int.natCast_emod, Int.natCast_mul, Int.natCast_pow]
  rfl
theorem bshr (x : W64) (n : Nat) : (x.toNat : Int) / 2 ^ n = ((x >>> n).toNat : Int) := by
  rw [BitVec.toNat_ushiftRight, Nat.shiftRight_eq_div_pow, Int.natCast_ediv, Int.natCast_pow]
  rfl
theorem brot (x : W64) (n : Nat) : bits .or .u64 (IntKind.u64.wrap ((x.toNat : Int) * 2 ^ n)) ((x.toNat : Int) / 2 ^ (64 - n)) = ((rot x n).toNat : Int) := by
  rw [bshl, bshr, bor]
  rfl
theorem bnot (x : W64) : bits .xor .u64 IntKind.u64.max (x.toNat : Int) = ((~~~ x).toNat : Int) := by
  have h := bxor (BitVec.allOnes 64) x
  rw [BitVec.allOnes_xor] at h
  exact h
theorem band63 (n : Nat) (h : n < 64) : bits .and .u64 (n : Int) 63 = (n : Int) := by
  have := u64_and_nat n 63 (by omega) (by omega)
  rw [show ((63 : Nat) : Int) = 63 from rfl] at this
  rw [this, show (63 : Nat) = 2 ^ 6 - 1 from rfl, Nat.and_two_pow_sub_one_eq_mod, Nat.mod_eq_of_lt (by omega)]

end Licit.Sha
namespace Licit.Sha

theorem upd_same (f : St) (i : Nat) (v : W64) : upd f i v i = v := by simp [upd]
theorem upd_ne (f : St) {i j : Nat} (v : W64) (h : j ≠ i) : upd f i v j = f j := by simp [upd, h]

theorem off_lt (i : Nat) : off i < 64 := by
  by_cases h : i < 25
  · have : ∀ i, i < 25 → off i < 64 := by decide
    exact this i h
  · unfold off
    rw [List.getD_eq_getElem?_getD, List.getElem?_eq_none (by simp [offs]; omega)]
    decide
/-- The five sums after k words. -/
def cK (s : St) : Nat → St
  | 0 => fun _ => 0
  | k + 1 => upd (cK s k) (k % 5) (cK s k (k % 5) ^^^ s k)
theorem cK_end (s : St) (x : Nat) (h : x < 5) : cK s 25 x = sum5 s x := by
  have h' : x = 0 ∨ x = 1 ∨ x = 2 ∨ x = 3 ∨ x = 4 := by omega
  rcases h' with rfl | rfl | rfl | rfl | rfl <;> simp [cK, upd, sum5]

/-- The places of the moved words. -/
def dst (i : Nat) : Nat := i / 5 + 5 * ((2 * (i % 5) + 3 * (i / 5)) % 5)
theorem dst_lt (i : Nat) (h : i < 25) : dst i < 25 := by unfold dst; omega
theorem src_lt (p : Nat) : src p < 25 := by unfold src; omega
theorem src_dst : ∀ i, i < 25 → src (dst i) = i := by decide
theorem dst_src : ∀ p, p < 25 → dst (src p) = p := by decide
/-- The moved words after i words. -/
def mK (s : St) (i : Nat) : St := fun p => if src p < i then mv s p else 0
theorem mK_zero (s : St) : mK s 0 = fun _ => 0 := by funext p; simp [mK]
theorem mK_step (s : St) (i : Nat) (h : i < 25) : ∀ p, p < 25 → upd (mK s i) (dst i) (mvAt s i) p = mK s (i + 1) p := by
  intro p hp
  unfold upd
  split
  · rename_i e
    subst e
    simp [mK, src_dst i h, mv]
  · rename_i e
    have hne : src p ≠ i := fun c => e (by rw [← c, dst_src p hp])
    unfold mK
    by_cases hlt : src p < i
    · simp [hlt, show src p < i + 1 by omega]
    · simp [hlt, show ¬ src p < i + 1 by omega]
theorem mK_end (s : St) (p : Nat) : mK s 25 p = mv s p := by simp [mK, src_lt p]

/-- The words after i of the last step. -/
def oK (t s : St) (i : Nat) : St := fun p => if p < i then chi t p else s p
theorem oK_zero (t s : St) : oK t s 0 = s := by funext p; simp [oK]
theorem oK_step (t s : St) (i : Nat) : upd (oK t s i) i (chi t i) = oK t s (i + 1) := by
  funext p
  unfold upd oK
  by_cases h : p = i
  · subst h; simp
  · by_cases hlt : p < i
    · simp [h, hlt, show p < i + 1 by omega]
    · simp [h, hlt, show ¬ p < i + 1 by omega]
theorem oK_end (t s : St) (p : Nat) (h : p < 25) : oK t s 25 p = chi t p := by simp [oK, h]
theorem rnd_end (s z : St) (c : W64) : ∀ p, p < 25 → upd (oK (mv s) z 25) 0 (oK (mv s) z 25 0 ^^^ c) p = rnd s c p := by
  intro p hp
  unfold rnd upd
  rw [oK_end _ _ 0 (by omega)]
  split
  · rfl
  · rw [oK_end _ _ p hp]

open Go in
theorem wA_one (n : Nat) (f : St) : (wA n f).all (·.oneCell') = true := by
  rw [Array.all_eq_true]
  intro i hi
  rw [wA_size] at hi
  have h := wA_at f hi
  rw [Array.getElem?_eq_getElem (by rw [wA_size]; exact hi)] at h
  rw [Option.some.inj h]
  rfl
open Go in
theorem set_row {w : World} {b n : Nat} {f : St} {T : TypeId} {fr : Nat × Nat} (h : w.heap[b]? = some (.cells (wA n f) T fr)) (i : Nat) (v : W64) :
    (w.setCell ⟨b, i, none⟩ (vW v)).heap[b]? = some (.cells (wA n (upd f i v)) T fr) := by
  rw [Licit.set_of h i (vW v), wA_set]
open Go in
theorem row_ext {w : World} {b n : Nat} {f g : St} {T : TypeId} {fr : Nat × Nat} (h : w.heap[b]? = some (.cells (wA n f) T fr)) (e : ∀ i, i < n → f i = g i) :
    w.heap[b]? = some (.cells (wA n g) T fr) := by rw [← wA_ext e]; exact h

end Licit.Sha
namespace Licit.Sha
open Licit

def sK (s : St) (k : Nat) : St := fun i => if i < k then sum5 s i else 0
theorem sK_zero (s : St) : sK s 0 = fun _ => 0 := by funext p; simp [sK]
theorem sK_step (s : St) (k : Nat) : upd (sK s k) k (sum5 s k) = sK s (k + 1) := by
  funext p
  unfold upd sK
  by_cases h : p = k
  · subst h; simp
  · by_cases h2 : p < k
    · simp [h, h2, show p < k + 1 by omega]
    · simp [h, h2, show ¬ p < k + 1 by omega]
theorem sK_end (s : St) (i : Nat) (h : i < 5) : sK s 5 i = sum5 s i := by simp [sK, h]

/-- The turn in which the word of a place is met, x in the outer loop. -/
def ord (i : Nat) : Nat := 5 * (i % 5) + i / 5
def mR (s : St) (n : Nat) : St := fun p => if ord (src p) < n then mv s p else 0
theorem mR_zero (s : St) : mR s 0 = fun _ => 0 := by funext p; simp [mR]
theorem ord_src : ∀ p, p < 25 → ∀ i, i < 25 → ord (src p) = ord i → p = dst i := by decide
theorem mR_step (s : St) (x y : Nat) (hx : x < 5) (hy : y < 5) : ∀ p, p < 25 → upd (mR s (5 * x + y)) (dst (x + 5 * y)) (mvAt s (x + 5 * y)) p = mR s (5 * x + (y + 1)) p := by
  intro p hp
  have ho : ord (x + 5 * y) = 5 * x + y := by unfold ord; omega
  unfold upd
  split
  · rename_i e
    subst e
    rw [mR, src_dst _ (by omega), ho, if_pos (by omega), mv, src_dst _ (by omega)]
  · rename_i e
    have hne : ord (src p) ≠ 5 * x + y := fun c => e (ord_src p hp _ (by omega) (c.trans ho.symm))
    unfold mR
    by_cases hlt : ord (src p) < 5 * x + y
    · rw [if_pos hlt, if_pos (by omega)]
    · rw [if_neg hlt, if_neg (by omega)]
theorem mR_end (s : St) (p : Nat) : mR s 25 p = mv s p := by
  unfold mR ord
  have := src_lt p
  rw [if_pos (by omega)]
theorem dst_at (x y : Nat) (hx : x < 5) : dst (x + 5 * y) = y + 5 * ((2 * x + 3 * y) % 5) := by
  unfold dst
  rw [show (x + 5 * y) / 5 = y by omega, show (x + 5 * y) % 5 = x by omega]
theorem mvAt_at (s : St) (x y : Nat) (hx : x < 5) : mvAt s (x + 5 * y) = rot (s (x + 5 * y) ^^^ dif s x) (off (x + 5 * y)) := by
  unfold mvAt
  rw [show (x + 5 * y) % 5 = x by omega]

def oR (t : St) (n : Nat) : St := fun p => if ord p < n then chi t p else 0
theorem oR_zero (t : St) : oR t 0 = fun _ => 0 := by funext p; simp [oR]
theorem oR_step (t : St) (x y : Nat) (hx : x < 5) (hy : y < 5) : ∀ p, p < 25 → upd (oR t (5 * x + y)) (x + 5 * y) (chi t (x + 5 * y)) p = oR t (5 * x + (y + 1)) p := by
  intro p hp
  have ho : ord (x + 5 * y) = 5 * x + y := by unfold ord; omega
  unfold upd
  split
  · rename_i e
    subst e
    rw [oR, ho, if_pos (by omega)]
  · rename_i e
    have hne : ord p ≠ 5 * x + y := fun c => e (by unfold ord at c; omega)
    unfold oR
    by_cases hlt : ord p < 5 * x + y
    · rw [if_pos hlt, if_pos (by omega)]
    · rw [if_neg hlt, if_neg (by omega)]
theorem oR_end (t : St) (p : Nat) (h : p < 25) : oR t 25 p = chi t p := by
  unfold oR ord
  rw [if_pos (by omega)]
theorem chi_at (t : St) (x y : Nat) (hx : x < 5) : chi t (x + 5 * y) = t (x + 5 * y) ^^^ (~~~ t ((x + 1) % 5 + 5 * y) &&& t ((x + 2) % 5 + 5 * y)) := by
  unfold chi
  rw [show (x + 5 * y) - (x + 5 * y) % 5 + (x + 5 * y + 1) % 5 = (x + 1) % 5 + 5 * y by omega, show (x + 5 * y) - (x + 5 * y) % 5 + (x + 5 * y + 2) % 5 = (x + 2) % 5 + 5 * y by omega]
theorem rndR_end (s : St) (c : W64) : ∀ p, p < 25 → upd (oR (mv s) 25) 0 (oR (mv s) 25 0 ^^^ c) p = rnd s c p := by
  intro p hp
  unfold rnd upd
  rw [oR_end _ 0 (by omega)]
  split
  · rfl
  · rw [oR_end _ p hp]

theorem rnd_congr {s t : St} (c : W64) (h : ∀ i, i < 25 → s i = t i) : ∀ p, p < 25 → rnd s c p = rnd t c p := by
  have hm : ∀ p, p < 25 → mv s p = mv t p := by
    intro p _
    have := src_lt p
    unfold mv mvAt dif sum5
    rw [h _ this]
    simp only [show ∀ x, x < 5 → s x = t x from fun x hx => h x (by omega), show ∀ x, x < 5 → s (x + 5) = t (x + 5) from fun x hx => h _ (by omega), show ∀ x, x < 5 → s (x + 10) = t (x + 10) from fun x hx => h _ (by omega),
      show ∀ x, x < 5 → s (x + 15) = t (x + 15) from fun x hx => h _ (by omega), show ∀ x, x < 5 → s (x + 20) = t (x + 20) from fun x hx => h _ (by omega), Nat.mod_lt _ (show 0 < 5 by decide)]
  intro p hp
  have hc : ∀ q, q < 25 → chi (mv s) q = chi (mv t) q := by
    intro q hq
    unfold chi
    rw [hm q hq, hm _ (by omega), hm _ (by omega)]
  unfold rnd upd
  split
  · rw [hc 0 (by omega)]
  · exact hc p hp

end Licit.Sha
namespace Licit.Sha
open Licit

/-- The state after j blocks of a list. -/
def absN (s : St) (l : Bs) : Nat → St
  | 0 => s
  | j + 1 => take1 (absN s l j) (l.drop (136 * j))
/-- Byte i of the last block, with r in it. -/
def padB (r : Bs) (i : Nat) : UInt8 := (if i < r.length then r.getD i 0 else if i = r.length then 6 else 0) ^^^ (if i = 135 then 0x80 else 0)
def padL (r : Bs) : Bs := (List.range 136).map (padB r)
def byteAt (s : St) (i : Nat) : UInt8 := UInt8.ofNat (s (i / 8) >>> (8 * (i % 8))).toNat
def outB (s : St) : Bs := (List.range 32).map (byteAt s)
def st0 : St := fun _ => 0
def fin (s : St) (r : Bs) : St := take1 s (padL r)
def sha (l : Bs) : Bs := outB (fin (absN st0 l (l.length / 136)) (l.drop (136 * (l.length / 136))))

theorem sha_len (l : Bs) : (sha l).length = 32 := by simp [sha, outB]

theorem xorB_congr {f g : Nat → UInt8} (s : St) (k : Nat) (h : ∀ i, i < k → f i = g i) : xorB f s k = xorB g s k := by
  induction k with
  | zero => rfl
  | succ k ih => unfold xorB; rw [ih (fun i hi => h i (by omega)), h k (by omega)]
theorem take1_congr (s : St) {a b : Bs} (h : ∀ i, i < 136 → a.getD i 0 = b.getD i 0) : take1 s a = take1 s b := by
  unfold take1
  rw [xorB_congr s 136 h]
theorem getD_drop (l : Bs) (n i : Nat) : (l.drop n).getD i 0 = l.getD (n + i) 0 := by simp [List.getD_eq_getElem?_getD, List.getElem?_drop]
theorem absN_congr (s : St) {a b : Bs} (j : Nat) (h : ∀ i, i < 136 * j → a.getD i 0 = b.getD i 0) : absN s a j = absN s b j := by
  induction j with
  | zero => rfl
  | succ j ih =>
    unfold absN
    rw [ih (fun i hi => h i (by omega))]
    refine take1_congr _ fun i hi => ?_
    rw [getD_drop, getD_drop, h _ (by omega)]
theorem absN_add (s : St) (l : Bs) (i j : Nat) : absN (absN s l i) (l.drop (136 * i)) j = absN s l (i + j) := by
  induction j with
  | zero => rfl
  | succ j ih =>
    show take1 (absN (absN s l i) (l.drop (136 * i)) j) _ = take1 (absN s l (i + j)) _
    rw [ih, List.drop_drop, show 136 * i + 136 * j = 136 * (i + j) by omega]
    rfl

/-- What the reference absorbs. -/
def padded (l : Bs) : Bs := (l ++ [6]) ++ List.replicate (135 - l.length % 136) 0
def refB (l : Bs) : Bs := (padded l).set ((padded l).length - 1) ((padded l).getD ((padded l).length - 1) 0 ||| 0x80)
theorem padded_len (l : Bs) : (padded l).length = 136 * (l.length / 136 + 1) := by
  simp [padded]; omega
theorem refB_len (l : Bs) : (refB l).length = 136 * (l.length / 136 + 1) := by
  rw [← padded_len]; simp [refB]
theorem padded_at (l : Bs) (i : Nat) : (padded l).getD i 0 = if i < l.length then l.getD i 0 else if i = l.length then 6 else 0 := by
  unfold padded
  rw [List.append_assoc]
  by_cases h : i < l.length
  · simp [List.getD_eq_getElem?_getD, List.getElem?_append_left h, h]
  · have h' : l.length ≤ i := by omega
    rw [if_neg h]
    by_cases h2 : i = l.length
    · subst h2; simp [List.getD_eq_getElem?_getD]
    · rw [if_neg h2, List.getD_eq_getElem?_getD, List.getElem?_append_right h', show i - l.length = (i - l.length - 1) + 1 by omega]
      simp [List.getElem?_replicate]
      split <;> rfl
theorem refB_at (l : Bs) (i : Nat) (hi : i < 136 * (l.length / 136 + 1)) :
    (refB l).getD i 0 = if i = 136 * (l.length / 136 + 1) - 1 then (padded l).getD i 0 ||| 0x80 else (padded l).getD i 0 := by
  unfold refB
  rw [padded_len]
  by_cases h : i = 136 * (l.length / 136 + 1) - 1
  · rw [if_pos h, h]
    rw [List.getD_eq_getElem?_getD, List.getElem?_set_self (by rw [padded_len]; omega)]
    rfl
  · rw [if_neg h]
    rw [List.getD_eq_getElem?_getD, List.getElem?_set_ne (by omega), ← List.getD_eq_getElem?_getD]
theorem ref_state (l : Bs) : absN st0 (refB l) (l.length / 136 + 1) = fin (absN st0 l (l.length / 136)) (l.drop (136 * (l.length / 136))) := by
  show take1 (absN st0 (refB l) (l.length / 136)) _ = take1 _ _
  have e : absN st0 (refB l) (l.length / 136) = absN st0 l (l.length / 136) := by
    refine absN_congr _ _ fun i hi => ?_
    rw [refB_at l i (by omega), if_neg (by omega), padded_at, if_pos (by omega)]
  rw [e]
  refine take1_congr _ fun i hi => ?_
  rw [getD_drop, refB_at l _ (by omega), padded_at]
  have hp : (padL (l.drop (136 * (l.length / 136)))).getD i 0 = padB (l.drop (136 * (l.length / 136))) i := by
    unfold padL
    rw [List.getD_eq_getElem?_getD, List.getElem?_map, List.getElem?_range hi]
    rfl
  rw [hp]
  unfold padB
  rw [getD_drop, List.length_drop]
  generalize hq : l.length / 136 = q at *
  have hb1 : 136 * q ≤ l.length := by omega
  have hb2 : l.length < 136 * q + 136 := by omega
  have c1 : (136 * q + i < l.length) ↔ (i < l.length - 136 * q) := by omega
  have c2 : (136 * q + i = l.length) ↔ (i = l.length - 136 * q) := by omega
  have c3 : (136 * q + i = 136 * (q + 1) - 1) ↔ (i = 135) := by omega
  simp only [c1, c2, c3]
  by_cases h : i = 135
  · subst h
    simp only [if_pos]
    rw [if_neg (by omega)]
    by_cases h2 : 135 = l.length - 136 * q
    · rw [if_pos h2]; decide
    · rw [if_neg h2]; decide
  · simp [h]
/-- The digest by the reference's blocks. -/
theorem ref_sha (l : Bs) : outB (absN st0 (refB l) (l.length / 136 + 1)) = sha l := by rw [ref_state]; rfl

end Licit.Sha
