/- Parts of the proofs: PlainShaAll, PlainAll, PlainRv, Rd, WkTexts. No condition beyond those at each theorem. -/
import Derived.BigQuiet
import Derived.Deep.QuietTactic
import Derived.Laws.Bits64
import Derived.Laws.BitsAllLaws
import Derived.Lib.ItoaLen
import Derived.Lib.ItoaMem
import Derived.Test.YtknpbekoenbphaaGreatDoorProg
import Derived.Test.YtknpbekoenbphaaGreatDoorPk01
set_option linter.unusedVariables false
set_option linter.unusedSimpArgs false
set_option maxHeartbeats 16000000
set_option maxRecDepth 100000
namespace Licit.Sha
open Go
abbrev W64 := BitVec 64
abbrev St := Nat → W64
def rot (w : W64) (n : Nat) : W64 := (w <<< n) ||| (w >>> (64 - n))
def k2a : List Nat := [0, 1, 62, 28, 27, 36, 44, 6, 55, 20, 3, 10, 43, 25, 39, 41, 45, 15, 21, 8, 18, 2, 61, 56, 14]
def off (i : Nat) : Nat := k2a.getD i 0
def cons : List Nat := [1, 32898, 9223372036854808714, 9223372039002292224, 32907, 2147483649, 9223372039002292353, 9223372036854808585, 138, 136, 2147516425, 2147483658, 2147516555, 9223372036854775947, 9223372036854808713, 9223372036854808579, 9223372036854808578, 9223372036854775936, 32778, 9223372039002259466, 9223372039002292353, 9223372036854808704, 2147483649, 9223372039002292232]
def con (i : Nat) : W64 := BitVec.ofNat 64 (cons.getD i 0)
def upd (f : St) (i : Nat) (v : W64) : St := fun j => if j = i then v else f j
def kit (s : St) (x : Nat) : W64 := s x ^^^ s (x + 5) ^^^ s (x + 10) ^^^ s (x + 15) ^^^ s (x + 20)
def dif (s : St) (x : Nat) : W64 := kit s ((x + 4) % 5) ^^^ rot (kit s ((x + 1) % 5)) 1
def ksn (s : St) (i : Nat) : W64 := rot (s i ^^^ dif s (i % 5)) (off i)
def src (p : Nat) : Nat := (3 * (p / 5) + p % 5) % 5 + 5 * (p % 5)
def mv (s : St) (p : Nat) : W64 := ksn s (src p)
def chi (t : St) (p : Nat) : W64 := t p ^^^ (~~~ t (p - p % 5 + (p + 1) % 5) &&& t (p - p % 5 + (p + 2) % 5))
def rnd (s : St) (c : W64) : St := upd (chi (mv s)) 0 (chi (mv s) 0 ^^^ c)
def koh (s : St) : Nat → St
 | 0 => s
 | k + 1 => rnd (koh s k) (con k)
def kzf (s : St) : St := koh s 24
def kin (b : Nat → UInt8) (s : St) : Nat → St
 | 0 => s
 | k + 1 => upd (kin b s k) (k / 8) (kin b s k (k / 8) ^^^ (BitVec.ofNat 64 (b k).toNat <<< (8 * (k % 8))))
def kf6 (s : St) (l : List UInt8) : St := kzf (kin (fun i => l.getD i 0) s 136)
abbrev vW (x : W64) : Value := .int .u64 (x.toNat : Int)
def wA (n : Nat) (f : St) : Array Value := ((List.range n).map (fun i => vW (f i))).toArray
theorem kaw (n : Nat) (f : St) : (wA n f).size = n := by simp [wA]
theorem kcv {n : Nat} (f : St) {i : Nat} (h : i < n) : (wA n f)[i]? = some (vW (f i)) := by simp [wA, h]
theorem k1q {n : Nat} {f g : St} (h : ∀ i, i < n → f i = g i) : wA n f = wA n g := by
 unfold wA
 congr 1
 refine List.map_congr_left fun i hi => ?_
 rw [h i (List.mem_range.1 hi)]
theorem kyl {n : Nat} (f : St) {i : Nat} (v : W64) : (wA n f).setIfInBounds i (vW v) = wA n (upd f i v) := by
 apply Array.ext_getElem?
 intro j
 by_cases hj : j < n
 · rw [kcv _ hj, Array.getElem?_setIfInBounds, kaw]
   unfold upd
   by_cases h : i = j
   · subst h; simp [hj]
   · have h' : ¬ j = i := fun e => h e.symm
     simp [h, h', kcv f hj]
 · rw [Array.getElem?_eq_none (by rw [Array.size_setIfInBounds, kaw]; omega), Array.getElem?_eq_none (by rw [kaw]; omega)]
theorem k2x (x : W64) : (x.toNat : Int) < 18446744073709551616 := by have := x.isLt; omega
theorem kog (x y : W64) : bits .xor .u64 (x.toNat : Int) (y.toNat : Int) = ((x ^^^ y).toNat : Int) := by
 rw [u64_xor_nat _ _ x.isLt y.isLt, BitVec.toNat_xor]
theorem k24 (x y : W64) : bits .and .u64 (x.toNat : Int) (y.toNat : Int) = ((x &&& y).toNat : Int) := by
 rw [u64_and_nat _ _ x.isLt y.isLt, BitVec.toNat_and]
theorem bor (x y : W64) : bits .or .u64 (x.toNat : Int) (y.toNat : Int) = ((x ||| y).toNat : Int) := by
 rw [u64_or_nat _ _ x.isLt y.isLt, BitVec.toNat_or]
theorem k2v (x : W64) (n : Nat) : IntKind.u64.wrap ((x.toNat : Int) * 2 ^ n) = ((x <<< n).toNat : Int) := by
 rw [IntKind.wrap_u64, BitVec.toNat_shiftLeft, Nat.shiftLeft_eq, Int.natCast_emod, Int.natCast_mul, Int.natCast_pow]
 rfl
theorem k2f (x : W64) (n : Nat) : (x.toNat : Int) / 2 ^ n = ((x >>> n).toNat : Int) := by
 rw [BitVec.toNat_ushiftRight, Nat.shiftRight_eq_div_pow, Int.natCast_ediv, Int.natCast_pow]
 rfl
theorem k22 (x : W64) (n : Nat) : bits .or .u64 (IntKind.u64.wrap ((x.toNat : Int) * 2 ^ n)) ((x.toNat : Int) / 2 ^ (64 - n)) = ((rot x n).toNat : Int) := by
 rw [k2v, k2f, bor]
 rfl
theorem k2y (x : W64) : bits .xor .u64 IntKind.u64.max (x.toNat : Int) = ((~~~ x).toNat : Int) := by
 have h := kog (BitVec.allOnes 64) x
 rw [BitVec.allOnes_xor] at h
 exact h
theorem k1z (n : Nat) (h : n < 64) : bits .and .u64 (n : Int) 63 = (n : Int) := by
 have := u64_and_nat n 63 (by omega) (by omega)
 rw [show ((63 : Nat) : Int) = 63 from rfl] at this
 rw [this, show (63 : Nat) = 2 ^ 6 - 1 from rfl, Nat.and_two_pow_sub_one_eq_mod, Nat.mod_eq_of_lt (by omega)]
end Licit.Sha
namespace Licit.Sha
theorem ky1 (i : Nat) : off i < 64 := by
 by_cases h : i < 25
 · have : ∀ i, i < 25 → off i < 64 := by decide
   exact this i h
 · unfold off
   rw [List.getD_eq_getElem?_getD, List.getElem?_eq_none (by simp [k2a]; omega)]
   decide
def cK (s : St) : Nat → St
 | 0 => fun _ => 0
 | k + 1 => upd (cK s k) (k % 5) (cK s k (k % 5) ^^^ s k)
theorem k1o (s : St) (x : Nat) (h : x < 5) : cK s 25 x = kit s x := by
 have h' : x = 0 ∨ x = 1 ∨ x = 2 ∨ x = 3 ∨ x = 4 := by omega
 rcases h' with rfl | rfl | rfl | rfl | rfl <;> simp [cK, upd, kit]
def dst (i : Nat) : Nat := i / 5 + 5 * ((2 * (i % 5) + 3 * (i / 5)) % 5)
theorem kvc (p : Nat) : src p < 25 := by unfold src; omega
theorem ko6 : ∀ i, i < 25 → src (dst i) = i := by decide
theorem kz5 : ∀ p, p < 25 → dst (src p) = p := by decide
def mK (s : St) (i : Nat) : St := fun p => if src p < i then mv s p else 0
theorem kzm (s : St) : mK s 0 = fun _ => 0 := by funext p; simp [mK]
theorem kzz (s : St) (i : Nat) (h : i < 25) : ∀ p, p < 25 → upd (mK s i) (dst i) (ksn s i) p = mK s (i + 1) p := by
 intro p hp
 unfold upd
 split
 · rename_i e
   subst e
   simp [mK, ko6 i h, mv]
 · rename_i e
   have hne : src p ≠ i := fun c => e (by rw [← c, kz5 p hp])
   unfold mK
   by_cases hlt : src p < i
   · simp [hlt, show src p < i + 1 by omega]
   · simp [hlt, show ¬ src p < i + 1 by omega]
theorem k0y (s : St) (p : Nat) : mK s 25 p = mv s p := by simp [mK, kvc p]
def oK (t s : St) (i : Nat) : St := fun p => if p < i then chi t p else s p
theorem ky5 (t s : St) : oK t s 0 = s := by funext p; simp [oK]
theorem k0c (t s : St) (i : Nat) : upd (oK t s i) i (chi t i) = oK t s (i + 1) := by
 funext p
 unfold upd oK
 by_cases h : p = i
 · subst h; simp
 · by_cases hlt : p < i
   · simp [h, hlt, show p < i + 1 by omega]
   · simp [h, hlt, show ¬ p < i + 1 by omega]
theorem kyv (t s : St) (p : Nat) (h : p < 25) : oK t s 25 p = chi t p := by simp [oK, h]
theorem kze (s z : St) (c : W64) : ∀ p, p < 25 → upd (oK (mv s) z 25) 0 (oK (mv s) z 25 0 ^^^ c) p = rnd s c p := by
 intro p hp
 unfold rnd upd
 rw [kyv _ _ 0 (by omega)]
 split
 · rfl
 · rw [kyv _ _ p hp]
open Go in
theorem ke3 (n : Nat) (f : St) : (wA n f).all (·.oneCell') = true := by
 rw [Array.all_eq_true]
 intro i hi
 rw [kaw] at hi
 have h := kcv f hi
 rw [Array.getElem?_eq_getElem (by rw [kaw]; exact hi)] at h
 rw [Option.some.inj h]
 rfl
open Go in
theorem kfo {w : World} {b n : Nat} {f : St} {T : TypeId} {fr : Nat × Nat} (h : w.heap[b]? = some (.cells (wA n f) T fr)) (i : Nat) (v : W64) :
 (w.setCell ⟨b, i, none⟩ (vW v)).heap[b]? = some (.cells (wA n (upd f i v)) T fr) := by
 rw [Licit.set_of h i (vW v), kyl]
open Go in
theorem kfl {w : World} {b n : Nat} {f g : St} {T : TypeId} {fr : Nat × Nat} (h : w.heap[b]? = some (.cells (wA n f) T fr)) (e : ∀ i, i < n → f i = g i) :
 w.heap[b]? = some (.cells (wA n g) T fr) := by rw [← k1q e]; exact h
end Licit.Sha
namespace Licit.Sha
open Licit
def sK (s : St) (k : Nat) : St := fun i => if i < k then kit s i else 0
theorem kz8 (s : St) (k : Nat) : upd (sK s k) k (kit s k) = sK s (k + 1) := by
 funext p
 unfold upd sK
 by_cases h : p = k
 · subst h; simp
 · by_cases h2 : p < k
   · simp [h, h2, show p < k + 1 by omega]
   · simp [h, h2, show ¬ p < k + 1 by omega]
theorem k01 (s : St) (i : Nat) (h : i < 5) : sK s 5 i = kit s i := by simp [sK, h]
def ord (i : Nat) : Nat := 5 * (i % 5) + i / 5
def mR (s : St) (n : Nat) : St := fun p => if ord (src p) < n then mv s p else 0
theorem kzv (s : St) : mR s 0 = fun _ => 0 := by funext p; simp [mR]
theorem kzx : ∀ p, p < 25 → ∀ i, i < 25 → ord (src p) = ord i → p = dst i := by decide
theorem kzg (s : St) (x y : Nat) (hx : x < 5) (hy : y < 5) : ∀ p, p < 25 → upd (mR s (5 * x + y)) (dst (x + 5 * y)) (ksn s (x + 5 * y)) p = mR s (5 * x + (y + 1)) p := by
 intro p hp
 have ho : ord (x + 5 * y) = 5 * x + y := by unfold ord; omega
 unfold upd
 split
 · rename_i e
   subst e
   rw [mR, ko6 _ (by omega), ho, if_pos (by omega), mv, ko6 _ (by omega)]
 · rename_i e
   have hne : ord (src p) ≠ 5 * x + y := fun c => e (kzx p hp _ (by omega) (c.trans ho.symm))
   unfold mR
   by_cases hlt : ord (src p) < 5 * x + y
   · rw [if_pos hlt, if_pos (by omega)]
   · rw [if_neg hlt, if_neg (by omega)]
theorem k1w (s : St) (p : Nat) : mR s 25 p = mv s p := by
 unfold mR ord
 have := kvc p
 rw [if_pos (by omega)]
theorem k17 (x y : Nat) (hx : x < 5) : dst (x + 5 * y) = y + 5 * ((2 * x + 3 * y) % 5) := by
 unfold dst
 rw [show (x + 5 * y) / 5 = y by omega, show (x + 5 * y) % 5 = x by omega]
theorem kzq (s : St) (x y : Nat) (hx : x < 5) : ksn s (x + 5 * y) = rot (s (x + 5 * y) ^^^ dif s x) (off (x + 5 * y)) := by
 unfold ksn
 rw [show (x + 5 * y) % 5 = x by omega]
def oR (t : St) (n : Nat) : St := fun p => if ord p < n then chi t p else 0
theorem k0j (t : St) : oR t 0 = fun _ => 0 := by funext p; simp [oR]
theorem kz9 (t : St) (x y : Nat) (hx : x < 5) (hy : y < 5) : ∀ p, p < 25 → upd (oR t (5 * x + y)) (x + 5 * y) (chi t (x + 5 * y)) p = oR t (5 * x + (y + 1)) p := by
 intro p hp
 have ho : ord (x + 5 * y) = 5 * x + y := by unfold ord; omega
 unfold upd
 split
 · rename_i e
   subst e
   rw [oR, ho, if_pos (by omega)]
 · rename_i e
   have hne : ord p ≠ 5 * x + y := fun c => e (by unfold ord at c; omega)
   unfold oR
   by_cases hlt : ord p < 5 * x + y
   · rw [if_pos hlt, if_pos (by omega)]
   · rw [if_neg hlt, if_neg (by omega)]
theorem kyp (t : St) (p : Nat) (h : p < 25) : oR t 25 p = chi t p := by
 unfold oR ord
 rw [if_pos (by omega)]
theorem k1n (t : St) (x y : Nat) (hx : x < 5) : chi t (x + 5 * y) = t (x + 5 * y) ^^^ (~~~ t ((x + 1) % 5 + 5 * y) &&& t ((x + 2) % 5 + 5 * y)) := by
 unfold chi
 rw [show (x + 5 * y) - (x + 5 * y) % 5 + (x + 5 * y + 1) % 5 = (x + 1) % 5 + 5 * y by omega, show (x + 5 * y) - (x + 5 * y) % 5 + (x + 5 * y + 2) % 5 = (x + 2) % 5 + 5 * y by omega]
theorem kw5 (s : St) (c : W64) : ∀ p, p < 25 → upd (oR (mv s) 25) 0 (oR (mv s) 25 0 ^^^ c) p = rnd s c p := by
 intro p hp
 unfold rnd upd
 rw [kyp _ 0 (by omega)]
 split
 · rfl
 · rw [kyp _ p hp]
theorem kn6 {s t : St} (c : W64) (h : ∀ i, i < 25 → s i = t i) : ∀ p, p < 25 → rnd s c p = rnd t c p := by
 have hm : ∀ p, p < 25 → mv s p = mv t p := by
  intro p _
  have := kvc p
  unfold mv ksn dif kit
  rw [h _ this]
  simp only [show ∀ x, x < 5 → s x = t x from fun x hx => h x (by omega), show ∀ x, x < 5 → s (x + 5) = t (x + 5) from fun x hx => h _ (by omega), show ∀ x, x < 5 → s (x + 10) = t (x + 10) from fun x hx => h _ (by omega),
   show ∀ x, x < 5 → s (x + 15) = t (x + 15) from fun x hx => h _ (by omega), show ∀ x, x < 5 → s (x + 20) = t (x + 20) from fun x hx => h _ (by omega), Nat.mod_lt _ (show 0 < 5 by decide)]
 intro p hp
 have hc : ∀ q, q < 25 → chi (mv s) q = chi (mv t) q := by
  intro q hq
  unfold chi
  rw [hm q hq, hm _ (by omega), hm _ (by omega)]
 unfold rnd upd
 split
 · rw [hc 0 (by omega)]
 · exact hc p hp
def kgx (s : St) (l : Bs) : Nat → St
 | 0 => s
 | j + 1 => kf6 (kgx s l j) (l.drop (136 * j))
def k1a (r : Bs) (i : Nat) : UInt8 := (if i < r.length then r.getD i 0 else if i = r.length then 6 else 0) ^^^ (if i = 135 then 0x80 else 0)
def padL (r : Bs) : Bs := (List.range 136).map (k1a r)
def kiz (s : St) (i : Nat) : UInt8 := UInt8.ofNat (s (i / 8) >>> (8 * (i % 8))).toNat
def kmz (s : St) : Bs := (List.range 32).map (kiz s)
def st0 : St := fun _ => 0
def fin (s : St) (r : Bs) : St := kf6 s (padL r)
def sha (l : Bs) : Bs := kmz (fin (kgx st0 l (l.length / 136)) (l.drop (136 * (l.length / 136))))
theorem sha_len (l : Bs) : (sha l).length = 32 := by simp [sha, kmz]
theorem ksv {f g : Nat → UInt8} (s : St) (k : Nat) (h : ∀ i, i < k → f i = g i) : kin f s k = kin g s k := by
 induction k with
 | zero => rfl
 | succ k ih => unfold kin; rw [ih (fun i hi => h i (by omega)), h k (by omega)]
theorem kfj (s : St) {a b : Bs} (h : ∀ i, i < 136 → a.getD i 0 = b.getD i 0) : kf6 s a = kf6 s b := by
 unfold kf6
 rw [ksv s 136 h]
theorem ke7 (l : Bs) (n i : Nat) : (l.drop n).getD i 0 = l.getD (n + i) 0 := by simp [List.getD_eq_getElem?_getD, List.getElem?_drop]
theorem kry (s : St) {a b : Bs} (j : Nat) (h : ∀ i, i < 136 * j → a.getD i 0 = b.getD i 0) : kgx s a j = kgx s b j := by
 induction j with
 | zero => rfl
 | succ j ih =>
   unfold kgx
   rw [ih (fun i hi => h i (by omega))]
   refine kfj _ fun i hi => ?_
   rw [ke7, ke7, h _ (by omega)]
def kdb (l : Bs) : Bs := (l ++ [6]) ++ List.replicate (135 - l.length % 136) 0
def kvm (l : Bs) : Bs := (kdb l).set ((kdb l).length - 1) ((kdb l).getD ((kdb l).length - 1) 0 ||| 0x80)
theorem kgl (l : Bs) : (kdb l).length = 136 * (l.length / 136 + 1) := by
 simp [kdb]; omega
theorem kwe (l : Bs) : (kvm l).length = 136 * (l.length / 136 + 1) := by
 rw [← kgl]; simp [kvm]
theorem kob (l : Bs) (i : Nat) : (kdb l).getD i 0 = if i < l.length then l.getD i 0 else if i = l.length then 6 else 0 := by
 unfold kdb
 rw [List.append_assoc]
 by_cases h : i < l.length
 · simp [List.getD_eq_getElem?_getD, List.getElem?_append_left h, h]
 · have h' : l.length ≤ i := by omega
   rw [if_neg h]
   by_cases h2 : i = l.length
   · subst h2; simp [List.getD_eq_getElem?_getD]
   · rw [if_neg h2, List.getD_eq_getElem?_getD, List.getElem?_append_right h', show i - l.length = (i - l.length - 1) + 1 by omega]
     simp [List.getElem?_replicate]
     split <;> rfl
theorem ktf (l : Bs) (i : Nat) (hi : i < 136 * (l.length / 136 + 1)) :
 (kvm l).getD i 0 = if i = 136 * (l.length / 136 + 1) - 1 then (kdb l).getD i 0 ||| 0x80 else (kdb l).getD i 0 := by
 unfold kvm
 rw [kgl]
 by_cases h : i = 136 * (l.length / 136 + 1) - 1
 · rw [if_pos h, h]
   rw [List.getD_eq_getElem?_getD, List.getElem?_set_self (by rw [kgl]; omega)]
   rfl
 · rw [if_neg h]
   rw [List.getD_eq_getElem?_getD, List.getElem?_set_ne (by omega), ← List.getD_eq_getElem?_getD]
theorem ks9 (l : Bs) : kgx st0 (kvm l) (l.length / 136 + 1) = fin (kgx st0 l (l.length / 136)) (l.drop (136 * (l.length / 136))) := by
 show kf6 (kgx st0 (kvm l) (l.length / 136)) _ = kf6 _ _
 have e : kgx st0 (kvm l) (l.length / 136) = kgx st0 l (l.length / 136) := by
  refine kry _ _ fun i hi => ?_
  rw [ktf l i (by omega), if_neg (by omega), kob, if_pos (by omega)]
 rw [e]
 refine kfj _ fun i hi => ?_
 rw [ke7, ktf l _ (by omega), kob]
 have hp : (padL (l.drop (136 * (l.length / 136)))).getD i 0 = k1a (l.drop (136 * (l.length / 136))) i := by
  unfold padL
  rw [List.getD_eq_getElem?_getD, List.getElem?_map, List.getElem?_range hi]
  rfl
 rw [hp]
 unfold k1a
 rw [ke7, List.length_drop]
 generalize hq : l.length / 136 = q at *
 have hb1 : 136 * q ≤ l.length := by omega
 have hb2 : l.length < 136 * q + 136 := by omega
 have c1 : (136 * q + i < l.length) ↔ (i < l.length - 136 * q) := by omega
 have c2 : (136 * q + i = l.length) ↔ (i = l.length - 136 * q) := by omega
 have c3 : (136 * q + i = 136 * (q + 1) - 1) ↔ (i = 135) := by omega
 simp only [c1, c2, c3]
 by_cases h : i = 135
 · subst h
   simp only [if_pos]
   rw [if_neg (by omega)]
   by_cases h2 : 135 = l.length - 136 * q
   · rw [if_pos h2]; decide
   · rw [if_neg h2]; decide
 · simp [h]
theorem kzu (l : Bs) : kmz (kgx st0 (kvm l) (l.length / 136 + 1)) = sha l := by rw [ks9]; rfl
end Licit.Sha
namespace Licit
open Go Go.Lib
def cnt (most e : Int) : Nat → Int → Bs → (Int × Nat) ⊕ Bool
 | _, _, [] => .inr true
 | i, n, c :: s =>
   if (c.toNat : Int) = e ∧ 0 < i then .inl (n, i)
   else if (c.toNat : Int) < 48 ∨ 57 < (c.toNat : Int) ∨ (i = 1 ∧ n = 0) then .inr false
   else if most < 10 * n + ((c.toNat : Int) - 48) then .inr false
   else cnt most e (i + 1) (10 * n + ((c.toNat : Int) - 48)) s
abbrev St := Bs × Int
def ka3 (low high : Int) (st : St) : Int × St :=
 if st.2 ≠ 0 then (0, st) else
 match cnt 281474976710656 59 0 0 st.1 with
 | .inl (n, i) => if n < low ∨ high < n then (0, ([], 3)) else (n, (st.1.drop (i + 1), 0))
 | .inr b => (0, ([], if b then 13 else 17))
def kao (most : Int) (st : St) : Bs × St :=
 if st.2 ≠ 0 then ([], st) else
 match cnt 65536 58 0 0 st.1 with
 | .inl (n, i) =>
   if st.1.length ≤ i + 1 + n.toNat then ([], ([], 13))
   else if st.1[i + 1 + n.toNat]? ≠ some 44 then ([], ([], 17))
   else if most < n then ([], ([], 10))
   else ((st.1.drop (i + 1)).take n.toNat, (st.1.drop (i + 1 + n.toNat + 1), 0))
 | .inr b => ([], ([], if b then 13 else 17))
def kbi {α : Type} (one : St → α × St) : Nat → St → List α × St
 | 0, st => ([], st)
 | k + 1, st => if st.2 ≠ 0 then ([], st) else ((one st).1 :: (kbi one k (one st).2).1, (kbi one k (one st).2).2)
def kco {α : Type} (one : St → α × St) (st : St) : List α × St :=
 let x := ka3 0 1024 st
 let y := kbi one x.1.toNat x.2
 (if y.2.2 ≠ 0 then [] else y.1, y.2)
def ka5 (most : Int) (st : St) : List Bs × St := kco (kao most) st
theorem kdg {α : Type} (one : St → α × St) (k : Nat) (st : St) (h : st.2 ≠ 0) : kbi one k st = ([], st) := by
 cases k with
 | zero => rfl
 | succ k => simp [kbi, h]
theorem khm {α : Type} (one : St → α × St) (k : Nat) (st : St) (h : st.2 = 0) : kbi one (k + 1) st = ((one st).1 :: (kbi one k (one st).2).1, (kbi one k (one st).2).2) := by
 simp [kbi, h]
def kps {α : Type} (one : St → α × St) (n : Nat) (st0 : St) (k : Nat) (acc : List α) (st : St) : Prop :=
 kbi one n st0 = (acc ++ (kbi one (n - k) st).1, (kbi one (n - k) st).2)
theorem kps.start {α : Type} (one : St → α × St) (n : Nat) (st : St) : kps one n st 0 [] st := by simp [kps]
theorem kps.step {α : Type} {one : St → α × St} {n : Nat} {st0 : St} {k : Nat} {acc : List α} {st : St} (h : kps one n st0 k acc st) (hk : k < n) (h0 : st.2 = 0) : kps one n st0 (k + 1) (acc ++ [(one st).1]) (one st).2 := by
 unfold kps at *
 rw [h, show n - k = (n - (k + 1)) + 1 by omega, khm one _ st h0]
 simp
theorem kps.stop {α : Type} {one : St → α × St} {n : Nat} {st0 : St} {k : Nat} {acc : List α} {st : St} (h : kps one n st0 k acc st) (hk : n ≤ k ∨ st.2 ≠ 0) : kbi one n st0 = (acc, st) := by
 unfold kps at h
 rcases hk with hk | hk
 · rw [h, show n - k = 0 by omega]; simp [kbi]
 · rw [h, kdg one _ st hk]; simp
def ke2 (n : Int) : Bs × Int := if n < 0 ∨ 281474976710656 < n then ([], 3) else (decDigits n.toNat ++ [59], 0)
def kar (s : Bs) : Bs × Int := if 65536 < s.length then ([], 10) else (decDigits s.length ++ [58] ++ s ++ [44], 0)
def klk {α : Type} (one : α → Bs × Int) : List α → Bs → Bs × Int
 | [], acc => (acc, 0)
 | x :: l, acc => if (one x).2 ≠ 0 then ([], (one x).2) else klk one l (acc ++ (one x).1)
def ka7 {α : Type} (one : α → Bs × Int) (l : List α) : Bs × Int := if 1024 < l.length then ([], 10) else klk one l (decDigits l.length ++ [59])
def hsh (l : List Bs) : Bs := Sha.sha (ka7 kar l).1
def num (n : Int) : Bs := (ke2 n).1
theorem kh5 (s : Bs) : (kar s).1.length ≤ 65600 := by
 unfold kar
 split
 · simp
 · have := Lib.itoa_length_le (s.length : Int) (by omega) (by omega)
   unfold Lib.itoa at this
   rw [if_neg (by omega), Int.toNat_natCast] at this
   simp
   omega
theorem kma {α : Type} (one : α → Bs × Int) (h : ∀ x, (one x).1.length ≤ 65600) : ∀ (l : List α) (acc : Bs), (klk one l acc).1.length ≤ acc.length + l.length * 65600
 | [], acc => by simp [klk]
 | x :: l, acc => by
   unfold klk
   split
   · simp
   · have h1 := kma one h l (acc ++ (one x).1)
     have h2 := h x
     rw [List.length_append] at h1
     simp only [List.length_cons]
     omega
theorem knb (l : List Bs) : (ka7 kar l).1.length ≤ 1000000000000 := by
 unfold ka7
 split
 · simp
 · have h1 := kma kar kh5 l (decDigits l.length ++ [59])
   have h2 := Lib.itoa_length_le (l.length : Int) (by omega) (by omega)
   unfold Lib.itoa at h2
   rw [if_neg (by omega), Int.toNat_natCast] at h2
   rw [List.length_append] at h1
   simp only [List.length_singleton] at h1
   omega
def kcp (b h : Int) : Bool := decide (8 ≤ b ∧ b ≤ 256 ∧ 0 ≤ h ∧ h ≤ 6)
end Licit
namespace Licit.Rv
open Go Licit
structure Sg where
 i : Int
 S : List Bs
 H : List Bs
 R : List Bs
structure Ev where
 kind : Int
 author : Bs
 number : Int
 names : List Bs
 root : Bs
 bits : Int
 height : Int
 pkg : Bs
 digest : Bs
 question : Bs
 scope : Bs
 answer : Bs
 till : Int
 targets : List Bs
 sg : Sg
def sg0 : Sg := ⟨0, [], [], []⟩
def ev0 : Ev := ⟨0, [], 0, [], [], 0, 0, [], [], [], [], [], 0, [], sg0⟩
def ltB (a b : Bs) : Bool := Go.Op.bytesLess a b
def chB (c : UInt8) : Bool := (decide (97 ≤ c) && decide (c ≤ 122)) || (decide (48 ≤ c) && decide (c ≤ 57)) || decide (c = 46) || decide (c = 95) || decide (c = 45)
def nameB (s : Bs) : Bool := decide (1 ≤ s.length) && decide (s.length ≤ 32) && decide (s.getD 0 0 ≠ 46) && decide (s.getD 0 0 ≠ 45) && s.all chB
def textB (s : Bs) (low high : Nat) (least : UInt8) : Bool := decide (low ≤ s.length) && decide (s.length ≤ high) && s.all fun c => decide (least ≤ c) && decide (c ≤ 126)
def digB (s : Bs) : Bool := decide (s.length = 32)
def ascB : List Bs → Bool
 | a :: b :: r => ltB a b && ascB (b :: r)
 | _ => true
def namesB (l : List Bs) : Bool := decide (l.length ≤ 16) && l.all digB && ascB l
def decidesB (e : Ev) : Bool := textB e.question 1 128 33 && textB e.scope 0 128 33 && textB e.answer 0 200 32 && digB e.digest && decide (0 ≤ e.till) && decide (e.till ≤ 1000)
def kindB (e : Ev) : Bool :=
 if e.kind = 1 then decide (e.number = 0) && digB e.root && kcp e.bits e.height
 else if e.kind = 2 then nameB e.pkg && digB e.digest
 else if e.kind = 3 then decidesB e
 else if e.kind = 4 then decide (e.targets.length = 1) && digB (e.targets.getD 0 [])
 else if e.kind = 5 then decide (e.targets.length = 2) && digB (e.targets.getD 0 []) && digB (e.targets.getD 1 []) && !decide (e.targets.getD 0 [] = e.targets.getD 1 [])
 else false
def restB (e : Ev) : Bool :=
 (decide (e.kind = 1) || (decide (e.root = []) && decide (e.bits = 0) && decide (e.height = 0))) && (decide (e.kind = 2) || decide (e.pkg = [])) && (decide (e.kind = 2) || decide (e.kind = 3) || decide (e.digest = [])) &&
 (decide (e.kind = 3) || (decide (e.question = []) && decide (e.scope = []) && decide (e.answer = []) && decide (e.till = 0))) && (decide (e.kind = 4) || decide (e.kind = 5) || decide (e.targets = []))
def validB (e : Ev) : Bool := nameB e.author && decide (0 ≤ e.number) && decide (e.number ≤ 63) && namesB e.names && kindB e && (decide (e.kind = 1) || (decide (1 ≤ e.number) && decide (0 < e.names.length))) && restB e
def tx (s : Bs) : Bs := (kar s).1
def txs (l : List Bs) : Bs := (ka7 kar l).1
def encV (e : Ev) : Bs :=
 num e.kind ++ tx e.author ++ num e.number ++ txs e.names ++ tx e.root ++ num e.bits ++ num e.height ++ tx e.pkg ++ tx e.digest ++ tx e.question ++ tx e.scope ++ tx e.answer ++ num e.till ++ txs e.targets
def kEvent : Bs := [101, 118, 101, 110, 116]
def idV (e : Ev) : Bs := hsh [kEvent, encV e]
def validE (e : Ev) : Int := if validB e = true then 0 else 1
def encE (e : Ev) : Bs := if validB e = true then encV e else []
def idE (e : Ev) : Bs := if validB e = true then idV e else []
end Licit.Rv
namespace Licit
open Go Go.RowKit
def Rd (T : TypeId) (r : Nat) (s : ByteArray) (E : Int) (w : World) : Prop := w.heap[r]? = some (.cells #[.string s, .int .i64 E] T (0, 0))
section
variable {T : TypeId} {r : Nat} {s : ByteArray} {E : Int} {w w' : World}
theorem Rd.lt (h : Rd T r s E w) : r < w.heap.size := kac h
theorem Rd.c0 (h : Rd T r s E w) : w.cell? ⟨r, 0, none⟩ = some (.string s) := by rw [kab h]; rfl
theorem Rd.c1 (h : Rd T r s E w) : w.cell? ⟨r, 1, none⟩ = some (.int .i64 E) := by rw [kab h]; rfl
theorem Rd.f (h : Rd T r s E w) (i : Nat) : w.frozen? ⟨r, i, none⟩ = false := kai h i
theorem Rd.below (h : Rd T r s E w) (hb : Below w.heap.size w w') : Rd T r s E w' := (hb.block r (kac h)).trans h
theorem Rd.kept (h : Rd T r s E w) {S : Nat → Prop} (hb : ka1 S w w') (hs : ¬ S r) : Rd T r s E w' := (hb.block r (kac h) hs).trans h
theorem Rd.alloc (h : Rd T r s E w) (o : Obj) : Rd T r s E (w.alloc o) := (Below.heap_alloc w o r (kac h)).trans h
theorem Rd.drew (h : Rd T r s E w) : Rd T r s E w.drew := h
theorem Rd.grown {o : Obj} {row : Option Nat} (h : Rd T r s E w) (hg : (w.alloc o).grownBy w' row) (hne : row ≠ some r) : Rd T r s E w' :=
 (hg.block r (by have := kac h; simp; omega) (fun e => hne e.symm)).trans ((Below.heap_alloc w o r (kac h)).trans h)
end
def vI (n : Int) : Value := .int .i64 n
def vS (l : Bs) : Value := .string (B l)
end Licit
namespace Go.Proofs.YtknpbekoenbphaaGreatDoor
open Go Go.RowKit Licit
theorem kci {x y : Bs} (h : ¬ x = y) : ((B x).toList == (B y).toList) = false := by
 rw [ByteArray.toList_eq, ByteArray.toList_eq, B_list, B_list]; simpa using h
theorem kcl (x : Bs) : ((B x).toList == (B x).toList) = true := by simp
theorem _root_.Licit.IsSl.text {v : Value} {xs : List Bs} {w : World} (h : IsSl v (xs.map vS) w) {n : Nat} (hn : xs.length = n) {j : Nat} (hj : j < n) :
 ∃ blk off cap, v = .slice (some ⟨blk, off, none⟩) n cap ∧ blk < w.heap.size ∧ w.cell? ⟨blk, off + j, none⟩ = some (.string (B (xs.getD j []))) := by
 obtain ⟨a, cap, rfl⟩ := h.form
 obtain ⟨blk, off, rfl, hb, hc⟩ := h.at (k := j) (by rw [List.length_map]; omega)
 refine ⟨blk, off, cap, by rw [List.length_map, hn], hb, ?_⟩
 rw [hc, List.getElem_map, List.getD_eq_getElem?_getD, List.getElem?_eq_getElem (by omega)]
 rfl
def kec (v : Value) (i : Int) (S H R : List Bs) (w : World) : Prop := ∃ vs vh vr : Value, v = .agg #[.int .i64 i, vs, vh, vr] ∧ IsSl vs (S.map vS) w ∧ IsSl vh (H.map vS) w ∧ IsSl vr (R.map vS) w
theorem kec.below {v : Value} {i : Int} {S H R : List Bs} {w w' : World} (h : kec v i S H R w) (hb : Below w.heap.size w w') : kec v i S H R w' := by
 obtain ⟨vs, vh, vr, rfl, h1, h2, h3⟩ := h
 exact ⟨vs, vh, vr, rfl, h1.below hb, h2.below hb, h3.below hb⟩
end Go.Proofs.YtknpbekoenbphaaGreatDoor
