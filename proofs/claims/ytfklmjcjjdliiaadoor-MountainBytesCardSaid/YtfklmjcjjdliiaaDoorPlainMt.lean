/- Plain functions of mountain ranges: peaks, heights, one more mountain, proofs of a leaf and of growth; and what the laws want of them. No condition beyond those at each theorem. -/
import Derived.Test.YtfklmjcjjdliiaaDoorPlainAll
namespace Licit

def kEntry : Bs := [101, 110, 116, 114, 121]
def kPair : Bs := [112, 97, 105, 114]
def kRange : Bs := [114, 97, 110, 103, 101]
def leafM (d : Bs) : Bs := hsh [kEntry, d]
def pairM (a b : Bs) : Bs := hsh [kPair, a, b]
theorem leafM_len (d : Bs) : (leafM d).length = 32 := hsh_len _
theorem pairM_len (a b : Bs) : (pairM a b).length = 32 := hsh_len _

/-- The peak of the mountain on 2^h leaves. -/
def peakN : Nat → List Bs → Bs
  | 0, l => l.getD 0 []
  | h + 1, l => pairM (peakN h (l.take (2 ^ h))) (peakN h (l.drop (2 ^ h)))

theorem peakN_len {l : List Bs} (hl : ∀ x ∈ l, x.length = 32) : ∀ h, l.length = 2 ^ h → (peakN h l).length = 32
  | 0, h => by
    match l, h with
    | [x], _ => exact hl x (by simp)
  | h + 1, _ => pairM_len _ _

/-- The heights of the mountains of a size below 2^H, from the highest. -/
def htsB : Nat → Nat → List Nat
  | 0, _ => []
  | h + 1, n => if n / 2 ^ h % 2 = 1 then h :: htsB h n else htsB h n
def sum2 : List Nat → Nat
  | [] => 0
  | h :: hs => 2 ^ h + sum2 hs
theorem sum2_append : ∀ a b : List Nat, sum2 (a ++ b) = sum2 a + sum2 b
  | [], b => by simp [sum2]
  | h :: hs, b => by simp [sum2, sum2_append hs b, Nat.add_assoc]
theorem mod_two_pow_succ' (n h : Nat) : n % 2 ^ (h + 1) = 2 ^ h * (n / 2 ^ h % 2) + n % 2 ^ h := by
  rw [Nat.pow_succ, Nat.mod_mul, Nat.add_comm]
theorem sum2_hts : ∀ H n, sum2 (htsB H n) = n % 2 ^ H
  | 0, n => by simp [htsB, sum2, Nat.mod_one]
  | h + 1, n => by
    rw [htsB, mod_two_pow_succ']
    rcases Nat.mod_two_eq_zero_or_one (n / 2 ^ h) with c | c
    · rw [if_neg (by omega), sum2_hts h n, c]; omega
    · rw [if_pos c, sum2, sum2_hts h n, c]; omega
theorem hts_lt : ∀ H n, ∀ h ∈ htsB H n, h < H
  | 0, _, h, hh => by simp [htsB] at hh
  | k + 1, n, h, hh => by
    rw [htsB] at hh
    split at hh
    · rcases List.mem_cons.1 hh with rfl | hh
      · omega
      · have := hts_lt k n h hh; omega
    · have := hts_lt k n h hh; omega
theorem hts_len : ∀ H n, (htsB H n).length ≤ H
  | 0, _ => by simp [htsB]
  | k + 1, n => by
    have := hts_len k n
    rw [htsB]
    split
    · simp; omega
    · omega
theorem hts_low : ∀ H n h, H ≤ h → 2 ^ h ∣ n → htsB H n = []
  | 0, _, _, _, _ => rfl
  | k + 1, n, h, hk, hd => by
    rw [htsB, if_neg, hts_low k n h (by omega) hd]
    obtain ⟨m, rfl⟩ := hd
    obtain ⟨d, rfl⟩ : ∃ d, h = k + (d + 1) := ⟨h - k - 1, by omega⟩
    rw [Nat.pow_add, Nat.mul_assoc, Nat.mul_div_cancel_left _ (Nat.two_pow_pos k), Nat.pow_succ, Nat.mul_assoc, Nat.mul_comm (2 ^ d), Nat.mul_assoc, Nat.mul_mod_right]
    omega
theorem hts_add : ∀ H n h, h < H → 2 ^ (h + 1) ∣ n → htsB H (n + 2 ^ h) = htsB H n ++ [h]
  | 0, _, _, hh, _ => by omega
  | k + 1, n, h, hk, hd => by
    by_cases c : h = k
    · subst c
      have e1 : (n + 2 ^ h) / 2 ^ h % 2 = 1 ∧ n / 2 ^ h % 2 = 0 := by
        obtain ⟨m, rfl⟩ := hd
        have h1 : 2 ^ (h + 1) * m = 2 ^ h * (2 * m) := by rw [Nat.pow_succ, Nat.mul_assoc]
        rw [h1, show 2 ^ h * (2 * m) + 2 ^ h = 2 ^ h * (2 * m + 1) by rw [Nat.mul_add, Nat.mul_one], Nat.mul_div_cancel_left _ (Nat.two_pow_pos h), Nat.mul_div_cancel_left _ (Nat.two_pow_pos h)]
        omega
      have d1 : 2 ^ h ∣ n := Nat.dvd_trans (Nat.pow_dvd_pow 2 (Nat.le_succ h)) hd
      rw [htsB, if_pos e1.1, htsB, if_neg (by omega), hts_low h _ h (Nat.le_refl _) (Nat.dvd_add d1 (Nat.dvd_refl _)), hts_low h _ h (Nat.le_refl _) d1]
      rfl
    · have e : (n + 2 ^ h) / 2 ^ k = n / 2 ^ k := by
        obtain ⟨m, rfl⟩ := hd
        obtain ⟨d, rfl⟩ : ∃ d, k = (h + 1) + d := ⟨k - (h + 1), by omega⟩
        rw [Nat.pow_add 2 (h + 1) d, ← Nat.div_div_eq_div_mul, ← Nat.div_div_eq_div_mul]
        congr 1
        rw [Nat.mul_div_cancel_left _ (Nat.two_pow_pos _), Nat.add_comm, Nat.add_mul_div_left _ _ (Nat.two_pow_pos _), Nat.div_eq_of_lt (Nat.pow_lt_pow_right (by decide) (Nat.lt_succ_self h)), Nat.zero_add]
      rw [htsB, htsB, e, hts_add k n h (by omega) hd]
      split <;> rfl

/-- The peaks of the mountains of some heights, one beside the other. -/
def cutsL : List Nat → List Bs → List Bs
  | [], _ => []
  | h :: hs, l => peakN h (l.take (2 ^ h)) :: cutsL hs (l.drop (2 ^ h))
theorem cutsL_len : ∀ hs l, (cutsL hs l).length = hs.length
  | [], _ => rfl
  | h :: hs, l => by simp [cutsL, cutsL_len hs]
theorem cutsL_append : ∀ (a b : List Nat) (l : List Bs), cutsL (a ++ b) l = cutsL a l ++ cutsL b (l.drop (sum2 a))
  | [], b, l => by simp [cutsL, sum2]
  | h :: hs, b, l => by simp [cutsL, sum2, cutsL_append hs b, List.drop_drop]
theorem cutsL_more : ∀ (a : List Nat) (l c : List Bs), sum2 a ≤ l.length → cutsL a (l ++ c) = cutsL a l
  | [], _, _, _ => rfl
  | h :: hs, l, c, hl => by
    have h1 : 2 ^ h + sum2 hs ≤ l.length := hl
    rw [cutsL, cutsL, List.take_append_of_le_length (by omega), List.drop_append_of_le_length (by omega), cutsL_more hs _ c (by simp; omega)]
theorem cutsL_all : ∀ (a : List Nat) (l : List Bs), sum2 a ≤ l.length → (∀ x ∈ l, x.length = 32) → ∀ x ∈ cutsL a l, x.length = 32
  | [], _, _, _, x, hx => by simp [cutsL] at hx
  | h :: hs, l, hl, ha, x, hx => by
    have h1 : 2 ^ h + sum2 hs ≤ l.length := hl
    rcases List.mem_cons.1 hx with rfl | hx
    · exact peakN_len (fun y hy => ha y (List.mem_of_mem_take hy)) h (by simp; omega)
    · exact cutsL_all hs _ (by simp; omega) (fun y hy => ha y (List.mem_of_mem_drop hy)) x hx

abbrev hts (n : Nat) : List Nat := htsB 21 n
def peaksOf (l : List Bs) : List Bs := cutsL (hts l.length) l
theorem sum2_hts21 {n : Nat} (hn : n < 2 ^ 21) : sum2 (hts n) = n := by rw [hts, sum2_hts, Nat.mod_eq_of_lt hn]
theorem peaksOf_len (l : List Bs) : (peaksOf l).length = (hts l.length).length := cutsL_len _ _

/-- One more mountain: q is the size in units of the mountain. -/
def raiseQ (q : Nat) (P : List Bs) (top : Bs) : List Bs :=
  if h : q % 2 = 1 then raiseQ (q / 2) P.dropLast (pairM (P.getLastD []) top) else P ++ [top]
termination_by q
decreasing_by omega
theorem raiseQ_odd {q : Nat} (h : q % 2 = 1) (P : List Bs) (top : Bs) : raiseQ q P top = raiseQ (q / 2) P.dropLast (pairM (P.getLastD []) top) := by rw [raiseQ, dif_pos h]
theorem raiseQ_even {q : Nat} (h : q % 2 = 0) (P : List Bs) (top : Bs) : raiseQ q P top = P ++ [top] := by rw [raiseQ, dif_neg (by omega)]

/-- The mountains of a range with one more mountain on further leaves. -/
theorem raise_of : ∀ (q h : Nat) (l c : List Bs), l.length = q * 2 ^ h → c.length = 2 ^ h → l.length + 2 ^ h < 2 ^ 21 → raiseQ q (peaksOf l) (peakN h c) = peaksOf (l ++ c) := by
  intro q
  induction q using Nat.strongRecOn with
  | _ q ih =>
    intro h l c hl hc hm
    have hh : h < 21 := by
      rcases Nat.lt_or_ge h 21 with x | x
      · exact x
      · have := Nat.pow_le_pow_right (n := 2) (by decide) x; omega
    have hpp := Nat.two_pow_pos h
    have hps : 2 ^ (h + 1) = 2 ^ h * 2 := Nat.pow_succ ..
    have key : ∀ (l' c' : List Bs), 2 ^ (h + 1) ∣ l'.length → c'.length = 2 ^ h → l'.length < 2 ^ 21 → peaksOf (l' ++ c') = peaksOf l' ++ [peakN h c'] := by
      intro l' c' hd hc' hm'
      unfold peaksOf
      rw [List.length_append, hc', hts, hts_add 21 _ h hh hd, cutsL_append, cutsL_more _ _ _ (by rw [sum2_hts21 hm']; omega), sum2_hts21 hm', List.drop_left]
      simp [cutsL, ← hc']
    rcases Nat.mod_two_eq_zero_or_one q with e | e
    · rw [raiseQ_even e, key l c ⟨q / 2, by rw [hl, hps, Nat.mul_assoc, Nat.mul_comm (2 ^ h)]; congr 1; omega⟩ hc (by omega)]
    · have hq1 : q / 2 * 2 + 1 = q := by omega
      have hl2 : l.length = q / 2 * 2 ^ (h + 1) + 2 ^ h := by
        rw [hl, hps, Nat.mul_comm (2 ^ h) 2, ← Nat.mul_assoc]
        conv => lhs; rw [← hq1]
        rw [Nat.add_mul, Nat.one_mul]
      have hsplit : l = l.take (q / 2 * 2 ^ (h + 1)) ++ l.drop (q / 2 * 2 ^ (h + 1)) := (List.take_append_drop _ _).symm
      obtain ⟨l', hl'⟩ : ∃ l', l.take (q / 2 * 2 ^ (h + 1)) = l' := ⟨_, rfl⟩
      obtain ⟨c', hc'⟩ : ∃ c', l.drop (q / 2 * 2 ^ (h + 1)) = c' := ⟨_, rfl⟩
      have hll : l'.length = q / 2 * 2 ^ (h + 1) := by rw [← hl', List.length_take]; omega
      have hcl : c'.length = 2 ^ h := by rw [← hc', List.length_drop]; omega
      rw [hl', hc'] at hsplit
      have hp : peaksOf l = peaksOf l' ++ [peakN h c'] := by
        rw [hsplit]
        exact key l' c' ⟨q / 2, by rw [hll, Nat.mul_comm]⟩ hcl (by omega)
      have hpk : pairM (peakN h c') (peakN h c) = peakN (h + 1) (c' ++ c) := by
        rw [peakN, List.take_left' hcl, List.drop_left' hcl]
      rw [raiseQ_odd e, hp, List.dropLast_concat, List.getLastD_concat, hpk, ih (q / 2) (by omega) (h + 1) l' (c' ++ c) hll (by rw [List.length_append, hcl, hc]; omega) (by omega), hsplit, List.append_assoc]

theorem raiseQ_len : ∀ (q h : Nat) (P : List Bs) (top : Bs), P.length = (hts (q * 2 ^ h)).length → q * 2 ^ h + 2 ^ h < 2 ^ 21 → (raiseQ q P top).length = (hts (q * 2 ^ h + 2 ^ h)).length := by
  intro q
  induction q using Nat.strongRecOn with
  | _ q ih =>
    intro h P top hl hm
    have hpp := Nat.two_pow_pos h
    have hps : 2 ^ (h + 1) = 2 ^ h * 2 := Nat.pow_succ ..
    have hh : h < 21 := by
      rcases Nat.lt_or_ge h 21 with x | x
      · exact x
      · have := Nat.pow_le_pow_right (n := 2) (by decide) x; omega
    rcases Nat.mod_two_eq_zero_or_one q with e | e
    · rw [raiseQ_even e, hts, hts_add 21 _ h hh ⟨q / 2, by rw [hps, Nat.mul_assoc, Nat.mul_comm (2 ^ h)]; congr 1; omega⟩]
      simp [hl]
    · have hq1 : q / 2 * 2 + 1 = q := by omega
      have hl2 : q * 2 ^ h = q / 2 * 2 ^ (h + 1) + 2 ^ h := by
        rw [hps, Nat.mul_comm (2 ^ h) 2, ← Nat.mul_assoc]
        conv => lhs; rw [← hq1]
        rw [Nat.add_mul, Nat.one_mul]
      have h3 : (hts (q * 2 ^ h)).length = (hts (q / 2 * 2 ^ (h + 1))).length + 1 := by
        rw [hl2, hts, hts_add 21 _ h hh ⟨q / 2, by rw [Nat.mul_comm]⟩]; simp
      rw [raiseQ_odd e, ih (q / 2) (by omega) (h + 1) _ _ (by rw [List.length_dropLast]; omega) (by omega)]
      congr 2
      omega
theorem raiseQ_all : ∀ (q : Nat) (P : List Bs) (top : Bs), (∀ x ∈ P, x.length = 32) → top.length = 32 → ∀ x ∈ raiseQ q P top, x.length = 32 := by
  intro q
  induction q using Nat.strongRecOn with
  | _ q ih =>
    intro P top hP ht x hx
    rcases Nat.mod_two_eq_zero_or_one q with e | e
    · rw [raiseQ_even e] at hx
      rcases List.mem_append.1 hx with h | h
      · exact hP x h
      · simp at h; subst h; exact ht
    · rw [raiseQ_odd e] at hx
      exact ih (q / 2) (by omega) _ _ (fun y hy => hP y ((List.dropLast_sublist P).subset hy)) (pairM_len _ _) x hx

/-- The error of a list of leaves. -/
def checkM (l : List Bs) : Int := if 1024 < l.length then 10 else if all32 l = true then 0 else 1
def okM (s : Int) (P : List Bs) : Bool := decide (0 ≤ s) && decide (s ≤ 1048576) && decide (P.length = (hts s.toNat).length) && all32 P
theorem okM_iff {s : Int} {P : List Bs} : okM s P = true ↔ (0 ≤ s ∧ s ≤ 1048576) ∧ P.length = (hts s.toNat).length ∧ all32 P = true := by
  unfold okM
  simp only [Bool.and_eq_true, decide_eq_true_eq]
  constructor
  · rintro ⟨⟨⟨a, b⟩, c⟩, d⟩; exact ⟨⟨a, b⟩, c, d⟩
  · rintro ⟨⟨a, b⟩, c, d⟩; exact ⟨⟨⟨a, b⟩, c⟩, d⟩

/-- The mountain on which a leaf stands: its number, height and first leaf. -/
def placeL : List Nat → Nat → Nat → Nat → Nat × Nat × Nat
  | [], _, num, first => (num, 0, first)
  | h :: hs, i, num, first => if i < first + 2 ^ h then (num, h, first) else placeL hs i (num + 1) (first + 2 ^ h)
def place (n i : Nat) : Nat × Nat × Nat := placeL (hts n) i 0 0
theorem placeL_ok : ∀ (hs : List Nat) (i num first : Nat), first ≤ i → i < first + sum2 hs →
    ∃ k, (placeL hs i num first).1 = num + k ∧ k < hs.length ∧ hs[k]? = some (placeL hs i num first).2.1 ∧ (placeL hs i num first).2.2 = first + sum2 (hs.take k) ∧ (placeL hs i num first).2.2 ≤ i ∧ i < (placeL hs i num first).2.2 + 2 ^ (placeL hs i num first).2.1
  | [], i, num, first, h0, h1 => by simp [sum2] at h1; omega
  | h :: hs, i, num, first, h0, h1 => by
    rw [placeL]
    split
    · rename_i hc
      exact ⟨0, by simp, by simp, by simp, by simp [sum2], h0, hc⟩
    · rename_i hc
      simp only [sum2] at h1
      obtain ⟨k, a, b, c, d, e⟩ := placeL_ok hs i (num + 1) (first + 2 ^ h) (by omega) (by omega)
      refine ⟨k + 1, by rw [a]; omega, by simp; omega, by simpa using c, ?_, e⟩
      rw [d]; simp [sum2]; omega
theorem cutsL_get : ∀ (hs : List Nat) (l : List Bs) (k h : Nat), hs[k]? = some h → (cutsL hs l)[k]? = some (peakN h ((l.drop (sum2 (hs.take k))).take (2 ^ h)))
  | [], _, _, _, hk => by simp at hk
  | a :: hs, l, 0, h, hk => by simp at hk; subst hk; simp [cutsL, sum2]
  | a :: hs, l, k + 1, h, hk => by
    simp at hk
    simp [cutsL, sum2, cutsL_get hs _ k h hk, List.drop_drop]

/-- The peak of 2^j leaves from a place on. -/
def subM (l : List Bs) (at_ j : Nat) : Bs := peakN j ((l.drop at_).take (2 ^ j))
theorem subM_pair (l : List Bs) (at_ j : Nat) : pairM (subM l at_ j) (subM l (at_ + 2 ^ j) j) = subM l at_ (j + 1) := by
  unfold subM
  rw [peakN, List.take_take, List.drop_take, List.drop_drop, Nat.pow_succ]
  congr 3
  · omega
  · omega
def besideN (l : List Bs) (first i j : Nat) : Bs := subM l (first + ((i - first) / 2 ^ j ^^^ 1) * 2 ^ j) j
def proveN (l : List Bs) (first i n : Nat) : List Bs := (List.range n).map (besideN l first i)
theorem proveN_succ (l : List Bs) (first i n : Nat) : proveN l first i (n + 1) = proveN l first i n ++ [besideN l first i n] := by simp [proveN, List.range_succ]
theorem proveN_len (l : List Bs) (first i n : Nat) : (proveN l first i n).length = n := by simp [proveN]
def stepM (i j : Nat) (x r : Bs) : Bs := if i / 2 ^ j % 2 = 1 then pairM r x else pairM x r
def climbM (i : Nat) (R : List Bs) (x : Bs) : Nat → Bs
  | 0 => x
  | n + 1 => stepM i n (climbM i R x n) (R.getD n [])
theorem climb_prove (l : List Bs) (first i h : Nat) (hf : first ≤ i) (hi : i < first + 2 ^ h) (hl : first + 2 ^ h ≤ l.length) : ∀ n, n ≤ h → climbM (i - first) (proveN l first i h) (l.getD i []) n = subM l (first + (i - first) / 2 ^ n * 2 ^ n) n
  | 0, _ => by
    unfold climbM subM
    rw [Nat.pow_zero, Nat.div_one, Nat.mul_one, show first + (i - first) = i by omega, peakN, List.getD_eq_getElem?_getD, List.getD_eq_getElem?_getD, List.getElem?_take_of_lt (by omega), List.getElem?_drop]
    rfl
  | n + 1, hn => by
    rw [climbM, climb_prove l first i h hf hi hl n (by omega)]
    have hg : (proveN l first i h).getD n [] = besideN l first i n := by
      unfold proveN
      rw [List.getD_eq_getElem?_getD, List.getElem?_map, List.getElem?_range (by omega)]
      rfl
    rw [hg]
    obtain ⟨q, hq⟩ : ∃ q, (i - first) / 2 ^ n = q := ⟨_, rfl⟩
    have h2 : (i - first) / 2 ^ (n + 1) = q / 2 := by rw [Nat.pow_succ, ← Nat.div_div_eq_div_mul, hq]
    unfold stepM besideN
    rw [hq, h2, Nat.pow_succ]
    have hp := Nat.two_pow_pos n
    rcases Nat.mod_two_eq_zero_or_one q with e | e
    · rw [if_neg (by omega), xor_even e]
      have := subM_pair l (first + q * 2 ^ n) n
      rw [show first + q * 2 ^ n + 2 ^ n = first + (q + 1) * 2 ^ n by rw [Nat.add_mul, Nat.one_mul, Nat.add_assoc]] at this
      rw [this]
      congr 1
      have h3 : q = q / 2 * 2 := by omega
      conv => lhs; rw [h3]
      rw [Nat.mul_assoc, Nat.mul_comm 2]
    · rw [if_pos e, xor_odd e]
      have := subM_pair l (first + (q - 1) * 2 ^ n) n
      rw [show first + (q - 1) * 2 ^ n + 2 ^ n = first + q * 2 ^ n by
        have h3 : (q - 1) * 2 ^ n + 2 ^ n = q * 2 ^ n := by
          conv => rhs; rw [show q = (q - 1) + 1 by omega]
          rw [Nat.add_mul, Nat.one_mul]
        omega] at this
      rw [this]
      congr 1
      have h3 : q - 1 = q / 2 * 2 := by omega
      rw [h3, Nat.mul_assoc, Nat.mul_comm 2]

def inclB (s : Int) (P : List Bs) (i : Int) (leaf : Bs) (R : List Bs) : Bool :=
  okM s P && decide (0 ≤ i) && decide (i < s) && decide (leaf.length = 32) && all32 R && decide (R.length = (place s.toNat i.toNat).2.1) &&
    decide (climbM (i.toNat - (place s.toNat i.toNat).2.2) R leaf R.length = P.getD (place s.toNat i.toNat).1 [])

/-- The height of the next step of growth, from k on. -/
def hUp (a b : Nat) : Nat → Nat → Nat
  | 0, h => h
  | f + 1, h => if a % 2 ^ (h + 1) = 0 ∧ a + 2 ^ (h + 1) ≤ b then hUp a b f (h + 1) else h
def hStep (a b : Nat) : Nat := hUp a b 20 0
theorem hUp_ge (a b : Nat) : ∀ f h, h ≤ hUp a b f h ∧ hUp a b f h ≤ h + f
  | 0, h => by simp [hUp]
  | f + 1, h => by
    rw [hUp]
    split
    · have := hUp_ge a b f (h + 1); omega
    · omega
theorem hUp_ok (a b : Nat) : ∀ f h, a % 2 ^ h = 0 → a + 2 ^ h ≤ b → a % 2 ^ hUp a b f h = 0 ∧ a + 2 ^ hUp a b f h ≤ b
  | 0, h, h1, h2 => ⟨h1, h2⟩
  | f + 1, h, h1, h2 => by
    rw [hUp]
    split
    · rename_i c; exact hUp_ok a b f (h + 1) c.1 c.2
    · exact ⟨h1, h2⟩
theorem hUp_max (a b : Nat) : ∀ f h, hUp a b f h < h + f → ¬ (a % 2 ^ (hUp a b f h + 1) = 0 ∧ a + 2 ^ (hUp a b f h + 1) ≤ b)
  | 0, h, hl => by simp [hUp] at hl
  | f + 1, h, hl => by
    rw [hUp] at hl ⊢
    split at hl
    · rename_i c
      rw [if_pos c]
      exact hUp_max a b f (h + 1) (by omega)
    · rename_i c
      rw [if_neg c]
      exact c
theorem hStep_ok {a b : Nat} (h : a < b) : a % 2 ^ hStep a b = 0 ∧ a + 2 ^ hStep a b ≤ b := hUp_ok a b 20 0 (by simp [Nat.mod_one]) (by rw [Nat.pow_zero]; exact h)
/-- Whatever height divides, fits, and cannot be one more, is that height. -/
theorem hStep_is {a b h : Nat} (hab : a < b) (hb : b < 2 ^ 21) (h1 : a % 2 ^ h = 0) (h2 : a + 2 ^ h ≤ b) (h3 : ¬ (a % 2 ^ (h + 1) = 0 ∧ a + 2 ^ (h + 1) ≤ b)) : hStep a b = h := by
  obtain ⟨e1, e2⟩ := hStep_ok hab
  have hle := (hUp_ge a b 20 0).2
  rcases Nat.lt_trichotomy (hStep a b) h with c | c | c
  · have hlt : hStep a b < 0 + 20 := by
      have : h < 21 := by
        rcases Nat.lt_or_ge h 21 with x | x
        · exact x
        · have := Nat.pow_le_pow_right (n := 2) (by decide) x; omega
      omega
    have := hUp_max a b 20 0 hlt
    refine absurd ⟨?_, ?_⟩ this
    · exact Nat.mod_eq_zero_of_dvd (Nat.dvd_trans (Nat.pow_dvd_pow 2 c) (Nat.dvd_of_mod_eq_zero h1))
    · have : 2 ^ (hUp a b 20 0 + 1) ≤ 2 ^ h := Nat.pow_le_pow_right (by decide) c
      omega
  · exact c
  · refine absurd ⟨?_, ?_⟩ h3
    · exact Nat.mod_eq_zero_of_dvd (Nat.dvd_trans (Nat.pow_dvd_pow 2 c) (Nat.dvd_of_mod_eq_zero e1))
    · have : 2 ^ (h + 1) ≤ 2 ^ hStep a b := Nat.pow_le_pow_right (by decide) c
      omega
def stepsL (a b : Nat) : List Nat := if h : a < b then hStep a b :: stepsL (a + 2 ^ hStep a b) b else []
termination_by b - a
decreasing_by have := (hStep_ok h).2; have := Nat.two_pow_pos (hStep a b); omega
theorem stepsL_go {a b : Nat} (h : a < b) : stepsL a b = hStep a b :: stepsL (a + 2 ^ hStep a b) b := by rw [stepsL, dif_pos h]
theorem stepsL_end {a b : Nat} (h : ¬ a < b) : stepsL a b = [] := by rw [stepsL, dif_neg h]
theorem sum2_steps : ∀ (n a b : Nat), b - a ≤ n → a ≤ b → sum2 (stepsL a b) = b - a
  | 0, a, b, h, h2 => by rw [stepsL_end (by omega)]; simp [sum2]; omega
  | n + 1, a, b, h, h2 => by
    by_cases c : a < b
    · have e := (hStep_ok c).2
      have hp := Nat.two_pow_pos (hStep a b)
      rw [stepsL_go c, sum2, sum2_steps n _ b (by omega) e]
      omega
    · rw [stepsL_end c]; simp [sum2]; omega
def growN (l : List Bs) (a b : Nat) : List Bs := cutsL (stepsL a b) (l.drop a)
/-- One mountain after the other. -/
def raises : List Nat → List Bs → Nat → List Bs → List Bs
  | [], _, _, P => P
  | _ :: _, [], _, P => P
  | h :: hs, x :: xs, s, P => raises hs xs (s + 2 ^ h) (raiseQ (s / 2 ^ h) P x)
theorem raises_grow (l : List Bs) (hl : l.length < 2 ^ 21) : ∀ (n a : Nat), l.length - a ≤ n → a ≤ l.length → raises (stepsL a l.length) (growN l a l.length) a (peaksOf (l.take a)) = peaksOf l
  | 0, a, h1, h2 => by
    have : a = l.length := by omega
    subst this
    rw [stepsL_end (by omega), raises, List.take_length]
  | n + 1, a, h1, h2 => by
    by_cases c : a < l.length
    · obtain ⟨e1, e2⟩ := hStep_ok c
      have hp := Nat.two_pow_pos (hStep a l.length)
      have hlt : (l.take a).length = a / 2 ^ hStep a l.length * 2 ^ hStep a l.length := by
        rw [List.length_take, Nat.min_eq_left h2]
        have := Nat.div_add_mod a (2 ^ hStep a l.length)
        rw [e1, Nat.mul_comm] at this
        omega
      have hr := raise_of (a / 2 ^ hStep a l.length) (hStep a l.length) (l.take a) ((l.drop a).take (2 ^ hStep a l.length)) hlt (by simp; omega) (by simp; omega)
      have ht : l.take a ++ (l.drop a).take (2 ^ hStep a l.length) = l.take (a + 2 ^ hStep a l.length) := by rw [List.take_add]
      rw [ht] at hr
      have := raises_grow l hl n (a + 2 ^ hStep a l.length) (by omega) e2
      rw [growN, stepsL_go c, cutsL, raises, hr, List.drop_drop]
      exact this
    · have : a = l.length := by omega
      subst this
      rw [stepsL_end (by omega), raises, List.take_length]
def grownB (s : Int) (P : List Bs) (s' : Int) (P' : List Bs) (R : List Bs) : Bool :=
  okM s P && okM s' P' && decide (s ≤ s') && all32 R && decide ((stepsL s.toNat s'.toNat).length = R.length) && decide (raises (stepsL s.toNat s'.toNat) R s.toNat P = P')

theorem peaksOf_all {l : List Bs} (hl : l.length < 2 ^ 21) (h : ∀ x ∈ l, x.length = 32) : ∀ x ∈ peaksOf l, x.length = 32 := cutsL_all _ _ (by rw [sum2_hts21 hl]; omega) h
theorem okM_of {l : List Bs} (hl : l.length ≤ 1024) (h : ∀ x ∈ l, x.length = 32) : okM (l.length : Int) (peaksOf l) = true :=
  okM_iff.2 ⟨⟨by omega, by omega⟩, by rw [peaksOf_len]; simp, all32_of (peaksOf_all (by omega) h)⟩
theorem place_ok {n i : Nat} (hn : n < 2 ^ 21) (hi : i < n) : (hts n)[(place n i).1]? = some (place n i).2.1 ∧ (place n i).2.2 = sum2 ((hts n).take (place n i).1) ∧ (place n i).2.2 ≤ i ∧ i < (place n i).2.2 + 2 ^ (place n i).2.1 ∧ (place n i).2.2 + 2 ^ (place n i).2.1 ≤ n ∧ (place n i).2.1 < 21 := by
  obtain ⟨k, a, b, c, d, e, f⟩ := placeL_ok (hts n) i 0 0 (by omega) (by rw [sum2_hts21 hn]; omega)
  unfold place
  rw [Nat.zero_add] at a d
  rw [a]
  refine ⟨c, d, e, f, ?_, hts_lt 21 n _ (List.mem_of_getElem? c)⟩
  have h1 : hts n = (hts n).take k ++ (placeL (hts n) i 0 0).2.1 :: (hts n).drop (k + 1) := by
    have h2 : (hts n)[k] = (placeL (hts n) i 0 0).2.1 := by rw [List.getElem?_eq_getElem b] at c; exact Option.some.inj c
    rw [← h2, ← List.drop_eq_getElem_cons b, List.take_append_drop]
  have h3 := congrArg sum2 h1
  rw [sum2_append, sum2_hts21 hn, sum2] at h3
  rw [d]
  omega
/-- A proof of a leaf is accepted. -/
theorem incl_prove {l : List Bs} (hl : l.length ≤ 1024) (h : ∀ x ∈ l, x.length = 32) {i : Nat} (hi : i < l.length) :
    inclB (l.length : Int) (peaksOf l) (i : Int) (l.getD i []) (proveN l (place l.length i).2.2 i (place l.length i).2.1) = true := by
  obtain ⟨p1, p2, p3, p4, p5, p6⟩ := place_ok (show l.length < 2 ^ 21 by omega) hi
  unfold inclB
  simp only [Int.toNat_natCast]
  have hx : (l.getD i []).length = 32 := by
    rw [List.getD_eq_getElem?_getD, List.getElem?_eq_getElem hi]
    exact h _ (List.getElem_mem _)
  have hR : all32 (proveN l (place l.length i).2.2 i (place l.length i).2.1) = true := by
    refine all32_of fun x hx => ?_
    unfold proveN at hx
    obtain ⟨j, hj, rfl⟩ := List.mem_map.1 hx
    have hj' : j < (place l.length i).2.1 := List.mem_range.1 hj
    unfold besideN subM
    refine peakN_len (fun y hy => h y (List.mem_of_mem_drop (List.mem_of_mem_take hy))) j ?_
    rw [List.length_take, List.length_drop]
    have := route_lt (i := i - (place l.length i).2.2) (h := (place l.length i).2.1) (j := j) (by omega) hj'
    have h2 : ((i - (place l.length i).2.2) / 2 ^ j ^^^ 1) * 2 ^ j + 2 ^ j ≤ 2 ^ (place l.length i).2.1 := by
      have h3 : (((i - (place l.length i).2.2) / 2 ^ j ^^^ 1) + 1) * 2 ^ j ≤ 2 ^ ((place l.length i).2.1 - j) * 2 ^ j := Nat.mul_le_mul_right _ this
      rw [← Nat.pow_add, Nat.sub_add_cancel (by omega), Nat.add_mul, Nat.one_mul] at h3
      exact h3
    omega
  have hc := climb_prove l (place l.length i).2.2 i (place l.length i).2.1 p3 p4 p5 (place l.length i).2.1 (Nat.le_refl _)
  rw [Nat.div_eq_of_lt (by omega), Nat.zero_mul, Nat.add_zero] at hc
  have hP : (peaksOf l).getD (place l.length i).1 [] = subM l (place l.length i).2.2 (place l.length i).2.1 := by
    unfold peaksOf subM
    rw [List.getD_eq_getElem?_getD, cutsL_get _ _ _ _ p1, ← p2]
    rfl
  simp only [Bool.and_eq_true, decide_eq_true_eq]
  exact ⟨⟨⟨⟨⟨⟨okM_of hl h, by omega⟩, by omega⟩, hx⟩, hR⟩, proveN_len _ _ _ _⟩, by rw [proveN_len, hc, hP]⟩
/-- A proof of growth is accepted. -/
theorem grown_grow {l : List Bs} (hl : l.length ≤ 1024) (h : ∀ x ∈ l, x.length = 32) {a : Nat} (ha : a ≤ l.length) :
    grownB (a : Int) (peaksOf (l.take a)) (l.length : Int) (peaksOf l) (growN l a l.length) = true := by
  have e1 := okM_of (l := l.take a) (by simp; omega) (fun x hx => h x (List.mem_of_mem_take hx))
  rw [List.length_take, Nat.min_eq_left ha] at e1
  unfold grownB
  simp only [Int.toNat_natCast]
  have hR : all32 (growN l a l.length) = true := all32_of (cutsL_all _ _ (by rw [sum2_steps _ _ _ (Nat.le_refl _) ha]; simp) (fun x hx => h x (List.mem_of_mem_drop hx)))
  simp only [Bool.and_eq_true, decide_eq_true_eq]
  exact ⟨⟨⟨⟨⟨e1, okM_of hl h⟩, by omega⟩, hR⟩, by rw [growN, cutsL_len]⟩, raises_grow l (by omega) _ a (Nat.le_refl _) ha⟩
end Licit
