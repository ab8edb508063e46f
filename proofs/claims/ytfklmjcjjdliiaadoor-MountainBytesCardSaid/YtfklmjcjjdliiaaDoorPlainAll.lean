/- Plain facts on the codec of layer 2: numbers, texts and lists as bytes, and how they are read. No program in sight. Plain laws on the codec: what was written is read back; a proper beginning is too short; what was read has just those bytes; after an error nothing more is read. No program in sight. One-time keys under a tree: digests of lists of texts, secrets, leaves, rows, bits, signatures as plain functions. No program in sight. Signatures with one-time keys as plain functions: what is signed, what a check computes, and that a check of what was signed climbs to the root. No program in sight. -/
import Derived.Test.YtfklmjcjjdliiaaDoorFrmAll
import Derived.Lib.ItoaMem
import Derived.Lib.ItoaLen
import Derived.Test.YtfklmjcjjdliiaaDoorPlainShaAll
namespace Licit
open Go Go.Lib

/-- What 'count' finds: a number and the place of its end; or nothing (true: too short). -/
def cnt (most e : Int) : Nat → Int → Bs → (Int × Nat) ⊕ Bool
  | _, _, [] => .inr true
  | i, n, c :: s =>
    if (c.toNat : Int) = e ∧ 0 < i then .inl (n, i)
    else if (c.toNat : Int) < 48 ∨ 57 < (c.toNat : Int) ∨ (i = 1 ∧ n = 0) then .inr false
    else if most < 10 * n + ((c.toNat : Int) - 48) then .inr false
    else cnt most e (i + 1) (10 * n + ((c.toNat : Int) - 48)) s

theorem cnt_at (most e : Int) (s : ByteArray) (k : Nat) (v : Int) (hk : k < s.size) :
    cnt most e k v (s.data.toList.drop k) =
      if (s[k].toNat : Int) = e ∧ 0 < k then .inl (v, k)
      else if (s[k].toNat : Int) < 48 ∨ 57 < (s[k].toNat : Int) ∨ (k = 1 ∧ v = 0) then .inr false
      else if most < 10 * v + ((s[k].toNat : Int) - 48) then .inr false
      else cnt most e (k + 1) (10 * v + ((s[k].toNat : Int) - 48)) (s.data.toList.drop (k + 1)) := by
  rw [List.drop_eq_getElem_cons (by simpa using hk)]
  rfl

theorem cnt_found {most e : Int} {s : ByteArray} {k : Nat} {v : Int} {R : (Int × Nat) ⊕ Bool} (hk : k < s.size) (H : cnt most e k v (s.data.toList.drop k) = R) (h1 : (s[k].toNat : Int) = e) (h2 : 0 < k) : R = .inl (v, k) := by
  rw [← H, cnt_at _ _ _ _ _ hk, if_pos ⟨h1, h2⟩]

theorem cnt_bad {most e : Int} {s : ByteArray} {k : Nat} {v : Int} {R : (Int × Nat) ⊕ Bool} (hk : k < s.size) (H : cnt most e k v (s.data.toList.drop k) = R) (h1 : ¬ ((s[k].toNat : Int) = e ∧ 0 < k))
    (h2 : (s[k].toNat : Int) < 48 ∨ 57 < (s[k].toNat : Int) ∨ (k = 1 ∧ v = 0) ∨ most < 10 * v + ((s[k].toNat : Int) - 48)) : R = .inr false := by
  rw [← H, cnt_at _ _ _ _ _ hk, if_neg h1]
  by_cases h3 : (s[k].toNat : Int) < 48 ∨ 57 < (s[k].toNat : Int) ∨ (k = 1 ∧ v = 0)
  · rw [if_pos h3]
  · rw [if_neg h3, if_pos (by omega)]

theorem cnt_go {most e : Int} {s : ByteArray} {k : Nat} {v : Int} {R : (Int × Nat) ⊕ Bool} (hk : k < s.size) (H : cnt most e k v (s.data.toList.drop k) = R) (h1 : ¬ ((s[k].toNat : Int) = e ∧ 0 < k))
    (h2 : ¬ ((s[k].toNat : Int) < 48 ∨ 57 < (s[k].toNat : Int) ∨ (k = 1 ∧ v = 0))) (h3 : ¬ most < 10 * v + ((s[k].toNat : Int) - 48)) :
    cnt most e (k + 1) (10 * v + ((s[k].toNat : Int) - 48)) (s.data.toList.drop (k + 1)) = R := by
  rw [← H, cnt_at _ _ _ _ _ hk, if_neg h1, if_neg h2, if_neg h3]

theorem cnt_end (most e : Int) (s : ByteArray) (k : Nat) (v : Int) (hk : s.size ≤ k) : cnt most e k v (s.data.toList.drop k) = .inr true := by
  rw [List.drop_of_length_le (by simpa using hk)]
  rfl

theorem cnt_bounds {most e : Int} : ∀ (l : Bs) (i : Nat) (n : Int) {m : Int} {j : Nat}, 0 ≤ n → n ≤ most → cnt most e i n l = .inl (m, j) → 0 ≤ m ∧ m ≤ most ∧ i ≤ j ∧ 0 < j ∧ j < i + l.length
  | [], _, _, _, _, _, _, h => by simp [cnt] at h
  | c :: s, i, n, m, j, h0, h1, h => by
    unfold cnt at h
    split at h
    · rename_i hc
      simp only [Sum.inl.injEq, Prod.mk.injEq] at h
      obtain ⟨rfl, rfl⟩ := h
      simp only [List.length_cons]
      omega
    · split at h
      · simp at h
      · split at h
        · simp at h
        · have := cnt_bounds s (i + 1) _ (by omega) (by omega) h
          simp only [List.length_cons]
          omega

/-- A reader: the rest, and the error. -/
abbrev St := Bs × Int

def rdNum (low high : Int) (st : St) : Int × St :=
  if st.2 ≠ 0 then (0, st) else
  match cnt 281474976710656 59 0 0 st.1 with
  | .inl (n, i) => if n < low ∨ high < n then (0, ([], 3)) else (n, (st.1.drop (i + 1), 0))
  | .inr b => (0, ([], if b then 13 else 17))

def rdText (most : Int) (st : St) : Bs × St :=
  if st.2 ≠ 0 then ([], st) else
  match cnt 65536 58 0 0 st.1 with
  | .inl (n, i) =>
    if st.1.length ≤ i + 1 + n.toNat then ([], ([], 13))
    else if st.1[i + 1 + n.toNat]? ≠ some 44 then ([], ([], 17))
    else if most < n then ([], ([], 10))
    else ((st.1.drop (i + 1)).take n.toNat, (st.1.drop (i + 1 + n.toNat + 1), 0))
  | .inr b => ([], ([], if b then 13 else 17))

def rdLoop {α : Type} (one : St → α × St) : Nat → St → List α × St
  | 0, st => ([], st)
  | k + 1, st => if st.2 ≠ 0 then ([], st) else ((one st).1 :: (rdLoop one k (one st).2).1, (rdLoop one k (one st).2).2)

def rdMany {α : Type} (one : St → α × St) (st : St) : List α × St :=
  let x := rdNum 0 1024 st
  let y := rdLoop one x.1.toNat x.2
  (if y.2.2 ≠ 0 then [] else y.1, y.2)

def rdNums (low high : Int) (st : St) : List Int × St := rdMany (rdNum low high) st
def rdTexts (most : Int) (st : St) : List Bs × St := rdMany (rdText most) st
def rdClose (st : St) : Int := if st.2 = 0 ∧ st.1 ≠ [] then 17 else st.2

theorem rdLoop_stop {α : Type} (one : St → α × St) (k : Nat) (st : St) (h : st.2 ≠ 0) : rdLoop one k st = ([], st) := by
  cases k with
  | zero => rfl
  | succ k => simp [rdLoop, h]

theorem rdLoop_go {α : Type} (one : St → α × St) (k : Nat) (st : St) (h : st.2 = 0) : rdLoop one (k + 1) st = ((one st).1 :: (rdLoop one k (one st).2).1, (rdLoop one k (one st).2).2) := by
  simp [rdLoop, h]

/-- What the loop of a list has so far, and what is still to come. -/
def RdAt {α : Type} (one : St → α × St) (n : Nat) (st0 : St) (k : Nat) (acc : List α) (st : St) : Prop :=
  rdLoop one n st0 = (acc ++ (rdLoop one (n - k) st).1, (rdLoop one (n - k) st).2)

theorem RdAt.start {α : Type} (one : St → α × St) (n : Nat) (st : St) : RdAt one n st 0 [] st := by simp [RdAt]

theorem RdAt.step {α : Type} {one : St → α × St} {n : Nat} {st0 : St} {k : Nat} {acc : List α} {st : St} (h : RdAt one n st0 k acc st) (hk : k < n) (h0 : st.2 = 0) : RdAt one n st0 (k + 1) (acc ++ [(one st).1]) (one st).2 := by
  unfold RdAt at *
  rw [h, show n - k = (n - (k + 1)) + 1 by omega, rdLoop_go one _ st h0]
  simp

theorem RdAt.stop {α : Type} {one : St → α × St} {n : Nat} {st0 : St} {k : Nat} {acc : List α} {st : St} (h : RdAt one n st0 k acc st) (hk : n ≤ k ∨ st.2 ≠ 0) : rdLoop one n st0 = (acc, st) := by
  unfold RdAt at h
  rcases hk with hk | hk
  · rw [h, show n - k = 0 by omega]; simp [rdLoop]
  · rw [h, rdLoop_stop one _ st hk]; simp

theorem rdMany_of {α : Type} {one : St → α × St} {st st1 st2 : St} {n : Nat} {acc : List α} (hn : (rdNum 0 1024 st).1 = (n : Int)) (hs : st1 = (rdNum 0 1024 st).2) (hl : rdLoop one n st1 = (acc, st2)) :
    rdMany one st = (if st2.2 ≠ 0 then [] else acc, st2) := by
  simp only [rdMany, hn, ← hs, Int.toNat_natCast, hl]

theorem rdNum_res (low high : Int) (st : St) : (rdNum low high st).1 = 0 ∨ (low ≤ (rdNum low high st).1 ∧ (rdNum low high st).1 ≤ high) := by
  unfold rdNum
  split
  · simp
  · split
    · split
      · simp
      · right; dsimp only; omega
    · simp

theorem rdNum_len (low high : Int) (st : St) : (rdNum low high st).2.1.length ≤ st.1.length := by
  unfold rdNum
  split
  · simp
  · split
    · split <;> simp
    · simp

theorem rdText_len (most : Int) (st : St) : (rdText most st).2.1.length ≤ st.1.length := by
  unfold rdText
  split
  · simp
  · split
    · split
      · simp
      · split
        · simp
        · split <;> simp
    · simp

theorem rdLoop_len {α : Type} (one : St → α × St) : ∀ (k : Nat) (st : St), (rdLoop one k st).1.length ≤ k
  | 0, st => by simp [rdLoop]
  | k + 1, st => by
    unfold rdLoop
    split
    · simp
    · simp only [List.length_cons]
      have := rdLoop_len one k (one st).2
      omega

theorem rdLoop_st {α : Type} (one : St → α × St) (h : ∀ st, (one st).2.1.length ≤ st.1.length) : ∀ (k : Nat) (st : St), (rdLoop one k st).2.1.length ≤ st.1.length
  | 0, st => by simp [rdLoop]
  | k + 1, st => by
    unfold rdLoop
    split
    · simp
    · exact Nat.le_trans (rdLoop_st one h k _) (h st)

theorem rdMany_len {α : Type} (one : St → α × St) (st : St) : (rdMany one st).1.length ≤ 1024 := by
  have h1 := rdNum_res 0 1024 st
  have h2 := rdLoop_len one (rdNum 0 1024 st).1.toNat (rdNum 0 1024 st).2
  simp only [rdMany]
  split
  · simp
  · omega

theorem rdMany_st {α : Type} (one : St → α × St) (h : ∀ st, (one st).2.1.length ≤ st.1.length) (st : St) : (rdMany one st).2.1.length ≤ st.1.length :=
  Nat.le_trans (rdLoop_st one h _ _) (rdNum_len 0 1024 st)

/-! ### Writing -/

def eNum (n : Int) : Bs × Int := if n < 0 ∨ 281474976710656 < n then ([], 3) else (decDigits n.toNat ++ [59], 0)
def eText (s : Bs) : Bs × Int := if 65536 < s.length then ([], 10) else (decDigits s.length ++ [58] ++ s ++ [44], 0)
def eAll {α : Type} (one : α → Bs × Int) : List α → Bs → Bs × Int
  | [], acc => (acc, 0)
  | x :: l, acc => if (one x).2 ≠ 0 then ([], (one x).2) else eAll one l (acc ++ (one x).1)
def eList {α : Type} (one : α → Bs × Int) (l : List α) : Bs × Int := if 1024 < l.length then ([], 10) else eAll one l (decDigits l.length ++ [59])

end Licit
namespace Licit
open Go Go.Lib

theorem dec_pos (u : Nat) : 0 < (decDigits u).length := by rw [decDigits_length]; exact nDigits_pos u
theorem dec_s {u : Nat} (h : u < 10) : decDigits u = [UInt8.ofNat (48 + u)] := decDigits_one h
theorem dec_b {u : Nat} (h : ¬ u < 10) : decDigits u = decDigits (u / 10) ++ [UInt8.ofNat (48 + u % 10)] := by rw [decDigits, dif_neg h]
theorem digit_nat {d : Nat} (h : d < 10) : ((UInt8.ofNat (48 + d)).toNat : Int) = 48 + d := by rw [UInt8.toNat_ofNat']; omega

theorem cnt_cons (most e : Int) (i : Nat) (n : Int) (c : UInt8) (s : Bs) : cnt most e i n (c :: s) =
    if (c.toNat : Int) = e ∧ 0 < i then .inl (n, i)
    else if (c.toNat : Int) < 48 ∨ 57 < (c.toNat : Int) ∨ (i = 1 ∧ n = 0) then .inr false
    else if most < 10 * n + ((c.toNat : Int) - 48) then .inr false
    else cnt most e (i + 1) (10 * n + ((c.toNat : Int) - 48)) s := rfl

theorem rdNum_of {low high : Int} {l : Bs} {n : Int} {i : Nat} (h : cnt 281474976710656 59 0 0 l = .inl (n, i)) :
    rdNum low high (l, 0) = if n < low ∨ high < n then (0, ([], 3)) else (n, (l.drop (i + 1), 0)) := by
  simp only [rdNum, h]; rfl
theorem rdNum_no {low high : Int} {l : Bs} {b : Bool} (h : cnt 281474976710656 59 0 0 l = .inr b) : rdNum low high (l, 0) = (0, ([], if b then 13 else 17)) := by
  simp only [rdNum, h]; rfl
theorem rdText_of {most : Int} {l : Bs} {n : Int} {i : Nat} (h : cnt 65536 58 0 0 l = .inl (n, i)) :
    rdText most (l, 0) = if l.length ≤ i + 1 + n.toNat then ([], ([], 13))
    else if l[i + 1 + n.toNat]? ≠ some 44 then ([], ([], 17))
    else if most < n then ([], ([], 10))
    else ((l.drop (i + 1)).take n.toNat, (l.drop (i + 1 + n.toNat + 1), 0)) := by
  simp only [rdText, h]; rfl
theorem rdText_no {most : Int} {l : Bs} {b : Bool} (h : cnt 65536 58 0 0 l = .inr b) : rdText most (l, 0) = ([], ([], if b then 13 else 17)) := by
  simp only [rdText, h]; rfl

/-- The digits of a number, read. -/
theorem cnt_digits {most e : Int} (he : e < 48 ∨ 57 < e) (u : Nat) : ∀ (rest : Bs), (u : Int) ≤ most → cnt most e 0 0 (decDigits u ++ rest) = cnt most e (decDigits u).length u rest := by
  induction u using Nat.strongRecOn with
  | _ u ih =>
    intro rest hm
    by_cases h : u < 10
    · rw [dec_s h]
      have hd := digit_nat h
      show cnt most e 0 0 (UInt8.ofNat (48 + u) :: rest) = _
      rw [cnt_cons, if_neg (by omega), if_neg (by omega), if_neg (by omega), hd]
      rw [show (10 * 0 + (48 + (u : Int) - 48)) = u by omega]
      rfl
    · rw [dec_b h, List.append_assoc, ih (u / 10) (by omega) _ (by omega)]
      have hd := digit_nat (d := u % 10) (by omega)
      have hp := dec_pos (u / 10)
      show cnt most e (decDigits (u / 10)).length _ (UInt8.ofNat (48 + u % 10) :: rest) = _
      rw [cnt_cons, if_neg (by omega), if_neg (by omega), if_neg (by omega), hd]
      rw [show (10 * ((u / 10 : Nat) : Int) + (48 + ((u % 10 : Nat) : Int) - 48)) = u by omega, List.length_append]
      rfl

theorem cnt_num {most : Int} (e : UInt8) (he : (e.toNat : Int) < 48 ∨ 57 < (e.toNat : Int)) (u : Nat) (rest : Bs) (hm : (u : Int) ≤ most) :
    cnt most e.toNat 0 0 (decDigits u ++ e :: rest) = .inl ((u : Int), (decDigits u).length) := by
  rw [cnt_digits he u _ hm]
  show (if _ then _ else _) = _
  rw [if_pos ⟨rfl, dec_pos u⟩]

/-- A beginning of the digits is too short. -/
theorem cnt_digits_take {most e : Int} (he : e < 48 ∨ 57 < e) (u : Nat) : ∀ (k : Nat), (u : Int) ≤ most → k ≤ (decDigits u).length → cnt most e 0 0 ((decDigits u).take k) = .inr true := by
  induction u using Nat.strongRecOn with
  | _ u ih =>
    intro k hm hk
    by_cases hkl : k = (decDigits u).length
    · subst hkl
      rw [List.take_length]
      have := cnt_digits he u [] hm
      rw [List.append_nil] at this
      rw [this]; rfl
    · by_cases h : u < 10
      · rw [dec_s h] at hk hkl ⊢
        simp only [List.length_singleton] at hk hkl
        obtain rfl : k = 0 := by omega
        rfl
      · rw [dec_b h] at hk hkl ⊢
        simp only [List.length_append, List.length_singleton] at hk hkl
        rw [List.take_append_of_le_length (by omega)]
        exact ih (u / 10) (by omega) k (by omega) (by omega)

/-- A value with its bytes, for a reader. -/
structure Good {α : Type} (one : St → α × St) (b : Bs) (x : α) : Prop where
  pos : 0 < b.length
  back : ∀ tail, one (b ++ tail, 0) = (x, (tail, 0))
  short : ∀ k, k < b.length → (one (b.take k, 0)).2 = ([], 13)

theorem num_good {low high n : Int} (h0 : 0 ≤ n) (h1 : n ≤ 281474976710656) (hl : low ≤ n) (hh : n ≤ high) : Good (rdNum low high) (eNum n).1 n := by
  have hb : (eNum n).1 = decDigits n.toNat ++ [59] := by unfold eNum; rw [if_neg (by omega)]
  rw [hb]
  have hn : ((n.toNat : Nat) : Int) = n := by omega
  refine ⟨by simp, fun tail => ?_, fun k hk => ?_⟩
  · have hc := cnt_num (most := 281474976710656) 59 (by decide) n.toNat tail (by omega)
    rw [List.append_assoc]
    have he : decDigits n.toNat ++ ([59] ++ tail) = decDigits n.toNat ++ 59 :: tail := rfl
    rw [he, rdNum_of hc, hn, if_neg (by omega), ← List.drop_drop, List.drop_left]
    rfl
  · simp only [List.length_append, List.length_singleton] at hk
    rw [List.take_append_of_le_length (by omega)]
    rw [rdNum_no (cnt_digits_take (most := 281474976710656) (e := 59) (by decide) n.toNat k (by omega) (by omega))]
    rfl

theorem text_good {most : Int} {s : Bs} (h1 : s.length ≤ 65536) (hm : (s.length : Int) ≤ most) : Good (rdText most) (eText s).1 s := by
  have hb : (eText s).1 = decDigits s.length ++ [58] ++ s ++ [44] := by unfold eText; rw [if_neg (by omega)]
  rw [hb]
  have hp := dec_pos s.length
  have hk : (decDigits s.length ++ [58] ++ s ++ [44]).length = (decDigits s.length).length + 1 + s.length + 1 := by
    simp only [List.length_append, List.length_singleton]
  refine ⟨by omega, fun tail => ?_, fun k hk' => ?_⟩
  · have hc := cnt_num (most := 65536) 58 (by decide) s.length (s ++ 44 :: tail) (by omega)
    have he : decDigits s.length ++ [58] ++ s ++ [44] ++ tail = decDigits s.length ++ 58 :: (s ++ 44 :: tail) := by simp
    have hg : (decDigits s.length ++ 58 :: (s ++ 44 :: tail))[(decDigits s.length).length + 1 + s.length]? = some 44 := by
      rw [List.getElem?_append_right (by omega), show (decDigits s.length).length + 1 + s.length - (decDigits s.length).length = s.length + 1 by omega]
      rw [List.getElem?_cons_succ, List.getElem?_append_right (by omega)]
      simp
    have hd1 : (decDigits s.length ++ 58 :: (s ++ 44 :: tail)).drop ((decDigits s.length).length + 1) = s ++ 44 :: tail := by
      rw [← List.drop_drop, List.drop_left]; rfl
    have hd2 : (decDigits s.length ++ 58 :: (s ++ 44 :: tail)).drop ((decDigits s.length).length + 1 + s.length + 1) = tail := by
      rw [← List.drop_drop, ← List.drop_drop, hd1, List.drop_left]; rfl
    rw [he, rdText_of hc, Int.toNat_natCast, if_neg (by simp only [List.length_append, List.length_cons]; omega), hg, if_neg (by simp), if_neg (by omega), hd1, hd2, List.take_left]
  · by_cases hk1 : k ≤ (decDigits s.length).length
    · rw [List.append_assoc, List.append_assoc, List.take_append_of_le_length hk1]
      rw [rdText_no (cnt_digits_take (most := 65536) (e := 58) (by decide) s.length k (by omega) hk1)]
      rfl
    · have he : decDigits s.length ++ [58] ++ s ++ [44] = decDigits s.length ++ 58 :: (s ++ [44]) := by simp
      have ht : (decDigits s.length ++ 58 :: (s ++ [44])).take k = decDigits s.length ++ 58 :: ((s ++ [44]).take (k - (decDigits s.length).length - 1)) := by
        rw [List.take_append, List.take_of_length_le (by omega)]
        congr 1
        rw [show k - (decDigits s.length).length = (k - (decDigits s.length).length - 1) + 1 by omega, List.take_succ_cons]
        rfl
      have hc := cnt_num (most := 65536) 58 (by decide) s.length ((s ++ [44]).take (k - (decDigits s.length).length - 1)) (by omega)
      rw [he, ht, rdText_of hc, Int.toNat_natCast, if_pos (by simp only [List.length_append, List.length_cons, List.length_take]; omega)]

/-! ### Lists -/

theorem eAll_err {α : Type} (one : α → Bs × Int) : ∀ (l : List α) (acc : Bs), (∀ x ∈ l, (one x).2 = 0) → eAll one l acc = (acc ++ (l.map fun x => (one x).1).flatten, 0)
  | [], acc, _ => by simp [eAll]
  | x :: l, acc, h => by
    unfold eAll
    rw [if_neg (by simp [h x]), eAll_err one l _ (fun y hy => h y (by simp [hy]))]
    simp

theorem eAll_ok {α : Type} (one : α → Bs × Int) : ∀ (l : List α) (acc : Bs), (eAll one l acc).2 = 0 → ∀ x ∈ l, (one x).2 = 0
  | [], acc, _, x, hx => by simp at hx
  | y :: l, acc, h, x, hx => by
    unfold eAll at h
    split at h
    · rename_i h0; exact (h0 h).elim
    · rename_i h0
      rcases List.mem_cons.1 hx with rfl | hx
      · simpa using h0
      · exact eAll_ok one l _ h x hx

theorem eList_ok {α : Type} {one : α → Bs × Int} {l : List α} (h : (eList one l).2 = 0) : l.length ≤ 1024 ∧ (∀ x ∈ l, (one x).2 = 0) ∧ (eList one l).1 = (eNum (l.length : Int)).1 ++ (l.map fun x => (one x).1).flatten := by
  unfold eList at h ⊢
  split at h
  · cases h
  · rename_i hl
    have hx := eAll_ok one l _ h
    refine ⟨by omega, hx, ?_⟩
    rw [if_neg hl, eAll_err one l _ hx]
    have : (eNum (l.length : Int)).1 = decDigits l.length ++ [59] := by unfold eNum; rw [if_neg (by omega), Int.toNat_natCast]
    rw [this]

theorem loop_back {α : Type} {one : St → α × St} {b : α → Bs} : ∀ (l : List α) (tail : Bs), (∀ x ∈ l, Good one (b x) x) → rdLoop one l.length ((l.map b).flatten ++ tail, 0) = (l, (tail, 0))
  | [], tail, _ => by simp [rdLoop]
  | x :: l, tail, h => by
    have hx := (h x (by simp)).back ((l.map b).flatten ++ tail)
    rw [List.length_cons, rdLoop_go one _ _ rfl]
    have he : ((x :: l).map b).flatten ++ tail = b x ++ ((l.map b).flatten ++ tail) := by simp
    rw [he, hx]
    simp only
    rw [loop_back l tail (fun y hy => h y (by simp [hy]))]

theorem loop_short {α : Type} {one : St → α × St} {b : α → Bs} : ∀ (l : List α) (k : Nat), (∀ x ∈ l, Good one (b x) x) → k < ((l.map b).flatten).length → (rdLoop one l.length (((l.map b).flatten).take k, 0)).2 = ([], 13)
  | [], k, _, hk => by simp at hk
  | x :: l, k, h, hk => by
    have hx := h x (by simp)
    rw [List.length_cons, rdLoop_go one _ _ rfl]
    simp only [List.map_cons, List.flatten_cons, List.length_append] at hk ⊢
    by_cases hkx : k < (b x).length
    · have := hx.short k hkx
      rw [List.take_append_of_le_length (by omega)]
      rw [this, rdLoop_stop one _ _ (by decide)]
    · have ht : (b x ++ (l.map b).flatten).take k = b x ++ ((l.map b).flatten).take (k - (b x).length) := by
        rw [List.take_append, List.take_of_length_le (by omega)]
      rw [ht, hx.back]
      simp only
      exact loop_short l _ (fun y hy => h y (by simp [hy])) (by omega)

theorem list_good {α : Type} {one : St → α × St} {enc : α → Bs × Int} {l : List α} (hl : l.length ≤ 1024) (h : ∀ x ∈ l, Good one (enc x).1 x) :
    Good (rdMany one) ((eNum (l.length : Int)).1 ++ (l.map fun x => (enc x).1).flatten) l := by
  have hn := num_good (low := 0) (high := 1024) (n := (l.length : Int)) (by omega) (by omega) (by omega) (by omega)
  refine ⟨by rw [List.length_append]; have := hn.pos; omega, fun tail => ?_, fun k hk => ?_⟩
  · have h1 := hn.back ((l.map fun x => (enc x).1).flatten ++ tail)
    rw [List.append_assoc]
    rw [rdMany_of (n := l.length) (st1 := ((l.map fun x => (enc x).1).flatten ++ tail, 0)) (by rw [h1]) (by rw [h1]) (loop_back l tail h)]
    rfl
  · by_cases hk1 : k < (eNum (l.length : Int)).1.length
    · have h1 := hn.short k hk1
      rw [List.take_append_of_le_length (by omega)]
      have h2 : rdLoop one (rdNum 0 1024 ((eNum (l.length : Int)).1.take k, 0)).1.toNat ([], 13) = ([], ([], 13)) := rdLoop_stop one _ _ (by decide)
      simp only [rdMany]
      rw [h1, h2]
    · have ht : ((eNum (l.length : Int)).1 ++ (l.map fun x => (enc x).1).flatten).take k = (eNum (l.length : Int)).1 ++ ((l.map fun x => (enc x).1).flatten).take (k - (eNum (l.length : Int)).1.length) := by
        rw [List.take_append, List.take_of_length_le (by omega)]
      have h1 := hn.back (((l.map fun x => (enc x).1).flatten).take (k - (eNum (l.length : Int)).1.length))
      have h2 := loop_short l (k - (eNum (l.length : Int)).1.length) h (by rw [List.length_append] at hk; omega)
      rw [ht]
      simp only [rdMany]
      rw [h1]
      simp only [Int.toNat_natCast]
      exact h2

/-- The next of several values, read from a beginning. -/
theorem short_then {α : Type} {one : St → α × St} {b rest : Bs} {x : α} (h : Good one b x) {k : Nat} (hk : k < b.length + rest.length) :
    (k < b.length ∧ (one ((b ++ rest).take k, 0)).2 = ([], 13)) ∨ (b.length ≤ k ∧ (one ((b ++ rest).take k, 0)).2 = (rest.take (k - b.length), 0) ∧ k - b.length < rest.length) := by
  by_cases hkb : k < b.length
  · exact .inl ⟨hkb, by rw [List.take_append_of_le_length (by omega)]; exact h.short k hkb⟩
  · refine .inr ⟨by omega, ?_, by omega⟩
    rw [List.take_append, List.take_of_length_le (by omega), h.back]

/-! ### After an error nothing is read -/

theorem num_stop {low high : Int} {st : St} (h : st.2 ≠ 0) : rdNum low high st = (0, st) := by simp [rdNum, h]
theorem text_stop {most : Int} {st : St} (h : st.2 ≠ 0) : rdText most st = ([], st) := by simp [rdText, h]
theorem many_stop {α : Type} {one : St → α × St} {st : St} (h : st.2 ≠ 0) : rdMany one st = ([], st) := by
  simp only [rdMany, num_stop h]
  rw [rdLoop_stop one _ st h]
  simp

/-! ### What was read has just those bytes -/

theorem cnt_canon {most : Int} {e : UInt8} (he : (e.toNat : Int) < 48 ∨ 57 < (e.toNat : Int)) : ∀ (s : Bs) (i : Nat) (n : Int) (p : Bs) {m : Int} {j : Nat}, p.length = i → ((i = 0 ∧ n = 0) ∨ (0 < i ∧ 0 ≤ n ∧ p = decDigits n.toNat)) →
    cnt most e.toNat i n s = .inl (m, j) → ∃ d rest, s = d ++ e :: rest ∧ p ++ d = decDigits m.toNat ∧ j = i + d.length ∧ 0 ≤ m
  | [], i, n, p, m, j, _, _, h => by simp [cnt] at h
  | c :: s, i, n, p, m, j, hp, hi, h => by
    rw [cnt_cons] at h
    split at h
    · rename_i hc
      simp only [Sum.inl.injEq, Prod.mk.injEq] at h
      obtain ⟨rfl, rfl⟩ := h
      have hce : c = e := UInt8.toNat_inj.1 (by have := hc.1; omega)
      rcases hi with hi | hi
      · omega
      · exact ⟨[], s, by rw [hce]; rfl, by rw [List.append_nil]; exact hi.2.2, by simp, hi.2.1⟩
    · split at h
      · simp at h
      · rename_i hne hd
        split at h
        · simp at h
        · have hcd : c = UInt8.ofNat (48 + (c.toNat - 48)) := by
            apply UInt8.toNat_inj.1
            rw [UInt8.toNat_ofNat']
            omega
          have hp1 : (p ++ [c]).length = i + 1 := by simp [hp]
          have hstep : (0 < i + 1 ∧ 0 ≤ 10 * n + ((c.toNat : Int) - 48) ∧ p ++ [c] = decDigits (10 * n + ((c.toNat : Int) - 48)).toNat) := by
            rcases hi with ⟨hi, hn⟩ | ⟨hi, hn, hpe⟩
            · subst hn
              refine ⟨by omega, by omega, ?_⟩
              have hp0 : p = [] := List.eq_nil_of_length_eq_zero (by omega)
              rw [hp0, List.nil_append, show (10 * 0 + ((c.toNat : Int) - 48)).toNat = c.toNat - 48 by omega, dec_s (by omega), ← hcd]
            · have hn1 : 1 ≤ n := by
                rcases Int.lt_or_le n 1 with h1 | h1
                · exfalso
                  have h0 : n = 0 := by omega
                  rw [h0] at hpe
                  have : p.length = 1 := by rw [hpe, show (0 : Int).toNat = 0 from rfl, dec_s (by omega)]; rfl
                  omega
                · exact h1
              refine ⟨by omega, by omega, ?_⟩
              rw [dec_b (by omega), show (10 * n + ((c.toNat : Int) - 48)).toNat / 10 = n.toNat by omega, show (10 * n + ((c.toNat : Int) - 48)).toNat % 10 = c.toNat - 48 by omega, ← hcd, ← hpe]
          obtain ⟨d, rest, h1, h2, h3, h4⟩ := cnt_canon he s (i + 1) _ (p ++ [c]) hp1 (.inr hstep) h
          exact ⟨c :: d, rest, by rw [h1]; rfl, by rw [← h2]; simp, by rw [h3]; simp; omega, h4⟩

/-- A value that was read: its bytes stood there. -/
def Canon {α : Type} (one : St → α × St) (enc : α → Bs × Int) : Prop := ∀ l, (one (l, 0)).2.2 = 0 → l = (enc (one (l, 0)).1).1 ++ (one (l, 0)).2.1 ∧ (enc (one (l, 0)).1).2 = 0

theorem num_canon {low high : Int} : Canon (rdNum low high) eNum := by
  intro l h
  cases hc : cnt 281474976710656 59 0 0 l with
  | inr b => rw [rdNum_no hc] at h; cases b <;> simp at h
  | inl q =>
    obtain ⟨n, i⟩ := q
    have hb := cnt_bounds l 0 0 (by omega) (by omega) hc
    obtain ⟨d, rest, h1, h2, h3, h4⟩ := cnt_canon (e := 59) (by decide) l 0 0 [] rfl (.inl ⟨rfl, rfl⟩) hc
    rw [List.nil_append] at h2
    rw [rdNum_of hc] at h ⊢
    by_cases hr : n < low ∨ high < n
    · rw [if_pos hr] at h; simp at h
    · rw [if_neg hr]
      have he : eNum n = (decDigits n.toNat ++ [59], 0) := by unfold eNum; rw [if_neg (by omega)]
      simp only [he]
      refine ⟨?_, trivial⟩
      rw [← h2, h3, Nat.zero_add]
      conv => lhs; rw [h1]
      have : l.drop (d.length + 1) = rest := by rw [h1, ← List.drop_drop, List.drop_left]; rfl
      rw [this]; simp

theorem text_canon {most : Int} : Canon (rdText most) eText := by
  intro l h
  cases hc : cnt 65536 58 0 0 l with
  | inr b => rw [rdText_no hc] at h; cases b <;> simp at h
  | inl q =>
    obtain ⟨n, i⟩ := q
    have hb := cnt_bounds l 0 0 (by omega) (by omega) hc
    obtain ⟨d, rest, h1, h2, h3, h4⟩ := cnt_canon (e := 58) (by decide) l 0 0 [] rfl (.inl ⟨rfl, rfl⟩) hc
    rw [List.nil_append] at h2
    rw [rdText_of hc] at h ⊢
    by_cases c1 : l.length ≤ i + 1 + n.toNat
    · rw [if_pos c1] at h; simp at h
    · rw [if_neg c1] at h ⊢
      by_cases c2 : l[i + 1 + n.toNat]? ≠ some 44
      · rw [if_pos c2] at h; simp at h
      · rw [if_neg c2] at h ⊢
        by_cases c3 : most < n
        · rw [if_pos c3] at h; simp at h
        · rw [if_neg c3]
          simp only [ne_eq, Decidable.not_not] at c2
          have hrest : l.drop (i + 1) = rest := by rw [h3, Nat.zero_add, h1, ← List.drop_drop, List.drop_left]; rfl
          have hll : l.length = i + 1 + rest.length := by rw [h1]; simp; omega
          have hlen : (rest.take n.toNat).length = n.toNat := by rw [List.length_take]; omega
          have he : eText (rest.take n.toNat) = (decDigits n.toNat ++ [58] ++ rest.take n.toNat ++ [44], 0) := by
            unfold eText; rw [hlen, if_neg (by omega)]
          rw [hrest]
          simp only [he]
          refine ⟨?_, trivial⟩
          have hg : rest[n.toNat]? = some 44 := by rw [← c2, ← hrest, List.getElem?_drop]
          have hdd : l.drop (i + 1 + n.toNat + 1) = rest.drop (n.toNat + 1) := by rw [← hrest, List.drop_drop]; congr 1
          have hsp : rest = rest.take n.toNat ++ 44 :: rest.drop (n.toNat + 1) := by
            have hlt : n.toNat < rest.length := by omega
            rw [List.getElem?_eq_getElem hlt] at hg
            have hg' := Option.some.inj hg
            conv => lhs; rw [← List.take_append_drop n.toNat rest, List.drop_eq_getElem_cons hlt, hg']
          rw [hdd]
          conv => lhs; rw [h1, hsp]
          rw [h2]; simp

theorem loop_canon {α : Type} {one : St → α × St} {enc : α → Bs × Int} (hz : ∀ st, st.2 ≠ 0 → (one st).2 = st) (hc : Canon one enc) : ∀ (k : Nat) (l : Bs), (rdLoop one k (l, 0)).2.2 = 0 →
    (rdLoop one k (l, 0)).1.length = k ∧ l = ((rdLoop one k (l, 0)).1.map fun x => (enc x).1).flatten ++ (rdLoop one k (l, 0)).2.1 ∧ ∀ x ∈ (rdLoop one k (l, 0)).1, (enc x).2 = 0
  | 0, l, _ => by simp [rdLoop]
  | k + 1, l, h => by
    rw [rdLoop_go one k _ rfl] at h ⊢
    simp only at h ⊢
    by_cases h0 : (one (l, 0)).2.2 = 0
    · have hx := hc l h0
      have hst : (one (l, 0)).2 = ((one (l, 0)).2.1, 0) := Prod.ext rfl h0
      rw [hst] at h ⊢
      obtain ⟨i1, i2, i3⟩ := loop_canon hz hc k _ h
      refine ⟨by simp [i1], ?_, fun x hm => ?_⟩
      · rw [List.map_cons, List.flatten_cons, List.append_assoc, ← i2]; exact hx.1
      · rcases List.mem_cons.1 hm with rfl | hm
        · exact hx.2
        · exact i3 x hm
    · rw [rdLoop_stop one k _ h0] at h
      exact (h0 h).elim

theorem many_canon {α : Type} {one : St → α × St} {enc : α → Bs × Int} (hz : ∀ st, st.2 ≠ 0 → (one st).2 = st) (hc : Canon one enc) : Canon (rdMany one) (eList enc) := by
  intro l h
  have hn := rdNum_res 0 1024 (l, 0)
  simp only [rdMany] at h ⊢
  by_cases h0 : (rdNum 0 1024 (l, 0)).2.2 = 0
  · have hx := num_canon (low := 0) (high := 1024) l h0
    have hst : (rdNum 0 1024 (l, 0)).2 = ((rdNum 0 1024 (l, 0)).2.1, 0) := Prod.ext rfl h0
    rw [hst] at h ⊢
    obtain ⟨i1, i2, i3⟩ := loop_canon hz hc _ _ h
    rw [if_neg (by simp [h])]
    have hle : (rdLoop one (rdNum 0 1024 (l, 0)).1.toNat ((rdNum 0 1024 (l, 0)).2.1, 0)).1.length ≤ 1024 := by omega
    have he : eList enc (rdLoop one (rdNum 0 1024 (l, 0)).1.toNat ((rdNum 0 1024 (l, 0)).2.1, 0)).1 = (decDigits (rdNum 0 1024 (l, 0)).1.toNat ++ [59] ++ ((rdLoop one (rdNum 0 1024 (l, 0)).1.toNat ((rdNum 0 1024 (l, 0)).2.1, 0)).1.map fun x => (enc x).1).flatten, 0) := by
      unfold eList
      rw [if_neg (by omega), eAll_err enc _ _ i3, i1]
    rw [he]
    refine ⟨?_, rfl⟩
    have h1 := hx.1
    have hen : (eNum (rdNum 0 1024 (l, 0)).1).1 = decDigits (rdNum 0 1024 (l, 0)).1.toNat ++ [59] := by unfold eNum; rw [if_neg (by omega)]
    rw [hen] at h1
    simp only
    rw [List.append_assoc, ← i2]
    exact h1
  · rw [rdLoop_stop one _ _ h0] at h
    exact (h0 h).elim

/-- What was read is shorter. -/
theorem canon_less {α : Type} {one : St → α × St} {enc : α → Bs × Int} (hc : Canon one enc) (hp : ∀ x, (enc x).2 = 0 → 0 < (enc x).1.length) {l : Bs} (h : (one (l, 0)).2.2 = 0) : (one (l, 0)).2.1.length < l.length := by
  obtain ⟨h1, h2⟩ := hc l h
  have := hp _ h2
  have h3 := congrArg List.length h1
  rw [List.length_append] at h3
  omega

theorem eNum_pos (n : Int) (h : (eNum n).2 = 0) : 0 < (eNum n).1.length := by
  unfold eNum at h ⊢
  split at h
  · cases h
  · rename_i hn; rw [if_neg hn]; simp
theorem eText_pos (s : Bs) (h : (eText s).2 = 0) : 0 < (eText s).1.length := by
  unfold eText at h ⊢
  split at h
  · cases h
  · rename_i hn; rw [if_neg hn]; simp; try omega
theorem eList_pos {α : Type} {one : α → Bs × Int} (l : List α) (h : (eList one l).2 = 0) : 0 < (eList one l).1.length := by
  obtain ⟨h1, _, h3⟩ := eList_ok h
  rw [h3, List.length_append]
  have := eNum_pos (l.length : Int) (by unfold eNum; rw [if_neg (by omega)])
  omega

/-! ### The values of the laws -/

def fewB (s : Bs) (l : List Int) (t : List Bs) : Bool := decide ((∀ x ∈ t, x.length ≤ 200) ∧ s.length ≤ 500 ∧ l.length ≤ 30 ∧ t.length ≤ 10)

/-- What write returns. -/
def wrS (n : Int) (s : Bs) (l : List Int) (t : List Bs) : Bs := (eNum n).1 ++ (eText s).1 ++ (eList eNum l).1 ++ (eList eText t).1
def wrB (n : Int) (s : Bs) (l : List Int) (t : List Bs) : Bool := decide ((eNum n).2 = 0 ∧ (eText s).2 = 0 ∧ (eList eNum l).2 = 0 ∧ (eList eText t).2 = 0)

theorem eNum_ok {n : Int} (h : (eNum n).2 = 0) : 0 ≤ n ∧ n ≤ 281474976710656 := by
  unfold eNum at h
  split at h
  · cases h
  · omega
theorem eText_ok {s : Bs} (h : (eText s).2 = 0) : s.length ≤ 65536 := by
  unfold eText at h
  split at h
  · cases h
  · omega
theorem num_good' {n : Int} (h : (eNum n).2 = 0) : Good (rdNum 0 281474976710656) (eNum n).1 n := by
  obtain ⟨h0, h1⟩ := eNum_ok h
  exact num_good h0 h1 h0 h1
theorem text_good' {s : Bs} (h : (eText s).2 = 0) : Good (rdText 65536) (eText s).1 s := by
  have := eText_ok h
  exact text_good this (by omega)
theorem nums_good' {l : List Int} (h : (eList eNum l).2 = 0) : Good (rdNums 0 281474976710656) (eList eNum l).1 l := by
  obtain ⟨h1, h2, h3⟩ := eList_ok h
  rw [h3]
  exact list_good h1 (fun x hx => num_good' (h2 x hx))
theorem texts_good' {l : List Bs} (h : (eList eText l).2 = 0) : Good (rdTexts 65536) (eList eText l).1 l := by
  obtain ⟨h1, h2, h3⟩ := eList_ok h
  rw [h3]
  exact list_good h1 (fun x hx => text_good' (h2 x hx))

theorem wrB_iff {n : Int} {s : Bs} {l : List Int} {t : List Bs} : wrB n s l t = true ↔ (eNum n).2 = 0 ∧ (eText s).2 = 0 ∧ (eList eNum l).2 = 0 ∧ (eList eText t).2 = 0 := by
  unfold wrB; exact decide_eq_true_iff

/-- All four are read back. -/
theorem reads_back {n : Int} {s : Bs} {l : List Int} {t : List Bs} (h : wrB n s l t = true) (tail : Bs) : ∃ d1 d2 d3 : Bs,
    rdNum 0 281474976710656 (wrS n s l t ++ tail, 0) = (n, (d1, 0)) ∧ rdText 65536 (d1, 0) = (s, (d2, 0)) ∧ rdNums 0 281474976710656 (d2, 0) = (l, (d3, 0)) ∧ rdTexts 65536 (d3, 0) = (t, (tail, 0)) := by
  obtain ⟨h1, h2, h3, h4⟩ := wrB_iff.1 h
  refine ⟨(eText s).1 ++ ((eList eNum l).1 ++ ((eList eText t).1 ++ tail)), (eList eNum l).1 ++ ((eList eText t).1 ++ tail), (eList eText t).1 ++ tail, ?_, (text_good' h2).back _, (nums_good' h3).back _, (texts_good' h4).back _⟩
  have := (num_good' h1).back ((eText s).1 ++ ((eList eNum l).1 ++ ((eList eText t).1 ++ tail)))
  rw [← this]
  unfold wrS
  simp only [List.append_assoc]

/-- A proper beginning of all four is too short. -/
theorem reads_short {n : Int} {s : Bs} {l : List Int} {t : List Bs} (h : wrB n s l t = true) {k : Nat} (hk : k < (wrS n s l t).length) :
    (rdTexts 65536 (rdNums 0 281474976710656 (rdText 65536 (rdNum 0 281474976710656 ((wrS n s l t).take k, 0)).2).2).2).2 = ([], 13) := by
  obtain ⟨h1, h2, h3, h4⟩ := wrB_iff.1 h
  have hb : (([], 13) : St).2 ≠ 0 := by decide
  have s2 : rdText 65536 (([], 13) : St) = ([], ([], 13)) := text_stop hb
  have s3 : rdNums 0 281474976710656 (([], 13) : St) = ([], ([], 13)) := many_stop hb
  have s4 : rdTexts 65536 (([], 13) : St) = ([], ([], 13)) := many_stop hb
  have hw : wrS n s l t = (eNum n).1 ++ ((eText s).1 ++ ((eList eNum l).1 ++ (eList eText t).1)) := by unfold wrS; simp only [List.append_assoc]
  rw [hw] at hk ⊢
  rw [List.length_append] at hk
  rcases short_then (num_good' h1) hk with ⟨_, e1⟩ | ⟨_, e1, hk1⟩
  · rw [e1, s2, s3, s4]
  · rw [e1]
    rw [List.length_append] at hk1
    rcases short_then (text_good' h2) hk1 with ⟨_, e2⟩ | ⟨_, e2, hk2⟩
    · rw [e2, s3, s4]
    · rw [e2]
      rw [List.length_append] at hk2
      rcases short_then (nums_good' h3) hk2 with ⟨_, e3⟩ | ⟨_, e3, hk3⟩
      · rw [e3, s4]
      · rw [e3]
        exact (texts_good' h4).short _ hk3

theorem nums_canon {low high : Int} : Canon (rdNums low high) (eList eNum) := many_canon (fun st h => by rw [num_stop h]) num_canon
theorem texts_canon {most : Int} : Canon (rdTexts most) (eList eText) := many_canon (fun st h => by rw [text_stop h]) text_canon

/-- What was read has just those bytes. -/
theorem reads_canon {d : Bs} {n : Int} {s : Bs} {l : List Int} {t : List Bs} {s1 s2 s3 s4 : St} (h1 : rdNum 0 281474976710656 (d, 0) = (n, s1)) (h2 : rdText 65536 s1 = (s, s2)) (h3 : rdNums 0 281474976710656 s2 = (l, s3)) (h4 : rdTexts 65536 s3 = (t, s4)) (h0 : s4.2 = 0) :
    wrB n s l t = true ∧ d = wrS n s l t ++ s4.1 := by
  have e3 : s3.2 = 0 := by
    rcases Decidable.em (s3.2 = 0) with h | h
    · exact h
    · rw [show rdTexts 65536 s3 = ([], s3) from many_stop h] at h4
      exfalso; apply h; rw [← Prod.mk.inj h4 |>.2] at h0; exact h0
  have e2 : s2.2 = 0 := by
    rcases Decidable.em (s2.2 = 0) with h | h
    · exact h
    · rw [show rdNums 0 281474976710656 s2 = ([], s2) from many_stop h] at h3
      exfalso; apply h; rw [← Prod.mk.inj h3 |>.2] at e3; exact e3
  have e1 : s1.2 = 0 := by
    rcases Decidable.em (s1.2 = 0) with h | h
    · exact h
    · rw [text_stop h] at h2
      exfalso; apply h; rw [← Prod.mk.inj h2 |>.2] at e2; exact e2
  have f1 : s1 = (s1.1, 0) := Prod.ext rfl e1
  have f2 : s2 = (s2.1, 0) := Prod.ext rfl e2
  have f3 : s3 = (s3.1, 0) := Prod.ext rfl e3
  rw [f1] at h2
  rw [f2] at h3
  rw [f3] at h4
  have c1 := num_canon (low := 0) (high := 281474976710656) d (by rw [h1]; exact e1)
  have c2 := text_canon (most := 65536) s1.1 (by rw [h2]; exact e2)
  have c3 := nums_canon (low := 0) (high := 281474976710656) s2.1 (by rw [h3]; exact e3)
  have c4 := texts_canon (most := 65536) s3.1 (by rw [h4]; exact h0)
  rw [h1] at c1
  rw [h2] at c2
  rw [h3] at c3
  rw [h4] at c4
  refine ⟨wrB_iff.2 ⟨c1.2, c2.2, c3.2, c4.2⟩, ?_⟩
  have g1 := c1.1
  rw [c2.1, c3.1, c4.1] at g1
  rw [g1]
  unfold wrS
  simp only [List.append_assoc]

/-! ### Many reads -/

def ErrEmpty {α : Type} (one : St → α × St) : Prop := ∀ l, (one (l, 0)).2.2 ≠ 0 → (one (l, 0)).2.1 = []
theorem num_empty {low high : Int} : ErrEmpty (rdNum low high) := by
  intro l h
  cases hc : cnt 281474976710656 59 0 0 l with
  | inr b => rw [rdNum_no hc]
  | inl q =>
    obtain ⟨n, i⟩ := q
    rw [rdNum_of hc] at h ⊢
    split
    · rfl
    · rename_i hr; rw [if_neg hr] at h; exact (h rfl).elim
theorem text_empty {most : Int} : ErrEmpty (rdText most) := by
  intro l h
  cases hc : cnt 65536 58 0 0 l with
  | inr b => rw [rdText_no hc]
  | inl q =>
    obtain ⟨n, i⟩ := q
    rw [rdText_of hc] at h ⊢
    by_cases c1 : l.length ≤ i + 1 + n.toNat
    · rw [if_pos c1]
    · rw [if_neg c1] at h ⊢
      by_cases c2 : l[i + 1 + n.toNat]? ≠ some 44
      · rw [if_pos c2]
      · rw [if_neg c2] at h ⊢
        by_cases c3 : most < n
        · rw [if_pos c3]
        · rw [if_neg c3] at h; exact (h rfl).elim
theorem loop_empty {α : Type} {one : St → α × St} (hz : ∀ st, st.2 ≠ 0 → (one st).2 = st) (he : ErrEmpty one) : ∀ (k : Nat) (l : Bs), (rdLoop one k (l, 0)).2.2 ≠ 0 → (rdLoop one k (l, 0)).2.1 = []
  | 0, l, h => by simp [rdLoop] at h
  | k + 1, l, h => by
    rw [rdLoop_go one k _ rfl] at h ⊢
    simp only at h ⊢
    by_cases h0 : (one (l, 0)).2.2 = 0
    · have hst : (one (l, 0)).2 = ((one (l, 0)).2.1, 0) := Prod.ext rfl h0
      rw [hst] at h ⊢
      exact loop_empty hz he k _ h
    · rw [rdLoop_stop one k _ h0]
      exact he l h0
theorem many_empty {α : Type} {one : St → α × St} (hz : ∀ st, st.2 ≠ 0 → (one st).2 = st) (he : ErrEmpty one) : ErrEmpty (rdMany one) := by
  intro l h
  simp only [rdMany] at h ⊢
  by_cases h0 : (rdNum 0 1024 (l, 0)).2.2 = 0
  · have hst : (rdNum 0 1024 (l, 0)).2 = ((rdNum 0 1024 (l, 0)).2.1, 0) := Prod.ext rfl h0
    rw [hst] at h ⊢
    exact loop_empty hz he _ _ h
  · rw [rdLoop_stop one _ _ h0]
    exact num_empty l h0

/-- What holds after k reads of a string of at most 300 bytes. -/
def Inv300 (k : Nat) (st : St) : Prop := (st.2 = 0 → st.1.length + k ≤ 300) ∧ (st.2 ≠ 0 → st.1 = [])
theorem inv_step {α : Type} {one : St → α × St} {enc : α → Bs × Int} (hz : ∀ st, st.2 ≠ 0 → (one st).2 = st) (he : ErrEmpty one) (hc : Canon one enc) (hp : ∀ x, (enc x).2 = 0 → 0 < (enc x).1.length) {k : Nat} {st : St} (h : Inv300 k st) : Inv300 (k + 1) (one st).2 := by
  by_cases h0 : st.2 = 0
  · have hst : st = (st.1, 0) := Prod.ext rfl h0
    rw [hst]
    refine ⟨fun h1 => ?_, fun h1 => he _ h1⟩
    have := canon_less hc hp h1
    have := h.1 h0
    omega
  · rw [hz st h0]
    exact ⟨fun h1 => (h0 h1).elim, h.2⟩
theorem inv_num {low high : Int} {k : Nat} {st : St} (h : Inv300 k st) : Inv300 (k + 1) (rdNum low high st).2 := inv_step (fun st h => by rw [num_stop h]) num_empty num_canon eNum_pos h
theorem inv_text {most : Int} {k : Nat} {st : St} (h : Inv300 k st) : Inv300 (k + 1) (rdText most st).2 := inv_step (fun st h => by rw [text_stop h]) text_empty text_canon eText_pos h
theorem inv_nums {low high : Int} {k : Nat} {st : St} (h : Inv300 k st) : Inv300 (k + 1) (rdNums low high st).2 :=
  inv_step (fun st h => by rw [many_stop h]) (many_empty (fun st h => by rw [num_stop h]) num_empty) nums_canon eList_pos h
theorem inv_texts {most : Int} {k : Nat} {st : St} (h : Inv300 k st) : Inv300 (k + 1) (rdTexts most st).2 :=
  inv_step (fun st h => by rw [many_stop h]) (many_empty (fun st h => by rw [text_stop h]) text_empty) texts_canon eList_pos h
theorem inv_end {st : St} (h : Inv300 310 st) : st.2 ≠ 0 ∧ st.1 = [] := by
  have h0 : st.2 ≠ 0 := fun e => by have := h.1 e; omega
  exact ⟨h0, h.2 h0⟩
theorem inv_len {k : Nat} {st : St} (h : Inv300 k st) : st.1.length ≤ 300 := by
  by_cases h0 : st.2 = 0
  · have := h.1 h0; omega
  · rw [h.2 h0]; simp

end Licit
namespace Licit
open Go Go.Lib

def hsh (l : List Bs) : Bs := Sha.sha (eList eText l).1
def num (n : Int) : Bs := (eNum n).1
def kSecret : Bs := [115, 101, 99, 114, 101, 116]
def kPublic : Bs := [112, 117, 98, 108, 105, 99]
def kLeaf : Bs := [108, 101, 97, 102]
def kNode : Bs := [110, 111, 100, 101]
theorem hsh_len (l : List Bs) : (hsh l).length = 32 := Sha.sha_len _

def secretB (seed : Bs) (i b v : Int) : Bs := hsh [kSecret, seed, num i, num b, num v]
def pubB (s : Bs) : Bs := hsh [kPublic, s]
def leafB (parts : List Bs) : Bs := hsh (kLeaf :: parts)
def nodeB (a b : Bs) : Bs := hsh [kNode, a, b]

theorem eText_len (s : Bs) : (eText s).1.length ≤ 65600 := by
  unfold eText
  split
  · simp
  · have := Lib.itoa_length_le (s.length : Int) (by omega) (by omega)
    unfold Lib.itoa at this
    rw [if_neg (by omega), Int.toNat_natCast] at this
    simp
    omega
theorem eAll_len {α : Type} (one : α → Bs × Int) (h : ∀ x, (one x).1.length ≤ 65600) : ∀ (l : List α) (acc : Bs), (eAll one l acc).1.length ≤ acc.length + l.length * 65600
  | [], acc => by simp [eAll]
  | x :: l, acc => by
    unfold eAll
    split
    · simp
    · have h1 := eAll_len one h l (acc ++ (one x).1)
      have h2 := h x
      rw [List.length_append] at h1
      simp only [List.length_cons]
      omega
theorem max32 {n : Nat} (h : n = 32) : n ≤ maxLen := by unfold maxLen; omega
theorem pubB_len (s : Bs) : (pubB s).length = 32 := Sha.sha_len _
theorem secretB_len (seed : Bs) (i b v : Int) : (secretB seed i b v).length = 32 := Sha.sha_len _
theorem texts_len (l : List Bs) : (eList eText l).1.length ≤ 1000000000000 := by
  unfold eList
  split
  · simp
  · have h1 := eAll_len eText eText_len l (decDigits l.length ++ [59])
    have h2 := Lib.itoa_length_le (l.length : Int) (by omega) (by omega)
    unfold Lib.itoa at h2
    rw [if_neg (by omega), Int.toNat_natCast] at h2
    rw [List.length_append] at h1
    simp only [List.length_singleton] at h1
    omega

/-- The first n public parts of a one-time key: two for each bit. -/
def partAt (seed : Bs) (i : Int) (m : Nat) : Bs := pubB (secretB seed i ((m / 2 : Nat) : Int) ((m % 2 : Nat) : Int))
def partsN (seed : Bs) (i : Int) (n : Nat) : List Bs := (List.range n).map (partAt seed i)
theorem partsN_succ (seed : Bs) (i : Int) (n : Nat) : partsN seed i (n + 1) = partsN seed i n ++ [partAt seed i n] := by simp [partsN, List.range_succ]
theorem partsN_len (seed : Bs) (i : Int) (n : Nat) : (partsN seed i n).length = n := by simp [partsN]
theorem partAt_at (seed : Bs) (i : Int) (k j : Nat) (hj : j < 2) : partAt seed i (2 * k + j) = pubB (secretB seed i (k : Int) (j : Int)) := by
  unfold partAt
  rw [show (2 * k + j) / 2 = k by omega, show (2 * k + j) % 2 = j by omega]
def ownB (seed : Bs) (b : Nat) (i : Int) : Bs := leafB (partsN seed i (2 * b))
def leafAt (seed : Bs) (b i : Nat) : Bs := ownB seed b (i : Int)
def leavesN (seed : Bs) (b : Nat) (n : Nat) : List Bs := (List.range n).map (leafAt seed b)
theorem leavesN_succ (seed : Bs) (b n : Nat) : leavesN seed b (n + 1) = leavesN seed b n ++ [leafAt seed b n] := by simp [leavesN, List.range_succ]
theorem leavesN_len (seed : Bs) (b n : Nat) : (leavesN seed b n).length = n := by simp [leavesN]

/-- The first n nodes above a row. -/
def aboveN (l : List Bs) (n : Nat) : List Bs := (List.range n).map fun i => nodeB (l.getD (2 * i) []) (l.getD (2 * i + 1) [])
theorem aboveN_succ (l : List Bs) (n : Nat) : aboveN l (n + 1) = aboveN l n ++ [nodeB (l.getD (2 * n) []) (l.getD (2 * n + 1) [])] := by simp [aboveN, List.range_succ]
theorem aboveN_len (l : List Bs) (n : Nat) : (aboveN l n).length = n := by simp [aboveN]
def level (l : List Bs) : List Bs := aboveN l (l.length / 2)
theorem level_len (l : List Bs) : (level l).length = l.length / 2 := aboveN_len _ _
def levN (l : List Bs) : Nat → List Bs
  | 0 => l
  | j + 1 => level (levN l j)
def Pow (l : List Bs) (h : Nat) : Prop := l.length = 2 ^ h
theorem levN_len {l : List Bs} {h : Nat} (hl : l.length = 2 ^ h) : ∀ j, j ≤ h → (levN l j).length = 2 ^ (h - j)
  | 0, _ => hl
  | j + 1, hj => by
    rw [levN, level_len, levN_len hl j (by omega), show h - j = (h - (j + 1)) + 1 by omega, Nat.pow_succ]
    omega
def treeL (seed : Bs) (b h : Nat) : List Bs := leavesN seed b (2 ^ h)
def rowB (seed : Bs) (b h j : Nat) : List Bs := levN (treeL seed b h) j
def rootB (seed : Bs) (b h : Nat) : Bs := (rowB seed b h h).getD 0 []
theorem rowB_len (seed : Bs) (b h : Nat) {j : Nat} (hj : j ≤ h) : (rowB seed b h j).length = 2 ^ (h - j) := levN_len (leavesN_len _ _ _) j hj

/-- Is a key valid? -/
def keyOk (b h : Int) : Bool := decide (8 ≤ b ∧ b ≤ 256 ∧ 0 ≤ h ∧ h ≤ 6)

/-- Bit b of a digest. -/
def bitOf (d : Bs) (b : Nat) : Nat := (d.getD (b / 8) 0).toNat / 2 ^ (7 - b % 8) % 2
theorem bitOf_lt (d : Bs) (b : Nat) : bitOf d b < 2 := Nat.mod_lt _ (by decide)

end Licit
namespace Licit
open Go Go.Lib

/-- The parts of a signature of a digest d. -/
def shownN (seed d : Bs) (i : Int) (n : Nat) : List Bs := (List.range n).map fun (b : Nat) => secretB seed i (b : Int) (bitOf d b : Int)
def hiddenN (seed d : Bs) (i : Int) (n : Nat) : List Bs := (List.range n).map fun (b : Nat) => pubB (secretB seed i (b : Int) (1 - (bitOf d b : Int)))
def routeN (seed : Bs) (b h i n : Nat) : List Bs := (List.range n).map fun j => (rowB seed b h j).getD ((i / 2 ^ j) ^^^ 1) []
theorem shownN_succ (seed d : Bs) (i : Int) (n : Nat) : shownN seed d i (n + 1) = shownN seed d i n ++ [secretB seed i (n : Int) (bitOf d n : Int)] := by simp [shownN, List.range_succ]
theorem hiddenN_succ (seed d : Bs) (i : Int) (n : Nat) : hiddenN seed d i (n + 1) = hiddenN seed d i n ++ [pubB (secretB seed i (n : Int) (1 - (bitOf d n : Int)))] := by simp [hiddenN, List.range_succ]
theorem routeN_succ (seed : Bs) (b h i n : Nat) : routeN seed b h i (n + 1) = routeN seed b h i n ++ [(rowB seed b h n).getD ((i / 2 ^ n) ^^^ 1) []] := by simp [routeN, List.range_succ]
theorem shownN_len (seed d : Bs) (i : Int) (n : Nat) : (shownN seed d i n).length = n := by simp [shownN]
theorem hiddenN_len (seed d : Bs) (i : Int) (n : Nat) : (hiddenN seed d i n).length = n := by simp [hiddenN]
theorem routeN_len (seed : Bs) (b h i n : Nat) : (routeN seed b h i n).length = n := by simp [routeN]

/-- The two parts of a leaf for one bit, from what is shown and what is hidden. -/
def pairB (d : Bs) (S H : List Bs) (k : Nat) : List Bs := if bitOf d k = 0 then [pubB (S.getD k []), H.getD k []] else [H.getD k [], pubB (S.getD k [])]
def partsOf (d : Bs) (S H : List Bs) : Nat → List Bs
  | 0 => []
  | n + 1 => partsOf d S H n ++ pairB d S H n
theorem pairB_len (d : Bs) (S H : List Bs) (k : Nat) : (pairB d S H k).length = 2 := by unfold pairB; split <;> rfl
theorem partsOf_len (d : Bs) (S H : List Bs) : ∀ n, (partsOf d S H n).length = 2 * n
  | 0 => rfl
  | n + 1 => by rw [partsOf, List.length_append, partsOf_len d S H n, pairB_len]; omega
/-- The way from a leaf to the root. -/
def stepB (i j : Nat) (x r : Bs) : Bs := if i / 2 ^ j % 2 = 1 then nodeB r x else nodeB x r
def climbN (i : Nat) (R : List Bs) (x : Bs) : Nat → Bs
  | 0 => x
  | n + 1 => stepB i n (climbN i R x n) (R.getD n [])
/-- Is a signature well-formed? -/
def all32 (l : List Bs) : Bool := l.all fun t => decide (t.length = 32)
def sigOk (i : Int) (S H R : List Bs) : Bool := decide (0 ≤ i) && decide (i < 64) && decide (S.length = H.length) && decide (S.length ≤ 256) && decide (R.length ≤ 6) && all32 S && all32 H && all32 R
/-- What a check answers. -/
def checkB (root : Bs) (b h : Int) (m : Bs) (i : Int) (S H R : List Bs) : Int :=
  if keyOk b h = false then 3
  else if (sigOk i S H R && decide ((S.length : Int) = b) && decide ((R.length : Int) = h) && decide (i < ((2 ^ h.toNat : Nat) : Int))) = false then 1
  else if climbN i.toNat R (leafB (partsOf (Sha.sha m) S H S.length)) R.length = root then 0 else 18

theorem level_get (l : List Bs) {m : Nat} (hm : m < l.length / 2) : (level l).getD m [] = nodeB (l.getD (2 * m) []) (l.getD (2 * m + 1) []) := by
  unfold level aboveN
  simp [List.getD_eq_getElem?_getD, hm]
theorem xor_even {q : Nat} (h : q % 2 = 0) : q ^^^ 1 = q + 1 := by
  apply Nat.eq_of_testBit_eq
  intro k
  rw [Nat.testBit_xor]
  cases k with
  | zero => simp [Nat.testBit_zero, Nat.add_mod, h]
  | succ k => rw [Nat.testBit_succ, Nat.testBit_succ, Nat.testBit_succ, show (q + 1) / 2 = q / 2 by omega]; simp
theorem xor_odd {q : Nat} (h : q % 2 = 1) : q ^^^ 1 = q - 1 := by
  apply Nat.eq_of_testBit_eq
  intro k
  rw [Nat.testBit_xor]
  cases k with
  | zero => simp [Nat.testBit_zero, h]; omega
  | succ k => rw [Nat.testBit_succ, Nat.testBit_succ, Nat.testBit_succ, show (q - 1) / 2 = q / 2 by omega]; simp

/-- What was signed climbs along the rows. -/
theorem climb_row (seed : Bs) (b h i : Nat) (hi : i < 2 ^ h) : ∀ n, n ≤ h → climbN i (routeN seed b h i h) ((treeL seed b h).getD i []) n = (rowB seed b h n).getD (i / 2 ^ n) []
  | 0, _ => by simp [climbN, rowB, levN]
  | n + 1, hn => by
    have hl := rowB_len seed b h (show n ≤ h by omega)
    have hq : i / 2 ^ n < 2 ^ (h - n) := by
      refine Nat.div_lt_of_lt_mul ?_
      rw [← Nat.pow_add, show n + (h - n) = h by omega]
      exact hi
    have hr : (routeN seed b h i h).getD n [] = (rowB seed b h n).getD ((i / 2 ^ n) ^^^ 1) [] := by
      unfold routeN
      simp [List.getD_eq_getElem?_getD, show n < h by omega]
    have hp : 2 ^ (h - n) = 2 * 2 ^ (h - (n + 1)) := by rw [show h - n = (h - (n + 1)) + 1 by omega, Nat.pow_succ]; omega
    have hd : i / 2 ^ (n + 1) = i / 2 ^ n / 2 := by rw [Nat.pow_succ, Nat.div_div_eq_div_mul]
    have hlv : (rowB seed b h (n + 1)).getD (i / 2 ^ n / 2) [] = nodeB ((rowB seed b h n).getD (2 * (i / 2 ^ n / 2)) []) ((rowB seed b h n).getD (2 * (i / 2 ^ n / 2) + 1) []) := level_get _ (by rw [show (levN (treeL seed b h) n).length = 2 ^ (h - n) from hl]; omega)
    rw [climbN, climb_row seed b h i hi n (by omega), hr, hd, hlv, stepB]
    generalize i / 2 ^ n = q at *
    by_cases ho : q % 2 = 1
    · rw [if_pos ho, xor_odd ho, show 2 * (q / 2) = q - 1 by omega, show q - 1 + 1 = q by omega]
    · rw [if_neg ho, xor_even (by omega), show 2 * (q / 2) = q by omega]
theorem climb_root (seed : Bs) (b h i : Nat) (hi : i < 2 ^ h) : climbN i (routeN seed b h i h) (leafAt seed b i) h = rootB seed b h := by
  have h1 : (treeL seed b h).getD i [] = leafAt seed b i := by
    unfold treeL leavesN
    simp [List.getD_eq_getElem?_getD, hi]
  have := climb_row seed b h i hi h (Nat.le_refl h)
  rw [h1, Nat.div_eq_of_lt hi] at this
  exact this

/-- The parts that a check of what was signed puts together are those of the key, if the bits agree. -/
theorem parts_signed (seed d d' : Bs) (i : Int) (n : Nat) (hb : ∀ k, k < n → bitOf d' k = bitOf d k) : ∀ k, k ≤ n → partsOf d' (shownN seed d i n) (hiddenN seed d i n) k = partsN seed i (2 * k)
  | 0, _ => rfl
  | k + 1, hk => by
    rw [partsOf, parts_signed seed d d' i n hb k (by omega), show 2 * (k + 1) = 2 * k + 1 + 1 by omega, partsN_succ, partsN_succ, List.append_assoc]
    congr 1
    have h0 := partAt_at seed i k 0 (by decide)
    have h1 := partAt_at seed i k 1 (by decide)
    rw [Nat.add_zero] at h0
    have hs : (shownN seed d i n).getD k [] = secretB seed i (k : Int) (bitOf d k : Int) := by unfold shownN; simp [List.getD_eq_getElem?_getD, show k < n by omega]
    have hh : (hiddenN seed d i n).getD k [] = pubB (secretB seed i (k : Int) (1 - (bitOf d k : Int))) := by unfold hiddenN; simp [List.getD_eq_getElem?_getD, show k < n by omega]
    rw [pairB, hb k (by omega), hs, hh, h0, h1]
    have := bitOf_lt d k
    by_cases h : bitOf d k = 0
    · rw [if_pos h, h]; rfl
    · rw [if_neg h, show bitOf d k = 1 by omega]; rfl

theorem all32_of {l : List Bs} (h : ∀ x ∈ l, x.length = 32) : all32 l = true := by
  unfold all32
  rw [List.all_eq_true]
  intro x hx
  simpa using h x hx
theorem rowB_mem {seed : Bs} {b h : Nat} : ∀ j, ∀ x ∈ rowB seed b h j, x.length = 32
  | 0, x, hx => by
    obtain ⟨m, _, rfl⟩ := List.mem_map.1 hx
    exact hsh_len _
  | j + 1, x, hx => by
    obtain ⟨m, _, rfl⟩ := List.mem_map.1 hx
    exact hsh_len _
theorem route_lt {i h j : Nat} (hi : i < 2 ^ h) (hj : j < h) : (i / 2 ^ j) ^^^ 1 < 2 ^ (h - j) := by
  rw [show h - j = (h - j - 1) + 1 by omega]
  refine Nat.xor_lt_two_pow ?_ (Nat.one_lt_two_pow (by omega))
  rw [show h - j - 1 + 1 = h - j by omega]
  refine Nat.div_lt_of_lt_mul ?_
  rw [← Nat.pow_add, show j + (h - j) = h by omega]
  exact hi
theorem shownN_all (seed d : Bs) (i : Int) (n : Nat) : ∀ x ∈ shownN seed d i n, x.length = 32 := by
  intro x hx
  obtain ⟨m, _, rfl⟩ := List.mem_map.1 hx
  exact hsh_len _
theorem hiddenN_all (seed d : Bs) (i : Int) (n : Nat) : ∀ x ∈ hiddenN seed d i n, x.length = 32 := by
  intro x hx
  obtain ⟨m, _, rfl⟩ := List.mem_map.1 hx
  exact hsh_len _
theorem routeN_all (seed : Bs) (b h i : Nat) (hi : i < 2 ^ h) : ∀ x ∈ routeN seed b h i h, x.length = 32 := by
  intro x hx
  obtain ⟨m, hm, rfl⟩ := List.mem_map.1 hx
  have hm' : m < h := by simpa using hm
  have hl := rowB_len seed b h (Nat.le_of_lt hm')
  have := route_lt hi hm'
  rw [List.getD_eq_getElem?_getD, List.getElem?_eq_getElem (by omega)]
  exact rowB_mem m _ (List.getElem_mem _)

/-- A signature of a message is accepted for every message whose digest has the same first bits. -/
theorem check_signed (seed m m' : Bs) (b h i : Nat) (hk : keyOk (b : Int) (h : Int) = true) (hi : i < 2 ^ h) (hb : ∀ k, k < b → bitOf (Sha.sha m') k = bitOf (Sha.sha m) k) :
    checkB (rootB seed b h) (b : Int) (h : Int) m' (i : Int) (shownN seed (Sha.sha m) (i : Int) b) (hiddenN seed (Sha.sha m) (i : Int) b) (routeN seed b h i h) = 0 := by
  have hk' : 8 ≤ (b : Int) ∧ (b : Int) ≤ 256 ∧ 0 ≤ (h : Int) ∧ (h : Int) ≤ 6 := by simpa [keyOk] using hk
  have hi64 : i < 64 := Nat.lt_of_lt_of_le hi (Nat.le_trans (Nat.pow_le_pow_right (by decide) (show h ≤ 6 by omega)) (by decide : 2 ^ 6 ≤ 64))
  have hi' : (i : Int) < ((2 ^ h : Nat) : Int) := by exact_mod_cast hi
  have hok : sigOk (i : Int) (shownN seed (Sha.sha m) (i : Int) b) (hiddenN seed (Sha.sha m) (i : Int) b) (routeN seed b h i h) = true := by
    unfold sigOk
    rw [shownN_len, hiddenN_len, routeN_len, all32_of (shownN_all _ _ _ _), all32_of (hiddenN_all _ _ _ _), all32_of (routeN_all _ _ _ _ hi)]
    simp
    omega
  unfold checkB
  rw [hk, if_neg (by decide), hok, shownN_len, routeN_len, Int.toNat_natCast, Int.toNat_natCast, parts_signed seed (Sha.sha m) (Sha.sha m') (i : Int) b hb b (Nat.le_refl b)]
  have hc := climb_root seed b h i hi
  have hl : leafB (partsN seed (i : Int) (2 * b)) = leafAt seed b i := rfl
  rw [hl, hc, if_pos rfl, if_neg]
  simp
  exact_mod_cast hi
end Licit
