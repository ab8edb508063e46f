/- Plain facts on the codec of layer 2: numbers, texts and lists as bytes, and how they are read. No program in sight. -/
import Derived.Test.YtadbkhijieinkaaDoorFrm
import Derived.Lib.ItoaMem
namespace Licit
open Go Go.Lib

/-- What 'count' finds: a number and the place of its end; or nothing (true: too short). -/
def cnt (most e : Int) : Nat → Int → Bs → (Int × Nat) ⊕ Bool
  | _, _, [] => .inr true
  | i, n, c :: s =>
    if (c.toNat : Int) = e ∧ 0 < i then .inl (n, i)
    else if (c.toNat : Int) < 48 ∨ 57 < (c.toNat : Int) ∨ (i = 1 ∧ n = 0) then .inr false
    else if most < 10 * n + ((c.toNat : Int) - 48) then .inr false
    else cnt most e (i + 1) (10 * n + ((c.toNat : Int) - 48)) s

theorem cnt_at (most e : Int) (s : ByteArray) (k : Nat) (v : Int) (hk : k < s.size) :
    cnt most e k v (s.data.toList.drop k) =
      if (s[k].toNat : Int) = e ∧ 0 < k then .inl (v, k)
      else if (s[k].toNat : Int) < 48 ∨ 57 < (s[k].toNat : Int) ∨ (k = 1 ∧ v = 0) then .inr false
      else if most < 10 * v + ((s[k].toNat : Int) - 48) then .inr false
      else cnt most e (k + 1) (10 * v + ((s[k].toNat : Int) - 48)) (s.data.toList.drop (k + 1)) := by
  rw [List.drop_eq_getElem_cons (by simpa using hk)]
  rfl

theorem cnt_found {most e : Int} {s : ByteArray} {k : Nat} {v : Int} {R : (Int × Nat) ⊕ Bool} (hk : k < s.size) (H : cnt most e k v (s.data.toList.drop k) = R) (h1 : (s[k].toNat : Int) = e) (h2 : 0 < k) : R = .inl (v, k) := by
  rw [← H, cnt_at _ _ _ _ _ hk, if_pos ⟨h1, h2⟩]

theorem cnt_bad {most e : Int} {s : ByteArray} {k : Nat} {v : Int} {R : (Int × Nat) ⊕ Bool} (hk : k < s.size) (H : cnt most e k v (s.data.toList.drop k) = R) (h1 : ¬ ((s[k].toNat : Int) = e ∧ 0 < k))
    (h2 : (s[k].toNat : Int) < 48 ∨ 57 < (s[k].toNat : Int) ∨ (k = 1 ∧ v = 0) ∨ most < 10 * v + ((s[k].toNat : Int) - 48)) : R = .inr false := by
  rw [← H, cnt_at _ _ _ _ _ hk, if_neg h1]
  by_cases h3 : (s[k].toNat : Int) < 48 ∨ 57 < (s[k].toNat : Int) ∨ (k = 1 ∧ v = 0)
  · rw [if_pos h3]
  · rw [if_neg h3, if_pos (by omega)]

theorem cnt_go {most e : Int} {s : ByteArray} {k : Nat} {v : Int} {R : (Int × Nat) ⊕ Bool} (hk : k < s.size) (H : cnt most e k v (s.data.toList.drop k) = R) (h1 : ¬ ((s[k].toNat : Int) = e ∧ 0 < k))
    (h2 : ¬ ((s[k].toNat : Int) < 48 ∨ 57 < (s[k].toNat : Int) ∨ (k = 1 ∧ v = 0))) (h3 : ¬ most < 10 * v + ((s[k].toNat : Int) - 48)) :
    cnt most e (k + 1) (10 * v + ((s[k].toNat : Int) - 48)) (s.data.toList.drop (k + 1)) = R := by
  rw [← H, cnt_at _ _ _ _ _ hk, if_neg h1, if_neg h2, if_neg h3]

theorem cnt_end (most e : Int) (s : ByteArray) (k : Nat) (v : Int) (hk : s.size ≤ k) : cnt most e k v (s.data.toList.drop k) = .inr true := by
  rw [List.drop_of_length_le (by simpa using hk)]
  rfl

theorem cnt_bounds {most e : Int} : ∀ (l : Bs) (i : Nat) (n : Int) {m : Int} {j : Nat}, 0 ≤ n → n ≤ most → cnt most e i n l = .inl (m, j) → 0 ≤ m ∧ m ≤ most ∧ i ≤ j ∧ 0 < j ∧ j < i + l.length
  | [], _, _, _, _, _, _, h => by simp [cnt] at h
  | c :: s, i, n, m, j, h0, h1, h => by
    unfold cnt at h
    split at h
    · rename_i hc
      simp only [Sum.inl.injEq, Prod.mk.injEq] at h
      obtain ⟨rfl, rfl⟩ := h
      simp only [List.length_cons]
      omega
    · split at h
      · simp at h
      · split at h
        · simp at h
        · have := cnt_bounds s (i + 1) _ (by omega) (by omega) h
          simp only [List.length_cons]
          omega

/-- A reader: the rest, and the error. -/
abbrev St := Bs × Int

def rdNum (low high : Int) (st : St) : Int × St :=
  if st.2 ≠ 0 then (0, st) else
  match cnt 281474976710656 59 0 0 st.1 with
  | .inl (n, i) => if n < low ∨ high < n then (0, ([], 3)) else (n, (st.1.drop (i + 1), 0))
  | .inr b => (0, ([], if b then 13 else 17))

def rdText (most : Int) (st : St) : Bs × St :=
  if st.2 ≠ 0 then ([], st) else
  match cnt 65536 58 0 0 st.1 with
  | .inl (n, i) =>
    if st.1.length ≤ i + 1 + n.toNat then ([], ([], 13))
    else if st.1[i + 1 + n.toNat]? ≠ some 44 then ([], ([], 17))
    else if most < n then ([], ([], 10))
    else ((st.1.drop (i + 1)).take n.toNat, (st.1.drop (i + 1 + n.toNat + 1), 0))
  | .inr b => ([], ([], if b then 13 else 17))

def rdLoop {α : Type} (one : St → α × St) : Nat → St → List α × St
  | 0, st => ([], st)
  | k + 1, st => if st.2 ≠ 0 then ([], st) else ((one st).1 :: (rdLoop one k (one st).2).1, (rdLoop one k (one st).2).2)

def rdMany {α : Type} (one : St → α × St) (st : St) : List α × St :=
  let x := rdNum 0 1024 st
  let y := rdLoop one x.1.toNat x.2
  (if y.2.2 ≠ 0 then [] else y.1, y.2)

def rdNums (low high : Int) (st : St) : List Int × St := rdMany (rdNum low high) st
def rdTexts (most : Int) (st : St) : List Bs × St := rdMany (rdText most) st
def rdClose (st : St) : Int := if st.2 = 0 ∧ st.1 ≠ [] then 17 else st.2

theorem rdLoop_stop {α : Type} (one : St → α × St) (k : Nat) (st : St) (h : st.2 ≠ 0) : rdLoop one k st = ([], st) := by
  cases k with
  | zero => rfl
  | succ k => simp [rdLoop, h]

theorem rdLoop_go {α : Type} (one : St → α × St) (k : Nat) (st : St) (h : st.2 = 0) : rdLoop one (k + 1) st = ((one st).1 :: (rdLoop one k (one st).2).1, (rdLoop one k (one st).2).2) := by
  simp [rdLoop, h]

/-- What the loop of a list has so far, and what is still to come. -/
def RdAt {α : Type} (one : St → α × St) (n : Nat) (st0 : St) (k : Nat) (acc : List α) (st : St) : Prop :=
  rdLoop one n st0 = (acc ++ (rdLoop one (n - k) st).1, (rdLoop one (n - k) st).2)

theorem RdAt.start {α : Type} (one : St → α × St) (n : Nat) (st : St) : RdAt one n st 0 [] st := by simp [RdAt]

theorem RdAt.step {α : Type} {one : St → α × St} {n : Nat} {st0 : St} {k : Nat} {acc : List α} {st : St} (h : RdAt one n st0 k acc st) (hk : k < n) (h0 : st.2 = 0) : RdAt one n st0 (k + 1) (acc ++ [(one st).1]) (one st).2 := by
  unfold RdAt at *
  rw [h, show n - k = (n - (k + 1)) + 1 by omega, rdLoop_go one _ st h0]
  simp

theorem RdAt.stop {α : Type} {one : St → α × St} {n : Nat} {st0 : St} {k : Nat} {acc : List α} {st : St} (h : RdAt one n st0 k acc st) (hk : n ≤ k ∨ st.2 ≠ 0) : rdLoop one n st0 = (acc, st) := by
  unfold RdAt at h
  rcases hk with hk | hk
  · rw [h, show n - k = 0 by omega]; simp [rdLoop]
  · rw [h, rdLoop_stop one _ st hk]; simp

theorem rdMany_of {α : Type} {one : St → α × St} {st st1 st2 : St} {n : Nat} {acc : List α} (hn : (rdNum 0 1024 st).1 = (n : Int)) (hs : st1 = (rdNum 0 1024 st).2) (hl : rdLoop one n st1 = (acc, st2)) :
    rdMany one st = (if st2.2 ≠ 0 then [] else acc, st2) := by
  simp only [rdMany, hn, ← hs, Int.toNat_natCast, hl]

theorem rdNum_res (low high : Int) (st : St) : (rdNum low high st).1 = 0 ∨ (low ≤ (rdNum low high st).1 ∧ (rdNum low high st).1 ≤ high) := by
  unfold rdNum
  split
  · simp
  · split
    · split
      · simp
      · right; dsimp only; omega
    · simp

theorem rdNum_len (low high : Int) (st : St) : (rdNum low high st).2.1.length ≤ st.1.length := by
  unfold rdNum
  split
  · simp
  · split
    · split <;> simp
    · simp

theorem rdText_len (most : Int) (st : St) : (rdText most st).2.1.length ≤ st.1.length := by
  unfold rdText
  split
  · simp
  · split
    · split
      · simp
      · split
        · simp
        · split <;> simp
    · simp

theorem rdLoop_len {α : Type} (one : St → α × St) : ∀ (k : Nat) (st : St), (rdLoop one k st).1.length ≤ k
  | 0, st => by simp [rdLoop]
  | k + 1, st => by
    unfold rdLoop
    split
    · simp
    · simp only [List.length_cons]
      have := rdLoop_len one k (one st).2
      omega

theorem rdLoop_st {α : Type} (one : St → α × St) (h : ∀ st, (one st).2.1.length ≤ st.1.length) : ∀ (k : Nat) (st : St), (rdLoop one k st).2.1.length ≤ st.1.length
  | 0, st => by simp [rdLoop]
  | k + 1, st => by
    unfold rdLoop
    split
    · simp
    · exact Nat.le_trans (rdLoop_st one h k _) (h st)

theorem rdMany_len {α : Type} (one : St → α × St) (st : St) : (rdMany one st).1.length ≤ 1024 := by
  have h1 := rdNum_res 0 1024 st
  have h2 := rdLoop_len one (rdNum 0 1024 st).1.toNat (rdNum 0 1024 st).2
  simp only [rdMany]
  split
  · simp
  · omega

theorem rdMany_st {α : Type} (one : St → α × St) (h : ∀ st, (one st).2.1.length ≤ st.1.length) (st : St) : (rdMany one st).2.1.length ≤ st.1.length :=
  Nat.le_trans (rdLoop_st one h _ _) (rdNum_len 0 1024 st)

/-! ### Writing -/

def eNum (n : Int) : Bs × Int := if n < 0 ∨ 281474976710656 < n then ([], 3) else (decDigits n.toNat ++ [59], 0)
def eText (s : Bs) : Bs × Int := if 65536 < s.length then ([], 10) else (decDigits s.length ++ [58] ++ s ++ [44], 0)
def eAll {α : Type} (one : α → Bs × Int) : List α → Bs → Bs × Int
  | [], acc => (acc, 0)
  | x :: l, acc => if (one x).2 ≠ 0 then ([], (one x).2) else eAll one l (acc ++ (one x).1)
def eList {α : Type} (one : α → Bs × Int) (l : List α) : Bs × Int := if 1024 < l.length then ([], 10) else eAll one l (decDigits l.length ++ [59])

end Licit
