/- Plain laws on the codec: what was written is read back; a proper beginning is too short; what was read has just those bytes; after an error nothing more is read. No program in sight. -/
import Derived.Test.YtadbkhijieinkaaDoorPlainCodec
import Derived.Lib.ItoaLen
namespace Licit
open Go Go.Lib

theorem dec_pos (u : Nat) : 0 < (decDigits u).length := by rw [decDigits_length]; exact nDigits_pos u
theorem dec_s {u : Nat} (h : u < 10) : decDigits u = [UInt8.ofNat (48 + u)] := decDigits_one h
theorem dec_b {u : Nat} (h : ¬ u < 10) : decDigits u = decDigits (u / 10) ++ [UInt8.ofNat (48 + u % 10)] := by rw [decDigits, dif_neg h]
theorem digit_nat {d : Nat} (h : d < 10) : ((UInt8.ofNat (48 + d)).toNat : Int) = 48 + d := by rw [UInt8.toNat_ofNat']; omega

theorem cnt_cons (most e : Int) (i : Nat) (n : Int) (c : UInt8) (s : Bs) : cnt most e i n (c :: s) =
    if (c.toNat : Int) = e ∧ 0 < i then .inl (n, i)
    else if (c.toNat : Int) < 48 ∨ 57 < (c.toNat : Int) ∨ (i = 1 ∧ n = 0) then .inr false
    else if most < 10 * n + ((c.toNat : Int) - 48) then .inr false
    else cnt most e (i + 1) (10 * n + ((c.toNat : Int) - 48)) s := rfl

theorem rdNum_of {low high : Int} {l : Bs} {n : Int} {i : Nat} (h : cnt 281474976710656 59 0 0 l = .inl (n, i)) :
    rdNum low high (l, 0) = if n < low ∨ high < n then (0, ([], 3)) else (n, (l.drop (i + 1), 0)) := by
  simp only [rdNum, h]; rfl
theorem rdNum_no {low high : Int} {l : Bs} {b : Bool} (h : cnt 281474976710656 59 0 0 l = .inr b) : rdNum low high (l, 0) = (0, ([], if b then 13 else 17)) := by
  simp only [rdNum, h]; rfl
theorem rdText_of {most : Int} {l : Bs} {n : Int} {i : Nat} (h : cnt 65536 58 0 0 l = .inl (n, i)) :
    rdText most (l, 0) = if l.length ≤ i + 1 + n.toNat then ([], ([], 13))
    else if l[i + 1 + n.toNat]? ≠ some 44 then ([], ([], 17))
    else if most < n then ([], ([], 10))
    else ((l.drop (i + 1)).take n.toNat, (l.drop (i + 1 + n.toNat + 1), 0)) := by
  simp only [rdText, h]; rfl
theorem rdText_no {most : Int} {l : Bs} {b : Bool} (h : cnt 65536 58 0 0 l = .inr b) : rdText most (l, 0) = ([], ([], if b then 13 else 17)) := by
  simp only [rdText, h]; rfl

/-- The digits of a number, read. -/
theorem cnt_digits {most e : Int} (he : e < 48 ∨ 57 < e) (u : Nat) : ∀ (rest : Bs), (u : Int) ≤ most → cnt most e 0 0 (decDigits u ++ rest) = cnt most e (decDigits u).length u rest := by
  induction u using Nat.strongRecOn with
  | _ u ih =>
    intro rest hm
    by_cases h : u < 10
    · rw [dec_s h]
      have hd := digit_nat h
      show cnt most e 0 0 (UInt8.ofNat (48 + u) :: rest) = _
      rw [cnt_cons, if_neg (by omega), if_neg (by omega), if_neg (by omega), hd]
      rw [show (10 * 0 + (48 + (u : Int) - 48)) = u by omega]
      rfl
    · rw [dec_b h, List.append_assoc, ih (u / 10) (by omega) _ (by omega)]
      have hd := digit_nat (d := u % 10) (by omega)
      have hp := dec_pos (u / 10)
      show cnt most e (decDigits (u / 10)).length _ (UInt8.ofNat (48 + u % 10) :: rest) = _
      rw [cnt_cons, if_neg (by omega), if_neg (by omega), if_neg (by omega), hd]
      rw [show (10 * ((u / 10 : Nat) : Int) + (48 + ((u % 10 : Nat) : Int) - 48)) = u by omega, List.length_append]
      rfl

theorem cnt_num {most : Int} (e : UInt8) (he : (e.toNat : Int) < 48 ∨ 57 < (e.toNat : Int)) (u : Nat) (rest : Bs) (hm : (u : Int) ≤ most) :
    cnt most e.toNat 0 0 (decDigits u ++ e :: rest) = .inl ((u : Int), (decDigits u).length) := by
  rw [cnt_digits he u _ hm]
  show (if _ then _ else _) = _
  rw [if_pos ⟨rfl, dec_pos u⟩]

/-- A beginning of the digits is too short. -/
theorem cnt_digits_take {most e : Int} (he : e < 48 ∨ 57 < e) (u : Nat) : ∀ (k : Nat), (u : Int) ≤ most → k ≤ (decDigits u).length → cnt most e 0 0 ((decDigits u).take k) = .inr true := by
  induction u using Nat.strongRecOn with
  | _ u ih =>
    intro k hm hk
    by_cases hkl : k = (decDigits u).length
    · subst hkl
      rw [List.take_length]
      have := cnt_digits he u [] hm
      rw [List.append_nil] at this
      rw [this]; rfl
    · by_cases h : u < 10
      · rw [dec_s h] at hk hkl ⊢
        simp only [List.length_singleton] at hk hkl
        obtain rfl : k = 0 := by omega
        rfl
      · rw [dec_b h] at hk hkl ⊢
        simp only [List.length_append, List.length_singleton] at hk hkl
        rw [List.take_append_of_le_length (by omega)]
        exact ih (u / 10) (by omega) k (by omega) (by omega)

/-- A value with its bytes, for a reader. -/
structure Good {α : Type} (one : St → α × St) (b : Bs) (x : α) : Prop where
  pos : 0 < b.length
  back : ∀ tail, one (b ++ tail, 0) = (x, (tail, 0))
  short : ∀ k, k < b.length → (one (b.take k, 0)).2 = ([], 13)

theorem num_good {low high n : Int} (h0 : 0 ≤ n) (h1 : n ≤ 281474976710656) (hl : low ≤ n) (hh : n ≤ high) : Good (rdNum low high) (eNum n).1 n := by
  have hb : (eNum n).1 = decDigits n.toNat ++ [59] := by unfold eNum; rw [if_neg (by omega)]
  rw [hb]
  have hn : ((n.toNat : Nat) : Int) = n := by omega
  refine ⟨by simp, fun tail => ?_, fun k hk => ?_⟩
  · have hc := cnt_num (most := 281474976710656) 59 (by decide) n.toNat tail (by omega)
    rw [List.append_assoc]
    have he : decDigits n.toNat ++ ([59] ++ tail) = decDigits n.toNat ++ 59 :: tail := rfl
    rw [he, rdNum_of hc, hn, if_neg (by omega), ← List.drop_drop, List.drop_left]
    rfl
  · simp only [List.length_append, List.length_singleton] at hk
    rw [List.take_append_of_le_length (by omega)]
    rw [rdNum_no (cnt_digits_take (most := 281474976710656) (e := 59) (by decide) n.toNat k (by omega) (by omega))]
    rfl

theorem text_good {most : Int} {s : Bs} (h1 : s.length ≤ 65536) (hm : (s.length : Int) ≤ most) : Good (rdText most) (eText s).1 s := by
  have hb : (eText s).1 = decDigits s.length ++ [58] ++ s ++ [44] := by unfold eText; rw [if_neg (by omega)]
  rw [hb]
  have hp := dec_pos s.length
  have hk : (decDigits s.length ++ [58] ++ s ++ [44]).length = (decDigits s.length).length + 1 + s.length + 1 := by
    simp only [List.length_append, List.length_singleton]
  refine ⟨by omega, fun tail => ?_, fun k hk' => ?_⟩
  · have hc := cnt_num (most := 65536) 58 (by decide) s.length (s ++ 44 :: tail) (by omega)
    have he : decDigits s.length ++ [58] ++ s ++ [44] ++ tail = decDigits s.length ++ 58 :: (s ++ 44 :: tail) := by simp
    have hg : (decDigits s.length ++ 58 :: (s ++ 44 :: tail))[(decDigits s.length).length + 1 + s.length]? = some 44 := by
      rw [List.getElem?_append_right (by omega), show (decDigits s.length).length + 1 + s.length - (decDigits s.length).length = s.length + 1 by omega]
      rw [List.getElem?_cons_succ, List.getElem?_append_right (by omega)]
      simp
    have hd1 : (decDigits s.length ++ 58 :: (s ++ 44 :: tail)).drop ((decDigits s.length).length + 1) = s ++ 44 :: tail := by
      rw [← List.drop_drop, List.drop_left]; rfl
    have hd2 : (decDigits s.length ++ 58 :: (s ++ 44 :: tail)).drop ((decDigits s.length).length + 1 + s.length + 1) = tail := by
      rw [← List.drop_drop, ← List.drop_drop, hd1, List.drop_left]; rfl
    rw [he, rdText_of hc, Int.toNat_natCast, if_neg (by simp only [List.length_append, List.length_cons]; omega), hg, if_neg (by simp), if_neg (by omega), hd1, hd2, List.take_left]
  · by_cases hk1 : k ≤ (decDigits s.length).length
    · rw [List.append_assoc, List.append_assoc, List.take_append_of_le_length hk1]
      rw [rdText_no (cnt_digits_take (most := 65536) (e := 58) (by decide) s.length k (by omega) hk1)]
      rfl
    · have he : decDigits s.length ++ [58] ++ s ++ [44] = decDigits s.length ++ 58 :: (s ++ [44]) := by simp
      have ht : (decDigits s.length ++ 58 :: (s ++ [44])).take k = decDigits s.length ++ 58 :: ((s ++ [44]).take (k - (decDigits s.length).length - 1)) := by
        rw [List.take_append, List.take_of_length_le (by omega)]
        congr 1
        rw [show k - (decDigits s.length).length = (k - (decDigits s.length).length - 1) + 1 by omega, List.take_succ_cons]
        rfl
      have hc := cnt_num (most := 65536) 58 (by decide) s.length ((s ++ [44]).take (k - (decDigits s.length).length - 1)) (by omega)
      rw [he, ht, rdText_of hc, Int.toNat_natCast, if_pos (by simp only [List.length_append, List.length_cons, List.length_take]; omega)]

/-! ### Lists -/

theorem eAll_err {α : Type} (one : α → Bs × Int) : ∀ (l : List α) (acc : Bs), (∀ x ∈ l, (one x).2 = 0) → eAll one l acc = (acc ++ (l.map fun x => (one x).1).flatten, 0)
  | [], acc, _ => by simp [eAll]
  | x :: l, acc, h => by
    unfold eAll
    rw [if_neg (by simp [h x]), eAll_err one l _ (fun y hy => h y (by simp [hy]))]
    simp

theorem eAll_ok {α : Type} (one : α → Bs × Int) : ∀ (l : List α) (acc : Bs), (eAll one l acc).2 = 0 → ∀ x ∈ l, (one x).2 = 0
  | [], acc, _, x, hx => by simp at hx
  | y :: l, acc, h, x, hx => by
    unfold eAll at h
    split at h
    · rename_i h0; exact (h0 h).elim
    · rename_i h0
      rcases List.mem_cons.1 hx with rfl | hx
      · simpa using h0
      · exact eAll_ok one l _ h x hx

theorem eList_ok {α : Type} {one : α → Bs × Int} {l : List α} (h : (eList one l).2 = 0) : l.length ≤ 1024 ∧ (∀ x ∈ l, (one x).2 = 0) ∧ (eList one l).1 = (eNum (l.length : Int)).1 ++ (l.map fun x => (one x).1).flatten := by
  unfold eList at h ⊢
  split at h
  · cases h
  · rename_i hl
    have hx := eAll_ok one l _ h
    refine ⟨by omega, hx, ?_⟩
    rw [if_neg hl, eAll_err one l _ hx]
    have : (eNum (l.length : Int)).1 = decDigits l.length ++ [59] := by unfold eNum; rw [if_neg (by omega), Int.toNat_natCast]
    rw [this]

theorem loop_back {α : Type} {one : St → α × St} {b : α → Bs} : ∀ (l : List α) (tail : Bs), (∀ x ∈ l, Good one (b x) x) → rdLoop one l.length ((l.map b).flatten ++ tail, 0) = (l, (tail, 0))
  | [], tail, _ => by simp [rdLoop]
  | x :: l, tail, h => by
    have hx := (h x (by simp)).back ((l.map b).flatten ++ tail)
    rw [List.length_cons, rdLoop_go one _ _ rfl]
    have he : ((x :: l).map b).flatten ++ tail = b x ++ ((l.map b).flatten ++ tail) := by simp
    rw [he, hx]
    simp only
    rw [loop_back l tail (fun y hy => h y (by simp [hy]))]

theorem loop_short {α : Type} {one : St → α × St} {b : α → Bs} : ∀ (l : List α) (k : Nat), (∀ x ∈ l, Good one (b x) x) → k < ((l.map b).flatten).length → (rdLoop one l.length (((l.map b).flatten).take k, 0)).2 = ([], 13)
  | [], k, _, hk => by simp at hk
  | x :: l, k, h, hk => by
    have hx := h x (by simp)
    rw [List.length_cons, rdLoop_go one _ _ rfl]
    simp only [List.map_cons, List.flatten_cons, List.length_append] at hk ⊢
    by_cases hkx : k < (b x).length
    · have := hx.short k hkx
      rw [List.take_append_of_le_length (by omega)]
      rw [this, rdLoop_stop one _ _ (by decide)]
    · have ht : (b x ++ (l.map b).flatten).take k = b x ++ ((l.map b).flatten).take (k - (b x).length) := by
        rw [List.take_append, List.take_of_length_le (by omega)]
      rw [ht, hx.back]
      simp only
      exact loop_short l _ (fun y hy => h y (by simp [hy])) (by omega)

theorem list_good {α : Type} {one : St → α × St} {enc : α → Bs × Int} {l : List α} (hl : l.length ≤ 1024) (h : ∀ x ∈ l, Good one (enc x).1 x) :
    Good (rdMany one) ((eNum (l.length : Int)).1 ++ (l.map fun x => (enc x).1).flatten) l := by
  have hn := num_good (low := 0) (high := 1024) (n := (l.length : Int)) (by omega) (by omega) (by omega) (by omega)
  refine ⟨by rw [List.length_append]; have := hn.pos; omega, fun tail => ?_, fun k hk => ?_⟩
  · have h1 := hn.back ((l.map fun x => (enc x).1).flatten ++ tail)
    rw [List.append_assoc]
    rw [rdMany_of (n := l.length) (st1 := ((l.map fun x => (enc x).1).flatten ++ tail, 0)) (by rw [h1]) (by rw [h1]) (loop_back l tail h)]
    rfl
  · by_cases hk1 : k < (eNum (l.length : Int)).1.length
    · have h1 := hn.short k hk1
      rw [List.take_append_of_le_length (by omega)]
      have h2 : rdLoop one (rdNum 0 1024 ((eNum (l.length : Int)).1.take k, 0)).1.toNat ([], 13) = ([], ([], 13)) := rdLoop_stop one _ _ (by decide)
      simp only [rdMany]
      rw [h1, h2]
    · have ht : ((eNum (l.length : Int)).1 ++ (l.map fun x => (enc x).1).flatten).take k = (eNum (l.length : Int)).1 ++ ((l.map fun x => (enc x).1).flatten).take (k - (eNum (l.length : Int)).1.length) := by
        rw [List.take_append, List.take_of_length_le (by omega)]
      have h1 := hn.back (((l.map fun x => (enc x).1).flatten).take (k - (eNum (l.length : Int)).1.length))
      have h2 := loop_short l (k - (eNum (l.length : Int)).1.length) h (by rw [List.length_append] at hk; omega)
      rw [ht]
      simp only [rdMany]
      rw [h1]
      simp only [Int.toNat_natCast]
      exact h2

/-- The next of several values, read from a beginning. -/
theorem short_then {α : Type} {one : St → α × St} {b rest : Bs} {x : α} (h : Good one b x) {k : Nat} (hk : k < b.length + rest.length) :
    (k < b.length ∧ (one ((b ++ rest).take k, 0)).2 = ([], 13)) ∨ (b.length ≤ k ∧ (one ((b ++ rest).take k, 0)).2 = (rest.take (k - b.length), 0) ∧ k - b.length < rest.length) := by
  by_cases hkb : k < b.length
  · exact .inl ⟨hkb, by rw [List.take_append_of_le_length (by omega)]; exact h.short k hkb⟩
  · refine .inr ⟨by omega, ?_, by omega⟩
    rw [List.take_append, List.take_of_length_le (by omega), h.back]

/-! ### After an error nothing is read -/

theorem num_stop {low high : Int} {st : St} (h : st.2 ≠ 0) : rdNum low high st = (0, st) := by simp [rdNum, h]
theorem text_stop {most : Int} {st : St} (h : st.2 ≠ 0) : rdText most st = ([], st) := by simp [rdText, h]
theorem many_stop {α : Type} {one : St → α × St} {st : St} (h : st.2 ≠ 0) : rdMany one st = ([], st) := by
  simp only [rdMany, num_stop h]
  rw [rdLoop_stop one _ st h]
  simp

/-! ### What was read has just those bytes -/

theorem cnt_canon {most : Int} {e : UInt8} (he : (e.toNat : Int) < 48 ∨ 57 < (e.toNat : Int)) : ∀ (s : Bs) (i : Nat) (n : Int) (p : Bs) {m : Int} {j : Nat}, p.length = i → ((i = 0 ∧ n = 0) ∨ (0 < i ∧ 0 ≤ n ∧ p = decDigits n.toNat)) →
    cnt most e.toNat i n s = .inl (m, j) → ∃ d rest, s = d ++ e :: rest ∧ p ++ d = decDigits m.toNat ∧ j = i + d.length ∧ 0 ≤ m
  | [], i, n, p, m, j, _, _, h => by simp [cnt] at h
  | c :: s, i, n, p, m, j, hp, hi, h => by
    rw [cnt_cons] at h
    split at h
    · rename_i hc
      simp only [Sum.inl.injEq, Prod.mk.injEq] at h
      obtain ⟨rfl, rfl⟩ := h
      have hce : c = e := UInt8.toNat_inj.1 (by have := hc.1; omega)
      rcases hi with hi | hi
      · omega
      · exact ⟨[], s, by rw [hce]; rfl, by rw [List.append_nil]; exact hi.2.2, by simp, hi.2.1⟩
    · split at h
      · simp at h
      · rename_i hne hd
        split at h
        · simp at h
        · have hcd : c = UInt8.ofNat (48 + (c.toNat - 48)) := by
            apply UInt8.toNat_inj.1
            rw [UInt8.toNat_ofNat']
            omega
          have hp1 : (p ++ [c]).length = i + 1 := by simp [hp]
          have hstep : (0 < i + 1 ∧ 0 ≤ 10 * n + ((c.toNat : Int) - 48) ∧ p ++ [c] = decDigits (10 * n + ((c.toNat : Int) - 48)).toNat) := by
            rcases hi with ⟨hi, hn⟩ | ⟨hi, hn, hpe⟩
            · subst hn
              refine ⟨by omega, by omega, ?_⟩
              have hp0 : p = [] := List.eq_nil_of_length_eq_zero (by omega)
              rw [hp0, List.nil_append, show (10 * 0 + ((c.toNat : Int) - 48)).toNat = c.toNat - 48 by omega, dec_s (by omega), ← hcd]
            · have hn1 : 1 ≤ n := by
                rcases Int.lt_or_le n 1 with h1 | h1
                · exfalso
                  have h0 : n = 0 := by omega
                  rw [h0] at hpe
                  have : p.length = 1 := by rw [hpe, show (0 : Int).toNat = 0 from rfl, dec_s (by omega)]; rfl
                  omega
                · exact h1
              refine ⟨by omega, by omega, ?_⟩
              rw [dec_b (by omega), show (10 * n + ((c.toNat : Int) - 48)).toNat / 10 = n.toNat by omega, show (10 * n + ((c.toNat : Int) - 48)).toNat % 10 = c.toNat - 48 by omega, ← hcd, ← hpe]
          obtain ⟨d, rest, h1, h2, h3, h4⟩ := cnt_canon he s (i + 1) _ (p ++ [c]) hp1 (.inr hstep) h
          exact ⟨c :: d, rest, by rw [h1]; rfl, by rw [← h2]; simp, by rw [h3]; simp; omega, h4⟩

/-- A value that was read: its bytes stood there. -/
def Canon {α : Type} (one : St → α × St) (enc : α → Bs × Int) : Prop := ∀ l, (one (l, 0)).2.2 = 0 → l = (enc (one (l, 0)).1).1 ++ (one (l, 0)).2.1 ∧ (enc (one (l, 0)).1).2 = 0

theorem num_canon {low high : Int} : Canon (rdNum low high) eNum := by
  intro l h
  cases hc : cnt 281474976710656 59 0 0 l with
  | inr b => rw [rdNum_no hc] at h; cases b <;> simp at h
  | inl q =>
    obtain ⟨n, i⟩ := q
    have hb := cnt_bounds l 0 0 (by omega) (by omega) hc
    obtain ⟨d, rest, h1, h2, h3, h4⟩ := cnt_canon (e := 59) (by decide) l 0 0 [] rfl (.inl ⟨rfl, rfl⟩) hc
    rw [List.nil_append] at h2
    rw [rdNum_of hc] at h ⊢
    by_cases hr : n < low ∨ high < n
    · rw [if_pos hr] at h; simp at h
    · rw [if_neg hr]
      have he : eNum n = (decDigits n.toNat ++ [59], 0) := by unfold eNum; rw [if_neg (by omega)]
      simp only [he]
      refine ⟨?_, trivial⟩
      rw [← h2, h3, Nat.zero_add]
      conv => lhs; rw [h1]
      have : l.drop (d.length + 1) = rest := by rw [h1, ← List.drop_drop, List.drop_left]; rfl
      rw [this]; simp

theorem text_canon {most : Int} : Canon (rdText most) eText := by
  intro l h
  cases hc : cnt 65536 58 0 0 l with
  | inr b => rw [rdText_no hc] at h; cases b <;> simp at h
  | inl q =>
    obtain ⟨n, i⟩ := q
    have hb := cnt_bounds l 0 0 (by omega) (by omega) hc
    obtain ⟨d, rest, h1, h2, h3, h4⟩ := cnt_canon (e := 58) (by decide) l 0 0 [] rfl (.inl ⟨rfl, rfl⟩) hc
    rw [List.nil_append] at h2
    rw [rdText_of hc] at h ⊢
    by_cases c1 : l.length ≤ i + 1 + n.toNat
    · rw [if_pos c1] at h; simp at h
    · rw [if_neg c1] at h ⊢
      by_cases c2 : l[i + 1 + n.toNat]? ≠ some 44
      · rw [if_pos c2] at h; simp at h
      · rw [if_neg c2] at h ⊢
        by_cases c3 : most < n
        · rw [if_pos c3] at h; simp at h
        · rw [if_neg c3]
          simp only [ne_eq, Decidable.not_not] at c2
          have hrest : l.drop (i + 1) = rest := by rw [h3, Nat.zero_add, h1, ← List.drop_drop, List.drop_left]; rfl
          have hll : l.length = i + 1 + rest.length := by rw [h1]; simp; omega
          have hlen : (rest.take n.toNat).length = n.toNat := by rw [List.length_take]; omega
          have he : eText (rest.take n.toNat) = (decDigits n.toNat ++ [58] ++ rest.take n.toNat ++ [44], 0) := by
            unfold eText; rw [hlen, if_neg (by omega)]
          rw [hrest]
          simp only [he]
          refine ⟨?_, trivial⟩
          have hg : rest[n.toNat]? = some 44 := by rw [← c2, ← hrest, List.getElem?_drop]
          have hdd : l.drop (i + 1 + n.toNat + 1) = rest.drop (n.toNat + 1) := by rw [← hrest, List.drop_drop]; congr 1
          have hsp : rest = rest.take n.toNat ++ 44 :: rest.drop (n.toNat + 1) := by
            have hlt : n.toNat < rest.length := by omega
            rw [List.getElem?_eq_getElem hlt] at hg
            have hg' := Option.some.inj hg
            conv => lhs; rw [← List.take_append_drop n.toNat rest, List.drop_eq_getElem_cons hlt, hg']
          rw [hdd]
          conv => lhs; rw [h1, hsp]
          rw [h2]; simp

theorem loop_canon {α : Type} {one : St → α × St} {enc : α → Bs × Int} (hz : ∀ st, st.2 ≠ 0 → (one st).2 = st) (hc : Canon one enc) : ∀ (k : Nat) (l : Bs), (rdLoop one k (l, 0)).2.2 = 0 →
    (rdLoop one k (l, 0)).1.length = k ∧ l = ((rdLoop one k (l, 0)).1.map fun x => (enc x).1).flatten ++ (rdLoop one k (l, 0)).2.1 ∧ ∀ x ∈ (rdLoop one k (l, 0)).1, (enc x).2 = 0
  | 0, l, _ => by simp [rdLoop]
  | k + 1, l, h => by
    rw [rdLoop_go one k _ rfl] at h ⊢
    simp only at h ⊢
    by_cases h0 : (one (l, 0)).2.2 = 0
    · have hx := hc l h0
      have hst : (one (l, 0)).2 = ((one (l, 0)).2.1, 0) := Prod.ext rfl h0
      rw [hst] at h ⊢
      obtain ⟨i1, i2, i3⟩ := loop_canon hz hc k _ h
      refine ⟨by simp [i1], ?_, fun x hm => ?_⟩
      · rw [List.map_cons, List.flatten_cons, List.append_assoc, ← i2]; exact hx.1
      · rcases List.mem_cons.1 hm with rfl | hm
        · exact hx.2
        · exact i3 x hm
    · rw [rdLoop_stop one k _ h0] at h
      exact (h0 h).elim

theorem many_canon {α : Type} {one : St → α × St} {enc : α → Bs × Int} (hz : ∀ st, st.2 ≠ 0 → (one st).2 = st) (hc : Canon one enc) : Canon (rdMany one) (eList enc) := by
  intro l h
  have hn := rdNum_res 0 1024 (l, 0)
  simp only [rdMany] at h ⊢
  by_cases h0 : (rdNum 0 1024 (l, 0)).2.2 = 0
  · have hx := num_canon (low := 0) (high := 1024) l h0
    have hst : (rdNum 0 1024 (l, 0)).2 = ((rdNum 0 1024 (l, 0)).2.1, 0) := Prod.ext rfl h0
    rw [hst] at h ⊢
    obtain ⟨i1, i2, i3⟩ := loop_canon hz hc _ _ h
    rw [if_neg (by simp [h])]
    have hle : (rdLoop one (rdNum 0 1024 (l, 0)).1.toNat ((rdNum 0 1024 (l, 0)).2.1, 0)).1.length ≤ 1024 := by omega
    have he : eList enc (rdLoop one (rdNum 0 1024 (l, 0)).1.toNat ((rdNum 0 1024 (l, 0)).2.1, 0)).1 = (decDigits (rdNum 0 1024 (l, 0)).1.toNat ++ [59] ++ ((rdLoop one (rdNum 0 1024 (l, 0)).1.toNat ((rdNum 0 1024 (l, 0)).2.1, 0)).1.map fun x => (enc x).1).flatten, 0) := by
      unfold eList
      rw [if_neg (by omega), eAll_err enc _ _ i3, i1]
    rw [he]
    refine ⟨?_, rfl⟩
    have h1 := hx.1
    have hen : (eNum (rdNum 0 1024 (l, 0)).1).1 = decDigits (rdNum 0 1024 (l, 0)).1.toNat ++ [59] := by unfold eNum; rw [if_neg (by omega)]
    rw [hen] at h1
    simp only
    rw [List.append_assoc, ← i2]
    exact h1
  · rw [rdLoop_stop one _ _ h0] at h
    exact (h0 h).elim

/-- What was read is shorter. -/
theorem canon_less {α : Type} {one : St → α × St} {enc : α → Bs × Int} (hc : Canon one enc) (hp : ∀ x, (enc x).2 = 0 → 0 < (enc x).1.length) {l : Bs} (h : (one (l, 0)).2.2 = 0) : (one (l, 0)).2.1.length < l.length := by
  obtain ⟨h1, h2⟩ := hc l h
  have := hp _ h2
  have h3 := congrArg List.length h1
  rw [List.length_append] at h3
  omega

theorem eNum_pos (n : Int) (h : (eNum n).2 = 0) : 0 < (eNum n).1.length := by
  unfold eNum at h ⊢
  split at h
  · cases h
  · rename_i hn; rw [if_neg hn]; simp
theorem eText_pos (s : Bs) (h : (eText s).2 = 0) : 0 < (eText s).1.length := by
  unfold eText at h ⊢
  split at h
  · cases h
  · rename_i hn; rw [if_neg hn]; simp; try omega
theorem eList_pos {α : Type} {one : α → Bs × Int} (l : List α) (h : (eList one l).2 = 0) : 0 < (eList one l).1.length := by
  obtain ⟨h1, _, h3⟩ := eList_ok h
  rw [h3, List.length_append]
  have := eNum_pos (l.length : Int) (by unfold eNum; rw [if_neg (by omega)])
  omega

/-! ### The values of the laws -/

def fewB (s : Bs) (l : List Int) (t : List Bs) : Bool := decide ((∀ x ∈ t, x.length ≤ 200) ∧ s.length ≤ 500 ∧ l.length ≤ 30 ∧ t.length ≤ 10)

/-- What write returns. -/
def wrS (n : Int) (s : Bs) (l : List Int) (t : List Bs) : Bs := (eNum n).1 ++ (eText s).1 ++ (eList eNum l).1 ++ (eList eText t).1
def wrB (n : Int) (s : Bs) (l : List Int) (t : List Bs) : Bool := decide ((eNum n).2 = 0 ∧ (eText s).2 = 0 ∧ (eList eNum l).2 = 0 ∧ (eList eText t).2 = 0)

theorem eNum_ok {n : Int} (h : (eNum n).2 = 0) : 0 ≤ n ∧ n ≤ 281474976710656 := by
  unfold eNum at h
  split at h
  · cases h
  · omega
theorem eText_ok {s : Bs} (h : (eText s).2 = 0) : s.length ≤ 65536 := by
  unfold eText at h
  split at h
  · cases h
  · omega
theorem num_good' {n : Int} (h : (eNum n).2 = 0) : Good (rdNum 0 281474976710656) (eNum n).1 n := by
  obtain ⟨h0, h1⟩ := eNum_ok h
  exact num_good h0 h1 h0 h1
theorem text_good' {s : Bs} (h : (eText s).2 = 0) : Good (rdText 65536) (eText s).1 s := by
  have := eText_ok h
  exact text_good this (by omega)
theorem nums_good' {l : List Int} (h : (eList eNum l).2 = 0) : Good (rdNums 0 281474976710656) (eList eNum l).1 l := by
  obtain ⟨h1, h2, h3⟩ := eList_ok h
  rw [h3]
  exact list_good h1 (fun x hx => num_good' (h2 x hx))
theorem texts_good' {l : List Bs} (h : (eList eText l).2 = 0) : Good (rdTexts 65536) (eList eText l).1 l := by
  obtain ⟨h1, h2, h3⟩ := eList_ok h
  rw [h3]
  exact list_good h1 (fun x hx => text_good' (h2 x hx))

theorem wrB_iff {n : Int} {s : Bs} {l : List Int} {t : List Bs} : wrB n s l t = true ↔ (eNum n).2 = 0 ∧ (eText s).2 = 0 ∧ (eList eNum l).2 = 0 ∧ (eList eText t).2 = 0 := by
  unfold wrB; exact decide_eq_true_iff

/-- All four are read back. -/
theorem reads_back {n : Int} {s : Bs} {l : List Int} {t : List Bs} (h : wrB n s l t = true) (tail : Bs) : ∃ d1 d2 d3 : Bs,
    rdNum 0 281474976710656 (wrS n s l t ++ tail, 0) = (n, (d1, 0)) ∧ rdText 65536 (d1, 0) = (s, (d2, 0)) ∧ rdNums 0 281474976710656 (d2, 0) = (l, (d3, 0)) ∧ rdTexts 65536 (d3, 0) = (t, (tail, 0)) := by
  obtain ⟨h1, h2, h3, h4⟩ := wrB_iff.1 h
  refine ⟨(eText s).1 ++ ((eList eNum l).1 ++ ((eList eText t).1 ++ tail)), (eList eNum l).1 ++ ((eList eText t).1 ++ tail), (eList eText t).1 ++ tail, ?_, (text_good' h2).back _, (nums_good' h3).back _, (texts_good' h4).back _⟩
  have := (num_good' h1).back ((eText s).1 ++ ((eList eNum l).1 ++ ((eList eText t).1 ++ tail)))
  rw [← this]
  unfold wrS
  simp only [List.append_assoc]

/-- A proper beginning of all four is too short. -/
theorem reads_short {n : Int} {s : Bs} {l : List Int} {t : List Bs} (h : wrB n s l t = true) {k : Nat} (hk : k < (wrS n s l t).length) :
    (rdTexts 65536 (rdNums 0 281474976710656 (rdText 65536 (rdNum 0 281474976710656 ((wrS n s l t).take k, 0)).2).2).2).2 = ([], 13) := by
  obtain ⟨h1, h2, h3, h4⟩ := wrB_iff.1 h
  have hb : (([], 13) : St).2 ≠ 0 := by decide
  have s2 : rdText 65536 (([], 13) : St) = ([], ([], 13)) := text_stop hb
  have s3 : rdNums 0 281474976710656 (([], 13) : St) = ([], ([], 13)) := many_stop hb
  have s4 : rdTexts 65536 (([], 13) : St) = ([], ([], 13)) := many_stop hb
  have hw : wrS n s l t = (eNum n).1 ++ ((eText s).1 ++ ((eList eNum l).1 ++ (eList eText t).1)) := by unfold wrS; simp only [List.append_assoc]
  rw [hw] at hk ⊢
  rw [List.length_append] at hk
  rcases short_then (num_good' h1) hk with ⟨_, e1⟩ | ⟨_, e1, hk1⟩
  · rw [e1, s2, s3, s4]
  · rw [e1]
    rw [List.length_append] at hk1
    rcases short_then (text_good' h2) hk1 with ⟨_, e2⟩ | ⟨_, e2, hk2⟩
    · rw [e2, s3, s4]
    · rw [e2]
      rw [List.length_append] at hk2
      rcases short_then (nums_good' h3) hk2 with ⟨_, e3⟩ | ⟨_, e3, hk3⟩
      · rw [e3, s4]
      · rw [e3]
        exact (texts_good' h4).short _ hk3

theorem nums_canon {low high : Int} : Canon (rdNums low high) (eList eNum) := many_canon (fun st h => by rw [num_stop h]) num_canon
theorem texts_canon {most : Int} : Canon (rdTexts most) (eList eText) := many_canon (fun st h => by rw [text_stop h]) text_canon

/-- What was read has just those bytes. -/
theorem reads_canon {d : Bs} {n : Int} {s : Bs} {l : List Int} {t : List Bs} {s1 s2 s3 s4 : St} (h1 : rdNum 0 281474976710656 (d, 0) = (n, s1)) (h2 : rdText 65536 s1 = (s, s2)) (h3 : rdNums 0 281474976710656 s2 = (l, s3)) (h4 : rdTexts 65536 s3 = (t, s4)) (h0 : s4.2 = 0) :
    wrB n s l t = true ∧ d = wrS n s l t ++ s4.1 := by
  have e3 : s3.2 = 0 := by
    rcases Decidable.em (s3.2 = 0) with h | h
    · exact h
    · rw [show rdTexts 65536 s3 = ([], s3) from many_stop h] at h4
      exfalso; apply h; rw [← Prod.mk.inj h4 |>.2] at h0; exact h0
  have e2 : s2.2 = 0 := by
    rcases Decidable.em (s2.2 = 0) with h | h
    · exact h
    · rw [show rdNums 0 281474976710656 s2 = ([], s2) from many_stop h] at h3
      exfalso; apply h; rw [← Prod.mk.inj h3 |>.2] at e3; exact e3
  have e1 : s1.2 = 0 := by
    rcases Decidable.em (s1.2 = 0) with h | h
    · exact h
    · rw [text_stop h] at h2
      exfalso; apply h; rw [← Prod.mk.inj h2 |>.2] at e2; exact e2
  have f1 : s1 = (s1.1, 0) := Prod.ext rfl e1
  have f2 : s2 = (s2.1, 0) := Prod.ext rfl e2
  have f3 : s3 = (s3.1, 0) := Prod.ext rfl e3
  rw [f1] at h2
  rw [f2] at h3
  rw [f3] at h4
  have c1 := num_canon (low := 0) (high := 281474976710656) d (by rw [h1]; exact e1)
  have c2 := text_canon (most := 65536) s1.1 (by rw [h2]; exact e2)
  have c3 := nums_canon (low := 0) (high := 281474976710656) s2.1 (by rw [h3]; exact e3)
  have c4 := texts_canon (most := 65536) s3.1 (by rw [h4]; exact h0)
  rw [h1] at c1
  rw [h2] at c2
  rw [h3] at c3
  rw [h4] at c4
  refine ⟨wrB_iff.2 ⟨c1.2, c2.2, c3.2, c4.2⟩, ?_⟩
  have g1 := c1.1
  rw [c2.1, c3.1, c4.1] at g1
  rw [g1]
  unfold wrS
  simp only [List.append_assoc]

/-! ### Many reads -/

def ErrEmpty {α : Type} (one : St → α × St) : Prop := ∀ l, (one (l, 0)).2.2 ≠ 0 → (one (l, 0)).2.1 = []
theorem num_empty {low high : Int} : ErrEmpty (rdNum low high) := by
  intro l h
  cases hc : cnt 281474976710656 59 0 0 l with
  | inr b => rw [rdNum_no hc]
  | inl q =>
    obtain ⟨n, i⟩ := q
    rw [rdNum_of hc] at h ⊢
    split
    · rfl
    · rename_i hr; rw [if_neg hr] at h; exact (h rfl).elim
theorem text_empty {most : Int} : ErrEmpty (rdText most) := by
  intro l h
  cases hc : cnt 65536 58 0 0 l with
  | inr b => rw [rdText_no hc]
  | inl q =>
    obtain ⟨n, i⟩ := q
    rw [rdText_of hc] at h ⊢
    by_cases c1 : l.length ≤ i + 1 + n.toNat
    · rw [if_pos c1]
    · rw [if_neg c1] at h ⊢
      by_cases c2 : l[i + 1 + n.toNat]? ≠ some 44
      · rw [if_pos c2]
      · rw [if_neg c2] at h ⊢
        by_cases c3 : most < n
        · rw [if_pos c3]
        · rw [if_neg c3] at h; exact (h rfl).elim
theorem loop_empty {α : Type} {one : St → α × St} (hz : ∀ st, st.2 ≠ 0 → (one st).2 = st) (he : ErrEmpty one) : ∀ (k : Nat) (l : Bs), (rdLoop one k (l, 0)).2.2 ≠ 0 → (rdLoop one k (l, 0)).2.1 = []
  | 0, l, h => by simp [rdLoop] at h
  | k + 1, l, h => by
    rw [rdLoop_go one k _ rfl] at h ⊢
    simp only at h ⊢
    by_cases h0 : (one (l, 0)).2.2 = 0
    · have hst : (one (l, 0)).2 = ((one (l, 0)).2.1, 0) := Prod.ext rfl h0
      rw [hst] at h ⊢
      exact loop_empty hz he k _ h
    · rw [rdLoop_stop one k _ h0]
      exact he l h0
theorem many_empty {α : Type} {one : St → α × St} (hz : ∀ st, st.2 ≠ 0 → (one st).2 = st) (he : ErrEmpty one) : ErrEmpty (rdMany one) := by
  intro l h
  simp only [rdMany] at h ⊢
  by_cases h0 : (rdNum 0 1024 (l, 0)).2.2 = 0
  · have hst : (rdNum 0 1024 (l, 0)).2 = ((rdNum 0 1024 (l, 0)).2.1, 0) := Prod.ext rfl h0
    rw [hst] at h ⊢
    exact loop_empty hz he _ _ h
  · rw [rdLoop_stop one _ _ h0]
    exact num_empty l h0

/-- What holds after k reads of a string of at most 300 bytes. -/
def Inv300 (k : Nat) (st : St) : Prop := (st.2 = 0 → st.1.length + k ≤ 300) ∧ (st.2 ≠ 0 → st.1 = [])
theorem inv_step {α : Type} {one : St → α × St} {enc : α → Bs × Int} (hz : ∀ st, st.2 ≠ 0 → (one st).2 = st) (he : ErrEmpty one) (hc : Canon one enc) (hp : ∀ x, (enc x).2 = 0 → 0 < (enc x).1.length) {k : Nat} {st : St} (h : Inv300 k st) : Inv300 (k + 1) (one st).2 := by
  by_cases h0 : st.2 = 0
  · have hst : st = (st.1, 0) := Prod.ext rfl h0
    rw [hst]
    refine ⟨fun h1 => ?_, fun h1 => he _ h1⟩
    have := canon_less hc hp h1
    have := h.1 h0
    omega
  · rw [hz st h0]
    exact ⟨fun h1 => (h0 h1).elim, h.2⟩
theorem inv_num {low high : Int} {k : Nat} {st : St} (h : Inv300 k st) : Inv300 (k + 1) (rdNum low high st).2 := inv_step (fun st h => by rw [num_stop h]) num_empty num_canon eNum_pos h
theorem inv_text {most : Int} {k : Nat} {st : St} (h : Inv300 k st) : Inv300 (k + 1) (rdText most st).2 := inv_step (fun st h => by rw [text_stop h]) text_empty text_canon eText_pos h
theorem inv_nums {low high : Int} {k : Nat} {st : St} (h : Inv300 k st) : Inv300 (k + 1) (rdNums low high st).2 :=
  inv_step (fun st h => by rw [many_stop h]) (many_empty (fun st h => by rw [num_stop h]) num_empty) nums_canon eList_pos h
theorem inv_texts {most : Int} {k : Nat} {st : St} (h : Inv300 k st) : Inv300 (k + 1) (rdTexts most st).2 :=
  inv_step (fun st h => by rw [many_stop h]) (many_empty (fun st h => by rw [text_stop h]) text_empty) texts_canon eList_pos h
theorem inv_end {st : St} (h : Inv300 310 st) : st.2 ≠ 0 ∧ st.1 = [] := by
  have h0 : st.2 ≠ 0 := fun e => by have := h.1 e; omega
  exact ⟨h0, h.2 h0⟩
theorem inv_len {k : Nat} {st : St} (h : Inv300 k st) : st.1.length ≤ 300 := by
  by_cases h0 : st.2 = 0
  · have := h.1 h0; omega
  · rw [h.2 h0]; simp

end Licit
