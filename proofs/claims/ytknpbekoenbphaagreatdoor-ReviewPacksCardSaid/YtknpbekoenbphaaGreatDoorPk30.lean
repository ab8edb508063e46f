/- Parts of the proofs: FrmAll, PlainAll, PlainSig, Rd, Shelf, WkCount, WkReader, WkMany. No condition beyond those at each theorem. -/
import Derived.Test.YtknpbekoenbphaaGreatDoorPk06
set_option linter.unusedVariables false
set_option linter.unusedSimpArgs false
set_option maxHeartbeats 16000000
set_option maxRecDepth 100000
namespace Licit
open Go Go.RowKit
section
variable (w : World) (a b c : Value) {T U V : TypeId}
theorem k16 : ((w.alloc (.cells #[a] T)).alloc (.cells #[b] U)).cell? ⟨w.heap.size + 1, 0, none⟩ = some b := by
 have := kp9 (w.alloc (.cells #[a] T)) b (T := U)
 rwa [World.size_alloc] at this
theorem k1m : ((w.alloc (.cells #[a] T)).alloc (.cells #[b] U)).cell? ⟨w.heap.size, 0, none⟩ = some a := by
 rw [World.cell?_alloc_lt _ _ _ (by simp)]; exact kp9 w a
end
end Licit
namespace Licit
open Go Go.Lib
theorem kt7 (most e : Int) (s : ByteArray) (k : Nat) (v : Int) (hk : k < s.size) :
 cnt most e k v (s.data.toList.drop k) =
  if (s[k].toNat : Int) = e ∧ 0 < k then .inl (v, k)
  else if (s[k].toNat : Int) < 48 ∨ 57 < (s[k].toNat : Int) ∨ (k = 1 ∧ v = 0) then .inr false
  else if most < 10 * v + ((s[k].toNat : Int) - 48) then .inr false
  else cnt most e (k + 1) (10 * v + ((s[k].toNat : Int) - 48)) (s.data.toList.drop (k + 1)) := by
 rw [List.drop_eq_getElem_cons (by simpa using hk)]
 rfl
theorem knj {most e : Int} {s : ByteArray} {k : Nat} {v : Int} {R : (Int × Nat) ⊕ Bool} (hk : k < s.size) (H : cnt most e k v (s.data.toList.drop k) = R) (h1 : (s[k].toNat : Int) = e) (h2 : 0 < k) : R = .inl (v, k) := by
 rw [← H, kt7 _ _ _ _ _ hk, if_pos ⟨h1, h2⟩]
theorem ku3 {most e : Int} {s : ByteArray} {k : Nat} {v : Int} {R : (Int × Nat) ⊕ Bool} (hk : k < s.size) (H : cnt most e k v (s.data.toList.drop k) = R) (h1 : ¬ ((s[k].toNat : Int) = e ∧ 0 < k))
 (h2 : (s[k].toNat : Int) < 48 ∨ 57 < (s[k].toNat : Int) ∨ (k = 1 ∧ v = 0) ∨ most < 10 * v + ((s[k].toNat : Int) - 48)) : R = .inr false := by
 rw [← H, kt7 _ _ _ _ _ hk, if_neg h1]
 by_cases h3 : (s[k].toNat : Int) < 48 ∨ 57 < (s[k].toNat : Int) ∨ (k = 1 ∧ v = 0)
 · rw [if_pos h3]
 · rw [if_neg h3, if_pos (by omega)]
theorem kyo {most e : Int} {s : ByteArray} {k : Nat} {v : Int} {R : (Int × Nat) ⊕ Bool} (hk : k < s.size) (H : cnt most e k v (s.data.toList.drop k) = R) (h1 : ¬ ((s[k].toNat : Int) = e ∧ 0 < k))
 (h2 : ¬ ((s[k].toNat : Int) < 48 ∨ 57 < (s[k].toNat : Int) ∨ (k = 1 ∧ v = 0))) (h3 : ¬ most < 10 * v + ((s[k].toNat : Int) - 48)) :
 cnt most e (k + 1) (10 * v + ((s[k].toNat : Int) - 48)) (s.data.toList.drop (k + 1)) = R := by
 rw [← H, kt7 _ _ _ _ _ hk, if_neg h1, if_neg h2, if_neg h3]
theorem kvb (most e : Int) (s : ByteArray) (k : Nat) (v : Int) (hk : s.size ≤ k) : cnt most e k v (s.data.toList.drop k) = .inr true := by
 rw [List.drop_of_length_le (by simpa using hk)]
 rfl
theorem kdm {most e : Int} : ∀ (l : Bs) (i : Nat) (n : Int) {m : Int} {j : Nat}, 0 ≤ n → n ≤ most → cnt most e i n l = .inl (m, j) → 0 ≤ m ∧ m ≤ most ∧ i ≤ j ∧ 0 < j ∧ j < i + l.length
 | [], _, _, _, _, _, _, h => by simp [cnt] at h
 | c :: s, i, n, m, j, h0, h1, h => by
   unfold cnt at h
   split at h
   · rename_i hc
     simp only [Sum.inl.injEq, Prod.mk.injEq] at h
     obtain ⟨rfl, rfl⟩ := h
     simp only [List.length_cons]
     omega
   · split at h
     · simp at h
     · split at h
       · simp at h
       · have := kdm s (i + 1) _ (by omega) (by omega) h
         simp only [List.length_cons]
         omega
def ka4 (st : St) : Int := if st.2 = 0 ∧ st.1 ≠ [] then 17 else st.2
theorem kel {α : Type} {one : St → α × St} {st st1 st2 : St} {n : Nat} {acc : List α} (hn : (ka3 0 1024 st).1 = (n : Int)) (hs : st1 = (ka3 0 1024 st).2) (hl : kbi one n st1 = (acc, st2)) :
 kco one st = (if st2.2 ≠ 0 then [] else acc, st2) := by
 simp only [kco, hn, ← hs, Int.toNat_natCast, hl]
theorem khr (low high : Int) (st : St) : (ka3 low high st).1 = 0 ∨ (low ≤ (ka3 low high st).1 ∧ (ka3 low high st).1 ≤ high) := by
 unfold ka3
 split
 · simp
 · split
   · split
     · simp
     · right; dsimp only; omega
   · simp
theorem kbz (low high : Int) (st : St) : (ka3 low high st).2.1.length ≤ st.1.length := by
 unfold ka3
 split
 · simp
 · split
   · split <;> simp
   · simp
theorem kbh (most : Int) (st : St) : (kao most st).2.1.length ≤ st.1.length := by
 unfold kao
 split
 · simp
 · split
   · split
     · simp
     · split
       · simp
       · split <;> simp
   · simp
theorem klc {α : Type} (one : St → α × St) : ∀ (k : Nat) (st : St), (kbi one k st).1.length ≤ k
 | 0, st => by simp [kbi]
 | k + 1, st => by
   unfold kbi
   split
   · simp
   · simp only [List.length_cons]
     have := klc one k (one st).2
     omega
theorem knl {α : Type} (one : St → α × St) (h : ∀ st, (one st).2.1.length ≤ st.1.length) : ∀ (k : Nat) (st : St), (kbi one k st).2.1.length ≤ st.1.length
 | 0, st => by simp [kbi]
 | k + 1, st => by
   unfold kbi
   split
   · simp
   · exact Nat.le_trans (knl one h k _) (h st)
theorem krs {α : Type} (one : St → α × St) (st : St) : (kco one st).1.length ≤ 1024 := by
 have h1 := khr 0 1024 st
 have h2 := klc one (ka3 0 1024 st).1.toNat (ka3 0 1024 st).2
 simp only [kco]
 split
 · simp
 · omega
theorem ktw {α : Type} (one : St → α × St) (h : ∀ st, (one st).2.1.length ≤ st.1.length) (st : St) : (kco one st).2.1.length ≤ st.1.length :=
 Nat.le_trans (knl one h _ _) (kbz 0 1024 st)
theorem kor (u : Nat) : 0 < (decDigits u).length := by rw [decDigits_length]; exact nDigits_pos u
theorem kru {u : Nat} (h : u < 10) : decDigits u = [UInt8.ofNat (48 + u)] := decDigits_one h
theorem kwh {u : Nat} (h : ¬ u < 10) : decDigits u = decDigits (u / 10) ++ [UInt8.ofNat (48 + u % 10)] := by rw [decDigits, dif_neg h]
theorem km4 {d : Nat} (h : d < 10) : ((UInt8.ofNat (48 + d)).toNat : Int) = 48 + d := by rw [UInt8.toNat_ofNat']; omega
theorem kl9 (most e : Int) (i : Nat) (n : Int) (c : UInt8) (s : Bs) : cnt most e i n (c :: s) =
 if (c.toNat : Int) = e ∧ 0 < i then .inl (n, i)
 else if (c.toNat : Int) < 48 ∨ 57 < (c.toNat : Int) ∨ (i = 1 ∧ n = 0) then .inr false
 else if most < 10 * n + ((c.toNat : Int) - 48) then .inr false
 else cnt most e (i + 1) (10 * n + ((c.toNat : Int) - 48)) s := rfl
theorem kp1 {low high : Int} {l : Bs} {n : Int} {i : Nat} (h : cnt 281474976710656 59 0 0 l = .inl (n, i)) :
 ka3 low high (l, 0) = if n < low ∨ high < n then (0, ([], 3)) else (n, (l.drop (i + 1), 0)) := by
 simp only [ka3, h]; rfl
theorem kp5 {low high : Int} {l : Bs} {b : Bool} (h : cnt 281474976710656 59 0 0 l = .inr b) : ka3 low high (l, 0) = (0, ([], if b then 13 else 17)) := by
 simp only [ka3, h]; rfl
theorem kko {most : Int} {l : Bs} {n : Int} {i : Nat} (h : cnt 65536 58 0 0 l = .inl (n, i)) :
 kao most (l, 0) = if l.length ≤ i + 1 + n.toNat then ([], ([], 13))
 else if l[i + 1 + n.toNat]? ≠ some 44 then ([], ([], 17))
 else if most < n then ([], ([], 10))
 else ((l.drop (i + 1)).take n.toNat, (l.drop (i + 1 + n.toNat + 1), 0)) := by
 simp only [kao, h]; rfl
theorem kn3 {most : Int} {l : Bs} {b : Bool} (h : cnt 65536 58 0 0 l = .inr b) : kao most (l, 0) = ([], ([], if b then 13 else 17)) := by
 simp only [kao, h]; rfl
theorem kle {most e : Int} (he : e < 48 ∨ 57 < e) (u : Nat) : ∀ (rest : Bs), (u : Int) ≤ most → cnt most e 0 0 (decDigits u ++ rest) = cnt most e (decDigits u).length u rest := by
 induction u using Nat.strongRecOn with
 | _ u ih =>
   intro rest hm
   by_cases h : u < 10
   · rw [kru h]
     have hd := km4 h
     show cnt most e 0 0 (UInt8.ofNat (48 + u) :: rest) = _
     rw [kl9, if_neg (by omega), if_neg (by omega), if_neg (by omega), hd]
     rw [show (10 * 0 + (48 + (u : Int) - 48)) = u by omega]
     rfl
   · rw [kwh h, List.append_assoc, ih (u / 10) (by omega) _ (by omega)]
     have hd := km4 (d := u % 10) (by omega)
     have hp := kor (u / 10)
     show cnt most e (decDigits (u / 10)).length _ (UInt8.ofNat (48 + u % 10) :: rest) = _
     rw [kl9, if_neg (by omega), if_neg (by omega), if_neg (by omega), hd]
     rw [show (10 * ((u / 10 : Nat) : Int) + (48 + ((u % 10 : Nat) : Int) - 48)) = u by omega, List.length_append]
     rfl
theorem kon {most : Int} (e : UInt8) (he : (e.toNat : Int) < 48 ∨ 57 < (e.toNat : Int)) (u : Nat) (rest : Bs) (hm : (u : Int) ≤ most) :
 cnt most e.toNat 0 0 (decDigits u ++ e :: rest) = .inl ((u : Int), (decDigits u).length) := by
 rw [kle he u _ hm]
 show (if _ then _ else _) = _
 rw [if_pos ⟨rfl, kor u⟩]
theorem kgb {most e : Int} (he : e < 48 ∨ 57 < e) (u : Nat) : ∀ (k : Nat), (u : Int) ≤ most → k ≤ (decDigits u).length → cnt most e 0 0 ((decDigits u).take k) = .inr true := by
 induction u using Nat.strongRecOn with
 | _ u ih =>
   intro k hm hk
   by_cases hkl : k = (decDigits u).length
   · subst hkl
     rw [List.take_length]
     have := kle he u [] hm
     rw [List.append_nil] at this
     rw [this]; rfl
   · by_cases h : u < 10
     · rw [kru h] at hk hkl ⊢
       simp only [List.length_singleton] at hk hkl
       obtain rfl : k = 0 := by omega
       rfl
     · rw [kwh h] at hk hkl ⊢
       simp only [List.length_append, List.length_singleton] at hk hkl
       rw [List.take_append_of_le_length (by omega)]
       exact ih (u / 10) (by omega) k (by omega) (by omega)
structure Good {α : Type} (one : St → α × St) (b : Bs) (x : α) : Prop where
 pos : 0 < b.length
 back : ∀ tail, one (b ++ tail, 0) = (x, (tail, 0))
 short : ∀ k, k < b.length → (one (b.take k, 0)).2 = ([], 13)
theorem kct {low high n : Int} (h0 : 0 ≤ n) (h1 : n ≤ 281474976710656) (hl : low ≤ n) (hh : n ≤ high) : Good (ka3 low high) (ke2 n).1 n := by
 have hb : (ke2 n).1 = decDigits n.toNat ++ [59] := by unfold ke2; rw [if_neg (by omega)]
 rw [hb]
 have hn : ((n.toNat : Nat) : Int) = n := by omega
 refine ⟨by simp, fun tail => ?_, fun k hk => ?_⟩
 · have hc := kon (most := 281474976710656) 59 (by decide) n.toNat tail (by omega)
   rw [List.append_assoc]
   have he : decDigits n.toNat ++ ([59] ++ tail) = decDigits n.toNat ++ 59 :: tail := rfl
   rw [he, kp1 hc, hn, if_neg (by omega), ← List.drop_drop, List.drop_left]
   rfl
 · simp only [List.length_append, List.length_singleton] at hk
   rw [List.take_append_of_le_length (by omega)]
   rw [kp5 (kgb (most := 281474976710656) (e := 59) (by decide) n.toNat k (by omega) (by omega))]
   rfl
theorem kbu {most : Int} {s : Bs} (h1 : s.length ≤ 65536) (hm : (s.length : Int) ≤ most) : Good (kao most) (kar s).1 s := by
 have hb : (kar s).1 = decDigits s.length ++ [58] ++ s ++ [44] := by unfold kar; rw [if_neg (by omega)]
 rw [hb]
 have hp := kor s.length
 have hk : (decDigits s.length ++ [58] ++ s ++ [44]).length = (decDigits s.length).length + 1 + s.length + 1 := by
  simp only [List.length_append, List.length_singleton]
 refine ⟨by omega, fun tail => ?_, fun k hk' => ?_⟩
 · have hc := kon (most := 65536) 58 (by decide) s.length (s ++ 44 :: tail) (by omega)
   have he : decDigits s.length ++ [58] ++ s ++ [44] ++ tail = decDigits s.length ++ 58 :: (s ++ 44 :: tail) := by simp
   have hg : (decDigits s.length ++ 58 :: (s ++ 44 :: tail))[(decDigits s.length).length + 1 + s.length]? = some 44 := by
    rw [List.getElem?_append_right (by omega), show (decDigits s.length).length + 1 + s.length - (decDigits s.length).length = s.length + 1 by omega]
    rw [List.getElem?_cons_succ, List.getElem?_append_right (by omega)]
    simp
   have hd1 : (decDigits s.length ++ 58 :: (s ++ 44 :: tail)).drop ((decDigits s.length).length + 1) = s ++ 44 :: tail := by
    rw [← List.drop_drop, List.drop_left]; rfl
   have hd2 : (decDigits s.length ++ 58 :: (s ++ 44 :: tail)).drop ((decDigits s.length).length + 1 + s.length + 1) = tail := by
    rw [← List.drop_drop, ← List.drop_drop, hd1, List.drop_left]; rfl
   rw [he, kko hc, Int.toNat_natCast, if_neg (by simp only [List.length_append, List.length_cons]; omega), hg, if_neg (by simp), if_neg (by omega), hd1, hd2, List.take_left]
 · by_cases hk1 : k ≤ (decDigits s.length).length
   · rw [List.append_assoc, List.append_assoc, List.take_append_of_le_length hk1]
     rw [kn3 (kgb (most := 65536) (e := 58) (by decide) s.length k (by omega) hk1)]
     rfl
   · have he : decDigits s.length ++ [58] ++ s ++ [44] = decDigits s.length ++ 58 :: (s ++ [44]) := by simp
     have ht : (decDigits s.length ++ 58 :: (s ++ [44])).take k = decDigits s.length ++ 58 :: ((s ++ [44]).take (k - (decDigits s.length).length - 1)) := by
      rw [List.take_append, List.take_of_length_le (by omega)]
      congr 1
      rw [show k - (decDigits s.length).length = (k - (decDigits s.length).length - 1) + 1 by omega, List.take_succ_cons]
      rfl
     have hc := kon (most := 65536) 58 (by decide) s.length ((s ++ [44]).take (k - (decDigits s.length).length - 1)) (by omega)
     rw [he, ht, kko hc, Int.toNat_natCast, if_pos (by simp only [List.length_append, List.length_cons, List.length_take]; omega)]
theorem kh4 {α : Type} (one : α → Bs × Int) : ∀ (l : List α) (acc : Bs), (∀ x ∈ l, (one x).2 = 0) → klk one l acc = (acc ++ (l.map fun x => (one x).1).flatten, 0)
 | [], acc, _ => by simp [klk]
 | x :: l, acc, h => by
   unfold klk
   rw [if_neg (by simp [h x]), kh4 one l _ (fun y hy => h y (by simp [hy]))]
   simp
theorem knf {α : Type} {one : St → α × St} {b : α → Bs} : ∀ (l : List α) (tail : Bs), (∀ x ∈ l, Good one (b x) x) → kbi one l.length ((l.map b).flatten ++ tail, 0) = (l, (tail, 0))
 | [], tail, _ => by simp [kbi]
 | x :: l, tail, h => by
   have hx := (h x (by simp)).back ((l.map b).flatten ++ tail)
   rw [List.length_cons, khm one _ _ rfl]
   have he : ((x :: l).map b).flatten ++ tail = b x ++ ((l.map b).flatten ++ tail) := by simp
   rw [he, hx]
   simp only
   rw [knf l tail (fun y hy => h y (by simp [hy]))]
theorem klh {α : Type} {one : St → α × St} {b : α → Bs} : ∀ (l : List α) (k : Nat), (∀ x ∈ l, Good one (b x) x) → k < ((l.map b).flatten).length → (kbi one l.length (((l.map b).flatten).take k, 0)).2 = ([], 13)
 | [], k, _, hk => by simp at hk
 | x :: l, k, h, hk => by
   have hx := h x (by simp)
   rw [List.length_cons, khm one _ _ rfl]
   simp only [List.map_cons, List.flatten_cons, List.length_append] at hk ⊢
   by_cases hkx : k < (b x).length
   · have := hx.short k hkx
     rw [List.take_append_of_le_length (by omega)]
     rw [this, kdg one _ _ (by decide)]
   · have ht : (b x ++ (l.map b).flatten).take k = b x ++ ((l.map b).flatten).take (k - (b x).length) := by
      rw [List.take_append, List.take_of_length_le (by omega)]
     rw [ht, hx.back]
     simp only
     exact klh l _ (fun y hy => h y (by simp [hy])) (by omega)
theorem kny {α : Type} {one : St → α × St} {enc : α → Bs × Int} {l : List α} (hl : l.length ≤ 1024) (h : ∀ x ∈ l, Good one (enc x).1 x) :
 Good (kco one) ((ke2 (l.length : Int)).1 ++ (l.map fun x => (enc x).1).flatten) l := by
 have hn := kct (low := 0) (high := 1024) (n := (l.length : Int)) (by omega) (by omega) (by omega) (by omega)
 refine ⟨by rw [List.length_append]; have := hn.pos; omega, fun tail => ?_, fun k hk => ?_⟩
 · have h1 := hn.back ((l.map fun x => (enc x).1).flatten ++ tail)
   rw [List.append_assoc]
   rw [kel (n := l.length) (st1 := ((l.map fun x => (enc x).1).flatten ++ tail, 0)) (by rw [h1]) (by rw [h1]) (knf l tail h)]
   rfl
 · by_cases hk1 : k < (ke2 (l.length : Int)).1.length
   · have h1 := hn.short k hk1
     rw [List.take_append_of_le_length (by omega)]
     have h2 : kbi one (ka3 0 1024 ((ke2 (l.length : Int)).1.take k, 0)).1.toNat ([], 13) = ([], ([], 13)) := kdg one _ _ (by decide)
     simp only [kco]
     rw [h1, h2]
   · have ht : ((ke2 (l.length : Int)).1 ++ (l.map fun x => (enc x).1).flatten).take k = (ke2 (l.length : Int)).1 ++ ((l.map fun x => (enc x).1).flatten).take (k - (ke2 (l.length : Int)).1.length) := by
      rw [List.take_append, List.take_of_length_le (by omega)]
     have h1 := hn.back (((l.map fun x => (enc x).1).flatten).take (k - (ke2 (l.length : Int)).1.length))
     have h2 := klh l (k - (ke2 (l.length : Int)).1.length) h (by rw [List.length_append] at hk; omega)
     rw [ht]
     simp only [kco]
     rw [h1]
     simp only [Int.toNat_natCast]
     exact h2
def kb1 (l : List Bs) : Bool := l.all fun t => decide (t.length = 32)
end Licit
namespace Licit
theorem kch {l : List Bs} (h : kb1 l = true) : ∀ x ∈ l, x.length = 32 := by
 unfold kb1 at h
 rw [List.all_eq_true] at h
 intro x hx
 simpa using h x hx
theorem kdi {l : List Bs} (h : kb1 l = true) (hl : l.length ≤ 1024) : Good (ka5 32) (ka7 kar l).1 l ∧ (ka7 kar l).2 = 0 := by
 have hx := kch h
 have he : ∀ x ∈ l, (kar x).2 = 0 := fun x m => by unfold kar; rw [if_neg (by rw [hx x m]; omega)]
 have h2 : ka7 kar l = ((Go.Lib.decDigits l.length ++ [59]) ++ (l.map fun x => (kar x).1).flatten, 0) := by
  unfold ka7
  rw [if_neg (by omega), kh4 _ _ _ he]
 refine ⟨?_, by rw [h2]⟩
 have := kny (one := kao 32) (enc := kar) hl (fun x m => kbu (by rw [hx x m]; omega) (by rw [hx x m]; omega))
 rw [h2]
 have hn : (ke2 (l.length : Int)).1 = Go.Lib.decDigits l.length ++ [59] := by
  unfold ke2
  rw [if_neg (by omega)]
  simp
 rw [hn] at this
 exact this
theorem kdv (most : Int) (st : St) : (ka5 most st).2.1.length ≤ st.1.length := ktw _ (kbh most) st
theorem kb6 (most : Int) (st : St) : (ka5 most st).1.length ≤ 1024 := krs _ st
end Licit
namespace Licit
open Go Go.RowKit
section
variable {T : TypeId} {r : Nat} {s : ByteArray} {E : Int} {w w' : World}
theorem Rd.put0 (h : Rd T r s E w) (s' : ByteArray) : Rd T r s' E (w.setCell ⟨r, 0, none⟩ (.string s')) := set_of h 0 _
theorem Rd.put1 (h : Rd T r s E w) (E' : Int) : Rd T r s E' (w.setCell ⟨r, 1, none⟩ (.int .i64 E')) := set_of h 1 _
end
def k21 (T : TypeId) (r : Nat) (w : World) (v : Value) (st : St) (e : Ending) (w' : World) : Prop := e = .returned v ∧ Rd T r (B st.1) st.2 w' ∧ ka1 (One r) w w'
def k1y (T : TypeId) (base : Nat) (e : TypeId) (r : Nat) (w : World) (xs : List Value) (st : St) (en : Ending) (w' : World) : Prop :=
 ∃ v, en = .returned v ∧ w'.ownsRow base e 1 v xs.length xs ∧ Rd T r (B st.1) st.2 w' ∧ ka1 (One r) w w'
theorem khw (s : ByteArray) (a b : Nat) : s.extract a b = B ((s.data.toList.drop a).take (b - a)) := by
 rw [← Lib.extract_data]; exact (kxx _).symm
theorem kdk (s : ByteArray) (a : Nat) : s.extract a s.size = B (s.data.toList.drop a) := by
 rw [khw, List.take_of_length_le (by rw [List.length_drop, kgf]; omega)]
end Licit
namespace Go.Proofs
open Go.Shelf
def Tryz.laysM316_ren : Go.Shelf.Ren := ⟨fun | 316 => 204 | n => n, fun | 9 => 9 | 3 => 3 | 4 => 4 | 37 => 208 | 0 => 0 | 127 => 266 | 5 => 5 | n => n, fun | n => n⟩
theorem Tryz.laysM316 : Go.Proofs.LaysM.n316 Tryz.prog Tryz.laysM316_ren := {
 mixed := by kernel_rfl
 f316 := Tryz.func204.trans (congrArg some (by kernel_rfl))
 t0 := Tryz.underlying0
 a0 := Tryz.isAgg0
 z0 := Tryz.sizeOf0
 v0 := Tryz.zeroValue0
 t3 := Tryz.underlying3
 a3 := Tryz.isAgg3
 z3 := Tryz.sizeOf3
 v3 := Tryz.zeroValue3
 t4 := Tryz.underlying4
 a4 := Tryz.isAgg4
 z4 := Tryz.sizeOf4
 v4 := Tryz.zeroValue4
 t9 := Tryz.underlying9
 a9 := Tryz.isAgg9
 z9 := Tryz.sizeOf9
 v9 := Tryz.zeroValue9
 t37 := Tryz.underlying208
 a37 := Tryz.isAgg208
 z37 := Tryz.sizeOf208
 v37 := Tryz.zeroValue208
 t127 := Tryz.underlying266
 a127 := Tryz.isAgg266
 z127 := Tryz.sizeOf266
 v127 := Tryz.zeroValue266
 t5 := Tryz.underlying5
 a5 := Tryz.isAgg5
 z5 := Tryz.sizeOf5
 v5 := Tryz.zeroValue5
 i0 := by kernel_rfl
 i3 := by kernel_rfl
 i4 := by kernel_rfl
 i5 := by kernel_rfl
 i9 := by kernel_rfl
 i37 := by kernel_rfl
 i127 := by kernel_rfl }
open Go.RowKit in
theorem Tryz.stringslite_Clone (s : ByteArray) (w : World) (hlim : s.size ≤ 281474976710656) :
 Calls Tryz.prog 204 #[.string s] w fun e w' => e = .returned (.string s) ∧ Below w.heap.size w w' := Any.stringslite_Clone Tryz.laysM316 s w hlim
end Go.Proofs
namespace Go.Proofs.YtknpbekoenbphaaGreatDoor
open Go Go.RowKit Licit
def k29 : (Int × Nat) ⊕ Bool → Value
 | .inl (n, i) => .tuple #[.int .i64 n, .int .i64 (i + 1), .int .i64 0]
 | .inr true => .tuple #[.int .i64 0, .int .i64 0, .int .i64 13]
 | .inr false => .tuple #[.int .i64 0, .int .i64 0, .int .i64 17]
theorem kn0 (r : Nat) (s : ByteArray) (most e : Int) (w : World) (h : w.cell? ⟨r, 0, none⟩ = some (.string s)) (hs : s.size ≤ maxLen) (hm0 : 0 ≤ most) (hm1 : most ≤ 281474976710656) (he0 : 0 ≤ e) (he1 : e ≤ 255) :
 Calls Tryz.prog 162 #[.pointer (some ⟨r, 0, none⟩), .int .i64 most, .int .u8 e] w fun e' w' => e' = .returned (k29 (cnt most e 0 0 s.data.toList)) ∧ w = w' := by
 unfold maxLen at hs
 go_enter Tryz.func162, Tryz.ntmps162
 go_wp2
 go_step3; go_wp2; (try go_step3); go_wp2
 go_loop [9, 10] (fun n i => ∃ (k : Nat) (v : Int), k ≤ s.size ∧ i = .int .i64 k ∧ n = .int .i64 v ∧ 0 ≤ v ∧ v ≤ most ∧ (k = 0 → v = 0) ∧ (2 ≤ k → 1 ≤ v) ∧ Hid (cnt most e k v (s.data.toList.drop k) = cnt most e 0 0 s.data.toList)) (fun _ i => s.size - (intOf i).toNat)
 case atStart => exact ⟨0, 0, Nat.zero_le _, rfl, rfl, by omega, by omega, by omega, by omega, rfl⟩
 case round =>
  obtain ⟨k, v, hk, rfl, rfl, hv0, hv1, hv2, hv3, H⟩ := hrel
  by_cases hlt : k < s.size
  · go_wp2
    all_goals try simp only [beq_iff_eq, beq_eq_false_iff_ne, ne_eq] at *
    all_goals first
     | (go_ret3; have R := knj hlt H.out (by omega) (by omega); exact ⟨by rw [R]; rfl, rfl⟩)
     | (go_ret3; have R := ku3 hlt H.out (by omega) (by omega); exact ⟨by rw [R]; rfl, rfl⟩)
     | (go_round
        case rel =>
         have R := kyo hlt H.out (by omega) (by omega) (by omega)
         exact ⟨k + 1, 10 * v + ((s[k].toNat : Int) - 48), by omega, congrArg (Value.int .i64) (by omega), congrArg (Value.int .i64) (by omega), by omega, by omega, by omega, by omega, R⟩
        case measure => simp [intOf]; omega)
  · have HA := kvb most e s k v (by omega)
    rw [H.out] at HA
    have HA' := hdd HA
    clear H HA
    obtain rfl : k = s.size := by omega
    go_wp2
    go_ret3
    exact ⟨by rw [HA'.out]; rfl, rfl⟩
theorem kgs (r : Nat) (s : ByteArray) (most e : Int) (w : World) (h : w.cell? ⟨r, 0, none⟩ = some (.string s)) (hs : s.size ≤ maxLen) (hm0 : 0 ≤ most) (hm1 : most ≤ 281474976710656) (he0 : 0 ≤ e) (he1 : e ≤ 255)
 {n : Int} {i : Nat} (hc : cnt most e 0 0 s.data.toList = .inl (n, i)) :
 Calls Tryz.prog 162 #[.pointer (some ⟨r, 0, none⟩), .int .i64 most, .int .u8 e] w fun e' w' => e' = .returned (.tuple #[.int .i64 n, .int .i64 (i + 1), .int .i64 0]) ∧ w = w' := by
 refine (kn0 r s most e w h hs hm0 hm1 he0 he1).mono ?_
 rw [hc]
 exact fun _ _ h => h
theorem kp6 (r : Nat) (s : ByteArray) (most e : Int) (w : World) (h : w.cell? ⟨r, 0, none⟩ = some (.string s)) (hs : s.size ≤ maxLen) (hm0 : 0 ≤ most) (hm1 : most ≤ 281474976710656) (he0 : 0 ≤ e) (he1 : e ≤ 255)
 {b : Bool} (hc : cnt most e 0 0 s.data.toList = .inr b) :
 Calls Tryz.prog 162 #[.pointer (some ⟨r, 0, none⟩), .int .i64 most, .int .u8 e] w fun e' w' => ∃ E : Int, E = (if b then 13 else 17) ∧ E ≠ 0 ∧ e' = .returned (.tuple #[.int .i64 0, .int .i64 0, .int .i64 E]) ∧ w = w' := by
 refine (kn0 r s most e w h hs hm0 hm1 he0 he1).mono ?_
 rw [hc]
 rintro _ _ ⟨rfl, rfl⟩
 cases b
 · exact ⟨17, rfl, by decide, rfl, rfl⟩
 · exact ⟨13, rfl, by decide, rfl, rfl⟩
abbrev Rdr := Rd 200
abbrev kg6 := k21 200
abbrev kyw := k1y 200
theorem kfr (s : ByteArray) (w : World) :
 Calls Tryz.prog 97 #[.string s] w fun e w' => e = .returned (.pointer (some ⟨w.heap.size, 0, none⟩)) ∧ w' = w.alloc (.cells #[.string s, .int .i64 0] 200) := by
 go_enter Tryz.func97, Tryz.ntmps97
 go_wp2
 go_ret
 exact ⟨rfl, rfl⟩
theorem kj6 (r : Nat) (s : ByteArray) (E : Int) (w : World) (h : Rdr r s E w) :
 Calls Tryz.prog 101 #[.pointer (some ⟨r, 0, none⟩)] w fun e w' => e = .returned (.int .i64 (ka4 (s.data.toList, E))) ∧ w = w' := by
 have c0 := h.c0
 have c1 := h.c1
 clear h
 by_cases h0 : E = 0
 · subst h0
   by_cases hs : s.data.toList = []
   · have hs' : (!s.toList.isEmpty) = false := by rw [ByteArray.toList_eq, hs]; rfl
     have R : ka4 (s.data.toList, 0) = 0 := by rw [hs]; rfl
     have R' := hdd R
     clear R hs
     go_enter Tryz.func101, Tryz.ntmps101
     go_wp2
     go_ret
     exact ⟨by rw [R'.out]; rfl, rfl⟩
   · have hs' : (!s.toList.isEmpty) = true := by rw [ByteArray.toList_eq]; simpa using hs
     have R : ka4 (s.data.toList, 0) = 17 := by simp [ka4, hs]
     have R' := hdd R
     clear R hs
     go_enter Tryz.func101, Tryz.ntmps101
     go_wp2
     go_ret
     exact ⟨by rw [R'.out]; rfl, rfl⟩
 · have h0' : (E == 0) = false := by simpa using h0
   have R : ka4 (s.data.toList, E) = E := by simp [ka4, h0]
   have R' := hdd R
   clear R h0
   go_enter Tryz.func101, Tryz.ntmps101
   go_wp2
   go_ret
   exact ⟨by rw [R'.out]; rfl, rfl⟩
theorem kgv (r : Nat) (s : ByteArray) (E : Int) (w : World) (h : Rdr r s 0 w) :
 Calls Tryz.prog 163 #[.pointer (some ⟨r, 0, none⟩), .int .i64 E] w fun e w' => e = .returned (.tuple #[]) ∧ Rdr r (B []) E w' ∧ ka1 (One r) w w' := by
 have c0 := h.c0
 have c1 := h.c1
 have f0 := h.f 0
 have f1 := h.f 1
 have hA := h.put1 E
 have hA0 := hA.c0
 have hA1 := hA.f 0
 have HA := hdd hA
 clear h hA
 go_enter Tryz.func163, Tryz.ntmps163
 go_wp2
 go_end0
 exact ⟨rfl, HA.out.put0 _, ((ka1.refl (One r) _).setCell (p := ⟨r, 1, none⟩) (.inr rfl) _).setCell (p := ⟨r, 0, none⟩) (.inr rfl) _⟩
theorem ktp (s : ByteArray) (w : World) (hs : s.size ≤ 281474976710656) :
 Calls Tryz.prog 164 #[.string s] w fun e w' => e = .returned (.string s) ∧ Below w.heap.size w w' := by
 go_enter Tryz.func164, Tryz.ntmps164
 go_wp2_with (go_at_call 204; refine (Tryz.stringslite_Clone s _ hs).mono ?_; rintro e w' ⟨rfl, hb⟩)
 go_ret
 exact ⟨rfl, hb⟩
theorem kdj (r : Nat) (s : ByteArray) (E low high : Int) (w : World) (h : Rdr r s E w) (hs : s.size ≤ maxLen) :
 Calls Tryz.prog 98 #[.pointer (some ⟨r, 0, none⟩), .int .i64 low, .int .i64 high] w (kg6 r w (.int .i64 (ka3 low high (s.data.toList, E)).1) (ka3 low high (s.data.toList, E)).2) := by
 have c0 := h.c0
 have c1 := h.c1
 have f0 := h.f 0
 have H := hdd h
 have Hs := hdd hs
 clear h hs
 by_cases hE : E = 0
 · subst hE
   cases hc : cnt 281474976710656 59 0 0 s.data.toList with
   | inl p =>
     obtain ⟨n, i⟩ := p
     obtain ⟨b0, b1, _, b2, b3⟩ := kdm _ _ _ (by omega) (by omega) hc
     have hsz : s.data.toList.length = s.size := rfl
     rw [hsz] at b3
     have hmx := Hs.out
     unfold maxLen at hmx
     have HC := hdd hc
     by_cases hr : n < low ∨ high < n
     · have R : ka3 low high (s.data.toList, 0) = (0, ([], 3)) := by simp [ka3, hc, hr]
       have HR := hdd R
       clear R hc hsz
       go_enter Tryz.func98, Tryz.ntmps98
       go_wp2_with (first
        | (go_at_call 162; refine (kgs r s _ _ _ c0 Hs.out (by decide) (by decide) (by decide) (by decide) HC.out).mono ?_; rintro e w' ⟨rfl, rfl⟩)
        | (go_at_call 163; refine (kgv r s _ _ H.out).mono ?_; rintro e w' ⟨rfl, hA, hK⟩))
       all_goals go_ret
       all_goals (refine ⟨?_, ?_, hK⟩ <;> rw [HR.out])
       all_goals first | rfl | exact hA
     · have R : ka3 low high (s.data.toList, 0) = (n, (s.data.toList.drop (i + 1), 0)) := by simp [ka3, hc, hr]
       have HR := hdd R
       clear R hc hsz
       go_enter Tryz.func98, Tryz.ntmps98
       go_wp2_with (first
        | (go_at_call 162; refine (kgs r s _ _ _ c0 Hs.out (by decide) (by decide) (by decide) (by decide) HC.out).mono ?_; rintro e w' ⟨rfl, rfl⟩))
       go_ret
       refine ⟨?_, ?_, (ka1.refl (One r) _).setCell (p := ⟨r, 0, none⟩) (.inr rfl) _⟩
       · rw [HR.out]; rfl
       · rw [HR.out]
         rw [kdk]
         exact H.out.put0 _
   | inr b =>
     have R : ka3 low high (s.data.toList, 0) = (0, ([], if b then 13 else 17)) := by simp [ka3, hc]
     have HR := hdd R
     have HC := hdd hc
     clear R hc
     go_enter Tryz.func98, Tryz.ntmps98
     go_wp2_with (first
      | (go_at_call 162; refine (kp6 r s _ _ _ c0 Hs.out (by decide) (by decide) (by decide) (by decide) HC.out).mono ?_; rintro e w' ⟨E, hE, hE0, rfl, rfl⟩; have HE := hdd hE; clear hE; have hE1 : (E == 0) = false := by simpa using hE0)
      | (go_at_call 163; refine (kgv r s _ _ H.out).mono ?_; rintro e w' ⟨rfl, hA, hK⟩))
     go_ret
     refine ⟨?_, ?_, hK⟩
     · rw [HR.out]; rfl
     · rw [HR.out, ← HE.out]; exact hA
 · have R : ka3 low high (s.data.toList, E) = (0, (s.data.toList, E)) := by simp [ka3, hE]
   have HR := hdd R
   have hE1 : (E == 0) = false := by simpa using hE
   clear R hE
   go_enter Tryz.func98, Tryz.ntmps98
   go_wp2
   go_ret
   refine ⟨?_, ?_, ka1.refl _ _⟩
   · rw [HR.out]; rfl
   · rw [HR.out]; exact H.out
theorem kex (r : Nat) (s : ByteArray) (E most : Int) (w : World) (h : Rdr r s E w) (hs : s.size ≤ 281474976710656) :
 Calls Tryz.prog 99 #[.pointer (some ⟨r, 0, none⟩), .int .i64 most] w (kg6 r w (.string (B (kao most (s.data.toList, E)).1)) (kao most (s.data.toList, E)).2) := by
 have c0 := h.c0
 have c1 := h.c1
 have f0 := h.f 0
 have H := hdd h
 have hs' : s.size ≤ maxLen := by unfold maxLen; omega
 have Hs := hdd hs'
 clear h hs'
 by_cases hE : E = 0
 · subst hE
   cases hc : cnt 65536 58 0 0 s.data.toList with
   | inl p =>
     obtain ⟨n, i⟩ := p
     obtain ⟨b0, b1, _, b2, b3⟩ := kdm _ _ _ (by omega) (by omega) hc
     obtain ⟨m, rfl⟩ := Int.eq_ofNat_of_zero_le b0
     have hsz : s.data.toList.length = s.size := rfl
     rw [hsz] at b3
     have HC := hdd hc
     by_cases h1 : s.size ≤ i + 1 + m
     · have R : kao most (s.data.toList, 0) = ([], ([], 13)) := by simp [kao, hc, h1]
       have HR := hdd R
       clear R hc hsz
       go_enter Tryz.func99, Tryz.ntmps99
       go_wp2_with (first
        | (go_at_call 162; refine (kgs r s _ _ _ c0 Hs.out (by decide) (by decide) (by decide) (by decide) HC.out).mono ?_; rintro e w' ⟨rfl, rfl⟩)
        | (go_at_call 163; refine (kgv r s _ _ H.out).mono ?_; rintro e w' ⟨rfl, hA, hK⟩))
       all_goals go_ret
       all_goals (refine ⟨?_, ?_, hK⟩ <;> rw [HR.out])
       all_goals first | rfl | exact hA
     · have hlt : i + 1 + m < s.size := by omega
       have hgt : s.data.toList[i + 1 + m]? = some s[i + 1 + m] := by
        rw [List.getElem?_eq_getElem (by rw [hsz]; exact hlt)]; rfl
       by_cases h2 : s[i + 1 + m] = 44
       · have h2' : (s[i + 1 + m].toNat : Int) = 44 := by rw [h2]; rfl
         have H2 := hdd h2
         clear h2
         by_cases h3 : most < (m : Int)
         · have R : kao most (s.data.toList, 0) = ([], ([], 10)) := by simp [kao, hc, h1, hgt, H2.out, h3]
           have HR := hdd R
           clear R hc hsz hgt
           go_enter Tryz.func99, Tryz.ntmps99
           go_wp2_with (first
            | (go_at_call 162; refine (kgs r s _ _ _ c0 Hs.out (by decide) (by decide) (by decide) (by decide) HC.out).mono ?_; rintro e w' ⟨rfl, rfl⟩)
            | (go_at_call 163; refine (kgv r s _ _ H.out).mono ?_; rintro e w' ⟨rfl, hA, hK⟩))
           all_goals go_ret
           all_goals (refine ⟨?_, ?_, hK⟩ <;> rw [HR.out])
           all_goals first | rfl | exact hA
         · have R : kao most (s.data.toList, 0) = ((s.data.toList.drop (i + 1)).take m, (s.data.toList.drop (i + 1 + m + 1), 0)) := by simp [kao, hc, h1, hgt, H2.out, h3]
           have HR := hdd R
           clear R hc hsz hgt
           have hcl : (s.extract (i + 1) (i + 1 + m)).size ≤ 281474976710656 := by rw [ByteArray.size_extract]; omega
           go_enter Tryz.func99, Tryz.ntmps99
           go_wp2_with (first
            | (go_at_call 162; refine (kgs r s _ _ _ c0 Hs.out (by decide) (by decide) (by decide) (by decide) HC.out).mono ?_; rintro e w' ⟨rfl, rfl⟩)
            | (go_at_call 164; refine (ktp _ _ hcl).mono ?_; rintro e w1 ⟨rfl, hb⟩; have hA := H.out.below hb; have d0 := hA.c0; have g0 := hA.f 0; have HA := hdd hA; clear hA))
           go_ret
           refine ⟨?_, ?_, (ka1.of_below (S := One r) hb).setCell (p := ⟨r, 0, none⟩) (.inr rfl) _⟩
           · rw [HR.out, khw]
             simp only [Nat.add_sub_cancel_left]
             rfl
           · rw [HR.out, kdk]
             exact HA.out.put0 _
       · have R : kao most (s.data.toList, 0) = ([], ([], 17)) := by simp [kao, hc, h1, hgt, h2]
         have HR := hdd R
         have h2' : ((s[i + 1 + m].toNat : Int) == 44) = false := by
          rw [beq_eq_false_iff_ne]
          intro e
          exact h2 (UInt8.toNat_inj.1 (by have : ((44 : UInt8).toNat : Int) = 44 := rfl; omega))
         have h2'' : ((s[i + 1 + m].toNat : Int) != 44) = true := by rw [bne, h2']; rfl
         clear R hc hsz hgt h2
         go_enter Tryz.func99, Tryz.ntmps99
         go_wp2_with (first
          | (go_at_call 162; refine (kgs r s _ _ _ c0 Hs.out (by decide) (by decide) (by decide) (by decide) HC.out).mono ?_; rintro e w' ⟨rfl, rfl⟩)
          | (go_at_call 163; refine (kgv r s _ _ H.out).mono ?_; rintro e w' ⟨rfl, hA, hK⟩))
         all_goals go_ret
         all_goals (refine ⟨?_, ?_, hK⟩ <;> rw [HR.out])
         all_goals first | rfl | exact hA
   | inr b =>
     have R : kao most (s.data.toList, 0) = ([], ([], if b then 13 else 17)) := by simp [kao, hc]
     have HR := hdd R
     have HC := hdd hc
     clear R hc
     go_enter Tryz.func99, Tryz.ntmps99
     go_wp2_with (first
      | (go_at_call 162; refine (kp6 r s _ _ _ c0 Hs.out (by decide) (by decide) (by decide) (by decide) HC.out).mono ?_; rintro e w' ⟨E, hE, hE0, rfl, rfl⟩; have HE := hdd hE; clear hE; have hE1 : (E == 0) = false := by simpa using hE0)
      | (go_at_call 163; refine (kgv r s _ _ H.out).mono ?_; rintro e w' ⟨rfl, hA, hK⟩))
     go_ret
     refine ⟨?_, ?_, hK⟩
     · rw [HR.out]; rfl
     · rw [HR.out, ← HE.out]; exact hA
 · have R : kao most (s.data.toList, E) = ([], (s.data.toList, E)) := by simp [kao, hE]
   have HR := hdd R
   have hE1 : (E == 0) = false := by simpa using hE
   clear R hE
   go_enter Tryz.func99, Tryz.ntmps99
   go_wp2
   go_ret
   refine ⟨?_, ?_, ka1.refl _ _⟩
   · rw [HR.out]; rfl
   · rw [HR.out]; exact H.out
theorem k1v : (Tryz.prog.info? 9).map (fun i => (i.zero, i.size, i.bytes)) = some (some (.string ⟨#[]⟩), 1, 16) := by kernel_rfl
theorem krm (r : Nat) (s : ByteArray) (E most : Int) (b1 b2 : Nat) (w : World) (h : Rdr r s E w) (hs : s.size ≤ 281474976710656)
 (c1 : w.cell? ⟨b1, 0, none⟩ = some (.pointer (some ⟨r, 0, none⟩))) (c2 : w.cell? ⟨b2, 0, none⟩ = some (.int .i64 most)) :
 Calls Tryz.prog 166 #[.pointer (some ⟨b1, 0, none⟩), .pointer (some ⟨b2, 0, none⟩)] w (kg6 r w (.string (B (kao most (s.data.toList, E)).1)) (kao most (s.data.toList, E)).2) := by
 have H := hdd h
 clear h
 go_enter Tryz.func166, Tryz.ntmps166
 go_wp2_with (go_at_call 99; refine (kex r s E most _ H.out hs).mono ?_; rintro e w' ⟨rfl, hA, hK⟩)
 go_ret
 exact ⟨rfl, hA, hK⟩
theorem kux (r : Nat) (s : ByteArray) (E most : Int) (b1 b2 : Nat) (w : World) (h : Rdr r s E w) (hs : s.size ≤ 281474976710656)
 (c1 : w.cell? ⟨b1, 0, none⟩ = some (.pointer (some ⟨r, 0, none⟩))) (c2 : w.cell? ⟨b2, 0, none⟩ = some (.int .i64 most)) (n1 : b1 ≠ r) (n2 : b2 ≠ r) :
 Calls Tryz.prog 165 #[.pointer (some ⟨r, 0, none⟩), .func (.func 166) #[] #[.pointer (some ⟨b1, 0, none⟩), .pointer (some ⟨b2, 0, none⟩)]] w (kyw w.heap.size 9 r w ((kco (kao most) (s.data.toList, E)).1.map vS) (kco (kao most) (s.data.toList, E)).2) := by
 obtain ⟨i0, hi, hz0, hz1, hz2⟩ := info_parts k1v
 have H := hdd h
 have hrl := kac h
 have l1 := World.block_lt_of_cell? w _ c1; have l2 := World.block_lt_of_cell? w _ c2
 clear h
 have hlen := kbz 0 1024 (s.data.toList, E)
 have hres := khr 0 1024 (s.data.toList, E)
 rw [kgf] at hlen
 obtain ⟨n, hn⟩ : ∃ n : Nat, (ka3 0 1024 (s.data.toList, E)).1 = (n : Int) := ⟨(ka3 0 1024 (s.data.toList, E)).1.toNat, by omega⟩
 have hn' : n ≤ 1024 := by omega
 clear hres
 obtain ⟨st1, hst1⟩ : ∃ st1, st1 = (ka3 0 1024 (s.data.toList, E)).2 := ⟨_, rfl⟩
 rw [← hst1] at hlen
 have HN := hdd hn
 have HST := hdd hst1
 clear hn hst1
 go_enter Tryz.func165, Tryz.ntmps165
 go_wp2_with (go_at_call 98; refine (kdj r s E _ _ _ H.out (by unfold maxLen; omega)).mono ?_; rw [HN.out, ← HST.out]; rintro e w1 ⟨rfl, hA, hK⟩)
 have HA := hdd hA
 have HK := hdd hK
 clear hA hK
 go_loopw [6, 7] (fun v i wr => ∃ (k : Nat) (acc : List Bs) (st : St), k ≤ n ∧ i = .int .i64 k ∧ acc.length = k ∧ wr.ownsRow w.heap.size 9 1 v acc.length (acc.map vS) ∧ Rdr r (B st.1) st.2 wr ∧ st.1.length ≤ s.size ∧ ka1 (One r) w wr ∧ kps (kao most) n st1 k acc st) (fun _ i _ => n - (intOf i).toNat)
 case atStart => exact ⟨0, [], st1, Nat.zero_le _, rfl, rfl, World.ownsRow_nil _ _ _ _, HA.out, hlen, HK.out, kps.start _ _ _⟩
 case round =>
  obtain ⟨k, acc, st, hk, rfl, hacc, hown, hR, hsl, hK, hat⟩ := hrel
  have d1 := hR.c1
  have hkk := hK
  have hsz1 := hK.size
  have e1 := (hkk.cell (o := 0) l1 n1).trans c1; have e2 := (hkk.cell (o := 0) l2 n2).trans c2
  have HR := hdd hR
  have HKK := hdd hK
  have HAT := hdd hat
  have HOWN := hdd hown
  have hacc' : acc.length ≤ 1024 := by omega
  have HACC := hdd hacc
  clear hkk hR hK hat hown hacc
  by_cases hlt : k < n
  · by_cases h0 : st.2 = 0
    · have h0' : (st.2 == 0) = true := by simp [h0]
      have H0 := hdd h0
      clear h0
      go_wp2_with (first
       | (go_at_call 166; refine (krm r (B st.1) st.2 most b1 b2 _ HR.out (by rw [kbt]; first | omega | (unfold maxLen; omega)) e1 e2).mono ?_; rw [B_list]; rintro e w2 ⟨rfl, hA2, hK2⟩; have HA2 := hdd hA2; have HK2 := hdd hK2; have hown2 := kag HOWN.out hK2 (fun k hk => by show ¬ k = r; omega); have hsz2 := hK2.size; clear hA2 hK2)
       | (at_builtin; refine wpList_append_own _ rfl (.tmp 22) (.tmp 25) 39 rfl w.heap.size 9 i0 _ 1 16 Tryz.underlying39 hi hz0 hz1 hz2 rfl (by decide) _ _ _ rfl (hown2.alloc _) ⟨w2.heap.size, 0, none⟩ 1 1 [vS (kao most st).1] rfl rfl ?c1 ?c2 ?c3 ?c4 ?c5 ?_))
      case c1 => exact kbm (kak _ _)
      case c2 => simp [vS, Value.oneCell']
      case c3 => unfold maxLen; omega
      case c4 => omega
      case c5 => simp; omega
      intro v' w3 hown3 hgrow3 _
      have hrow : ∀ q, u6.ownBlock = some q → w.heap.size ≤ q := fun q hq => (hown2.lt q hq).1
      have HG := hdd hgrow3
      have HO := hdd hown3
      clear hgrow3 hown3 hown2
      go_wp2
      go_roundw
      case rel =>
       refine ⟨k + 1, acc ++ [(kao most st).1], (kao most st).2, by omega, by go_num, by simp [HACC.out], ?_, ?_, ?_, ?_, HAT.out.step hlt H0.out⟩
       · simpa using HO.out
       · exact HA2.out.grown HG.out (fun e => by have := hrow r e; omega)
       · exact Nat.le_trans (kbh _ _) hsl
       · exact ((HKK.out.trans HK2.out).alloc _).grown HG.out (fun q hq => .inl (hrow q hq))
      case measure => simp [intOf]; omega
    · have h0' : (st.2 == 0) = false := by simpa using h0
      have h0'' : (st.2 != 0) = true := by simpa using h0
      have hend : kco (kao most) (s.data.toList, E) = ([], st) := by
       rw [kel HN.out HST.out (HAT.out.stop (.inr h0))]; simp [h0]
      have HE := hdd hend
      clear hend h0
      go_wp2
      go_ret
      exact ⟨_, rfl, by rw [HE.out]; exact World.ownsRow_nil _ _ _ _, by rw [HE.out]; exact HR.out, HKK.out⟩
  · have hend0 : kbi (kao most) n st1 = (acc, st) := HAT.out.stop (.inl (by omega))
    by_cases h0 : st.2 = 0
    · have h0' : (st.2 != 0) = false := by simp [h0]
      have hend : kco (kao most) (s.data.toList, E) = (acc, st) := by
       rw [kel HN.out HST.out hend0]; simp [h0]
      have HE := hdd hend
      clear hend hend0 h0
      go_wp2
      go_ret
      exact ⟨_, rfl, by rw [HE.out, List.length_map]; exact HOWN.out, by rw [HE.out]; exact HR.out, HKK.out⟩
    · have h0' : (st.2 != 0) = true := by simpa using h0
      have hend : kco (kao most) (s.data.toList, E) = ([], st) := by
       rw [kel HN.out HST.out hend0]; simp [h0]
      have HE := hdd hend
      clear hend hend0 h0
      go_wp2
      go_ret
      exact ⟨_, rfl, by rw [HE.out]; exact World.ownsRow_nil _ _ _ _, by rw [HE.out]; exact HR.out, HKK.out⟩
theorem kff (r : Nat) (s : ByteArray) (E most : Int) (w : World) (h : Rdr r s E w) (hs : s.size ≤ 281474976710656) :
 Calls Tryz.prog 100 #[.pointer (some ⟨r, 0, none⟩), .int .i64 most] w (kyw w.heap.size 9 r w ((ka5 most (s.data.toList, E)).1.map vS) (ka5 most (s.data.toList, E)).2) := by
 have hmf : ∀ (fn : Fn) (first cap : Array Value) (w : World), (Instr.makeFunc fn first cap).run Tryz.prog w = .ok (.func fn first cap) w := fun _ _ _ _ => rfl
 have hrl := kac h
 have H := hdd h
 clear h
 go_enter Tryz.func100, Tryz.ntmps100
 go_wp2_with fail
 refine (kux r s E most w.heap.size (w.heap.size + 1) _ ((H.out.alloc _).alloc _) hs (k1m _ _ _) (k16 _ _ _) (by omega) (by omega)).mono ?_
 rintro e w1 ⟨v, rfl, hown, hA, hK⟩
 have hK0 : ka1 (One r) w ((w.alloc (.cells #[.pointer (some ⟨r, 0, none⟩)] 153)).alloc (.cells #[.int .i64 most] 3)) := ((ka1.refl _ _).alloc _).alloc _
 have HO := hdd (kan hown (base' := w.heap.size) (by simp; omega))
 have HA := hdd hA
 have HK := hdd (hK0.trans hK)
 clear hown hA hK hK0
 go_wp2
 go_ret
 exact ⟨_, rfl, HO.out, HA.out, HK.out⟩
end Go.Proofs.YtknpbekoenbphaaGreatDoor
