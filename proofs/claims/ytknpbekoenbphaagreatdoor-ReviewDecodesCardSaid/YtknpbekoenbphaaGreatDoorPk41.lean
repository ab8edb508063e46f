/- Parts of the proofs: PlainAll, PlainSig, WkRef, WkRefL, PlainDe. No condition beyond those at each theorem. -/
import Derived.Test.YtknpbekoenbphaaGreatDoorPk32
import Derived.Test.YtknpbekoenbphaaGreatDoorPk35
set_option linter.unusedVariables false
set_option linter.unusedSimpArgs false
set_option maxHeartbeats 16000000
set_option maxRecDepth 100000
namespace Licit
open Go Go.Lib
theorem kgm {low high : Int} {st : St} (h : st.2 ≠ 0) : ka3 low high st = (0, st) := by simp [ka3, h]
theorem kd1 {most : Int} {st : St} (h : st.2 ≠ 0) : kao most st = ([], st) := by simp [kao, h]
theorem kkr {α : Type} {one : St → α × St} {st : St} (h : st.2 ≠ 0) : kco one st = ([], st) := by
 simp only [kco, kgm h]
 rw [kdg one _ st h]
 simp
theorem kku {most : Int} {e : UInt8} (he : (e.toNat : Int) < 48 ∨ 57 < (e.toNat : Int)) : ∀ (s : Bs) (i : Nat) (n : Int) (p : Bs) {m : Int} {j : Nat}, p.length = i → ((i = 0 ∧ n = 0) ∨ (0 < i ∧ 0 ≤ n ∧ p = decDigits n.toNat)) →
 cnt most e.toNat i n s = .inl (m, j) → ∃ d rest, s = d ++ e :: rest ∧ p ++ d = decDigits m.toNat ∧ j = i + d.length ∧ 0 ≤ m
 | [], i, n, p, m, j, _, _, h => by simp [cnt] at h
 | c :: s, i, n, p, m, j, hp, hi, h => by
   rw [kl9] at h
   split at h
   · rename_i hc
     simp only [Sum.inl.injEq, Prod.mk.injEq] at h
     obtain ⟨rfl, rfl⟩ := h
     have hce : c = e := UInt8.toNat_inj.1 (by have := hc.1; omega)
     rcases hi with hi | hi
     · omega
     · exact ⟨[], s, by rw [hce]; rfl, by rw [List.append_nil]; exact hi.2.2, by simp, hi.2.1⟩
   · split at h
     · simp at h
     · rename_i hne hd
       split at h
       · simp at h
       · have hcd : c = UInt8.ofNat (48 + (c.toNat - 48)) := by
          apply UInt8.toNat_inj.1
          rw [UInt8.toNat_ofNat']
          omega
         have hp1 : (p ++ [c]).length = i + 1 := by simp [hp]
         have hstep : (0 < i + 1 ∧ 0 ≤ 10 * n + ((c.toNat : Int) - 48) ∧ p ++ [c] = decDigits (10 * n + ((c.toNat : Int) - 48)).toNat) := by
          rcases hi with ⟨hi, hn⟩ | ⟨hi, hn, hpe⟩
          · subst hn
            refine ⟨by omega, by omega, ?_⟩
            have hp0 : p = [] := List.eq_nil_of_length_eq_zero (by omega)
            rw [hp0, List.nil_append, show (10 * 0 + ((c.toNat : Int) - 48)).toNat = c.toNat - 48 by omega, kru (by omega), ← hcd]
          · have hn1 : 1 ≤ n := by
             rcases Int.lt_or_le n 1 with h1 | h1
             · exfalso
               have h0 : n = 0 := by omega
               rw [h0] at hpe
               have : p.length = 1 := by rw [hpe, show (0 : Int).toNat = 0 from rfl, kru (by omega)]; rfl
               omega
             · exact h1
            refine ⟨by omega, by omega, ?_⟩
            rw [kwh (by omega), show (10 * n + ((c.toNat : Int) - 48)).toNat / 10 = n.toNat by omega, show (10 * n + ((c.toNat : Int) - 48)).toNat % 10 = c.toNat - 48 by omega, ← hcd, ← hpe]
         obtain ⟨d, rest, h1, h2, h3, h4⟩ := kku he s (i + 1) _ (p ++ [c]) hp1 (.inr hstep) h
         exact ⟨c :: d, rest, by rw [h1]; rfl, by rw [← h2]; simp, by rw [h3]; simp; omega, h4⟩
def kpo {α : Type} (one : St → α × St) (enc : α → Bs × Int) : Prop := ∀ l, (one (l, 0)).2.2 = 0 → l = (enc (one (l, 0)).1).1 ++ (one (l, 0)).2.1 ∧ (enc (one (l, 0)).1).2 = 0
theorem kem {low high : Int} : kpo (ka3 low high) ke2 := by
 intro l h
 cases hc : cnt 281474976710656 59 0 0 l with
 | inr b => rw [kp5 hc] at h; cases b <;> simp at h
 | inl q =>
   obtain ⟨n, i⟩ := q
   have hb := kdm l 0 0 (by omega) (by omega) hc
   obtain ⟨d, rest, h1, h2, h3, h4⟩ := kku (e := 59) (by decide) l 0 0 [] rfl (.inl ⟨rfl, rfl⟩) hc
   rw [List.nil_append] at h2
   rw [kp1 hc] at h ⊢
   by_cases hr : n < low ∨ high < n
   · rw [if_pos hr] at h; simp at h
   · rw [if_neg hr]
     have he : ke2 n = (decDigits n.toNat ++ [59], 0) := by unfold ke2; rw [if_neg (by omega)]
     simp only [he]
     refine ⟨?_, trivial⟩
     rw [← h2, h3, Nat.zero_add]
     conv => lhs; rw [h1]
     have : l.drop (d.length + 1) = rest := by rw [h1, ← List.drop_drop, List.drop_left]; rfl
     rw [this]; simp
theorem kc0 {most : Int} : kpo (kao most) kar := by
 intro l h
 cases hc : cnt 65536 58 0 0 l with
 | inr b => rw [kn3 hc] at h; cases b <;> simp at h
 | inl q =>
   obtain ⟨n, i⟩ := q
   have hb := kdm l 0 0 (by omega) (by omega) hc
   obtain ⟨d, rest, h1, h2, h3, h4⟩ := kku (e := 58) (by decide) l 0 0 [] rfl (.inl ⟨rfl, rfl⟩) hc
   rw [List.nil_append] at h2
   rw [kko hc] at h ⊢
   by_cases c1 : l.length ≤ i + 1 + n.toNat
   · rw [if_pos c1] at h; simp at h
   · rw [if_neg c1] at h ⊢
     by_cases c2 : l[i + 1 + n.toNat]? ≠ some 44
     · rw [if_pos c2] at h; simp at h
     · rw [if_neg c2] at h ⊢
       by_cases c3 : most < n
       · rw [if_pos c3] at h; simp at h
       · rw [if_neg c3]
         simp only [ne_eq, Decidable.not_not] at c2
         have hrest : l.drop (i + 1) = rest := by rw [h3, Nat.zero_add, h1, ← List.drop_drop, List.drop_left]; rfl
         have hll : l.length = i + 1 + rest.length := by rw [h1]; simp; omega
         have hlen : (rest.take n.toNat).length = n.toNat := by rw [List.length_take]; omega
         have he : kar (rest.take n.toNat) = (decDigits n.toNat ++ [58] ++ rest.take n.toNat ++ [44], 0) := by
          unfold kar; rw [hlen, if_neg (by omega)]
         rw [hrest]
         simp only [he]
         refine ⟨?_, trivial⟩
         have hg : rest[n.toNat]? = some 44 := by rw [← c2, ← hrest, List.getElem?_drop]
         have hdd : l.drop (i + 1 + n.toNat + 1) = rest.drop (n.toNat + 1) := by rw [← hrest, List.drop_drop]; congr 1
         have hsp : rest = rest.take n.toNat ++ 44 :: rest.drop (n.toNat + 1) := by
          have hlt : n.toNat < rest.length := by omega
          rw [List.getElem?_eq_getElem hlt] at hg
          have hg' := Option.some.inj hg
          conv => lhs; rw [← List.take_append_drop n.toNat rest, List.drop_eq_getElem_cons hlt, hg']
         rw [hdd]
         conv => lhs; rw [h1, hsp]
         rw [h2]; simp
theorem kln {α : Type} {one : St → α × St} {enc : α → Bs × Int} (hz : ∀ st, st.2 ≠ 0 → (one st).2 = st) (hc : kpo one enc) : ∀ (k : Nat) (l : Bs), (kbi one k (l, 0)).2.2 = 0 →
 (kbi one k (l, 0)).1.length = k ∧ l = ((kbi one k (l, 0)).1.map fun x => (enc x).1).flatten ++ (kbi one k (l, 0)).2.1 ∧ ∀ x ∈ (kbi one k (l, 0)).1, (enc x).2 = 0
 | 0, l, _ => by simp [kbi]
 | k + 1, l, h => by
   rw [khm one k _ rfl] at h ⊢
   simp only at h ⊢
   by_cases h0 : (one (l, 0)).2.2 = 0
   · have hx := hc l h0
     have hst : (one (l, 0)).2 = ((one (l, 0)).2.1, 0) := Prod.ext rfl h0
     rw [hst] at h ⊢
     obtain ⟨i1, i2, i3⟩ := kln hz hc k _ h
     refine ⟨by simp [i1], ?_, fun x hm => ?_⟩
     · rw [List.map_cons, List.flatten_cons, List.append_assoc, ← i2]; exact hx.1
     · rcases List.mem_cons.1 hm with rfl | hm
       · exact hx.2
       · exact i3 x hm
   · rw [kdg one k _ h0] at h
     exact (h0 h).elim
theorem ksm {α : Type} {one : St → α × St} {enc : α → Bs × Int} (hz : ∀ st, st.2 ≠ 0 → (one st).2 = st) (hc : kpo one enc) : kpo (kco one) (ka7 enc) := by
 intro l h
 have hn := khr 0 1024 (l, 0)
 simp only [kco] at h ⊢
 by_cases h0 : (ka3 0 1024 (l, 0)).2.2 = 0
 · have hx := kem (low := 0) (high := 1024) l h0
   have hst : (ka3 0 1024 (l, 0)).2 = ((ka3 0 1024 (l, 0)).2.1, 0) := Prod.ext rfl h0
   rw [hst] at h ⊢
   obtain ⟨i1, i2, i3⟩ := kln hz hc _ _ h
   rw [if_neg (by simp [h])]
   have hle : (kbi one (ka3 0 1024 (l, 0)).1.toNat ((ka3 0 1024 (l, 0)).2.1, 0)).1.length ≤ 1024 := by omega
   have he : ka7 enc (kbi one (ka3 0 1024 (l, 0)).1.toNat ((ka3 0 1024 (l, 0)).2.1, 0)).1 = (decDigits (ka3 0 1024 (l, 0)).1.toNat ++ [59] ++ ((kbi one (ka3 0 1024 (l, 0)).1.toNat ((ka3 0 1024 (l, 0)).2.1, 0)).1.map fun x => (enc x).1).flatten, 0) := by
    unfold ka7
    rw [if_neg (by omega), kh4 enc _ _ i3, i1]
   rw [he]
   refine ⟨?_, rfl⟩
   have h1 := hx.1
   have hen : (ke2 (ka3 0 1024 (l, 0)).1).1 = decDigits (ka3 0 1024 (l, 0)).1.toNat ++ [59] := by unfold ke2; rw [if_neg (by omega)]
   rw [hen] at h1
   simp only
   rw [List.append_assoc, ← i2]
   exact h1
 · rw [kdg one _ _ h0] at h
   exact (h0 h).elim
theorem kdd {most : Int} : kpo (ka5 most) (ka7 kar) := ksm (fun st h => by rw [kd1 h]) kc0
end Licit
namespace Licit
theorem ks2 {d : Bs} {i : Int} {S H R : List Bs} {s1 s2 s3 s4 : St} (h1 : ka3 0 63 (d, 0) = (i, s1)) (h2 : ka5 32 s1 = (S, s2)) (h3 : ka5 32 s2 = (H, s3)) (h4 : ka5 32 s3 = (R, s4)) (h0 : ka4 s4 = 0) : d = kfx i S H R := by
 have e4 : s4.2 = 0 ∧ s4.1 = [] := by
  unfold ka4 at h0
  split at h0
  · cases h0
  · rename_i c
    refine ⟨h0, ?_⟩
    rcases Decidable.em (s4.1 = []) with x | x
    · exact x
    · exact absurd ⟨h0, x⟩ c
 have back : ∀ (s t : St) (l : List Bs), ka5 32 s = (l, t) → t.2 = 0 → s.2 = 0 := by
  intro s t l h ht
  rcases Decidable.em (s.2 = 0) with x | x
  · exact x
  · rw [show ka5 32 s = ([], s) from kkr x] at h
    exact absurd (by rw [(Prod.mk.inj h).2]; exact ht) x
 have e3 := back _ _ _ h4 e4.1
 have e2 := back _ _ _ h3 e3
 have e1 := back _ _ _ h2 e2
 have f1 : s1 = (s1.1, 0) := Prod.ext rfl e1
 have f2 : s2 = (s2.1, 0) := Prod.ext rfl e2
 have f3 : s3 = (s3.1, 0) := Prod.ext rfl e3
 rw [f1] at h2
 rw [f2] at h3
 rw [f3] at h4
 have c1 := kem (low := 0) (high := 63) d (by rw [h1]; exact e1)
 have c2 := kdd (most := 32) s1.1 (by rw [h2]; exact e2)
 have c3 := kdd (most := 32) s2.1 (by rw [h3]; exact e3)
 have c4 := kdd (most := 32) s3.1 (by rw [h4]; exact e4.1)
 rw [h1] at c1
 rw [h2] at c2
 rw [h3] at c3
 rw [h4] at c4
 have g1 := c1.1
 rw [c2.1, c3.1, c4.1, e4.2] at g1
 rw [g1]
 unfold kfx num
 simp only [List.append_assoc, List.append_nil]
end Licit
namespace Go.Proofs.YtknpbekoenbphaaGreatDoor
open Go Go.RowKit Licit
abbrev kdy := Rd 161
abbrev kez := k21 161
abbrev ky8 := k1y 161
def kr2 : (Int × Nat) ⊕ Bool → Value
 | .inl (n, i) => .tuple #[.int .i64 n, .int .i64 i, .bool false]
 | .inr b => .tuple #[.int .i64 0, .int .i64 (-1), .bool b]
theorem kq7 (s : ByteArray) (most e : Int) (w : World) (hs : s.size ≤ maxLen) (hm0 : 0 ≤ most) (hm1 : most ≤ 281474976710656) (he0 : 0 ≤ e) (he1 : e ≤ 255) :
 Calls Tryz.prog 167 #[.string s, .int .i64 most, .int .u8 e] w fun e' w' => e' = .returned (kr2 (cnt most e 0 0 s.data.toList)) ∧ w = w' := by
 unfold maxLen at hs
 go_enter Tryz.func167, Tryz.ntmps167
 go_wp2
 go_loop [9, 10] (fun n i => ∃ (k : Nat) (v : Int), k ≤ s.size ∧ i = .int .i64 k ∧ n = .int .i64 v ∧ 0 ≤ v ∧ v ≤ most ∧ (k = 0 → v = 0) ∧ (2 ≤ k → 1 ≤ v) ∧ Hid (cnt most e k v (s.data.toList.drop k) = cnt most e 0 0 s.data.toList)) (fun _ i => s.size - (intOf i).toNat)
 case atStart => exact ⟨0, 0, Nat.zero_le _, rfl, rfl, by omega, by omega, by omega, by omega, rfl⟩
 case round =>
  obtain ⟨k, v, hk, rfl, rfl, hv0, hv1, hv2, hv3, H⟩ := hrel
  by_cases hlt : k < s.size
  · go_wp2
    all_goals try simp only [beq_iff_eq, beq_eq_false_iff_ne, ne_eq] at *
    all_goals first
     | (go_ret3; have R := knj hlt H.out (by omega) (by omega); exact ⟨by rw [R]; rfl, rfl⟩)
     | (go_ret3; have R := ku3 hlt H.out (by omega) (by omega); exact ⟨by rw [R]; rfl, rfl⟩)
     | (go_round
        case rel =>
         have R := kyo hlt H.out (by omega) (by omega) (by omega)
         exact ⟨k + 1, 10 * v + ((s[k].toNat : Int) - 48), by omega, congrArg (Value.int .i64) (by omega), congrArg (Value.int .i64) (by omega), by omega, by omega, by omega, by omega, R⟩
        case measure => simp [intOf]; omega)
  · have HA := kvb most e s k v (by omega)
    rw [H.out] at HA
    have HA' := hdd HA
    clear H HA
    obtain rfl : k = s.size := by omega
    go_wp2
    go_ret3
    exact ⟨by rw [HA'.out]; rfl, rfl⟩
theorem kd3 {s : ByteArray} {most e : Int} {v : Value} (w : World) (hs : s.size ≤ maxLen) (hm0 : 0 ≤ most) (hm1 : most ≤ 281474976710656) (he0 : 0 ≤ e) (he1 : e ≤ 255) (hv : kr2 (cnt most e 0 0 s.data.toList) = v) :
 Calls Tryz.prog 167 #[.string s, .int .i64 most, .int .u8 e] w fun e' w' => e' = .returned v ∧ w = w' := by
 subst hv; exact kq7 s most e w hs hm0 hm1 he0 he1
theorem ke8 (r : Nat) (s : ByteArray) (E0 E : Int) (w : World) (h : kdy r s E0 w) :
 Calls Tryz.prog 168 #[.pointer (some ⟨r, 0, none⟩), .int .i64 E] w fun e w' => e = .returned (.tuple #[]) ∧ kdy r (B []) E w' ∧ ka1 (One r) w w' := by
 have c0 := h.c0
 have f0 := h.f 0
 have hA := h.put0 (B [])
 have hA0 : (w.setCell ⟨r, 0, none⟩ (.string ⟨#[]⟩)).cell? ⟨r, 1, none⟩ = some (.int .i64 E0) := hA.c1
 have hA1 : (w.setCell ⟨r, 0, none⟩ (.string ⟨#[]⟩)).frozen? ⟨r, 1, none⟩ = false := hA.f 1
 have c1 := h.c1
 have f1 := h.f 1
 have HA := hdd hA
 clear h hA
 go_enter Tryz.func168, Tryz.ntmps168
 go_wp2
 go_end0
 exact ⟨rfl, HA.out.put1 _, ((ka1.refl (One r) _).setCell (p := ⟨r, 0, none⟩) (.inr rfl) _).setCell (p := ⟨r, 1, none⟩) (.inr rfl) _⟩
theorem kil (r : Nat) (s : ByteArray) (E : Int) (w : World) (h : kdy r s E w) :
 Calls Tryz.prog 105 #[.pointer (some ⟨r, 0, none⟩)] w fun e w' => e = .returned (.int .i64 (ka4 (s.data.toList, E))) ∧ w = w' := by
 have c0 := h.c0
 have c1 := h.c1
 clear h
 by_cases h0 : E = 0
 · subst h0
   by_cases hs : s.data.toList = []
   · have hs' : (!s.toList.isEmpty) = false := by rw [ByteArray.toList_eq, hs]; rfl
     have R : ka4 (s.data.toList, 0) = 0 := by rw [hs]; rfl
     have R' := hdd R
     clear R hs
     go_enter Tryz.func105, Tryz.ntmps105
     go_wp2
     go_ret
     exact ⟨by rw [R'.out]; rfl, rfl⟩
   · have hs' : (!s.toList.isEmpty) = true := by rw [ByteArray.toList_eq]; simpa using hs
     have R : ka4 (s.data.toList, 0) = 17 := by simp [ka4, hs]
     have R' := hdd R
     clear R hs
     go_enter Tryz.func105, Tryz.ntmps105
     go_wp2
     go_ret
     exact ⟨by rw [R'.out]; rfl, rfl⟩
 · have h0' : (E == 0) = false := by simpa using h0
   have R : ka4 (s.data.toList, E) = E := by simp [ka4, h0]
   have R' := hdd R
   clear R h0
   go_enter Tryz.func105, Tryz.ntmps105
   go_wp2
   go_ret
   exact ⟨by rw [R'.out]; rfl, rfl⟩
theorem kcx (r : Nat) (s : ByteArray) (E low high : Int) (w : World) (h : kdy r s E w) (hs : s.size ≤ maxLen) :
 Calls Tryz.prog 102 #[.pointer (some ⟨r, 0, none⟩), .int .i64 low, .int .i64 high] w (kez r w (.int .i64 (ka3 low high (s.data.toList, E)).1) (ka3 low high (s.data.toList, E)).2) := by
 have c0 := h.c0
 have c1 := h.c1
 have f0 := h.f 0
 have H := hdd h
 have Hs := hdd hs
 clear h hs
 by_cases hE : E = 0
 · subst hE
   cases hc : cnt 281474976710656 59 0 0 s.data.toList with
   | inl p =>
     obtain ⟨n, i⟩ := p
     obtain ⟨b0, b1, _, b2, b3⟩ := kdm _ _ _ (by omega) (by omega) hc
     have hsz : s.data.toList.length = s.size := rfl
     rw [hsz] at b3
     have hmx := Hs.out
     unfold maxLen at hmx
     have HC := hdd (show kr2 (cnt 281474976710656 59 0 0 s.data.toList) = .tuple #[.int .i64 n, .int .i64 i, .bool false] by rw [hc]; rfl)
     by_cases hr : n < low ∨ high < n
     · have R : ka3 low high (s.data.toList, 0) = (0, ([], 3)) := by simp [ka3, hc, hr]
       have HR := hdd R
       clear R hc hsz
       go_enter Tryz.func102, Tryz.ntmps102
       go_wp2_with (first
        | (go_at_call 167; refine (kd3 _ Hs.out (by decide) (by decide) (by decide) (by decide) HC.out).mono ?_; rintro e w' ⟨rfl, rfl⟩)
        | (go_at_call 168; refine (ke8 r s _ _ _ H.out).mono ?_; rintro e w' ⟨rfl, hA, hK⟩))
       all_goals go_ret
       all_goals (refine ⟨?_, ?_, hK⟩ <;> rw [HR.out])
       all_goals first | rfl | exact hA
     · have R : ka3 low high (s.data.toList, 0) = (n, (s.data.toList.drop (i + 1), 0)) := by simp [ka3, hc, hr]
       have HR := hdd R
       clear R hc hsz
       go_enter Tryz.func102, Tryz.ntmps102
       go_wp2_with (first
        | (go_at_call 167; refine (kd3 _ Hs.out (by decide) (by decide) (by decide) (by decide) HC.out).mono ?_; rintro e w' ⟨rfl, rfl⟩))
       go_ret
       refine ⟨?_, ?_, (ka1.refl (One r) _).setCell (p := ⟨r, 0, none⟩) (.inr rfl) _⟩
       · rw [HR.out]; rfl
       · rw [HR.out]
         rw [kdk]
         exact H.out.put0 _
   | inr b =>
     have R : ka3 low high (s.data.toList, 0) = (0, ([], if b then 13 else 17)) := by simp [ka3, hc]
     have HR := hdd R
     have HC := hdd (show kr2 (cnt 281474976710656 59 0 0 s.data.toList) = .tuple #[.int .i64 0, .int .i64 (-1), .bool b] by rw [hc]; rfl)
     clear R hc
     cases b
     all_goals
      go_enter Tryz.func102, Tryz.ntmps102
      go_wp2_with (first
       | (go_at_call 167; refine (kd3 _ Hs.out (by decide) (by decide) (by decide) (by decide) HC.out).mono ?_; rintro e w' ⟨rfl, rfl⟩)
       | (go_at_call 168; refine (ke8 r s _ _ _ H.out).mono ?_; rintro e w' ⟨rfl, hA, hK⟩))
      go_ret
      refine ⟨?_, ?_, hK⟩
      · rw [HR.out]; rfl
      · rw [HR.out]; exact hA
 · have R : ka3 low high (s.data.toList, E) = (0, (s.data.toList, E)) := by simp [ka3, hE]
   have HR := hdd R
   have hE1 : (E == 0) = false := by simpa using hE
   clear R hE
   go_enter Tryz.func102, Tryz.ntmps102
   go_wp2
   go_ret
   refine ⟨?_, ?_, ka1.refl _ _⟩
   · rw [HR.out]; rfl
   · rw [HR.out]; exact H.out
theorem kd0 (r : Nat) (s : ByteArray) (E most : Int) (w : World) (h : kdy r s E w) (hs : s.size ≤ 281474976710656) :
 Calls Tryz.prog 103 #[.pointer (some ⟨r, 0, none⟩), .int .i64 most] w (kez r w (.string (B (kao most (s.data.toList, E)).1)) (kao most (s.data.toList, E)).2) := by
 have c0 := h.c0
 have c1 := h.c1
 have f0 := h.f 0
 have H := hdd h
 have hs' : s.size ≤ maxLen := by unfold maxLen; omega
 have Hs := hdd hs'
 clear h hs'
 by_cases hE : E = 0
 · subst hE
   cases hc : cnt 65536 58 0 0 s.data.toList with
   | inl p =>
     obtain ⟨n, i⟩ := p
     obtain ⟨b0, b1, _, b2, b3⟩ := kdm _ _ _ (by omega) (by omega) hc
     obtain ⟨m, rfl⟩ := Int.eq_ofNat_of_zero_le b0
     have hsz : s.data.toList.length = s.size := rfl
     rw [hsz] at b3
     have HC := hdd (show kr2 (cnt 65536 58 0 0 s.data.toList) = .tuple #[.int .i64 m, .int .i64 i, .bool false] by rw [hc]; rfl)
     have hb0 : s.extract (i + 1) s.size = B (s.data.toList.drop (i + 1)) := kdk _ _
     have hbs : (B (s.data.toList.drop (i + 1))).size = s.size - (i + 1) := by rw [kbt, List.length_drop, hsz]
     by_cases h1 : s.size ≤ i + 1 + m
     · have R : kao most (s.data.toList, 0) = ([], ([], 13)) := by simp [kao, hc, h1]
       have HR := hdd R
       clear R hc hsz hb0 hbs
       go_enter Tryz.func103, Tryz.ntmps103
       go_wp2_with (first
        | (go_at_call 167; refine (kd3 _ Hs.out (by decide) (by decide) (by decide) (by decide) HC.out).mono ?_; rintro e w' ⟨rfl, rfl⟩)
        | (go_at_call 168; refine (ke8 r s _ _ _ H.out).mono ?_; rintro e w' ⟨rfl, hA, hK⟩))
       all_goals go_ret
       all_goals (refine ⟨?_, ?_, hK⟩ <;> rw [HR.out])
       all_goals first | rfl | exact hA
     · have hlt : i + 1 + m < s.size := by omega
       have hgt : s.data.toList[i + 1 + m]? = some s[i + 1 + m] := by
        rw [List.getElem?_eq_getElem (by rw [hsz]; exact hlt)]; rfl
       have hgi : ∀ (hh : m < (s.extract (i + 1) s.size).size), (s.extract (i + 1) s.size)[m] = s[i + 1 + m] := fun hh => by rw [ByteArray.getElem_extract]
       by_cases h2 : s[i + 1 + m] = 44
       · have h2' : (s[i + 1 + m].toNat : Int) = 44 := by rw [h2]; rfl
         have H2 := hdd h2
         clear h2
         by_cases h3 : most < (m : Int)
         · have R : kao most (s.data.toList, 0) = ([], ([], 10)) := by simp [kao, hc, h1, hgt, H2.out, h3]
           have HR := hdd R
           clear R hc hsz hgt hb0 hbs
           go_enter Tryz.func103, Tryz.ntmps103
           go_wp2_with (first
            | (go_at_call 167; refine (kd3 _ Hs.out (by decide) (by decide) (by decide) (by decide) HC.out).mono ?_; rintro e w' ⟨rfl, rfl⟩)
            | (go_at_call 168; refine (ke8 r s _ _ _ H.out).mono ?_; rintro e w' ⟨rfl, hA, hK⟩))
           go_ret
           refine ⟨?_, ?_, hK⟩
           · rw [HR.out]; rfl
           · rw [HR.out]; exact hA
         · have R : kao most (s.data.toList, 0) = ((s.data.toList.drop (i + 1)).take m, (s.data.toList.drop (i + 1 + m + 1), 0)) := by simp [kao, hc, h1, hgt, H2.out, h3]
           have HR := hdd R
           clear R hc hsz hgt hb0 hbs
           go_enter Tryz.func103, Tryz.ntmps103
           go_wp2_with (first
            | (go_at_call 167; refine (kd3 _ Hs.out (by decide) (by decide) (by decide) (by decide) HC.out).mono ?_; rintro e w' ⟨rfl, rfl⟩))
           go_ret
           refine ⟨?_, ?_, (ka1.refl (One r) _).setCell (p := ⟨r, 0, none⟩) (.inr rfl) _⟩
           · rw [HR.out]
             show Ending.returned (Value.string _) = Ending.returned (Value.string _)
             rw [kdk, khw, B_list, Nat.sub_zero, List.drop_zero]
           · rw [HR.out]
             have he : (s.extract (i + 1) s.size).extract (m + 1) (s.size - (i + 1)) = B (s.data.toList.drop (i + 1 + m + 1)) := by
              rw [kdk, khw, B_list, List.drop_drop, List.take_of_length_le (by rw [List.length_drop, kgf]; omega), show i + 1 + (m + 1) = i + 1 + m + 1 by omega]
             rw [he]
             exact H.out.put0 _
       · have R : kao most (s.data.toList, 0) = ([], ([], 17)) := by simp [kao, hc, h1, hgt, h2]
         have HR := hdd R
         have h2' : ((s[i + 1 + m].toNat : Int) == 44) = false := by
          rw [beq_eq_false_iff_ne]
          intro e
          exact h2 (UInt8.toNat_inj.1 (by have : ((44 : UInt8).toNat : Int) = 44 := rfl; omega))
         have h2'' : ((s[i + 1 + m].toNat : Int) != 44) = true := by rw [bne, h2']; rfl
         clear R hc hsz hgt h2 hb0 hbs
         go_enter Tryz.func103, Tryz.ntmps103
         go_wp2_with (first
          | (go_at_call 167; refine (kd3 _ Hs.out (by decide) (by decide) (by decide) (by decide) HC.out).mono ?_; rintro e w' ⟨rfl, rfl⟩)
          | (go_at_call 168; refine (ke8 r s _ _ _ H.out).mono ?_; rintro e w' ⟨rfl, hA, hK⟩))
         go_ret
         refine ⟨?_, ?_, hK⟩
         · rw [HR.out]; rfl
         · rw [HR.out]; exact hA
   | inr b =>
     have R : kao most (s.data.toList, 0) = ([], ([], if b then 13 else 17)) := by simp [kao, hc]
     have HR := hdd R
     have HC := hdd (show kr2 (cnt 65536 58 0 0 s.data.toList) = .tuple #[.int .i64 0, .int .i64 (-1), .bool b] by rw [hc]; rfl)
     clear R hc
     cases b
     all_goals
      go_enter Tryz.func103, Tryz.ntmps103
      go_wp2_with (first
       | (go_at_call 167; refine (kd3 _ Hs.out (by decide) (by decide) (by decide) (by decide) HC.out).mono ?_; rintro e w' ⟨rfl, rfl⟩)
       | (go_at_call 168; refine (ke8 r s _ _ _ H.out).mono ?_; rintro e w' ⟨rfl, hA, hK⟩))
      go_ret
      refine ⟨?_, ?_, hK⟩
      · rw [HR.out]; rfl
      · rw [HR.out]; exact hA
 · have R : kao most (s.data.toList, E) = ([], (s.data.toList, E)) := by simp [kao, hE]
   have HR := hdd R
   have hE1 : (E == 0) = false := by simpa using hE
   clear R hE
   go_enter Tryz.func103, Tryz.ntmps103
   go_wp2
   go_ret
   refine ⟨?_, ?_, ka1.refl _ _⟩
   · rw [HR.out]; rfl
   · rw [HR.out]; exact H.out
theorem k0b : (Tryz.prog.info? 9).map (fun i => (i.zero, i.size, i.bytes)) = some (some (.string ⟨#[]⟩), 1, 16) := by kernel_rfl
theorem keb (r : Nat) (s : ByteArray) (E most : Int) (w : World) (h : kdy r s E w) (hs : s.size ≤ 281474976710656) :
 Calls Tryz.prog 104 #[.pointer (some ⟨r, 0, none⟩), .int .i64 most] w (ky8 w.heap.size 9 r w ((ka5 most (s.data.toList, E)).1.map vS) (ka5 most (s.data.toList, E)).2) := by
 obtain ⟨i0, hi, hz0, hz1, hz2⟩ := info_parts k0b
 have H := hdd h
 have hrl := kac h
 clear h
 have hlen := kbz 0 1024 (s.data.toList, E)
 have hres := khr 0 1024 (s.data.toList, E)
 rw [kgf] at hlen
 obtain ⟨n, hn⟩ : ∃ n : Nat, (ka3 0 1024 (s.data.toList, E)).1 = (n : Int) := ⟨(ka3 0 1024 (s.data.toList, E)).1.toNat, by omega⟩
 have hn' : n ≤ 1024 := by omega
 clear hres
 obtain ⟨st1, hst1⟩ : ∃ st1, st1 = (ka3 0 1024 (s.data.toList, E)).2 := ⟨_, rfl⟩
 rw [← hst1] at hlen
 have HN := hdd hn
 have HST := hdd hst1
 clear hn hst1
 unfold ka5
 go_enter Tryz.func104, Tryz.ntmps104
 go_wp2_with (go_at_call 102; refine (kcx r s E _ _ _ H.out (by unfold maxLen; omega)).mono ?_; rw [HN.out, ← HST.out]; rintro e w1 ⟨rfl, hA, hK⟩)
 have HA := hdd hA
 have HK := hdd hK
 clear hA hK
 go_loopw [6, 7] (fun v i wr => ∃ (k : Nat) (acc : List Bs) (st : St), k ≤ n ∧ i = .int .i64 k ∧ acc.length = k ∧ wr.ownsRow w.heap.size 9 1 v acc.length (acc.map vS) ∧ kdy r (B st.1) st.2 wr ∧ st.1.length ≤ s.size ∧ ka1 (One r) w wr ∧ kps (kao most) n st1 k acc st) (fun _ i _ => n - (intOf i).toNat)
 case atStart => exact ⟨0, [], st1, Nat.zero_le _, rfl, rfl, World.ownsRow_nil _ _ _ _, HA.out, hlen, HK.out, kps.start _ _ _⟩
 case round =>
  obtain ⟨k, acc, st, hk, rfl, hacc, hown, hR, hsl, hK, hat⟩ := hrel
  have d1 := hR.c1
  have hsz1 := hK.size
  have HR := hdd hR
  have HKK := hdd hK
  have HAT := hdd hat
  have HOWN := hdd hown
  have hacc' : acc.length ≤ 1024 := by omega
  have HACC := hdd hacc
  clear hR hK hat hown hacc
  by_cases hlt : k < n
  · by_cases h0 : st.2 = 0
    · have h0' : (st.2 == 0) = true := by simp [h0]
      have H0 := hdd h0
      clear h0
      go_wp2_with (first
       | (go_at_call 103; refine (kd0 r (B st.1) st.2 most _ HR.out (by rw [kbt]; first | omega | (unfold maxLen; omega))).mono ?_; rw [B_list]; rintro e w2 ⟨rfl, hA2, hK2⟩; have HA2 := hdd hA2; have HK2 := hdd hK2; have hown2 := kag HOWN.out hK2 (fun k hk => by show ¬ k = r; omega); have hsz2 := hK2.size; clear hA2 hK2)
       | (at_builtin; refine wpList_append_own _ rfl (.tmp 22) (.tmp 26) 39 rfl w.heap.size 9 i0 _ 1 16 Tryz.underlying39 hi hz0 hz1 hz2 rfl (by decide) _ _ _ rfl (hown2.alloc _) ⟨w2.heap.size, 0, none⟩ 1 1 [vS (kao most st).1] rfl rfl ?c1 ?c2 ?c3 ?c4 ?c5 ?_))
      case c1 => exact kbm (kak _ _)
      case c2 => simp [vS, Value.oneCell']
      case c3 => unfold maxLen; omega
      case c4 => omega
      case c5 => simp; omega
      intro v' w3 hown3 hgrow3 _
      have hrow : ∀ q, u6.ownBlock = some q → w.heap.size ≤ q := fun q hq => (hown2.lt q hq).1
      have HG := hdd hgrow3
      have HO := hdd hown3
      clear hgrow3 hown3 hown2
      go_wp2
      go_roundw
      case rel =>
       refine ⟨k + 1, acc ++ [(kao most st).1], (kao most st).2, by omega, by go_num, by simp [HACC.out], ?_, ?_, ?_, ?_, HAT.out.step hlt H0.out⟩
       · simpa using HO.out
       · exact HA2.out.grown HG.out (fun e => by have := hrow r e; omega)
       · exact Nat.le_trans (kbh _ _) hsl
       · exact ((HKK.out.trans HK2.out).alloc _).grown HG.out (fun q hq => .inl (hrow q hq))
      case measure => simp [intOf]; omega
    · have h0' : (st.2 == 0) = false := by simpa using h0
      have h0'' : (st.2 != 0) = true := by simpa using h0
      have hend : kco (kao most) (s.data.toList, E) = ([], st) := by
       rw [kel HN.out HST.out (HAT.out.stop (.inr h0))]; simp [h0]
      have HE := hdd hend
      clear hend h0
      go_wp2
      go_ret
      exact ⟨_, rfl, by rw [HE.out]; exact World.ownsRow_nil _ _ _ _, by rw [HE.out]; exact HR.out, HKK.out⟩
  · have hend0 : kbi (kao most) n st1 = (acc, st) := HAT.out.stop (.inl (by omega))
    by_cases h0 : st.2 = 0
    · have h0' : (st.2 != 0) = false := by simp [h0]
      have hend : kco (kao most) (s.data.toList, E) = (acc, st) := by
       rw [kel HN.out HST.out hend0]; simp [h0]
      have HE := hdd hend
      clear hend hend0 h0
      go_wp2
      go_ret
      exact ⟨_, rfl, by rw [HE.out, List.length_map]; exact HOWN.out, by rw [HE.out]; exact HR.out, HKK.out⟩
    · have h0' : (st.2 != 0) = true := by simpa using h0
      have hend : kco (kao most) (s.data.toList, E) = ([], st) := by
       rw [kel HN.out HST.out hend0]; simp [h0]
      have HE := hdd hend
      clear hend hend0 h0
      go_wp2
      go_ret
      exact ⟨_, rfl, by rw [HE.out]; exact World.ownsRow_nil _ _ _ _, by rw [HE.out]; exact HR.out, HKK.out⟩
end Go.Proofs.YtknpbekoenbphaaGreatDoor
namespace Licit.Rv
open Go Licit
structure Bd where
 k : Int
 b : Int
 h : Int
 p : Int
 g : Int
 q : Int
 s : Int
structure Bd.OK (B : Bd) : Prop where
 k : B.k ≤ 1
 b : 256 ≤ B.b
 h : 6 ≤ B.h
 p : 32 ≤ B.p
 g : 32 ≤ B.g
 q : 128 ≤ B.q
 s : 128 ≤ B.s
def de1 (B : Bd) (d : Bs) : Int × Licit.St := ka3 (B.k) (5) (d, 0)
def de2 (B : Bd) (d : Bs) : Bs × Licit.St := kao (32) (de1 B d).2
def de3 (B : Bd) (d : Bs) : Int × Licit.St := ka3 (0) (63) (de2 B d).2
def de4 (B : Bd) (d : Bs) : List Bs × Licit.St := ka5 32 (de3 B d).2
def de5 (B : Bd) (d : Bs) : Bs × Licit.St := kao (32) (de4 B d).2
def de6 (B : Bd) (d : Bs) : Int × Licit.St := ka3 (0) (B.b) (de5 B d).2
def de7 (B : Bd) (d : Bs) : Int × Licit.St := ka3 (0) (B.h) (de6 B d).2
def de8 (B : Bd) (d : Bs) : Bs × Licit.St := kao (B.p) (de7 B d).2
def de9 (B : Bd) (d : Bs) : Bs × Licit.St := kao (B.g) (de8 B d).2
def de10 (B : Bd) (d : Bs) : Bs × Licit.St := kao (B.q) (de9 B d).2
def de11 (B : Bd) (d : Bs) : Bs × Licit.St := kao (B.s) (de10 B d).2
def de12 (B : Bd) (d : Bs) : Bs × Licit.St := kao (200) (de11 B d).2
def de13 (B : Bd) (d : Bs) : Int × Licit.St := ka3 (0) (1000) (de12 B d).2
def de14 (B : Bd) (d : Bs) : List Bs × Licit.St := ka5 32 (de13 B d).2
def deEv (B : Bd) (d : Bs) : Ev := ⟨(de1 B d).1, (de2 B d).1, (de3 B d).1, (de4 B d).1, (de5 B d).1, (de6 B d).1, (de7 B d).1, (de8 B d).1, (de9 B d).1, (de10 B d).1, (de11 B d).1, (de12 B d).1, (de13 B d).1, (de14 B d).1, sg0⟩
def deOk (B : Bd) (d : Bs) : Bool := decide (ka4 (de14 B d).2 = 0) && validB (deEv B d)
theorem kbq {α : Type} {one : Licit.St → α × Licit.St} {enc : α → Bs × Int} (hz : ∀ st, st.2 ≠ 0 → (one st).2 = st) (hc : kpo one enc) (st : Licit.St) (h : (one st).2.2 = 0) : st.2 = 0 ∧ st.1 = (enc (one st).1).1 ++ (one st).2.1 := by
 have h0 : st.2 = 0 := by
  rcases Decidable.em (st.2 = 0) with x | x
  · exact x
  · rw [hz st x] at h; exact absurd h x
 have e : st = (st.1, 0) := Prod.ext rfl h0
 rw [e] at h ⊢
 exact ⟨rfl, (hc st.1 h).1⟩
theorem close_nil {st : Licit.St} (h : ka4 st = 0) : st.2 = 0 ∧ st.1 = [] := by
 unfold ka4 at h
 split at h
 · cases h
 · rename_i c
   refine ⟨h, ?_⟩
   rcases Decidable.em (st.1 = []) with x | x
   · exact x
   · exact absurd ⟨h, x⟩ c
theorem de_canon {B : Bd} {d : Bs} (h : deOk B d = true) : validB (deEv B d) = true ∧ encV (deEv B d) = d := by
 unfold deOk at h
 rw [Bool.and_eq_true, decide_eq_true_eq] at h
 refine ⟨h.2, ?_⟩
 obtain ⟨z14, n14⟩ := close_nil h.1
 obtain ⟨z13, n13⟩ := kbq (fun st h => by rw [show ka5 32 st = ([], st) from kkr h]) kdd (de13 B d).2 (show (ka5 32 (de13 B d).2).2.2 = 0 from z14)
 rw [show ka5 32 (de13 B d).2 = de14 B d from rfl, n14] at n13
 obtain ⟨z12, n12⟩ := kbq (fun st h => by rw [kgm h]) kem (de12 B d).2 (show (ka3 (0) (1000) (de12 B d).2).2.2 = 0 from z13)
 rw [show ka3 (0) (1000) (de12 B d).2 = de13 B d from rfl, n13] at n12
 obtain ⟨z11, n11⟩ := kbq (fun st h => by rw [kd1 h]) kc0 (de11 B d).2 (show (kao (200) (de11 B d).2).2.2 = 0 from z12)
 rw [show kao (200) (de11 B d).2 = de12 B d from rfl, n12] at n11
 obtain ⟨z10, n10⟩ := kbq (fun st h => by rw [kd1 h]) kc0 (de10 B d).2 (show (kao (B.s) (de10 B d).2).2.2 = 0 from z11)
 rw [show kao (B.s) (de10 B d).2 = de11 B d from rfl, n11] at n10
 obtain ⟨z9, n9⟩ := kbq (fun st h => by rw [kd1 h]) kc0 (de9 B d).2 (show (kao (B.q) (de9 B d).2).2.2 = 0 from z10)
 rw [show kao (B.q) (de9 B d).2 = de10 B d from rfl, n10] at n9
 obtain ⟨z8, n8⟩ := kbq (fun st h => by rw [kd1 h]) kc0 (de8 B d).2 (show (kao (B.g) (de8 B d).2).2.2 = 0 from z9)
 rw [show kao (B.g) (de8 B d).2 = de9 B d from rfl, n9] at n8
 obtain ⟨z7, n7⟩ := kbq (fun st h => by rw [kd1 h]) kc0 (de7 B d).2 (show (kao (B.p) (de7 B d).2).2.2 = 0 from z8)
 rw [show kao (B.p) (de7 B d).2 = de8 B d from rfl, n8] at n7
 obtain ⟨z6, n6⟩ := kbq (fun st h => by rw [kgm h]) kem (de6 B d).2 (show (ka3 (0) (B.h) (de6 B d).2).2.2 = 0 from z7)
 rw [show ka3 (0) (B.h) (de6 B d).2 = de7 B d from rfl, n7] at n6
 obtain ⟨z5, n5⟩ := kbq (fun st h => by rw [kgm h]) kem (de5 B d).2 (show (ka3 (0) (B.b) (de5 B d).2).2.2 = 0 from z6)
 rw [show ka3 (0) (B.b) (de5 B d).2 = de6 B d from rfl, n6] at n5
 obtain ⟨z4, n4⟩ := kbq (fun st h => by rw [kd1 h]) kc0 (de4 B d).2 (show (kao (32) (de4 B d).2).2.2 = 0 from z5)
 rw [show kao (32) (de4 B d).2 = de5 B d from rfl, n5] at n4
 obtain ⟨z3, n3⟩ := kbq (fun st h => by rw [show ka5 32 st = ([], st) from kkr h]) kdd (de3 B d).2 (show (ka5 32 (de3 B d).2).2.2 = 0 from z4)
 rw [show ka5 32 (de3 B d).2 = de4 B d from rfl, n4] at n3
 obtain ⟨z2, n2⟩ := kbq (fun st h => by rw [kgm h]) kem (de2 B d).2 (show (ka3 (0) (63) (de2 B d).2).2.2 = 0 from z3)
 rw [show ka3 (0) (63) (de2 B d).2 = de3 B d from rfl, n3] at n2
 obtain ⟨z1, n1⟩ := kbq (fun st h => by rw [kd1 h]) kc0 (de1 B d).2 (show (kao (32) (de1 B d).2).2.2 = 0 from z2)
 rw [show kao (32) (de1 B d).2 = de2 B d from rfl, n2] at n1
 obtain ⟨z0, n0⟩ := kbq (fun st h => by rw [kgm h]) kem ((d, 0) : Licit.St) (show (ka3 (B.k) (5) ((d, 0) : Licit.St)).2.2 = 0 from z1)
 rw [show ka3 (B.k) (5) ((d, 0) : Licit.St) = de1 B d from rfl, n1] at n0
 have e : d = _ := n0
 conv => rhs; rw [e]
 unfold encV deEv num tx txs
 simp only [List.append_assoc, List.append_nil]
theorem k0z {B : Bd} (hB : B.OK) {e : Ev} (h : validB e = true) : deOk B (encV e) = true ∧ deEv B (encV e) = { e with sg := sg0 } := by
 have I := valid_in h
 obtain ⟨b1, b2, b3, b4, b5, b6, b7⟩ := hB
 have e0 : encV e = (num e.kind ++ (tx e.author ++ (num e.number ++ (txs e.names ++ (tx e.root ++ (num e.bits ++ (num e.height ++ (tx e.pkg ++ (tx e.digest ++ (tx e.question ++ (tx e.scope ++ (tx e.answer ++ (num e.till ++ (txs e.targets ++ (([] : Bs)))))))))))))))) := by unfold encV; simp only [List.append_assoc, List.append_nil]
 have g1 : Licit.Good (ka3 (B.k) (5)) (num e.kind) e.kind := kct (n := e.kind) (by have := I.k1; omega) (by have := I.k5; omega) (by have := I.k1; omega) I.k5
 have x1 : de1 B (encV e) = (e.kind, ((tx e.author ++ (num e.number ++ (txs e.names ++ (tx e.root ++ (num e.bits ++ (num e.height ++ (tx e.pkg ++ (tx e.digest ++ (tx e.question ++ (tx e.scope ++ (tx e.answer ++ (num e.till ++ (txs e.targets ++ (([] : Bs))))))))))))))), 0)) := by unfold de1; rw [e0]; exact g1.back _
 have g2 : Licit.Good (kao (32)) (tx e.author) e.author := kbu (s := e.author) (by have := I.author; omega) (by have := I.author; omega)
 have x2 : de2 B (encV e) = (e.author, ((num e.number ++ (txs e.names ++ (tx e.root ++ (num e.bits ++ (num e.height ++ (tx e.pkg ++ (tx e.digest ++ (tx e.question ++ (tx e.scope ++ (tx e.answer ++ (num e.till ++ (txs e.targets ++ (([] : Bs)))))))))))))), 0)) := by unfold de2; rw [x1]; exact g2.back _
 have g3 : Licit.Good (ka3 (0) (63)) (num e.number) e.number := kct (n := e.number) I.n0 (by have := I.n1; omega) I.n0 I.n1
 have x3 : de3 B (encV e) = (e.number, ((txs e.names ++ (tx e.root ++ (num e.bits ++ (num e.height ++ (tx e.pkg ++ (tx e.digest ++ (tx e.question ++ (tx e.scope ++ (tx e.answer ++ (num e.till ++ (txs e.targets ++ (([] : Bs))))))))))))), 0)) := by unfold de3; rw [x2]; exact g3.back _
 have g4 : Licit.Good (ka5 32) (txs e.names) e.names := (kdi (by unfold kb1; rw [List.all_eq_true]; intro x hx; simpa using I.named x hx) (by have := I.names; omega)).1
 have x4 : de4 B (encV e) = (e.names, ((tx e.root ++ (num e.bits ++ (num e.height ++ (tx e.pkg ++ (tx e.digest ++ (tx e.question ++ (tx e.scope ++ (tx e.answer ++ (num e.till ++ (txs e.targets ++ (([] : Bs)))))))))))), 0)) := by unfold de4; rw [x3]; exact g4.back _
 have g5 : Licit.Good (kao (32)) (tx e.root) e.root := kbu (s := e.root) (by have := I.root; omega) (by have := I.root; omega)
 have x5 : de5 B (encV e) = (e.root, ((num e.bits ++ (num e.height ++ (tx e.pkg ++ (tx e.digest ++ (tx e.question ++ (tx e.scope ++ (tx e.answer ++ (num e.till ++ (txs e.targets ++ (([] : Bs))))))))))), 0)) := by unfold de5; rw [x4]; exact g5.back _
 have g6 : Licit.Good (ka3 (0) (B.b)) (num e.bits) e.bits := kct (n := e.bits) I.b0 (by have := I.b1; omega) I.b0 (by have := I.b1; omega)
 have x6 : de6 B (encV e) = (e.bits, ((num e.height ++ (tx e.pkg ++ (tx e.digest ++ (tx e.question ++ (tx e.scope ++ (tx e.answer ++ (num e.till ++ (txs e.targets ++ (([] : Bs)))))))))), 0)) := by unfold de6; rw [x5]; exact g6.back _
 have g7 : Licit.Good (ka3 (0) (B.h)) (num e.height) e.height := kct (n := e.height) I.h0 (by have := I.h1; omega) I.h0 (by have := I.h1; omega)
 have x7 : de7 B (encV e) = (e.height, ((tx e.pkg ++ (tx e.digest ++ (tx e.question ++ (tx e.scope ++ (tx e.answer ++ (num e.till ++ (txs e.targets ++ (([] : Bs))))))))), 0)) := by unfold de7; rw [x6]; exact g7.back _
 have g8 : Licit.Good (kao (B.p)) (tx e.pkg) e.pkg := kbu (s := e.pkg) (by have := I.pkg; omega) (by have := I.pkg; omega)
 have x8 : de8 B (encV e) = (e.pkg, ((tx e.digest ++ (tx e.question ++ (tx e.scope ++ (tx e.answer ++ (num e.till ++ (txs e.targets ++ (([] : Bs)))))))), 0)) := by unfold de8; rw [x7]; exact g8.back _
 have g9 : Licit.Good (kao (B.g)) (tx e.digest) e.digest := kbu (s := e.digest) (by have := I.digest; omega) (by have := I.digest; omega)
 have x9 : de9 B (encV e) = (e.digest, ((tx e.question ++ (tx e.scope ++ (tx e.answer ++ (num e.till ++ (txs e.targets ++ (([] : Bs))))))), 0)) := by unfold de9; rw [x8]; exact g9.back _
 have g10 : Licit.Good (kao (B.q)) (tx e.question) e.question := kbu (s := e.question) (by have := I.question; omega) (by have := I.question; omega)
 have x10 : de10 B (encV e) = (e.question, ((tx e.scope ++ (tx e.answer ++ (num e.till ++ (txs e.targets ++ (([] : Bs)))))), 0)) := by unfold de10; rw [x9]; exact g10.back _
 have g11 : Licit.Good (kao (B.s)) (tx e.scope) e.scope := kbu (s := e.scope) (by have := I.scope; omega) (by have := I.scope; omega)
 have x11 : de11 B (encV e) = (e.scope, ((tx e.answer ++ (num e.till ++ (txs e.targets ++ (([] : Bs))))), 0)) := by unfold de11; rw [x10]; exact g11.back _
 have g12 : Licit.Good (kao (200)) (tx e.answer) e.answer := kbu (s := e.answer) (by have := I.answer; omega) (by have := I.answer; omega)
 have x12 : de12 B (encV e) = (e.answer, ((num e.till ++ (txs e.targets ++ (([] : Bs)))), 0)) := by unfold de12; rw [x11]; exact g12.back _
 have g13 : Licit.Good (ka3 (0) (1000)) (num e.till) e.till := kct (n := e.till) I.t0 (by have := I.t1; omega) I.t0 I.t1
 have x13 : de13 B (encV e) = (e.till, ((txs e.targets ++ (([] : Bs))), 0)) := by unfold de13; rw [x12]; exact g13.back _
 have g14 : Licit.Good (ka5 32) (txs e.targets) e.targets := (kdi (by unfold kb1; rw [List.all_eq_true]; intro x hx; simpa using I.aimed x hx) (by have := I.aims; omega)).1
 have x14 : de14 B (encV e) = (e.targets, ((([] : Bs)), 0)) := by unfold de14; rw [x13]; exact g14.back _
 have hev : deEv B (encV e) = { e with sg := sg0 } := by
  unfold deEv
  rw [x1, x2, x3, x4, x5, x6, x7, x8, x9, x10, x11, x12, x13, x14]
 refine ⟨?_, hev⟩
 unfold deOk
 rw [hev, x14, show validB { e with sg := sg0 } = true from h]
 rfl
theorem de_same {B B' : Bd} (hB : B.OK) (hB' : B'.OK) (d : Bs) : deOk B d = deOk B' d ∧ (deOk B d = true → deEv B d = deEv B' d) := by
 have key : ∀ {B B' : Bd}, B'.OK → deOk B d = true → deOk B' d = true ∧ deEv B' d = deEv B d := by
  intro B B' hB' h
  obtain ⟨h1, h2⟩ := de_canon h
  obtain ⟨h3, h4⟩ := k0z hB' h1
  rw [h2] at h3 h4
  exact ⟨h3, h4⟩
 refine ⟨?_, fun h => (key hB' h).2.symm⟩
 cases h : deOk B d with
 | true => exact ((key hB' h).1).symm
 | false =>
   cases h' : deOk B' d with
   | false => rfl
   | true => have := (key hB h').1; rw [h] at this; cases this
end Licit.Rv
