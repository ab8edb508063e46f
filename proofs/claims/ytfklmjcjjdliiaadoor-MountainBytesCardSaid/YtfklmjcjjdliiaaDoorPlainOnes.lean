/- The number of ones of a number below 2^24, as package bits reckons it, is the number of its heights; plain numbers. -/
import Derived.Test.YtfklmjcjjdliiaaDoorPlainMt
namespace Licit

theorem and_cat {a b m M : Nat} (ha : a < 256) (hm : m < 256) : (a + 256 * b) &&& (m + 256 * M) = (a &&& m) + 256 * (b &&& M) := by
  have h1 := Nat.div_add_mod ((a + 256 * b) &&& (m + 256 * M)) 256
  have h2 : ((a + 256 * b) &&& (m + 256 * M)) % 256 = a &&& m := by
    have := Nat.and_mod_two_pow (a := a + 256 * b) (b := m + 256 * M) (n := 8)
    rw [show (2 : Nat) ^ 8 = 256 from rfl] at this
    rw [this, Nat.add_mul_mod_self_left, Nat.add_mul_mod_self_left, Nat.mod_eq_of_lt ha, Nat.mod_eq_of_lt hm]
  have h3 : ((a + 256 * b) &&& (m + 256 * M)) / 256 = b &&& M := by
    have := Nat.and_div_two_pow (a := a + 256 * b) (b := m + 256 * M) (n := 8)
    rw [show (2 : Nat) ^ 8 = 256 from rfl] at this
    rw [this, show (a + 256 * b) / 256 = b by omega, show (m + 256 * M) / 256 = M by omega]
  omega
theorem and_one (c m M : Nat) (hc : c < 256) (hm : m < 256) : c &&& (m + 256 * M) = c &&& m := by
  have := and_cat (b := 0) (M := M) hc hm
  simpa using this
theorem and_three {a b c m M : Nat} (ha : a < 256) (hb : b < 256) (hc : c < 256) (hm : m < 256) : (a + 256 * (b + 256 * c)) &&& (m + 256 * (m + 256 * (m + 256 * M))) = (a &&& m) + 256 * ((b &&& m) + 256 * (c &&& m)) := by
  rw [and_cat ha hm, and_cat hb hm, and_one c m M hc hm]

def g1 (a : Nat) : Nat := ((a / 2) &&& 85) + (a &&& 85)
def g2 (a : Nat) : Nat := ((a / 4) &&& 51) + (a &&& 51)
def pop8 (a : Nat) : Nat := (htsB 8 a).length
theorem ones1 : ∀ (a : Fin 256) (t : Fin 2), ((a.1 / 2 + 128 * t.1) &&& 85) + (a.1 &&& 85) = g1 a.1 := by decide +kernel
theorem ones2 : ∀ (a : Fin 256) (t : Fin 4), ((a.1 / 4 + 64 * t.1) &&& 51) + (a.1 &&& 51) = g2 a.1 := by decide +kernel
theorem ones1_lt : ∀ (a : Fin 256), g1 a.1 < 256 := by decide +kernel
theorem ones2_lt : ∀ (a : Fin 256), g2 (g1 a.1) < 256 ∧ g2 (g1 a.1) % 16 < 5 := by decide +kernel
theorem ones3 : ∀ (a : Fin 256) (t : Fin 5), g2 (g1 a.1) / 16 + 16 * t.1 + g2 (g1 a.1) < 256 ∧ (g2 (g1 a.1) / 16 + 16 * t.1 + g2 (g1 a.1)) &&& 15 = pop8 a.1 := by decide +kernel
theorem pop8_le (a : Nat) : pop8 a ≤ 8 := hts_len 8 a

def onesX1 (x : Nat) : Nat := (x / 2 &&& 6148914691236517205) + (x &&& 6148914691236517205)
def onesX2 (x : Nat) : Nat := (x / 4 &&& 3689348814741910323) + (x &&& 3689348814741910323)
def onesX3 (x : Nat) : Nat := (x / 16 + x) &&& 1085102592571150095
theorem onesX1_is {a b c : Nat} (ha : a < 256) (hb : b < 256) (hc : c < 256) : onesX1 (a + 256 * (b + 256 * c)) = g1 a + 256 * (g1 b + 256 * g1 c) := by
  unfold onesX1
  rw [show (6148914691236517205 : Nat) = 85 + 256 * (85 + 256 * (85 + 256 * 366503875925)) from rfl, and_three ha hb hc (by decide),
    show (a + 256 * (b + 256 * c)) / 2 = (a / 2 + 128 * (b % 2)) + 256 * ((b / 2 + 128 * (c % 2)) + 256 * (c / 2)) by omega, and_three (by omega) (by omega) (by omega) (by decide)]
  have h1 := ones1 ⟨a, ha⟩ ⟨b % 2, by omega⟩
  have h2 := ones1 ⟨b, hb⟩ ⟨c % 2, by omega⟩
  have h3 := ones1 ⟨c, hc⟩ ⟨0, by omega⟩
  simp only at h1 h2 h3
  rw [Nat.mul_zero, Nat.add_zero] at h3
  omega
theorem onesX2_is {a b c : Nat} (ha : a < 256) (hb : b < 256) (hc : c < 256) : onesX2 (a + 256 * (b + 256 * c)) = g2 a + 256 * (g2 b + 256 * g2 c) := by
  unfold onesX2
  rw [show (3689348814741910323 : Nat) = 51 + 256 * (51 + 256 * (51 + 256 * 219902325555)) from rfl, and_three ha hb hc (by decide),
    show (a + 256 * (b + 256 * c)) / 4 = (a / 4 + 64 * (b % 4)) + 256 * ((b / 4 + 64 * (c % 4)) + 256 * (c / 4)) by omega, and_three (by omega) (by omega) (by omega) (by decide)]
  have h1 := ones2 ⟨a, ha⟩ ⟨b % 4, by omega⟩
  have h2 := ones2 ⟨b, hb⟩ ⟨c % 4, by omega⟩
  have h3 := ones2 ⟨c, hc⟩ ⟨0, by omega⟩
  simp only at h1 h2 h3
  rw [Nat.mul_zero, Nat.add_zero] at h3
  omega
theorem hts_split (x : Nat) (k : Nat) : ∀ j, (htsB (k + j) x).length = (htsB k (x % 2 ^ k)).length + (htsB j (x / 2 ^ k)).length
  | 0 => by
    have : ∀ H n m, n % 2 ^ H = m % 2 ^ H → htsB H n = htsB H m := by
      intro H
      induction H with
      | zero => intros; rfl
      | succ h ih =>
        intro n m e
        have e1 : n % 2 ^ h = m % 2 ^ h := by
          have := congrArg (· % 2 ^ h) e
          simpa [Nat.pow_succ, Nat.mod_mul_right_mod] using this
        have e2 : n / 2 ^ h % 2 = m / 2 ^ h % 2 := by
          rw [mod_two_pow_succ', mod_two_pow_succ' m, e1] at e
          have hp := Nat.two_pow_pos h
          exact Nat.eq_of_mul_eq_mul_left hp (by omega)
        rw [htsB, htsB, e2, ih n m e1]
    rw [Nat.add_zero, this k x (x % 2 ^ k) (by simp)]
    simp [htsB]
  | j + 1 => by
    have ih := hts_split x k j
    rw [← Nat.add_assoc, htsB, htsB, Nat.pow_add, ← Nat.div_div_eq_div_mul]
    split <;> simp [ih]; omega
theorem hts_bytes {a b c : Nat} (ha : a < 256) (hb : b < 256) (_ : c < 256) : (htsB 24 (a + 256 * (b + 256 * c))).length = pop8 a + pop8 b + pop8 c := by
  have h1 := hts_split (a + 256 * (b + 256 * c)) 8 16
  have h2 := hts_split (b + 256 * c) 8 8
  rw [show 2 ^ 8 = 256 from rfl] at h1 h2
  rw [show 8 + 16 = 24 from rfl, show (a + 256 * (b + 256 * c)) % 256 = a by omega, show (a + 256 * (b + 256 * c)) / 256 = b + 256 * c by omega] at h1
  rw [show 8 + 8 = 16 from rfl, show (b + 256 * c) % 256 = b by omega, show (b + 256 * c) / 256 = c by omega] at h2
  rw [h1, h2]
  unfold pop8
  omega
theorem hts_high {n H : Nat} (hn : n < 2 ^ H) : ∀ k, htsB (H + k) n = htsB H n
  | 0 => rfl
  | k + 1 => by
    have : n < 2 ^ (H + k) := Nat.lt_of_lt_of_le hn (Nat.pow_le_pow_right (by decide) (by omega))
    rw [← Nat.add_assoc, htsB, Nat.div_eq_of_lt this, if_neg (by omega), hts_high hn k]
theorem ones_end (A B' C : Nat) (hA : A ≤ 8) (hB : B' ≤ 8) (hC : C ≤ 8) : A + 256 * (B' + 256 * C) < 2 ^ 24 ∧ (let y := A + 256 * (B' + 256 * C); let z := y + y / 256; let u := z + z / 65536; (u + u / 4294967296) % 128 = A + B' + C ∧ u + u / 4294967296 < 2 ^ 30) := by
  dsimp only
  have e1 : (A + 256 * (B' + 256 * C)) / 256 = B' + 256 * C := by omega
  rw [e1]
  have e2 : (A + 256 * (B' + 256 * C) + (B' + 256 * C)) / 65536 = C := by omega
  rw [e2]
  have e3 : A + 256 * (B' + 256 * C) + (B' + 256 * C) + C = (A + B' + C) + 128 * (2 * B' + 514 * C) := by omega
  have e4 : ((A + B' + C) + 128 * (2 * B' + 514 * C)) / 4294967296 = 0 := by omega
  rw [e3, e4, Nat.add_zero, Nat.add_mul_mod_self_left, Nat.mod_eq_of_lt (by omega)]
  exact ⟨by omega, rfl, by omega⟩
/-- What package bits reckons. -/
theorem ones_is {x : Nat} (hx : x < 2 ^ 21) :
    onesX3 (onesX2 (onesX1 x)) < 2 ^ 24 ∧ (let y := onesX3 (onesX2 (onesX1 x)); let z := y + y / 256; let u := z + z / 65536; (u + u / 4294967296) % 128 = (hts x).length ∧ u + u / 4294967296 < 2 ^ 30) := by
  obtain ⟨a, ha⟩ : ∃ a, x % 256 = a := ⟨_, rfl⟩
  obtain ⟨b, hb⟩ : ∃ b, x / 256 % 256 = b := ⟨_, rfl⟩
  obtain ⟨c, hc⟩ : ∃ c, x / 65536 = c := ⟨_, rfl⟩
  have ha' : a < 256 := by omega
  have hb' : b < 256 := by omega
  have hc' : c < 256 := by omega
  have hxx : x = a + 256 * (b + 256 * c) := by omega
  have hh : (hts x).length = pop8 a + pop8 b + pop8 c := by
    rw [← hts_bytes ha' hb' hc', ← hxx, show 24 = 21 + 3 from rfl, hts_high hx 3]
  have l1 := ones1_lt ⟨a, ha'⟩
  have l2 := ones1_lt ⟨b, hb'⟩
  have l3 := ones1_lt ⟨c, hc'⟩
  have m1 := ones2_lt ⟨a, ha'⟩
  have m2 := ones2_lt ⟨b, hb'⟩
  have m3 := ones2_lt ⟨c, hc'⟩
  have n1 := ones3 ⟨a, ha'⟩ ⟨g2 (g1 b) % 16, m2.2⟩
  have n2 := ones3 ⟨b, hb'⟩ ⟨g2 (g1 c) % 16, m3.2⟩
  have n3 := ones3 ⟨c, hc'⟩ ⟨0, by omega⟩
  simp only at l1 l2 l3 m1 m2 m3 n1 n2 n3
  have h3 : onesX3 (onesX2 (onesX1 x)) = pop8 a + 256 * (pop8 b + 256 * pop8 c) := by
    rw [hxx, onesX1_is ha' hb' hc', onesX2_is l1 l2 l3]
    unfold onesX3
    generalize g2 (g1 a) = A at *
    generalize g2 (g1 b) = B' at *
    generalize g2 (g1 c) = C at *
    rw [show (1085102592571150095 : Nat) = 15 + 256 * (15 + 256 * (15 + 256 * 64677154575)) from rfl,
      show (A + 256 * (B' + 256 * C)) / 16 + (A + 256 * (B' + 256 * C)) = (A / 16 + 16 * (B' % 16) + A) + 256 * ((B' / 16 + 16 * (C % 16) + B') + 256 * (C / 16 + 16 * 0 + C)) by omega,
      and_three n1.1 n2.1 n3.1 (by decide), n1.2, n2.2, n3.2]
  have p1 := pop8_le a
  have p2 := pop8_le b
  have p3 := pop8_le c
  rw [h3, hh]
  exact ones_end _ _ _ p1 p2 p3
end Licit
