/- awake of the laws of layer 48 returns true; where the table of strconv lies as laid. -/
import Derived.Test.YtdkjehagkmkokaaDoorWkCheckA
import Derived.Test.YtdkjehagkmkokaaDoorWkSigners
namespace Go.Proofs.YtdkjehagkmkokaaDoor
open Go Go.RowKit Licit

def kSeed : Bs := [115, 101, 101, 100]
def kMsg : Bs := [97, 32, 109, 101, 115, 115, 97, 103, 101]
def kOther : Bs := [97, 110, 111, 116, 104, 101, 114, 32, 111, 110, 101]
theorem aw_root (W : World) (ht : Tab W) : Calls Tryd.prog 13 #[.string ⟨#[115, 101, 101, 100]⟩, .agg #[.int .i64 8, .int .i64 1]] W fun e w' => e = .returned (.tuple #[.string (B (rootB kSeed 8 1)), .int .i64 0]) ∧ Below W.heap.size W w' :=
  Root_any kSeed 8 1 W (by decide) (by decide) ht
theorem aw_new (W : World) (ht : Tab W) : Calls Tryd.prog 21 #[.string ⟨#[115, 101, 101, 100]⟩, .agg #[.int .i64 8, .int .i64 1]] W fun e w' =>
      ∃ p tv, e = .returned (.tuple #[.pointer (some ⟨p, 0, none⟩), .int .i64 0]) ∧ W.heap.size ≤ p ∧ SignerIs p kSeed 8 1 tv 0 w' ∧ RowsStay W.heap.size p tv kSeed 8 1 w' ∧ Below W.heap.size W w' :=
  NewS_any kSeed 8 1 W (by decide) (by decide) ht
theorem aw_skip1 {p : Nat} {tv : Value} {W : World} (hS : SignerIs p kSeed 8 1 tv 0 W) : Calls Tryd.prog 23 #[.pointer (some ⟨p, 0, none⟩), .int .i64 1] W fun e w' => e = .returned (.int .i64 0) ∧ SignerIs p kSeed 8 1 tv 1 w' ∧ Kept (Licit.One p) W w' :=
  Skip_ok p kSeed 8 1 0 1 tv W hS (by decide) (by decide) (by decide)
theorem aw_skip0 {p : Nat} {tv : Value} {W : World} (hS : SignerIs p kSeed 8 1 tv 1 W) : Calls Tryd.prog 23 #[.pointer (some ⟨p, 0, none⟩), .int .i64 0] W fun e w' => e = .returned (.int .i64 14) ∧ w' = W :=
  Skip_back p kSeed 8 1 1 0 tv W hS (by decide) (by decide) (by decide)
theorem aw_left {p : Nat} {tv : Value} {W : World} (hS : SignerIs p kSeed 8 1 tv 1 W) : Calls Tryd.prog 27 #[.pointer (some ⟨p, 0, none⟩)] W fun e w' => e = .returned (.int .i64 1) ∧ ∃ q, w' = W.drewN q :=
  SLeft_any p kSeed 8 1 1 tv W hS (by decide) (by decide)
theorem aw_sign {p : Nat} {tv : Value} {W : World} (hS : SignerIs p kSeed 8 1 tv 1 W) (ht : ∀ w', Kept (Licit.One p) W w' → Tab w') (hr : ∀ w', Kept (Licit.One p) W w' → IsRows tv ((List.range (1 + 1)).map (rowB kSeed 8 1)) w') :
    Calls Tryd.prog 24 #[.pointer (some ⟨p, 0, none⟩), .string ⟨#[97, 32, 109, 101, 115, 115, 97, 103, 101]⟩] W fun e w' =>
      ∃ v, e = .returned (.tuple #[v, .int .i64 0]) ∧ IsSig W.heap.size v 1 (shownN kSeed (Sha.sha kMsg) 1 8) (hiddenN kSeed (Sha.sha kMsg) 1 8) (routeN kSeed 8 1 1 1) w' ∧ SignerIs p kSeed 8 1 tv (2 ^ 1) w' ∧ Kept (Licit.One p) W w' := by
  obtain ⟨vs, _, hsl, _⟩ := hr W (Kept.refl _ _)
  obtain ⟨a, cap, e⟩ := hsl.form
  exact SSign_next p kSeed kMsg 8 1 1 tv W hS (by decide) (by decide) (by decide) (by decide) (by decide) ht hr ⟨a, _, cap, e⟩
theorem aw_full {p : Nat} {tv : Value} {W : World} (hS : SignerIs p kSeed 8 1 tv (2 ^ 1) W) :
    Calls Tryd.prog 24 #[.pointer (some ⟨p, 0, none⟩), .string ⟨#[97, 110, 111, 116, 104, 101, 114, 32, 111, 110, 101]⟩] W fun e w' => e = .returned (.tuple #[.agg #[.int .i64 0, .slice none 0 0, .slice none 0 0, .slice none 0 0], .int .i64 15]) ∧ Below W.heap.size W w' :=
  SSign_full p kSeed kOther 8 1 tv W hS (by decide)
theorem aw_check {v : Value} {W : World} (hs : SigIs v 1 (shownN kSeed (Sha.sha kMsg) 1 8) (hiddenN kSeed (Sha.sha kMsg) 1 8) (routeN kSeed 8 1 1 1) W) (ht : Tab W) :
    Calls Tryd.prog 19 #[.string (B (rootB kSeed 8 1)), .agg #[.int .i64 8, .int .i64 1], .string ⟨#[97, 32, 109, 101, 115, 115, 97, 103, 101]⟩, v] W fun e w' => e = .returned (.int .i64 0) ∧ Below W.heap.size W w' := by
  have h := Check_any (rootB kSeed 8 1) kMsg 8 1 v 1 _ _ _ W (by decide) hs ht
  have e : checkB (rootB kSeed 8 1) 8 1 kMsg 1 (shownN kSeed (Sha.sha kMsg) 1 8) (hiddenN kSeed (Sha.sha kMsg) 1 8) (routeN kSeed 8 1 1 1) = 0 := check_signed kSeed kMsg kMsg 8 1 1 (by decide) (by decide) (fun _ _ => rfl)
  rw [e] at h
  exact h
theorem aw_check' {R : Bs} {v : Value} {W : World} (hR : rootB kSeed 8 1 = R) (hs : SigIs v 1 (shownN kSeed (Sha.sha kMsg) 1 8) (hiddenN kSeed (Sha.sha kMsg) 1 8) (routeN kSeed 8 1 1 1) W) (ht : Tab W) :
    Calls Tryd.prog 19 #[.string (B R), .agg #[.int .i64 8, .int .i64 1], .string ⟨#[97, 32, 109, 101, 115, 115, 97, 103, 101]⟩, v] W fun e w' => e = .returned (.int .i64 0) ∧ Below W.heap.size W w' := hR ▸ aw_check hs ht
theorem rootB_len (seed : Bs) (b h : Nat) : (rootB seed b h).length = 32 := by
  have hl := rowB_len seed b h (Nat.le_refl h)
  unfold rootB
  rw [List.getD_eq_getElem?_getD, List.getElem?_eq_getElem (by rw [hl]; simp)]
  exact rowB_mem h _ (List.getElem_mem _)

set_option maxHeartbeats 2000000 in
set_option maxRecDepth 100000 in
theorem awake_any48 (w : World) (ht : Tab w) : Calls Tryd.prog 11 #[] w fun e w' => e = .returned (.bool true) ∧ Below w.heap.size w w' := by
  obtain ⟨R, hR⟩ : ∃ R, rootB kSeed 8 1 = R := ⟨_, rfl⟩
  have hR32 : ((B R).size : Int) = 32 := by rw [← hR]; exact congrArg Int.ofNat ((B_size _).trans (rootB_len _ _ _))
  have HR := Lib.hid hR
  clear hR
  go_enter Tryd.func11, Tryd.ntmps11
  go_wp2_with fail
  refine (aw_root _ (ht.same ((Below.refl _ _).alloc (Nat.le_refl _) _))).mono ?_
  rintro e w1 ⟨rfl, hb⟩
  rw [HR.out]
  have hk1 : w1.heap[w.heap.size]? = some (.cells #[.int .i64 8, .int .i64 1] 23) := (hb.block _ (by simp)).trans (new_of _ _)
  have hb1 := ((Below.refl w.heap.size w).alloc (Nat.le_refl _) _).next hb
  have Hk1 := Lib.hid hk1
  have ht1 := ht.same hb1
  have Hb1 := Lib.hid hb1
  obtain ⟨k0, k1⟩ := key_cells hk1
  clear hb hb1 hk1
  go_wp2_with fail
  refine (aw_new _ ht1).mono ?_
  rintro e w2 ⟨p, tv, rfl, hp, hS2, hrs, hb2⟩
  have Hb2 := Lib.hid (Hb1.out.next hb2)
  have HS2 := Lib.hid hS2
  have HRS := Lib.hid hrs
  have hwp : w.heap.size < p := Nat.lt_of_lt_of_le (lt_of Hk1.out) hp
  have Hk2 := Lib.hid ((hb2.block _ (lt_of Hk1.out)).trans Hk1.out)
  clear hb2 hS2 hrs k0 k1
  go_wp2_with fail
  refine (aw_skip1 HS2.out).mono ?_
  rintro e w3 ⟨rfl, hS3, hK3⟩
  have HS3 := Lib.hid hS3
  have HK3 := Lib.hid hK3
  clear hS3 hK3
  go_wp2_with fail
  refine (aw_skip0 HS3.out).mono ?_
  rintro e w3' ⟨rfl, rfl⟩
  go_wp2_with fail
  refine (aw_left HS3.out).mono ?_
  rintro e w4 ⟨rfl, q, hw4⟩
  have hK4 : Kept (Licit.One p) w2 w4 := by rw [hw4]; exact ⟨HK3.out.os, HK3.out.tape, HK3.out.output, HK3.out.size, HK3.out.block⟩
  have hS4 : SignerIs p kSeed 8 1 tv 1 w4 := by rw [hw4]; exact HS3.out
  have hz2 : p < w2.heap.size := lt_of (show w2.heap[p]? = _ from HS2.out)
  have hB2 : ∀ w', Kept (Licit.One p) w2 w' → Below w.heap.size w w' := fun w' hk => Hb2.out.trans (hk.below Hb2.out.size (fun q hq e => by have : q = p := e; omega))
  have HT4 := Lib.hid (show ∀ w', Kept (Licit.One p) w4 w' → Tab w' from fun w' hk => ht.same (hB2 w' (hK4.trans hk)))
  have HR4 := Lib.hid (show ∀ w', Kept (Licit.One p) w4 w' → IsRows tv ((List.range (1 + 1)).map (rowB kSeed 8 1)) w' from fun w' hk => HRS.out _ _ (hK4.trans hk) (fun _ _ _ h e => h e))
  have HS4 := Lib.hid hS4
  have HK4 := Lib.hid hK4
  have HB2 := Lib.hid hB2
  clear hw4 hK4 hS4 hB2
  go_wp2_with fail
  refine (aw_sign HS4.out HT4.out HR4.out).mono ?_
  rintro e w5 ⟨v, rfl, hsg, hS5, hK5⟩
  have hsi := SigIs.of_sig hsg (by rw [shownN_len]; decide) (by rw [hiddenN_len]; decide) (by rw [routeN_len]; decide)
  obtain ⟨vs, vh, vr, rfl, o1, o2, o3⟩ := hsg
  obtain ⟨sa, sc, rfl⟩ := own_form o1
  obtain ⟨ha, hc, rfl⟩ := own_form o2
  obtain ⟨ra, rc, rfl⟩ := own_form o3
  rw [shownN_len, hiddenN_len, routeN_len] at hsi
  rw [shownN_len, hiddenN_len, routeN_len]
  have HSI := Lib.hid hsi
  have HS5 := Lib.hid hS5
  have HK5 := Lib.hid (HK4.out.trans hK5)
  clear o1 o2 o3 hsi hS5 hK5
  go_wp2_with fail
  refine (aw_full (show SignerIs p kSeed 8 1 tv (2 ^ 1) _ from old_of HS5.out)).mono ?_
  rintro e w7 ⟨rfl, hb7⟩
  have hz5 : p < w5.heap.size := lt_of (show w5.heap[p]? = _ from HS5.out)
  have hB5 := HB2.out _ HK5.out
  have hs7 : w7.heap[w5.heap.size]? = some (.cells #[.int .i64 1, .slice sa 8 sc, .slice ha 8 hc, .slice ra 1 rc] 34) := (hb7.block _ (by simp)).trans (new_of _ _)
  have hz2' := Hb2.out.size
  have hk7 : w7.heap[w.heap.size]? = some (.cells #[.int .i64 8, .int .i64 1] 23) := (hb7.block _ (by simp; omega)).trans ((Below.heap_alloc _ _ _ (by omega)).trans ((HK5.out.block _ (by omega) (fun e => by have : w.heap.size = p := e; omega)).trans Hk2.out))
  have hb7' : Below w5.heap.size w5 w7 := ((Below.refl _ _).alloc (Nat.le_refl _) _).trans (hb7.mono (by simp))
  obtain ⟨c0, c1, c2, c3⟩ := sig_cells hs7
  obtain ⟨k0, k1⟩ := key_cells hk7
  have hB7 : Below w.heap.size w w7 := hB5.next hb7' (by have := hB5.size; omega)
  have HB7 := Lib.hid hB7
  have HSI7 := Lib.hid (HSI.out.below hb7')
  have Hs7 := Lib.hid hs7
  have hwz : w5.heap.size < w7.heap.size := lt_of hs7
  have hwz7 : w.heap.size < w7.heap.size := lt_of hk7
  clear hb7 hs7 hk7 hb7' hB7 hB5
  go_wp2_with fail
  have hb8 := (HB7.out.alloc HB7.out.size (.cells #[.int .i64 0, .slice none 0 0, .slice none 0 0, .slice none 0 0] 34))
  refine (aw_check' HR.out (HSI7.out.below ((Below.refl _ _).alloc (Nat.le_refl _) _)) (ht.same hb8)).mono ?_
  rintro e w9 ⟨rfl, hb9⟩
  have HB9 := Lib.hid (hb8.trans (hb9.mono (by have := HB7.out.size; simp; omega)))
  clear hb9 hb8
  go_wp2
  go_ret
  exact ⟨rfl, HB9.out⟩
end Go.Proofs.YtdkjehagkmkokaaDoor
