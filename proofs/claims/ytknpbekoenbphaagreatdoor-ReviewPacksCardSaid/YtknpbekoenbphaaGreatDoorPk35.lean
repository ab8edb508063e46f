/- Parts of the proofs: PlainAll, PlainSig, WkList, PlainRf, WkRefSig, WkRefSig2, WkFormed. No condition beyond those at each theorem. -/
import Derived.Test.YtknpbekoenbphaaGreatDoorPk24
import Derived.Test.YtknpbekoenbphaaGreatDoorPk29
import Derived.Test.YtknpbekoenbphaaGreatDoorPk30
set_option linter.unusedVariables false
set_option linter.unusedSimpArgs false
set_option maxHeartbeats 16000000
set_option maxRecDepth 100000
namespace Licit
open Go Go.Lib
def kbx (i : Int) (S H R : List Bs) : Bool := decide (0 ≤ i) && decide (i < 64) && decide (S.length = H.length) && decide (S.length ≤ 256) && decide (R.length ≤ 6) && kb1 S && kb1 H && kb1 R
end Licit
namespace Licit
def kfx (i : Int) (S H R : List Bs) : Bs := num i ++ (ka7 kar S).1 ++ (ka7 kar H).1 ++ (ka7 kar R).1
theorem kgc {i : Int} {S H R : List Bs} : kbx i S H R = true ↔ 0 ≤ i ∧ i < 64 ∧ S.length = H.length ∧ S.length ≤ 256 ∧ R.length ≤ 6 ∧ kb1 S = true ∧ kb1 H = true ∧ kb1 R = true := by
 unfold kbx
 simp only [Bool.and_eq_true, decide_eq_true_eq]
 constructor
 · rintro ⟨⟨⟨⟨⟨⟨⟨a, b⟩, c⟩, d⟩, e⟩, f⟩, g⟩, h⟩; exact ⟨a, b, c, d, e, f, g, h⟩
 · rintro ⟨a, b, c, d, e, f, g, h⟩; exact ⟨⟨⟨⟨⟨⟨⟨a, b⟩, c⟩, d⟩, e⟩, f⟩, g⟩, h⟩
end Licit
namespace Go.Proofs.YtknpbekoenbphaaGreatDoor
open Go Go.RowKit Licit
theorem kxl (n : Int) (h : n ≤ 9223372036854775807) : (ke2 n).1.length ≤ 65600 := by
 unfold ke2
 split
 · simp
 · have := kdr (n := n) (by omega) h
   rw [kbt] at this
   simp; omega
end Go.Proofs.YtknpbekoenbphaaGreatDoor
namespace Licit.Rv
open Go Licit
def Cx.decR (c : Cx) (i : Nat) (s : Bs) : Option Nat := if findI c.ids s < c.ids.length ∧ c.past i (findI c.ids s) = true ∧ (c.ev (findI c.ids s)).kind = 3 then some (findI c.ids s) else none
end Licit.Rv
namespace Go.Proofs.YtknpbekoenbphaaGreatDoor
open Go Go.RowKit Licit
theorem kls (xs : List Bs) (k : Nat) (hk : k < xs.length) (h : kb1 (xs.take k) = true) : kb1 (xs.take (k + 1)) = decide ((xs.getD k []).length = 32) := by
 unfold kb1 at *
 rw [List.take_add_one, List.all_append, h, List.getElem?_eq_getElem hk, List.getD_eq_getElem?_getD, List.getElem?_eq_getElem hk]
 simp
theorem kqu (xs : List Bs) (k : Nat) (hk : k < xs.length) (h : (xs.getD k []).length ≠ 32) : kb1 xs = false := by
 unfold kb1
 rw [List.all_eq_false]
 refine ⟨xs.getD k [], ?_, by simpa using h⟩
 rw [List.getD_eq_getElem?_getD, List.getElem?_eq_getElem hk]
 exact List.getElem_mem _
theorem khg (v : Value) (xs : List Bs) (w : World) (h : IsSl v (xs.map vS) w) : Calls Tryz.prog 195 #[v] w fun e w' => e = .returned (.bool (kb1 xs)) ∧ w' = w := by
 obtain ⟨a, cap, rfl⟩ := h.formMap
 have hmx := h.1
 rw [List.length_map] at hmx
 unfold maxLen at hmx
 have H := hdd h
 clear h
 go_enter Tryz.func195, Tryz.ntmps195
 go_wp2
 go_loopw [3] (fun n wr => wr = w ∧ ∃ k : Nat, k ≤ xs.length ∧ n = .int .i64 k ∧ kb1 (xs.take k) = true) (fun n _ => xs.length - (intOf n).toNat)
 case atStart => exact ⟨rfl, 0, by omega, rfl, by simp [kb1]⟩
 case round =>
  obtain ⟨rfl, k, hk, rfl, hA⟩ := hrel
  have HA := hdd hA
  clear hA
  by_cases hlt : k < xs.length
  · have h2 := H.out
    obtain ⟨b, off, cap', hv, hb, hc⟩ := h2.text rfl hlt
    simp only [Value.slice.injEq, true_and] at hv
    obtain ⟨rfl, rfl⟩ := hv
    obtain ⟨x, hx⟩ : ∃ x, xs.getD k [] = x := ⟨_, rfl⟩
    rw [hx] at hc
    obtain ⟨m, hm⟩ : ∃ m : Nat, (B x).size = m := ⟨_, rfl⟩
    have hml : m = (xs.getD k []).length := by rw [hx, ← hm]; rfl
    have Hm := hdd hml
    have Hx := hdd hx
    clear hx hml h2
    by_cases h32 : m = 32
    · have hq : ((m : Int) == 32) = true := by simp; omega
      go_wp2
      go_roundw
      case rel => exact ⟨trivial, k + 1, by omega, by go_num, by rw [kls xs k hlt HA.out, ← Hm.out]; simpa using h32⟩
      case measure => simp [intOf]; omega
    · have hq : ((m : Int) == 32) = false := by simp; omega
      go_wp2
      go_ret
      rw [kqu xs k hlt (by rw [← Hm.out]; exact h32)]
      exact ⟨rfl, rfl⟩
  · obtain rfl : k = xs.length := by omega
    have hA := HA.out
    rw [List.take_length] at hA
    go_wp2
    go_ret
    rw [hA]
    exact ⟨rfl, rfl⟩
theorem knd (v : Value) (i : Int) (S H R : List Bs) (w : World) (h : kec v i S H R w) :
 Calls Tryz.prog 146 #[v] w fun e w' => e = .returned (.bool (kbx i S H R)) ∧ Below w.heap.size w w' := by
 obtain ⟨vs, vh, vr, rfl, hS, hH, hR⟩ := h
 have hB1 : Below w.heap.size w (w.alloc (.cells #[.int .i64 i, vs, vh, vr] 43)) := (Below.refl _ _).alloc (Nat.le_refl _) _
 have HS := hdd (hS.below hB1)
 have HH := hdd (hH.below hB1)
 have HR := hdd (hR.below hB1)
 have hSl := hS.1
 have hHl := hH.1
 have hRl := hR.1
 rw [List.length_map] at hSl hHl hRl
 unfold maxLen at hSl hHl hRl
 obtain ⟨sa, sc, rfl⟩ := hS.formMap
 obtain ⟨ha, hc, rfl⟩ := hH.formMap
 obtain ⟨ra, rc, rfl⟩ := hR.formMap
 have HB1 := hdd hB1
 clear hS hH hR hB1
 by_cases c1 : 0 ≤ i
 rotate_left
 · have d1 : decide (0 ≤ i) = false := by simpa using c1
   have hq : kbx i S H R = false := by unfold kbx; rw [decide_eq_false c1]; simp
   rw [hq]
   clear hq
   go_enter Tryz.func146, Tryz.ntmps146
   go_wp2
   go_ret
   exact ⟨rfl, HB1.out⟩
 have d1 : decide (0 ≤ i) = true := by simpa using c1
 by_cases c2 : i < 64
 rotate_left
 · have d2 : decide (i < 64) = false := by simpa using c2
   have hq : kbx i S H R = false := by unfold kbx; rw [decide_eq_false c2]; simp
   rw [hq]
   clear hq
   go_enter Tryz.func146, Tryz.ntmps146
   go_wp2
   go_ret
   exact ⟨rfl, HB1.out⟩
 have d2 : decide (i < 64) = true := by simpa using c2
 by_cases c3 : S.length = H.length
 rotate_left
 · have d3 : ((S.length : Int) == (H.length : Int)) = false := by simp; omega
   have hq : kbx i S H R = false := by unfold kbx; rw [decide_eq_false c3]; simp
   rw [hq]
   clear hq
   go_enter Tryz.func146, Tryz.ntmps146
   go_wp2
   go_ret
   exact ⟨rfl, HB1.out⟩
 have d3 : (S.length : Int) = (H.length : Int) := by omega
 have C3 := hdd c3
 clear c3
 by_cases c4 : S.length ≤ 256
 rotate_left
 · have d4 : decide ((H.length : Int) ≤ 256) = false := by have := C3.out; simp; omega
   have hq : kbx i S H R = false := by unfold kbx; rw [decide_eq_false c4]; simp
   rw [hq]
   clear hq
   go_enter Tryz.func146, Tryz.ntmps146
   go_wp2
   go_ret
   exact ⟨rfl, HB1.out⟩
 have d4 : decide ((H.length : Int) ≤ 256) = true := by have := C3.out; simp; omega
 by_cases c5 : R.length ≤ 6
 rotate_left
 · have d5 : decide ((R.length : Int) ≤ 6) = false := by simp; omega
   have hq : kbx i S H R = false := by unfold kbx; rw [decide_eq_false c5]; simp
   rw [hq]
   clear hq
   go_enter Tryz.func146, Tryz.ntmps146
   go_wp2
   go_ret
   exact ⟨rfl, HB1.out⟩
 have d5 : decide ((R.length : Int) ≤ 6) = true := by simp; omega
 have hq : kbx i S H R = (kb1 S && kb1 H && kb1 R) := by
  unfold kbx
  rw [decide_eq_true c1, decide_eq_true c2, decide_eq_true C3.out, decide_eq_true c4, decide_eq_true c5]
  simp
 rw [hq]
 have hCS := khg _ _ _ HS.out
 have hCH := khg _ _ _ HH.out
 have hCR := khg _ _ _ HR.out
 cases hA : kb1 S with
 | false =>
   rw [hA] at hCS
   have HCS := hdd hCS
   clear HS HH HR hCS hCH hCR hq c1 c2 c4 c5 hA
   go_enter Tryz.func146, Tryz.ntmps146
   go_wp2_with (go_at_call 195; refine HCS.out.mono ?_; rintro e w' ⟨rfl, rfl⟩)
   go_ret
   exact ⟨rfl, HB1.out⟩
 | true =>
   cases hA2 : kb1 H with
   | false =>
     rw [hA] at hCS
     rw [hA2] at hCH
     have HCS := hdd hCS
     have HCH := hdd hCH
     clear HS HH HR hCS hCH hCR hq c1 c2 c4 c5 hA hA2
     go_enter Tryz.func146, Tryz.ntmps146
     go_wp2_with fail
     refine HCS.out.mono ?_
     rintro e w' ⟨rfl, rfl⟩
     go_wp2_with fail
     refine HCH.out.mono ?_
     rintro e w' ⟨rfl, rfl⟩
     go_wp2
     go_ret
     exact ⟨rfl, HB1.out⟩
   | true =>
     rw [hA] at hCS
     rw [hA2] at hCH
     have HCS := hdd hCS
     have HCH := hdd hCH
     have HCR := hdd hCR
     clear HS HH HR hCS hCH hCR hq c1 c2 c4 c5 hA hA2
     go_enter Tryz.func146, Tryz.ntmps146
     go_wp2_with fail
     refine HCS.out.mono ?_
     rintro e w' ⟨rfl, rfl⟩
     go_wp2_with fail
     refine HCH.out.mono ?_
     rintro e w' ⟨rfl, rfl⟩
     go_wp2_with fail
     refine HCR.out.mono ?_
     rintro e w' ⟨rfl, rfl⟩
     go_wp2
     go_ret
     exact ⟨rfl, HB1.out⟩
theorem kme (x : Bs) (w : World) : Calls Tryz.prog 194 #[.string (B x)] w fun e w' => e = .returned (.bool (!(decide (x.length = 32)))) ∧ w' = w := by
 have hs : (B x).size = x.length := rfl
 by_cases h : x.length = 32
 · have hq : (((B x).size : Int) == 32) = true := by simp; omega
   go_enter Tryz.func194, Tryz.ntmps194
   go_wp2
   go_ret
   refine ⟨?_, rfl⟩
   simp [h]
 · have hq : (((B x).size : Int) == 32) = false := by simp; omega
   go_enter Tryz.func194, Tryz.ntmps194
   go_wp2
   go_ret
   refine ⟨?_, rfl⟩
   rw [decide_eq_false h]
   simp
   exact fun e => h (by exact_mod_cast e)
theorem krq (g : Nat) (eg : ∀ args w, (callFunc g args).run Tryz.prog w = .ok (.enter g args) w) (hg : ∀ (x : Bs) (W : World), Calls Tryz.prog g #[.string (B x)] W fun e w' => e = .returned (.bool (!(decide (x.length = 32)))) ∧ w' = W)
 (v : Value) (xs : List Bs) (w : World) (h : IsSl v (xs.map vS) w) :
 Calls Tryz.prog 190 #[v, .func (.func g) #[] #[]] w fun e w' => (∃ r : Int, e = .returned (.int .i64 r) ∧ decide (r < 0) = kb1 xs) ∧ w' = w := by
 obtain ⟨a, cap, rfl⟩ := h.formMap
 have hmx := h.1
 rw [List.length_map] at hmx
 unfold maxLen at hmx
 have H := hdd h
 clear h
 go_enter Tryz.func190, Tryz.ntmps190
 go_wp2
 go_loopw [5, 8] (fun _ n wr => wr = w ∧ ∃ k : Nat, k ≤ xs.length ∧ n = .int .i64 k ∧ kb1 (xs.take k) = true) (fun _ n _ => xs.length - (intOf n).toNat)
 case atStart => exact ⟨rfl, 0, by omega, rfl, by simp [kb1]⟩
 case round =>
  obtain ⟨rfl, k, hk, rfl, hA⟩ := hrel
  have HA := hdd hA
  clear hA
  by_cases hlt : k < xs.length
  · have h2 := H.out
    obtain ⟨b, off, cap', hv, hb, hc⟩ := h2.text rfl hlt
    simp only [Value.slice.injEq, true_and] at hv
    obtain ⟨rfl, rfl⟩ := hv
    obtain ⟨x, hx⟩ : ∃ x, xs.getD k [] = x := ⟨_, rfl⟩
    rw [hx] at hc
    have Hx := hdd hx
    have hcall := hg x
    clear hx h2
    by_cases h32 : x.length = 32
    · rw [decide_eq_true h32, Bool.not_true] at hcall
      have H32 := hdd h32
      clear hg h32
      go_wp2_with (go_at_fn g; refine (hcall _).mono ?_; rintro e w' ⟨rfl, rfl⟩)
      go_roundw
      case rel => exact ⟨trivial, k + 1, by omega, by go_num, by rw [kls xs k hlt HA.out, Hx.out]; simpa using H32.out⟩
      case measure => simp [intOf]; omega
    · rw [decide_eq_false h32, Bool.not_false] at hcall
      have H32 := hdd h32
      clear hg h32
      go_wp2_with (go_at_fn g; refine (hcall _).mono ?_; rintro e w' ⟨rfl, rfl⟩)
      go_ret
      rw [kqu xs k hlt (by rw [Hx.out]; exact H32.out)]
      exact ⟨⟨_, rfl, by simp⟩, rfl⟩
  · obtain rfl : k = xs.length := by omega
    have hA := HA.out
    rw [List.take_length] at hA
    have HA := hdd hA
    clear hA
    go_wp2
    go_ret
    rw [HA.out]
    exact ⟨⟨_, rfl, by simp⟩, rfl⟩
theorem kf0 (g : Nat) (eg : ∀ args w, (callFunc g args).run Tryz.prog w = .ok (.enter g args) w) (hg : ∀ (x : Bs) (W : World), Calls Tryz.prog g #[.string (B x)] W fun e w' => e = .returned (.bool (!(decide (x.length = 32)))) ∧ w' = W)
 (v : Value) (xs : List Bs) (w : World) (h : IsSl v (xs.map vS) w) :
 Calls Tryz.prog 130 #[v, .func (.func g) #[] #[]] w fun e w' => e = .returned (.bool (!(kb1 xs))) ∧ w' = w := by
 have HI := hdd (krq g eg hg v xs w h)
 clear h hg
 go_enter Tryz.func130, Tryz.ntmps130
 go_wp2_with (go_at_call 190; refine HI.out.mono ?_; rintro e w' ⟨⟨r, rfl, hr⟩, rfl⟩)
 go_ret
 refine ⟨?_, rfl⟩
 rw [← hr]
 by_cases h0 : r < 0 <;> simp [h0] <;> omega
theorem klo (v : Value) (i : Int) (S H R : List Bs) (w : World) (h : kec v i S H R w) :
 Calls Tryz.prog 141 #[v] w fun e w' => e = .returned (.bool (kbx i S H R)) ∧ Below w.heap.size w w' := by
 obtain ⟨vs, vh, vr, rfl, hS, hH, hR⟩ := h
 have hB1 : Below w.heap.size w (w.alloc (.cells #[.int .i64 i, vs, vh, vr] 43)) := (Below.refl _ _).alloc (Nat.le_refl _) _
 have hB2 : Below w.heap.size w ((w.alloc (.cells #[.int .i64 i, vs, vh, vr] 43)).alloc (.cells #[vs, vh, vr] 39)) := hB1.alloc (by simp) _
 have HS := hdd (hS.below hB2)
 have HH := hdd (hH.below hB2)
 have HR := hdd (hR.below hB2)
 have hSl := hS.1
 have hHl := hH.1
 have hRl := hR.1
 rw [List.length_map] at hSl hHl hRl
 unfold maxLen at hSl hHl hRl
 obtain ⟨sa, sc, rfl⟩ := hS.formMap
 obtain ⟨ha, hc, rfl⟩ := hH.formMap
 obtain ⟨ra, rc, rfl⟩ := hR.formMap
 have HB1 := hdd hB1
 have HB2 := hdd hB2
 clear hS hH hR hB1 hB2
 by_cases c1 : i < 0
 · have d1 : decide (i < 0) = true := by simpa using c1
   have hq : kbx i S H R = false := by unfold kbx; rw [decide_eq_false (by omega)]; simp
   rw [hq]
   clear hq
   go_enter Tryz.func141, Tryz.ntmps141
   go_wp2
   go_ret
   exact ⟨rfl, HB1.out⟩
 have d1 : decide (i < 0) = false := by simpa using c1
 by_cases c2 : 64 ≤ i
 · have d2 : decide (64 ≤ i) = true := by simpa using c2
   have hq : kbx i S H R = false := by unfold kbx; rw [decide_eq_false (p := i < 64) (by omega)]; simp
   rw [hq]
   clear hq
   go_enter Tryz.func141, Tryz.ntmps141
   go_wp2
   go_ret
   exact ⟨rfl, HB1.out⟩
 have d2 : decide (64 ≤ i) = false := by simpa using c2
 by_cases c3 : S.length = H.length
 rotate_left
 · have d3 : ((S.length : Int) == (H.length : Int)) = false := by simp; omega
   have hq : kbx i S H R = false := by unfold kbx; rw [decide_eq_false c3]; simp
   rw [hq]
   clear hq
   go_enter Tryz.func141, Tryz.ntmps141
   go_wp2
   go_ret
   exact ⟨rfl, HB1.out⟩
 have d3 : (S.length : Int) = (H.length : Int) := by omega
 have C3 := hdd c3
 clear c3
 by_cases c4 : 256 < S.length
 · have d4 : decide (256 < (H.length : Int)) = true := by have := C3.out; simp; omega
   have hq : kbx i S H R = false := by unfold kbx; rw [decide_eq_false (p := S.length ≤ 256) (by omega)]; simp
   rw [hq]
   clear hq
   go_enter Tryz.func141, Tryz.ntmps141
   go_wp2
   go_ret
   exact ⟨rfl, HB1.out⟩
 have d4 : decide (256 < (H.length : Int)) = false := by have := C3.out; simp; omega
 by_cases c5 : 6 < R.length
 · have d5 : decide (6 < (R.length : Int)) = true := by simp; omega
   have hq : kbx i S H R = false := by unfold kbx; rw [decide_eq_false (p := R.length ≤ 6) (by omega)]; simp
   rw [hq]
   clear hq
   go_enter Tryz.func141, Tryz.ntmps141
   go_wp2
   go_ret
   exact ⟨rfl, HB1.out⟩
 have d5 : decide (6 < (R.length : Int)) = false := by simp; omega
 have hq : kbx i S H R = (kb1 S && kb1 H && kb1 R) := by
  unfold kbx
  rw [decide_eq_true (p := 0 ≤ i) (by omega), decide_eq_true (p := i < 64) (by omega), decide_eq_true C3.out, decide_eq_true (p := S.length ≤ 256) (by omega), decide_eq_true (p := R.length ≤ 6) (by omega)]
  simp
 rw [hq]
 obtain ⟨w2, hw2⟩ : ∃ w2, (w.alloc (.cells #[.int .i64 i, .slice sa S.length sc, .slice ha H.length hc, .slice ra R.length rc] 43)).alloc (.cells #[.slice sa S.length sc, .slice ha H.length hc, .slice ra R.length rc] 39) = w2 := ⟨_, rfl⟩
 have hr : w2.heap[w.heap.size + 1]? = some (.cells #[.slice sa S.length sc, .slice ha H.length hc, .slice ra R.length rc] 39) := by rw [← hw2]; exact kaj (by simp) rfl
 have hc0 : w2.cell? ⟨w.heap.size + 1, 0, none⟩ = some (.slice sa S.length sc) := kab hr 0
 have hc1 : w2.cell? ⟨w.heap.size + 1, 1, none⟩ = some (.slice ha H.length hc) := kab hr 1
 have hc2 : w2.cell? ⟨w.heap.size + 1, 2, none⟩ = some (.slice ra R.length rc) := kab hr 2
 have hCS := kf0 194 (enters_of Tryz.func194 (by kernel_rfl) rfl) kme _ _ _ HS.out
 have hCH := kf0 194 (enters_of Tryz.func194 (by kernel_rfl) rfl) kme _ _ _ HH.out
 have hCR := kf0 194 (enters_of Tryz.func194 (by kernel_rfl) rfl) kme _ _ _ HR.out
 rw [hw2] at hCS hCH hCR HB2
 have HCS := hdd hCS
 have HCH := hdd hCH
 have HCR := hdd hCR
 clear HS HH HR hCS hCH hCR hq hr HB1 c1 c2 c4 c5
 go_enter Tryz.func141, Tryz.ntmps141
 go_wp2
 clear hw2
 go_loopw [4, 42] (fun _ n wr => wr = w2 ∧ ∃ k : Nat, k ≤ 3 ∧ n = .int .i64 k ∧ (1 ≤ k → kb1 S = true) ∧ (2 ≤ k → kb1 H = true) ∧ (3 ≤ k → kb1 R = true)) (fun _ n _ => 3 - (intOf n).toNat)
 case atStart => exact ⟨rfl, 0, by omega, rfl, by omega, by omega, by omega⟩
 case round =>
  obtain ⟨rfl, k, hk, rfl, h1, h2, h3⟩ := hrel
  have H1 := hdd h1
  have H2 := hdd h2
  have H3 := hdd h3
  clear h1 h2 h3
  have hk4 : k = 0 ∨ k = 1 ∨ k = 2 ∨ k = 3 := by omega
  rcases hk4 with rfl | rfl | rfl | rfl
  · cases hA : kb1 S with
    | true =>
      rw [hA] at HCS
      go_wp2_with (go_at_call 130; refine HCS.out.mono ?_; rintro e w' ⟨rfl, rfl⟩)
      go_roundw
      case rel => exact ⟨trivial, 1, by omega, rfl, fun _ => by first | exact hA | trivial, by omega, by omega⟩
      case measure => simp [intOf]
    | false =>
      rw [hA] at HCS
      go_wp2_with (go_at_call 130; refine HCS.out.mono ?_; rintro e w' ⟨rfl, rfl⟩)
      go_ret
      exact ⟨by first | rfl | (rw [hA]; rfl), HB2.out⟩
  · have hS := H1.out (by omega)
    cases hA : kb1 H with
    | true =>
      rw [hA] at HCH
      go_wp2_with (go_at_call 130; refine HCH.out.mono ?_; rintro e w' ⟨rfl, rfl⟩)
      go_roundw
      case rel => exact ⟨trivial, 2, by omega, rfl, fun _ => hS, fun _ => by first | exact hA | trivial, by omega⟩
      case measure => simp [intOf]
    | false =>
      rw [hA] at HCH
      go_wp2_with (go_at_call 130; refine HCH.out.mono ?_; rintro e w' ⟨rfl, rfl⟩)
      go_ret
      exact ⟨by first | (rw [hS]; rfl) | (rw [hS, hA]; rfl), HB2.out⟩
  · have hS := H1.out (by omega)
    have hH := H2.out (by omega)
    cases hA : kb1 R with
    | true =>
      rw [hA] at HCR
      go_wp2_with (go_at_call 130; refine HCR.out.mono ?_; rintro e w' ⟨rfl, rfl⟩)
      go_roundw
      case rel => exact ⟨trivial, 3, by omega, rfl, fun _ => hS, fun _ => hH, fun _ => by first | exact hA | trivial⟩
      case measure => simp [intOf]
    | false =>
      rw [hA] at HCR
      go_wp2_with (go_at_call 130; refine HCR.out.mono ?_; rintro e w' ⟨rfl, rfl⟩)
      go_ret
      exact ⟨by first | (rw [hS, hH]; rfl) | (rw [hS, hH, hA]; rfl), HB2.out⟩
  · have hS := H1.out (by omega)
    have hH := H2.out (by omega)
    have hR := H3.out (by omega)
    have HA := hdd (show (kb1 S && kb1 H && kb1 R) = true by rw [hS, hH, hR]; rfl)
    clear hS hH hR
    go_wp2
    go_ret
    rw [HA.out]
    exact ⟨rfl, HB2.out⟩
end Go.Proofs.YtknpbekoenbphaaGreatDoor
