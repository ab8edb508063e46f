/- Steps of the reference of mountain: the heights of the steps from a size to another one. -/
import Derived.Test.YtfklmjcjjdliiaaDoorWkMtC
import Derived.Test.YtfklmjcjjdliiaaDoorWkMt8
import Derived.Deep.Cut
namespace Go.Proofs.YtfklmjcjjdliiaaDoor
open Go Go.RowKit Licit

set_option maxHeartbeats 8000000 in
set_option maxRecDepth 100000 in
theorem RSteps_any (a b : Nat) (w : World) (hb : b ≤ 1048576) (hab : a ≤ b) :
    Calls Tryd.prog 63 #[.int .i64 (a : Int), .int .i64 (b : Int)] w fun e w' => ∃ v, e = .returned v ∧ w'.ownsRow w.heap.size 3 1 v (stepsL a b).length ((stepsL a b).map vN) ∧ Below w.heap.size w w' := by
  obtain ⟨i0, hi0, hz0, hz1, hz2⟩ := info_parts Tryd.infoInt49
  have Hi := Lib.hid hi0
  have Hz0 := Lib.hid hz0
  have Hz1 := Lib.hid hz1
  have Hz2 := Lib.hid hz2
  clear hi0 hz0 hz1 hz2
  go_enter Tryd.func63, Tryd.ntmps63
  go_wp2
  go_loopw [0, 5, 6] (fun f v _ wr => ∃ (k : Nat) (acc : List Nat), k ≤ b ∧ acc.length ≤ k ∧ f = .int .i64 (k : Int) ∧ acc ++ stepsL k b = stepsL a b ∧ wr.ownsRow w.heap.size 3 1 v acc.length (acc.map vN) ∧ Below w.heap.size w wr) (fun f _ _ _ => b - (intOf f).toNat)
  case atStart => exact ⟨a, [], hab, Nat.zero_le _, rfl, rfl, World.ownsRow_nil _ _ _ _, Below.refl _ _⟩
  case round =>
    obtain ⟨k, acc, hkb, hak, rfl, hacc, ho, hbw⟩ := hrel
    have HO := Lib.hid ho
    have HB := Lib.hid hbw
    have HA := Lib.hid hacc
    obtain ⟨va, vc, rfl⟩ := own_form ho
    clear ho hbw hacc
    by_cases hlt : k < b
    · have d1 : decide ((k : Int) < (b : Int)) = true := by simp; omega
      go_wp2
      obtain ⟨W0, hW0⟩ : ∃ W0, wr = W0 := ⟨_, rfl⟩
      subst hW0
      go_loopw [6] (fun h' wi => ∃ hh : Nat, hh ≤ 20 ∧ h' = .int .i64 (hh : Int) ∧ k % 2 ^ hh = 0 ∧ k + 2 ^ hh ≤ b ∧ wi = wr) (fun h' _ => 20 - (intOf h').toNat)
      case atStart => exact ⟨0, by omega, rfl, by simp [Nat.mod_one], by rw [Nat.pow_zero]; omega, rfl⟩
      case round =>
        obtain ⟨hh, h20, rfl, hm, hle, rfl⟩ := hrel
        have Hm := Lib.hid hm
        clear hm
        obtain ⟨p2, hp2⟩ : ∃ p2, 2 ^ hh = p2 := ⟨_, rfl⟩
        rw [hp2] at hle
        have hp20 : 0 < p2 := by rw [← hp2]; exact Nat.two_pow_pos hh
        have hp21 : p2 ≤ 1048576 := by rw [← hp2]; exact Nat.le_trans (Nat.pow_le_pow_right (by decide) h20) (by decide)
        have hcv : IntKind.u64.wrap (hh : Int) = (hh : Int) := by rw [IntKind.wrap_u64]; omega
        have hkm : min hh 64 = hh := by omega
        have hk64 : hh ≤ 64 := by omega
        have hpi : (1 : Int) * 2 ^ hh = (p2 : Int) := by rw [← hp2]; simp
        have hpi' : (2 : Int) ^ hh = (p2 : Int) := by rw [← hp2]; simp
        have hw1 : IntKind.i64.wrap (p2 : Int) = (p2 : Int) := by rw [IntKind.wrap_i64]; omega
        obtain ⟨q, hq⟩ : ∃ q, 2 * p2 = q := ⟨_, rfl⟩
        have hq2 : (2 : Int) * (p2 : Int) = (q : Int) := by omega
        have hwq : IntKind.i64.wrap (q : Int) = (q : Int) := by rw [IntKind.wrap_i64]; omega
        have hqz : ¬ (q : Int) = 0 := by omega
        have hqn : ¬ q = 0 := by omega
        obtain ⟨r, hr⟩ : ∃ r, k % q = r := ⟨_, rfl⟩
        have hrm : (k : Int) % (q : Int) = (r : Int) := by rw [← hr]; simp
        have hrt : (k : Int).tmod (q : Int) = (r : Int) := by rw [Int.tmod_eq_emod_of_nonneg (by omega), hrm]
        by_cases c1 : hh < 20
        · have e1 : decide ((hh : Int) < 20) = true := by simp; omega
          by_cases c2 : r = 0
          · subst c2
            by_cases c3 : k + q ≤ b
            · have e3 : decide ((k : Int) + (q : Int) ≤ (b : Int)) = true := by simp; omega
              have hm2 : k % 2 ^ (hh + 1) = 0 := by rw [Nat.pow_succ, Nat.mul_comm, hp2, hq]; exact hr
              have hl2 : k + 2 ^ (hh + 1) ≤ b := by rw [Nat.pow_succ, Nat.mul_comm (2 ^ hh), hp2, hq]; exact c3
              have Hm2 := Lib.hid hm2
              have Hl2 := Lib.hid hl2
              clear hp2 hq hm2 hl2
              go_wp2
              go_roundw
              case rel => exact ⟨hh + 1, by omega, by go_num, Hm2.out, Hl2.out, trivial⟩
              case measure => simp [intOf]; omega
            · have e3 : decide ((k : Int) + (q : Int) ≤ (b : Int)) = false := by simp; omega
              have hst : hStep k b = hh := hStep_is hlt (by omega) Hm.out (by rw [hp2]; exact hle) (by rw [Nat.pow_succ, Nat.mul_comm, hp2, hq]; exact (fun h => c3 h.2))
              have HST := Lib.hid hst
              have HP2 := Lib.hid hp2
              clear hst hp2 hq
              go_wp2_with (first
                | (at_builtin
                   go_loud (
                   refine wpList_append_own _ rfl _ _ 66 rfl w.heap.size 3 i0 (.int .i64 0) 1 8 Tryd.underlying66 Hi.out Hz0.out Hz1.out Hz2.out rfl (by decide) _ acc.length (acc.map vN) rfl (HO.out.alloc _) ⟨wr.heap.size, 0, none⟩ 1 1 [vN hh] rfl rfl (news_one (new_of _ _)) (by simp [vN, Value.oneCell']) (by unfold maxLen; omega) (by omega) (by have := HB.out.size; simp; omega) ?_
                   intro v3 w3 ho3 hg3 _
                   have hb3 : Below w.heap.size w w3 := (HB.out.alloc HB.out.size _).grown hg3 (by have := HB.out.size; simp; omega) (fun q hq => by have := HO.out.lt q hq; exact this.1)
                   have HO3 := Lib.hid ho3
                   have HB3 := Lib.hid hb3
                   clear ho3 hg3 hb3)))
              go_roundw
              case rel => exact ⟨k + p2, acc ++ [hh], by omega, by rw [List.length_append, List.length_singleton]; omega, by go_num, by rw [List.append_assoc, ← HA.out, stepsL_go hlt, HST.out, HP2.out]; rfl, by rw [List.length_append, List.map_append]; exact HO3.out, HB3.out⟩
              case measure => simp [intOf]; omega
          · have e2 : ((r : Int) == 0) = false := by rw [beq_eq_false_iff_ne]; omega
            have hst : hStep k b = hh := hStep_is hlt (by omega) Hm.out (by rw [hp2]; exact hle) (by rw [Nat.pow_succ, Nat.mul_comm, hp2, hq]; exact (fun h => c2 (hr.symm.trans h.1)))
            have HST := Lib.hid hst
            have HP2 := Lib.hid hp2
            clear hst hp2 hq
            go_wp2_with (first
              | (at_builtin
                 go_loud (
                 refine wpList_append_own _ rfl _ _ 66 rfl w.heap.size 3 i0 (.int .i64 0) 1 8 Tryd.underlying66 Hi.out Hz0.out Hz1.out Hz2.out rfl (by decide) _ acc.length (acc.map vN) rfl (HO.out.alloc _) ⟨wr.heap.size, 0, none⟩ 1 1 [vN hh] rfl rfl (news_one (new_of _ _)) (by simp [vN, Value.oneCell']) (by unfold maxLen; omega) (by omega) (by have := HB.out.size; simp; omega) ?_
                 intro v3 w3 ho3 hg3 _
                 have hb3 : Below w.heap.size w w3 := (HB.out.alloc HB.out.size _).grown hg3 (by have := HB.out.size; simp; omega) (fun q hq => by have := HO.out.lt q hq; exact this.1)
                 have HO3 := Lib.hid ho3
                 have HB3 := Lib.hid hb3
                 clear ho3 hg3 hb3)))
            go_roundw
            case rel => exact ⟨k + p2, acc ++ [hh], by omega, by rw [List.length_append, List.length_singleton]; omega, by go_num, by rw [List.append_assoc, ← HA.out, stepsL_go hlt, HST.out, HP2.out]; rfl, by rw [List.length_append, List.map_append]; exact HO3.out, HB3.out⟩
            case measure => simp [intOf]; omega
        · have e1 : decide ((hh : Int) < 20) = false := by simp; omega
          have hh20 : hh = 20 := by omega
          have hbq : b < q := by rw [hh20] at hp2; omega
          clear hh20
          have hst : hStep k b = hh := hStep_is hlt (by omega) Hm.out (by rw [hp2]; exact hle) (by rw [Nat.pow_succ, Nat.mul_comm, hp2, hq]; exact (fun h => absurd h.2 (by omega)))
          have HST := Lib.hid hst
          have HP2 := Lib.hid hp2
          clear hst hp2 hq
          go_wp2_with (first
            | (at_builtin
               go_loud (
               refine wpList_append_own _ rfl _ _ 66 rfl w.heap.size 3 i0 (.int .i64 0) 1 8 Tryd.underlying66 Hi.out Hz0.out Hz1.out Hz2.out rfl (by decide) _ acc.length (acc.map vN) rfl (HO.out.alloc _) ⟨wr.heap.size, 0, none⟩ 1 1 [vN hh] rfl rfl (news_one (new_of _ _)) (by simp [vN, Value.oneCell']) (by unfold maxLen; omega) (by omega) (by have := HB.out.size; simp; omega) ?_
               intro v3 w3 ho3 hg3 _
               have hb3 : Below w.heap.size w w3 := (HB.out.alloc HB.out.size _).grown hg3 (by have := HB.out.size; simp; omega) (fun q hq => by have := HO.out.lt q hq; exact this.1)
               have HO3 := Lib.hid ho3
               have HB3 := Lib.hid hb3
               clear ho3 hg3 hb3)))
          go_roundw
          case rel => exact ⟨k + p2, acc ++ [hh], by omega, by rw [List.length_append, List.length_singleton]; omega, by go_num, by rw [List.append_assoc, ← HA.out, stepsL_go hlt, HST.out, HP2.out]; rfl, by rw [List.length_append, List.map_append]; exact HO3.out, HB3.out⟩
          case measure => simp [intOf]; omega
    · obtain rfl : k = b := by omega
      have d1 : decide ((k : Int) < (k : Int)) = false := by simp
      go_wp2
      go_ret
      have := HA.out
      rw [stepsL_end (by omega), List.append_nil] at this
      rw [← this]
      exact ⟨_, rfl, HO.out, HB.out⟩
theorem takeSnoc49 {α : Type} {l : List α} {k : Nat} {h : α} (e : l[k]? = some h) : l.take (k + 1) = l.take k ++ [h] := by rw [List.take_add_one, e]; rfl
theorem sum2_take_le (hs : List Nat) (k : Nat) : sum2 (hs.take k) ≤ sum2 hs := by
  have := sum2_append (hs.take k) (hs.drop k)
  rw [List.take_append_drop] at this
  omega
theorem len_le_sum2 : ∀ hs : List Nat, hs.length ≤ sum2 hs
  | [] => Nat.le_refl _
  | h :: hs => by have := len_le_sum2 hs; have := Nat.two_pow_pos h; rw [List.length_cons, sum2]; omega

set_option maxHeartbeats 8000000 in
set_option maxRecDepth 100000 in
theorem RMtGrow_any (v : Value) (l : List Bs) (i : Int) (w : World) (h : IsSl v (l.map vS) w) (hcv : SlCap v) :
    Calls Tryd.prog 33 #[v, .int .i64 i] w fun e w' => ∃ v', e = .returned (.tuple #[v', .int .i64 (growE l i)]) ∧ w'.ownsRow w.heap.size 9 1 v' (growP l i).length ((growP l i).map vS) ∧ Below w.heap.size w w' := by
  obtain ⟨i0, hi, hz0, hz1, hz2⟩ := info_parts Tryd.infoStr
  have Hi := Lib.hid hi
  have Hz0 := Lib.hid hz0
  have Hz1 := Lib.hid hz1
  have Hz2 := Lib.hid hz2
  clear hi hz0 hz1 hz2
  have HC := Lib.hid (fun W (hb : Below w.heap.size w W) => RCheck49_any v l W (h.below hb))
  have H := Lib.hid h
  obtain ⟨a0, cap0, rfl⟩ := h.formMap
  have hcap : l.length ≤ cap0 := hcv
  have hmx := h.1
  rw [List.length_map] at hmx
  unfold maxLen at hmx
  clear h hcv
  obtain ⟨C, hC⟩ : ∃ C, checkM l = C := ⟨_, rfl⟩
  rw [hC] at HC
  have HR0 := Lib.hid (Below.refl w.heap.size w)
  by_cases hc : C = 0
  rotate_left
  · have hs : growE l i = C := by unfold growE; rw [hC, if_neg hc]
    have hp : growP l i = [] := by unfold growP; rw [hs, if_neg hc]
    rw [hs, hp]
    have hcl : (C == 0) = false := by simpa using hc
    clear hC hs hp
    go_enter Tryd.func33, Tryd.ntmps33
    go_wp2_with fail
    refine (HC.out _ HR0.out).mono ?_
    rintro e w1 ⟨rfl, rfl⟩
    go_wp2
    go_ret2
    exact ⟨_, rfl, World.ownsRow_nil _ _ _ _, HR0.out⟩
  subst hc
  obtain ⟨hl, h32⟩ := checkM_iff.1 hC
  have HL32 := Lib.hid (all32_get h32)
  by_cases h0 : i < 0
  · have hs : growE l i = 3 := by unfold growE; rw [hC, if_pos rfl, if_neg (by omega)]
    have hp : growP l i = [] := by unfold growP; rw [hs]; rfl
    rw [hs, hp]
    have d1 : decide (i < 0) = true := by simpa using h0
    clear hC hs hp
    go_enter Tryd.func33, Tryd.ntmps33
    go_wp2_with fail
    refine (HC.out _ HR0.out).mono ?_
    rintro e w1 ⟨rfl, rfl⟩
    go_wp2
    go_ret2
    exact ⟨_, rfl, World.ownsRow_nil _ _ _ _, HR0.out⟩
  obtain ⟨j, rfl⟩ : ∃ j : Nat, i = (j : Int) := ⟨i.toNat, by omega⟩
  have d1 : decide ((j : Int) < 0) = false := by simp
  by_cases hjl : l.length < j
  · have hs : growE l (j : Int) = 3 := by unfold growE; rw [hC, if_pos rfl, if_neg (by omega)]
    have hp : growP l (j : Int) = [] := by unfold growP; rw [hs]; rfl
    rw [hs, hp]
    have d2 : decide ((l.length : Int) < (j : Int)) = true := by simp; omega
    clear hC hs hp
    go_enter Tryd.func33, Tryd.ntmps33
    go_wp2_with fail
    refine (HC.out _ HR0.out).mono ?_
    rintro e w1 ⟨rfl, rfl⟩
    go_wp2
    go_ret2
    exact ⟨_, rfl, World.ownsRow_nil _ _ _ _, HR0.out⟩
  have d2 : decide ((l.length : Int) < (j : Int)) = false := by simp; omega
  have hs : growE l (j : Int) = 0 := by unfold growE; rw [hC, if_pos rfl, if_pos (by omega)]
  have hp : growP l (j : Int) = growN l j l.length := by unfold growP; rw [hs, if_pos rfl, Int.toNat_natCast]
  rw [hs, hp]
  unfold growN
  have hsum := sum2_steps _ j l.length (Nat.le_refl _) (by omega)
  have HSt := Lib.hid (fun W => RSteps_any j l.length W (by omega) (by omega))
  obtain ⟨ST, hST⟩ : ∃ x, stepsL j l.length = x := ⟨_, rfl⟩
  obtain ⟨N, hN⟩ : ∃ x, ST.length = x := ⟨_, rfl⟩
  rw [hST] at hsum HSt ⊢
  rw [hN] at HSt
  have HSum := Lib.hid hsum
  have HN := Lib.hid hN
  have hNl : N ≤ l.length := by rw [← hN]; have := len_le_sum2 ST; omega
  rw [cutsL_len, hN]
  clear hC hs hp hST h32 hsum hN
  go_enter Tryd.func33, Tryd.ntmps33
  go_wp2_with fail
  refine (HC.out _ HR0.out).mono ?_
  rintro e w1 ⟨rfl, rfl⟩
  go_wp2_with fail
  refine (HSt.out _).mono ?_
  rintro e w2 ⟨sv, rfl, hso, hb2⟩
  have HB2 := Lib.hid hb2
  have HS2 := Lib.hid hso
  obtain ⟨sa, sc, rfl⟩ := own_form hso
  clear hb2 hso
  go_wp2
  go_loopw [7, 9, 10] (fun v at' n wr => ∃ (k A : Nat), k ≤ N ∧ A = j + sum2 (ST.take k) ∧ n = .int .i64 (k : Int) ∧ at' = .int .i64 (A : Int) ∧ wr.ownsRow w2.heap.size 9 1 v k ((cutsL (ST.take k) (l.drop j)).map vS) ∧ Below w2.heap.size w2 wr) (fun _ _ n _ => N - (intOf n).toNat)
  case atStart => exact ⟨0, j, by omega, by simp [sum2], rfl, rfl, World.ownsRow_nil _ _ _ _, Below.refl _ _⟩
  case round =>
    obtain ⟨k, A, hk, hA, rfl, rfl, ho, hb⟩ := hrel
    have HO := Lib.hid ho
    have HB' := Lib.hid hb
    have HB := Lib.hid (HB2.out.trans (hb.mono HB2.out.size))
    have HAe := Lib.hid hA
    obtain ⟨va, vc, rfl⟩ := own_form ho
    clear ho hb hA
    by_cases hlt : k < N
    · obtain ⟨h, hh⟩ : ∃ h, ST[k]? = some h := ⟨_, List.getElem?_eq_getElem (by rw [HN.out]; exact hlt)⟩
      have hHr : wr.ownsRow w1.heap.size 3 1 (.slice sa N sc) N (ST.map vN) := ownsRow_block HS2.out (fun q _ hlt => HB'.out.block q hlt)
      obtain ⟨g, gc, hg, _, _, _⟩ := own_some hHr (by omega)
      simp only [Value.slice.injEq, true_and] at hg
      obtain ⟨rfl, rfl⟩ := hg
      have hcell : wr.cell? ⟨g, k, none⟩ = some (.int .i64 (h : Int)) := by
        rw [ownCell hHr (by rw [List.length_map, HN.out]; exact hlt), List.getElem?_map, hh]
        rfl
      have htk := takeSnoc49 hh
      have hle : sum2 (ST.take k) + 2 ^ h ≤ l.length - j := by
        have := sum2_take_le ST (k + 1)
        rw [htk, sum2_append, HSum.out] at this
        simpa [sum2] using this
      obtain ⟨p2, hp2⟩ : ∃ p2, 2 ^ h = p2 := ⟨_, rfl⟩
      have hh10 : h ≤ 10 := pow_le_1024 (show 2 ^ h ≤ l.length by omega) hl
      rw [hp2] at hle
      have hp20 : 0 < p2 := by rw [← hp2]; exact Nat.two_pow_pos h
      have hat : A + p2 ≤ l.length := by rw [HAe.out]; omega
      have hpi : (1 : Int) * 2 ^ h = (p2 : Int) := by rw [← hp2]; simp
      have hpi' : (2 : Int) ^ h = (p2 : Int) := by rw [← hp2]; simp
      have hw1 : IntKind.i64.wrap (p2 : Int) = (p2 : Int) := by rw [IntKind.wrap_i64]; omega
      have hw4 : IntKind.i64.wrap ((A : Int) + (p2 : Int)) = (A : Int) + (p2 : Int) := by rw [IntKind.wrap_i64]; omega
      have hcv : IntKind.u64.wrap (h : Int) = (h : Int) := by rw [IntKind.wrap_u64]; omega
      have hkm : min h 64 = h := by omega
      have hk64 : h ≤ 64 := by omega
      obtain ⟨b, off, cap', hv⟩ := sl_some H.out (by rw [List.length_map]; omega)
      rw [List.length_map] at hv
      simp only [Value.slice.injEq, true_and] at hv
      obtain ⟨rfl, rfl⟩ := hv
      have HPk := Lib.hid (RPeak_any h (.slice (some ⟨b, off + A, none⟩) p2 (cap0 - A)) ((l.drop A).take p2) wr (sl_part (H.out.below HB.out) rfl hat hp20 _) (show p2 ≤ cap0 - A by omega) (by rw [List.length_take, List.length_drop, hp2]; omega) (by omega) (fun z hz => max32 (HL32.out z (List.mem_of_mem_drop (List.mem_of_mem_take hz)))))
      obtain ⟨z, hz⟩ : ∃ z, peakN h ((l.drop A).take p2) = z := ⟨_, rfl⟩
      rw [hz] at HPk
      have HZ := Lib.hid (show (cutsL (ST.take k) (l.drop j)).map vS ++ [vS z] = (cutsL (ST.take (k + 1)) (l.drop j)).map vS by
        rw [htk, cutsL_append, List.map_append, List.drop_drop, ← HAe.out, cutsL, cutsL, hp2, hz]; rfl)
      have HA2 := Lib.hid (show A + p2 = j + sum2 (ST.take (k + 1)) by rw [htk, sum2_append, HAe.out, sum2, sum2, hp2]; omega)
      have hi1 : (0 : Int) ≤ (A : Int) := by omega
      have hi2 : (A : Int) ≤ (A : Int) + (p2 : Int) := by omega
      have hi3 : (A : Int) + (p2 : Int) ≤ (cap0 : Int) := by omega
      have hi4 : (0 : Int) ≤ (A : Int) + (p2 : Int) := by omega
      have hn2 : ((A : Int) + (p2 : Int)).toNat = A + p2 := by omega
      have hn3 : A + p2 - A = p2 := by omega
      have hn4 : A + p2 ≤ cap0 := by omega
      have hcf : ¬ cap0 = A := by omega
      clear hh htk hle hp2 hz hHr
      go_wp2_with
        (first
          | (go_at_call 48; refine HPk.out.mono ?_; rintro e w3 ⟨rfl, hb3⟩
             have HO3 := Lib.hid (ownsRow_block HO.out (fun q _ hq => hb3.block q hq))
             have HB3 := Lib.hid (HB.out.next hb3)
             have HB3' := Lib.hid (HB'.out.next hb3)
             clear hb3)
          | (at_builtin
             go_loud (
             refine wpList_append_own _ rfl _ _ 22 rfl w2.heap.size 9 i0 (.string ⟨#[]⟩) 1 16 Tryd.underlying22 Hi.out Hz0.out Hz1.out Hz2.out rfl (by decide) _ k ((cutsL (ST.take k) (l.drop j)).map vS) rfl (HO3.out.alloc _) ⟨w3.heap.size, 0, none⟩ 1 1 [vS z] rfl rfl (news_one (new_of _ _)) (by simp [vS, Value.oneCell']) (by unfold maxLen; omega) (by omega) (by have := HB3'.out.size; simp; omega) ?_
             intro v5 w5 ho5 hg5 _
             have hb5 : Below w2.heap.size w2 w5 := (HB3'.out.alloc HB3'.out.size _).grown hg5 (by have := HB3'.out.size; simp; omega) (fun q hq => by have := HO3.out.lt q hq; exact this.1)
             have HO5 := Lib.hid ho5
             have HB5 := Lib.hid hb5
             clear ho5 hg5 hb5)))
      go_roundw
      case rel => exact ⟨k + 1, A + p2, by omega, HA2.out, by go_num, by go_num, by rw [← HZ.out]; exact HO5.out, HB5.out⟩
      case measure => simp [intOf]; omega
    · obtain rfl : k = N := by omega
      have ho := HO.out
      rw [← HN.out, List.take_length, HN.out] at ho
      have HO' := Lib.hid ho
      clear ho
      go_wp2
      go_ret2
      exact ⟨_, rfl, ownsRow_base HO'.out HB2.out.size, HB.out⟩
end Go.Proofs.YtfklmjcjjdliiaaDoor
