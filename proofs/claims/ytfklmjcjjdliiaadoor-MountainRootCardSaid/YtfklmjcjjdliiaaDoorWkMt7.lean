/- steps of package mountain: what its iterator yields. -/
import Derived.Test.YtfklmjcjjdliiaaDoorWkMt6
import Derived.Test.YtfklmjcjjdliiaaDoorPlainSt
import Derived.Test.YtfklmjcjjdliiaaDoorTz
import Derived.RangeFuncBox
import Derived.RangeFuncLeaves
import Derived.RangeFuncNested
import Derived.Shelf.Abstract
import Derived.WalkKit
import Derived.OwnWalkIn
import Derived.TacticsInMore
import Derived.LoopNIn
import Derived.LoopIn
namespace Go.Proofs.YtfklmjcjjdliiaaDoor
open Go Go.RowKit Licit

attribute [local go_sem] Oper.semAt_some

/-- The table of package bits lies as the program's text lays it. -/
def Tz (w : World) : Prop := TabAt 1 Lib.deBruijn64tab w
theorem Tz.at {w w' : World} (h : Tz w) (he : w'.heap[1]? = w.heap[1]?) : Tz w' := by
  intro j hj
  have := h j hj
  unfold World.cell? at this ⊢
  rw [he]
  exact this
theorem Tz.lt {w : World} (h : Tz w) : 1 < w.heap.size := World.block_lt_of_cell? w _ (h 0 (by decide))
theorem Tz.same {w w' : World} (h : Tz w) (hb : Below w.heap.size w w') : Tz w' := h.at (hb.block _ h.lt)

/-- What a round must keep: both boxes, and the table. -/
def KpS (Bf Bt : Nat) (W W' : World) : Prop := W'.heap[Bf]? = W.heap[Bf]? ∧ W'.heap[Bt]? = W.heap[Bt]? ∧ W'.heap[1]? = W.heap[1]?
/-- A step that stays below b. -/
abbrev Stp (b : Nat) := { x : Nat × Nat // x.1 + 2 ^ x.2 ≤ b ∧ x.2 ≤ 20 }

set_option maxRecDepth 100000 in
set_option maxHeartbeats 4000000 in
theorem Steps1_in (n : Nat) (_ : 1 ≤ n) (l Bf Bt a b : Nat) (hab : a ≤ b) (hb : b ≤ 1048576) (J Jx : List (Stp b) → World → Prop)
    (W : World)
    (hY : ∀ pre x W1, J pre W1 → pre.length < (stepsL a b).length → YieldAt Fence.wide (n - 1) Tryd.prog l #[.int .i64 (x.1.1 : Int), .int .i64 (x.1.2 : Int)] W1 fun e W' =>
      (e = .returned (.bool true) ∧ J (pre ++ [x]) W' ∧ KpS Bf Bt W1 W') ∨ (e = .returned (.bool false) ∧ Jx (pre ++ [x]) W'))
    (hf : W.heap[Bf]? = some (.cells #[.int .i64 (a : Int)] 3)) (ht : W.heap[Bt]? = some (.cells #[.int .i64 (b : Int)] 3)) (hz : Tz W) (h0 : J [] W) :
    CallsIn Fence.wide n Tryd.prog 81 #[.func (.yield l) #[] #[], .pointer (some ⟨Bf, 0, none⟩), .pointer (some ⟨Bt, 0, none⟩)] W fun e W' => (∃ v, e = .returned v) ∧
      ((∃ ys : List (Stp b), ys.map (·.1) = pairsL a (stepsL a b) ∧ J ys W') ∨ (∃ pre, True ∧ Jx pre W')) := by
  refine callsIn_of_wp Tryd.func81 rfl trivial ?_ rfl
  simp only [Tryd.ntmps81, List.size_toArray, List.length_cons, List.length_nil, Nat.reduceAdd, Nat.reduceSub, Array.replicate_succ, Array.replicate_zero, List.push_toArray, List.append_toArray, List.nil_append, List.cons_append]
  obtain ⟨full, hfull⟩ : ∃ full, pairsL a (stepsL a b) = full := ⟨_, rfl⟩
  have hfl : full.length = (stepsL a b).length := by rw [← hfull, pairsL_len]
  have HFL := Lib.hid hfl
  have HF0 := Lib.hid hfull
  rw [hfull]
  have hcf : W.cell? ⟨Bf, 0, none⟩ = some (.int .i64 (a : Int)) := by rw [cell_of hf]; rfl
  have HZ0 := Lib.hid hz
  have HT0 := Lib.hid ht
  have HFf := Lib.hid hf
  clear hfull hfl hz ht hf
  gi_wp2
  gi_loopw [4] (fun atv wr => ∃ (at_ : Nat) (pre : List (Stp b)), at_ ≤ b ∧ atv = .int .i64 (at_ : Int) ∧ pre.map (·.1) ++ pairsL at_ (stepsL at_ b) = full ∧ J pre wr ∧ wr.heap[Bf]? = some (.cells #[.int .i64 (a : Int)] 3) ∧ wr.heap[Bt]? = some (.cells #[.int .i64 (b : Int)] 3) ∧ Tz wr)
    (fun atv _ => b - (intOf atv).toNat)
  case atStart => exact ⟨a, [], hab, rfl, by simpa using HF0.out, h0, HFf.out, HT0.out, HZ0.out⟩
  case round =>
    obtain ⟨at_, pre, hat, rfl, hpre, hJs, hf1, ht1, hz1⟩ := hrel
    have HPre := Lib.hid hpre
    have HJs := Lib.hid hJs
    have HFb := Lib.hid hf1
    have HTb := Lib.hid ht1
    have HZb := Lib.hid hz1
    have hct : wr.cell? ⟨Bt, 0, none⟩ = some (.int .i64 (b : Int)) := by rw [cell_of ht1]; rfl
    clear hpre hJs hf1 ht1 hz1 h0 hcf HF0 HFf HT0 HZ0
    by_cases hlt : at_ < b
    · have hst := stepsL_go hlt
      have hs20 := hStep_20 hlt hb
      obtain ⟨h, hh⟩ : ∃ h, hStep at_ b = h := ⟨_, rfl⟩
      have hpos := fun h0 : 0 < at_ => step_pos h0 hlt hb
      have hzer := fun h0 : at_ = 0 => step_zero (b := b) (by omega) hb
      rw [hh] at hst hs20
      have HLn := Lib.hid (fun W => Tryd.bits_Len ((b - at_ : Nat) : Int) W (by omega) (by omega))
      rw [Int.toNat_natCast] at HLn
      obtain ⟨l1, l2, l3⟩ := bitLen_all 21 (b - at_) (by omega) (by decide)
      obtain ⟨l4, l5⟩ := l3 (by omega)
      obtain ⟨L, hL⟩ : ∃ L, Lib.bitLen (b - at_) = L := ⟨_, rfl⟩
      rw [hL] at HLn l1 l4
      have hsb : (b : Int) - (at_ : Int) = ((b - at_ : Nat) : Int) := by omega
      have hcv : IntKind.u64.wrap ((b - at_ : Nat) : Int) = ((b - at_ : Nat) : Int) := by rw [IntKind.wrap_u64]; omega
      have HPl := Lib.hid (show pre.length < (stepsL a b).length by
        have := congrArg List.length HPre.out
        rw [List.length_append, List.length_map, hst, pairsL, List.length_cons, HFL.out] at this
        omega)
      have HPn := Lib.hid (show (pre ++ [(⟨(at_, h), hs20.2, hs20.1⟩ : Stp b)]).map (·.1) ++ pairsL (at_ + 2 ^ h) (stepsL (at_ + 2 ^ h) b) = full by
        have := HPre.out
        rw [hst, pairsL] at this
        rw [List.map_append, List.append_assoc]
        exact this)
      obtain ⟨p2, hp2'⟩ : ∃ p2, 2 ^ h = p2 := ⟨_, rfl⟩
      have hp0 : 0 < p2 := by rw [← hp2']; exact Nat.two_pow_pos h
      have hpb : at_ + p2 ≤ b := by rw [← hp2']; exact hs20.2
      have hpi : (1 : Int) * 2 ^ h = (p2 : Int) := by rw [← hp2']; simp
      have hpi' : (2 : Int) ^ h = (p2 : Int) := by rw [← hp2']; simp
      have hh20 : h ≤ 20 := hs20.1
      have hw1 : IntKind.i64.wrap (p2 : Int) = (p2 : Int) := by rw [IntKind.wrap_i64]; omega
      have hw2 : IntKind.i64.wrap ((at_ : Int) + (p2 : Int)) = (at_ : Int) + (p2 : Int) := by rw [IntKind.wrap_i64]; omega
      have hkm : min h 64 = h := by omega
      have hk64 : h ≤ 64 := by omega
      obtain ⟨q, hq⟩ : ∃ q, L - 1 = q := ⟨_, rfl⟩
      have hmn : (L : Int) - 1 = (q : Int) := by omega
      rw [hL, hq] at hpos
      clear l2 l3 l5 hst HPre HFL
      gi_wp2_with fail
      refine ⟨trivial, callsIn_wide.2 ((HLn.out _).mono ?_)⟩
      rintro e wr ⟨rfl, rfl⟩
      by_cases ha0 : 0 < at_
      · have hps := hpos ha0
        have da : decide (0 < (at_ : Int)) = true := by simp; omega
        have HTz := Lib.hid (show Calls Tryd.prog 82 #[.int .u64 (at_ : Int)] wr fun e w' => e = .returned (.int .i64 ((Lib.ctz 64 at_ : Nat) : Int)) ∧ w' = wr from Any7.bits_TrailingZeros Tryd.lays7x27 at_ (by omega) wr (fun _ => HZb.out))
        obtain ⟨T, hT⟩ : ∃ T, Lib.ctz 64 at_ = T := ⟨_, rfl⟩
        rw [hT] at HTz hps
        have hmin : min (q : Int) (T : Int) = (h : Int) := by rw [← hh, hps]; omega
        have hcv2 : IntKind.u64.wrap (at_ : Int) = (at_ : Int) := by rw [IntKind.wrap_u64]; omega
        clear hpos hzer hT hps hh
        gi_wp2_with fail
        refine ⟨trivial, callsIn_wide.2 (HTz.out.mono ?_)⟩
        rintro e wr ⟨rfl, rfl⟩
        obtain ⟨fn, tmps, assign, body, hy, hR⟩ := hY _ (⟨(at_, h), hs20.2, hs20.1⟩ : Stp b) wr HJs.out HPl.out
        dsimp only at hy hR
        gi_wp2
        refine hR.mono ?_
        rintro e W3 (⟨rfl, hJ3, hk3⟩ | ⟨rfl, hJx3⟩)
        · have H3f := Lib.hid (hk3.1.trans HFb.out)
          have H3t := Lib.hid (hk3.2.1.trans HTb.out)
          have H3z := Lib.hid (HZb.out.at hk3.2.2)
          have HJ3 := Lib.hid hJ3
          clear hk3 hJ3
          gi_wp2
          go_roundw
          case rel => exact ⟨at_ + 2 ^ h, pre ++ [(⟨(at_, h), hs20.2, hs20.1⟩ : Stp b)], hs20.2, by rw [hp2']; go_num, HPn.out, HJ3.out, H3f.out, H3t.out, H3z.out⟩
          case measure => simp [intOf]; omega
        · gi_wp2
          refine bodyPost_ret (results_none rfl _ _ _) rfl ?_
          exact ⟨⟨_, rfl⟩, .inr ⟨_, trivial, hJx3⟩⟩
      · have hps := hzer (by omega)
        have h00 : at_ = 0 := by omega
        have hqh : q = h := by
          rw [← hq, ← hL, h00, Nat.sub_zero, ← hps, ← hh, h00]
        have da : decide (0 < (at_ : Int)) = false := by simp; omega
        have da2 : decide (0 < at_) = false := by simp; omega
        rw [hqh] at hmn
        clear hpos hzer hps hh hqh h00 ha0
        obtain ⟨fn, tmps, assign, body, hy, hR⟩ := hY _ (⟨(at_, h), hs20.2, hs20.1⟩ : Stp b) wr HJs.out HPl.out
        dsimp only at hy hR
        gi_wp2
        refine hR.mono ?_
        rintro e W3 (⟨rfl, hJ3, hk3⟩ | ⟨rfl, hJx3⟩)
        · have H3f := Lib.hid (hk3.1.trans HFb.out)
          have H3t := Lib.hid (hk3.2.1.trans HTb.out)
          have H3z := Lib.hid (HZb.out.at hk3.2.2)
          have HJ3 := Lib.hid hJ3
          clear hk3 hJ3
          gi_wp2
          go_roundw
          case rel => exact ⟨at_ + 2 ^ h, pre ++ [(⟨(at_, h), hs20.2, hs20.1⟩ : Stp b)], hs20.2, by rw [hp2']; go_num, HPn.out, HJ3.out, H3f.out, H3t.out, H3z.out⟩
          case measure => simp [intOf]; omega
        · gi_wp2
          refine bodyPost_ret (results_none rfl _ _ _) rfl ?_
          exact ⟨⟨_, rfl⟩, .inr ⟨_, trivial, hJx3⟩⟩
    · obtain rfl : at_ = b := by omega
      gi_wp2
      go_end0
      have hp := HPre.out
      rw [stepsL_end (by omega), pairsL, List.append_nil] at hp
      exact ⟨⟨_, rfl⟩, .inl ⟨_, hp, HJs.out⟩⟩
end Go.Proofs.YtfklmjcjjdliiaaDoor
