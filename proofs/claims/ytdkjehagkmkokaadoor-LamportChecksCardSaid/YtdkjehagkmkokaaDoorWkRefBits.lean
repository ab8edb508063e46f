/- bits of the reference of lamport: the first bits of a message's digest. -/
import Derived.Test.YtdkjehagkmkokaaDoorWkSign
import Derived.Test.YtdkjehagkmkokaaDoorWkRefSig2
namespace Go.Proofs.YtdkjehagkmkokaaDoor
open Go Go.RowKit Licit

theorem sigC {w : World} {r : Nat} {x0 x1 x2 x3 : Value} {T : TypeId} (h : w.heap[r]? = some (.cells #[x0, x1, x2, x3] T)) : w.cell? ⟨r, 0, none⟩ = some x0 ∧ w.cell? ⟨r, 1, none⟩ = some x1 ∧ w.cell? ⟨r, 2, none⟩ = some x2 ∧ w.cell? ⟨r, 3, none⟩ = some x3 := ⟨cell_of h 0, cell_of h 1, cell_of h 2, cell_of h 3⟩
theorem keyC {w : World} {r : Nat} {x0 x1 : Value} {T : TypeId} (h : w.heap[r]? = some (.cells #[x0, x1] T)) : w.cell? ⟨r, 0, none⟩ = some x0 ∧ w.cell? ⟨r, 1, none⟩ = some x1 := ⟨cell_of h 0, cell_of h 1⟩
theorem Tryd.infoInt : (Tryd.prog.info? 3).map (fun i => (i.zero, i.size, i.bytes)) = some (some (.int .i64 0), 1, 8) := by kernel_rfl
def bitsN (d : Bs) (n : Nat) : List Int := (List.range n).map fun k => (bitOf d k : Int)
theorem bitsN_len (d : Bs) (n : Nat) : (bitsN d n).length = n := by simp [bitsN]
theorem bitsN_succ (d : Bs) (n : Nat) : bitsN d (n + 1) = bitsN d n ++ [(bitOf d n : Int)] := by simp [bitsN, List.range_succ]
theorem bit_expr (d : Bs) (k : Nat) (_ : d.length = 32) (h : k / 8 < (B d).size) : bits BinOp.and IntKind.i64 (wrap64 ((((B d)[k / 8]'h).toNat : Int) / 2 ^ (7 - k % 8))) 1 = (bitOf d k : Int) := by
  have hk8 : k / 8 < d.length := h
  have hx : (B d)[k / 8]'h = d.getD (k / 8) 0 := by
    rw [List.getD_eq_getElem?_getD, List.getElem?_eq_getElem hk8]
    rfl
  have hlt : (d.getD (k / 8) 0).toNat < 256 := UInt8.toNat_lt _
  have hq : (d.getD (k / 8) 0).toNat / 2 ^ (7 - k % 8) < 256 := Nat.lt_of_le_of_lt (Nat.div_le_self _ _) hlt
  have hc : ((d.getD (k / 8) 0).toNat : Int) / 2 ^ (7 - k % 8) = (((d.getD (k / 8) 0).toNat / 2 ^ (7 - k % 8) : Nat) : Int) := by simp
  have hbit : bitOf d k = (d.getD (k / 8) 0).toNat / 2 ^ (7 - k % 8) % 2 := rfl
  rw [hx, hc, hbit]
  generalize (d.getD (k / 8) 0).toNat / 2 ^ (7 - k % 8) = q at hq
  have hw : wrap64 (q : Int) = (q : Int) := by unfold wrap64; omega
  have := and_one ⟨q, hq⟩
  dsimp only at this
  rw [hw, this]

set_option maxHeartbeats 1000000 in
set_option maxRecDepth 100000 in
theorem RBits_any (m : Bs) (n : Nat) (w : World) (hm : m.length ≤ 1000000000000) (hn : n ≤ 256) :
    Calls Tryd.prog 39 #[.string (B m), .int .i64 (n : Int)] w fun e w' => ∃ v, e = .returned v ∧ w'.ownsRow w.heap.size 3 1 v n ((bitsN (Sha.sha m) n).map vI) ∧ Below w.heap.size w w' := by
  obtain ⟨i0, hi, hz0, hz1, hz2⟩ := info_parts Tryd.infoInt
  have Hi := Lib.hid hi
  have Hz0 := Lib.hid hz0
  have Hz1 := Lib.hid hz1
  have Hz2 := Lib.hid hz2
  clear hi hz0 hz1 hz2
  obtain ⟨d, hd⟩ : ∃ d, Sha.sha m = d := ⟨_, rfl⟩
  have hdl : d.length = 32 := by rw [← hd]; exact Sha.sha_len _
  have HD := Lib.hid hd
  rw [hd]
  clear hd
  go_enter Tryd.func39, Tryd.ntmps39
  go_wp2_with (first
    | (go_at_call 29; refine (RSum_any m _ hm).mono ?_; rintro e w1 ⟨rfl, hb1⟩; rw [HD.out]; have HB1 := Lib.hid hb1; clear hb1))
  go_loopw [6, 7] (fun v n' wr => ∃ k : Nat, k ≤ n ∧ n' = .int .i64 k ∧ wr.ownsRow w.heap.size 3 1 v k ((bitsN d k).map vI) ∧ Below w.heap.size w wr) (fun _ n' _ => n - (intOf n').toNat)
  case atStart => exact ⟨0, by omega, rfl, World.ownsRow_nil _ _ _ _, HB1.out⟩
  case round =>
    obtain ⟨k, hk, rfl, hO, hB⟩ := hrel
    have HO := Lib.hid hO
    have HB := Lib.hid hB
    clear hO hB
    by_cases hlt : k < n
    · have hb0 : (0 : Int) ≤ (k : Int) / 8 := by omega
      have hb1 : (k : Int) / 8 < ((B d).size : Int) := by rw [show (B d).size = 32 from hdl]; omega
      have HX := Lib.hid (fun h => bit_expr d k hdl h)
      go_wp2_with (first
        | (at_builtin
           go_loud (
           rw [HX.out]
           refine wpList_append_own _ rfl _ _ 64 rfl w.heap.size 3 i0 (.int .i64 0) 1 8 Tryd.underlying64 Hi.out Hz0.out Hz1.out Hz2.out rfl (by decide) _ k ((bitsN d k).map vI) rfl (HO.out.alloc _) ⟨wr.heap.size, 0, none⟩ 1 1 [vI (bitOf d k : Int)] rfl rfl (news_one (new_of _ _)) (by simp [vI, Value.oneCell']) (by unfold maxLen; omega) (by omega) (by have := HB.out.size; simp; omega) ?_
           intro v3 w3 ho3 hg3 _
           rw [← map_snoc, ← bitsN_succ] at ho3
           have hb3 : Below w.heap.size w w3 := (HB.out.alloc HB.out.size _).grown hg3 (by have := HB.out.size; simp; omega) (fun q hq => (HO.out.lt q hq).1)
           have HO3 := Lib.hid ho3
           have HB3 := Lib.hid hb3
           clear ho3 hg3 hb3)))
      go_roundw
      case rel => exact ⟨k + 1, by omega, by go_num, HO3.out, HB3.out⟩
      case measure => simp [intOf]; omega
    · obtain rfl : k = n := by omega
      obtain ⟨a, cap, hv⟩ := own_form HO.out
      subst hv
      go_wp2
      go_ret
      exact ⟨_, rfl, HO.out, HB.out⟩
end Go.Proofs.YtdkjehagkmkokaaDoor
