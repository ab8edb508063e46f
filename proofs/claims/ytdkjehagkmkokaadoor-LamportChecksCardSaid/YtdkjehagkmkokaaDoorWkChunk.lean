/- slices.Chunk of a list of texts into pairs: what its iterator yields. -/
import Derived.Test.YtdkjehagkmkokaaDoorProg
import Derived.Test.YtdkjehagkmkokaaDoorFrmAll
import Derived.RangeFuncBox
import Derived.RangeFuncLeaves
import Derived.RangeFuncNested
import Derived.Shelf.Abstract
import Derived.WalkKit
import Derived.OwnWalkIn
import Derived.TacticsInMore
import Derived.LoopNIn
import Derived.LoopIn
import Derived.Deep.QuietTactic
import Derived.BigQuiet
import Derived.Lib.Hide
namespace Go.Proofs.YtdkjehagkmkokaaDoor
open Go Go.RowKit Licit

attribute [local go_sem] Oper.semAt_some

/-- What a round must keep: both boxes. -/
def KpC (Bs Bn : Nat) (W W' : World) : Prop := W'.heap[Bs]? = W.heap[Bs]? ∧ W'.heap[Bn]? = W.heap[Bn]?
/-- The offsets of the first k pairs. -/
def offsK (k : Nat) : List Nat := (List.range k).map (2 * ·)
theorem offsK_succ (k : Nat) : offsK (k + 1) = offsK k ++ [2 * k] := by simp [offsK, List.range_succ]
/-- The offset of a pair in a row. -/
abbrev Off (len : Nat) := { x : Nat // x + 2 ≤ len }
theorem offsK_len (k : Nat) : (offsK k).length = k := by simp [offsK]

set_option maxRecDepth 100000 in
set_option maxHeartbeats 2000000 in
theorem Chunk1_in (n : Nat) (hn : 1 ≤ n) (l Bs Bn g len cap m : Nat) (hlen : len = 2 * m) (hcap : len ≤ cap) (hmax : len ≤ 100000) (J Jx : List (Off len) → World → Prop)
    (W : World) (hJ : AbidesFrom W.heap.size J)
    (hY : ∀ pre x W1, J pre W1 → pre.length < m → YieldAt Fence.wide (n - 1) Tryd.prog l #[.slice (some ⟨g, x.1, none⟩) 2 2] W1 fun e W' =>
      (e = .returned (.bool true) ∧ J (pre ++ [x]) W' ∧ KpC Bs Bn W1 W') ∨ (e = .returned (.bool false) ∧ Jx (pre ++ [x]) W'))
    (hs : W.heap[Bs]? = some (.cells #[.slice (some ⟨g, 0, none⟩) len cap] 32)) (hnn : W.heap[Bn]? = some (.cells #[.int .i64 2] 3)) (h0 : J [] W) :
    CallsIn Fence.wide n Tryd.prog 89 #[.func (.yield l) #[] #[], .pointer (some ⟨Bs, 0, none⟩), .pointer (some ⟨Bn, 0, none⟩)] W fun e W' => (∃ v, e = .returned v) ∧
      ((∃ ys : List (Off len), ys.map (·.1) = offsK m ∧ J ys W') ∨ (∃ pre, True ∧ Jx pre W')) := by
  refine callsIn_of_wp Tryd.func89 rfl trivial ?_ rfl
  simp only [Tryd.ntmps89, List.size_toArray, List.length_cons, List.length_nil, Nat.reduceAdd, Nat.reduceSub, Array.replicate_succ, Array.replicate_zero, List.push_toArray, List.append_toArray, List.nil_append, List.cons_append]
  gi_wp2
  gi_loopw [4] (fun i wr => ∃ (k : Nat) (pre : List (Off len)), k ≤ m ∧ i = .int .i64 ((2 * k : Nat) : Int) ∧ pre.map (·.1) = offsK k ∧ J pre wr ∧ wr.heap[Bs]? = some (.cells #[.slice (some ⟨g, 0, none⟩) len cap] 32) ∧ wr.heap[Bn]? = some (.cells #[.int .i64 2] 3))
    (fun i _ => len - (intOf i).toNat)
  case atStart => exact ⟨0, [], Nat.zero_le _, rfl, rfl, h0, hs, hnn⟩
  case round =>
    obtain ⟨k, pre, hk, rfl, hpre, hJs, hs1, hn1⟩ := hrel
    obtain ⟨x, hx⟩ : ∃ x, 2 * k = x := ⟨_, rfl⟩
    rw [hx]
    have HX := Lib.hid hx
    have hpl : pre.length = k := by have := congrArg List.length hpre; rw [List.length_map, offsK_len] at this; exact this
    have HPre := Lib.hid hpre
    have HPl := Lib.hid hpl
    clear hpre hpl
    have hcs : wr.cell? ⟨Bs, 0, none⟩ = some (.slice (some ⟨g, 0, none⟩) len cap) := by rw [cell_of hs1]; rfl
    have hcn : wr.cell? ⟨Bn, 0, none⟩ = some (.int .i64 2) := by rw [cell_of hn1]; rfl
    have HS := Lib.hid hs1
    have HN := Lib.hid hn1
    have HJs := Lib.hid hJs
    have HL := Lib.hid hlen
    clear hs1 hn1 hJs hs hnn h0
    by_cases hlt : x < len
    · have hx2 : x + 2 ≤ len := by omega
      have hxi : (x : Int) ≤ (len : Int) := by omega
      have hxc : (x : Int) ≤ (cap : Int) := by omega
      clear hx hlen
      have hxl : (x : Int) < (len : Int) := by omega
      have hmin : min (2 : Int) ((len - x : Nat) : Int) = 2 := by omega
      gi_wp2
      refine wpIn_wide.2 ?_
      go_quiet (fail)
      obtain ⟨fn, tmps, assign, body, hy, hR⟩ := hY _ ⟨x, hx2⟩ (wr.drewN nq) (hJ _ _ _ none HJs.out ⟨rfl, rfl, rfl, Nat.le_refl _, fun _ _ _ => rfl⟩ (fun r e => by cases e)) (by rw [HPl.out]; have := HX.out; have := HL.out; omega)
      dsimp only at hy
      gi_wp2
      refine hR.mono ?_
      rintro e W3 (⟨rfl, hJ3, hk3⟩ | ⟨rfl, hJx3⟩)
      · have h3s : W3.heap[Bs]? = some (.cells #[.slice (some ⟨g, 0, none⟩) len cap] 32) := hk3.1.trans HS.out
        have h3n : W3.heap[Bn]? = some (.cells #[.int .i64 2] 3) := hk3.2.trans HN.out
        have h3c : W3.cell? ⟨Bn, 0, none⟩ = some (.int .i64 2) := by rw [cell_of h3n]; rfl
        have H3s := Lib.hid h3s
        have H3n := Lib.hid h3n
        have HJ3 := Lib.hid hJ3
        clear h3s h3n hk3 hJ3
        gi_wp2
        go_roundw
        case rel =>
          refine ⟨k + 1, pre ++ [⟨x, hx2⟩], by have := HX.out; have := HL.out; omega, by have := HX.out; simp; omega, ?_, HJ3.out, H3s.out, H3n.out⟩
          rw [offsK_succ, HX.out, List.map_append, HPre.out]; rfl
        case measure => simp [intOf]; omega
      · gi_wp2
        refine bodyPost_ret (results_none rfl _ _ _) rfl ?_
        exact ⟨⟨_, rfl⟩, .inr ⟨_, trivial, hJx3⟩⟩
    · have hkm : k = m := by omega
      clear hx hlen
      gi_wp2
      go_end0
      exact ⟨⟨_, rfl⟩, .inl ⟨_, by rw [← hkm]; exact HPre.out, HJs.out⟩⟩

theorem Chunk_any (a : Option Addr) (len cap : Nat) (w : World) :
    Calls Tryd.prog 65 #[.slice a len cap, .int .i64 2] w fun e w' => e = .returned (.func (.func 89) #[] #[.pointer (some ⟨w.heap.size, 0, none⟩), .pointer (some ⟨w.heap.size + 1, 0, none⟩)]) ∧ w' = (w.alloc (.cells #[.slice a len cap] 32)).alloc (.cells #[.int .i64 2] 3) := by
  go_enter Tryd.func65, Tryd.ntmps65
  go_wp2
  go_ret
  exact ⟨rfl, rfl⟩

/-- Chunk's iterator, as the law of a range asks it. -/
theorem Chunk_stops (n : Nat) (hn : 1 ≤ n) (Bs Bn g len cap m : Nat) (hlen : len = 2 * m) (hcap : len ≤ cap) (hmax : len ≤ 100000) (w : World)
    (hs : w.heap[Bs]? = some (.cells #[.slice (some ⟨g, 0, none⟩) len cap] 32)) (hnn : w.heap[Bn]? = some (.cells #[.int .i64 2] 3)) :
    SeqStopsK Fence.wide n Tryd.prog 89 #[.pointer (some ⟨Bs, 0, none⟩), .pointer (some ⟨Bn, 0, none⟩)] (fun x : Off len => #[Value.slice (some ⟨g, x.1, none⟩) 2 2]) (KpC Bs Bn) (fun ys => ys.map (·.1) = offsK m) (fun _ => True) m w :=
  fun l J Jx W hW hJ _ hY h0 => Chunk1_in n hn l Bs Bn g len cap m hlen hcap hmax J Jx W hJ hY (below_heap hW (lt_of hs) hs) (below_heap hW (lt_of hnn) hnn) h0

end Go.Proofs.YtdkjehagkmkokaaDoor
