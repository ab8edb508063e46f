/- mix, decimal, Valid, secret, public, leaf and own of package lamport, and H, N, Valid, Count, secret of its reference, do what the plain functions say. -/
import Derived.Test.YtfklmjcjjdliiaaDoorShaProg
import Derived.Test.YtfklmjcjjdliiaaDoorShaRef
import Derived.Test.YtfklmjcjjdliiaaDoorWkList
import Derived.Test.YtfklmjcjjdliiaaDoorWkRefEncL
import Derived.Test.YtfklmjcjjdliiaaDoorPlainAll
namespace Go.Proofs.YtfklmjcjjdliiaaDoor
open Go Go.RowKit Licit

/-- A slice over a block. -/
theorem sl_block {w : World} {b : Nat} {cs : Array Value} {T : TypeId} {fr : Nat × Nat} {xs : List Value} {cap : Nat} (h : w.heap[b]? = some (.cells cs T fr)) (hx : xs = cs.toList) (hm : xs.length ≤ maxLen) (h0 : 0 < xs.length) : IsSl (.slice (some ⟨b, 0, none⟩) xs.length cap) xs w := by
  refine ⟨hm, .inr ⟨b, 0, cap, rfl, h0, fun i hi => ?_⟩⟩
  rw [cell_of h, Nat.zero_add, hx, Array.getElem?_toList]

theorem Tryd.infoStr : (Tryd.prog.info? 9).map (fun i => (i.zero, i.size, i.bytes)) = some (some (.string ⟨#[]⟩), 1, 16) := by kernel_rfl

def Res (v : Value) (w : World) (e : Ending) (w' : World) : Prop := e = .returned v ∧ Below w.heap.size w w'
/-- A function whose result is a plain value and that only makes new memory. -/
abbrev Gives (f : FuncId) (args : Array Value) (w : World) (v : Value) : Prop := Calls Tryd.prog f args w fun e w' => e = .returned v ∧ Below w.heap.size w w'

theorem mix_any (v : Value) (xs : List Bs) (w : World) (h : IsSl v (xs.map vS) w) (hl : ∀ x ∈ xs, x.length ≤ maxLen) (ht : Tab w) :
    Gives 58 #[v] w (.string (B (hsh xs))) := by
  have HT := Lib.hid (encTexts_any v xs w h hl ht)
  have hln := texts_len xs
  obtain ⟨T, hT⟩ : ∃ T, (eList eText xs).1 = T := ⟨_, rfl⟩
  obtain ⟨R, hR⟩ : ∃ R, hsh xs = R := ⟨_, rfl⟩
  have hS : Sha.sha T = R := by rw [← hT, ← hR]; rfl
  rw [hT] at HT hln
  rw [hR]
  have HS := Lib.hid hS
  clear hT hR hS h hl
  go_enter Tryd.func58, Tryd.ntmps58
  go_wp2_with (first
    | (go_at_call 72; refine HT.out.mono ?_; rintro e w1 ⟨rfl, hb1⟩; have Hb1 := Lib.hid hb1; clear hb1)
    | (go_at_call 78; refine (DSum_any T _ hln).mono ?_; rintro e w2 ⟨rfl, hb2⟩; have Hb2 := Lib.hid hb2; clear hb2))
  go_ret
  exact ⟨congrArg (fun x => Ending.returned (.string (B x))) HS.out, Hb1.out.trans (Hb2.out.mono Hb1.out.size)⟩

theorem decimal_any48 (n : Int) (w : World) (ht : Tab w) : Gives 64 #[.int .i64 n] w (.string (B (num n))) := by
  have HT := Lib.hid (encNumber_any n w ht)
  go_enter Tryd.func64, Tryd.ntmps64
  go_wp2_with (go_at_call 83; refine HT.out.mono ?_; rintro e w1 ⟨rfl, hb1⟩; have Hb1 := Lib.hid hb1; clear hb1)
  go_ret
  exact ⟨rfl, Hb1.out⟩

theorem H_any (v : Value) (xs : List Bs) (w : World) (h : IsSl v (xs.map vS) w) (hl : ∀ x ∈ xs, x.length ≤ maxLen) :
    Gives 42 #[v] w (.string (B (hsh xs))) := by
  have HT := Lib.hid (rencTexts_any v xs w h hl)
  have hln := texts_len xs
  obtain ⟨T, hT⟩ : ∃ T, (eList eText xs).1 = T := ⟨_, rfl⟩
  obtain ⟨R, hR⟩ : ∃ R, hsh xs = R := ⟨_, rfl⟩
  have hS : Sha.sha T = R := by rw [← hT, ← hR]; rfl
  rw [hT] at HT hln
  rw [hR]
  have HS := Lib.hid hS
  clear hT hR hS h hl
  go_enter Tryd.func42, Tryd.ntmps42
  go_wp2_with (first
    | (go_at_call 73; refine HT.out.mono ?_; rintro e w1 ⟨rfl, hb1⟩; have Hb1 := Lib.hid hb1; clear hb1)
    | (go_at_call 74; refine (RSum_any T _ hln).mono ?_; rintro e w2 ⟨rfl, hb2⟩; have Hb2 := Lib.hid hb2; clear hb2))
  go_ret
  exact ⟨congrArg (fun x => Ending.returned (.string (B x))) HS.out, Hb1.out.trans (Hb2.out.mono Hb1.out.size)⟩

theorem N_any (n : Int) (w : World) : Gives 53 #[.int .i64 n] w (.string (B (num n))) := by
  have HT := Lib.hid (rencNumber_any n w)
  go_enter Tryd.func53, Tryd.ntmps53
  go_wp2_with (go_at_call 77; refine HT.out.mono ?_; rintro e w1 ⟨rfl, hb1⟩; have Hb1 := Lib.hid hb1; clear hb1)
  go_ret
  exact ⟨rfl, Hb1.out⟩

theorem _root_.Go.RowKit.Below.next {B : Nat} {w w1 w2 : World} (h : Below B w w1) (h2 : Below w1.heap.size w1 w2) (hB : B ≤ w.heap.size := by exact Nat.le_refl _) : Below B w w2 := h.trans (h2.mono (Nat.le_trans hB h.size))
theorem num_len (n : Int) : (num n).length ≤ maxLen := by
  unfold num eNum
  split
  · simp [maxLen]
  · rename_i h
    have := Lib.itoa_length_le n (by omega) (by omega)
    unfold Lib.itoa at this
    rw [if_neg (by omega)] at this
    simp [maxLen]
    omega

end Go.Proofs.YtfklmjcjjdliiaaDoor
