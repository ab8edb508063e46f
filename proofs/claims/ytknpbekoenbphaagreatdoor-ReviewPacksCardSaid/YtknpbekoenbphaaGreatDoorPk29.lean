/- Parts of the proofs: PlainAll, WkLam1, WkRvR, WkChunk, WkRows, WkRoot, WkRr4. No condition beyond those at each theorem. -/
import Derived.LoopIn
import Derived.LoopNIn
import Derived.RangeFuncBox
import Derived.RangeFuncLeaves
import Derived.TacticsInMore
import Derived.Test.YtknpbekoenbphaaGreatDoorPk28
set_option linter.unusedVariables false
set_option linter.unusedSimpArgs false
set_option maxHeartbeats 16000000
set_option maxRecDepth 100000
namespace Licit
open Go Go.Lib
def ky9 : Bs := [110, 111, 100, 101]
def kep (a b : Bs) : Bs := hsh [ky9, a, b]
theorem kgw {n : Nat} (h : n = 32) : n ≤ maxLen := by unfold maxLen; omega
end Licit
namespace Go.Proofs.YtknpbekoenbphaaGreatDoor
open Go Go.RowKit Licit
theorem kd6 (n : Int) (w : World) (ht : Tab w) : kcg 169 #[.int .i64 n] w (.string (B (num n))) := by
 have HT := hdd (khz n w ht)
 go_enter Tryz.func169, Tryz.ntmps169
 go_wp2_with (go_at_call 152; refine HT.out.mono ?_; rintro e w1 ⟨rfl, hb1⟩; have Hb1 := hdd hb1; clear hb1)
 go_ret
 exact ⟨rfl, Hb1.out⟩
theorem k3e {P : Program} {ops : Array Oper} {rest : List Oper} {o : Oper} {a : Act} {w : World} {Q : Exit → Act → World → Prop} (d : Nat) (_ : o.dst = some d) (h : wpList P ops Q (o :: rest) a w) : wpList P ops Q (o :: rest) a w := h
def sgZ : Array Value := #[.int .i64 0, .slice none 0 0, .slice none 0 0, .slice none 0 0]
theorem kc1.signed {e : Rv.Ev} {na ta : Option Addr} {nc tc : Nat} {vs vh vr : Value} {g : Rv.Sg} {W : World} (ho : kvn e) (h1 : IsSl (.slice na e.names.length nc) (e.names.map vS) W) (h2 : IsSl (.slice ta e.targets.length tc) (e.targets.map vS) W)
 (h3 : IsSl vs (g.S.map vS) W) (h4 : IsSl vh (g.H.map vS) W) (h5 : IsSl vr (g.R.map vS) W) : kc1 (.agg (evC { e with sg := g } (.slice na e.names.length nc) (.slice ta e.targets.length tc) vs vh vr)) { e with sg := g } W := by
 obtain ⟨a3, c3, rfl⟩ := h3.formMap
 obtain ⟨a4, c4, rfl⟩ := h4.formMap
 obtain ⟨a5, c5, rfl⟩ := h5.formMap
 exact ⟨⟨ho.author, ho.root, ho.pkg, ho.digest, ho.question, ho.scope, ho.answer, ho.names, ho.targets⟩, _, _, _, _, _, _, _, _, _, _, rfl, h1, h2, h3, h4, h5⟩
def SlQ (lo : Nat) (w0 : World) (b : Bool) (v : Value) (xs : List Bs) (w : World) : Prop := if b = true then w.ownsRow lo 9 1 v xs.length (xs.map vS) else IsSl v (xs.map vS) w0
theorem kli {lo : Nat} {w : World} {v : Value} {xs : List Bs} (h : w.ownsRow lo 9 1 v xs.length (xs.map vS)) (hl : xs.length ≤ 100000) : IsSl v (xs.map vS) w := IsSl.of_owns (by rw [List.length_map]; exact h) (by rw [List.length_map]; unfold maxLen; omega)
theorem SlQ.is {lo : Nat} {w0 w : World} {b : Bool} {v : Value} {xs : List Bs} (h : SlQ lo w0 b v xs w) (hb : Below w0.heap.size w0 w) (hl : xs.length ≤ 100000) : IsSl v (xs.map vS) w := by
 cases b with
 | false => exact IsSl.below h hb
 | true => exact kli h hl
theorem SlQ.kept {lo : Nat} {w0 w w' : World} {b : Bool} {v : Value} {xs : List Bs} {S : Nat → Prop} (h : SlQ lo w0 b v xs w) (hk : ka1 S w w') (hS : ∀ k, lo ≤ k → ¬ S k) : SlQ lo w0 b v xs w' := by
 cases b with
 | false => exact h
 | true => exact kag h hk hS
theorem SlQ.below {lo : Nat} {w0 w w' : World} {b : Bool} {v : Value} {xs : List Bs} (h : SlQ lo w0 b v xs w) (hb : Below w.heap.size w w') : SlQ lo w0 b v xs w' := by
 cases b with
 | false => exact h
 | true => exact kca h fun q hq => hb.block q (World.ownsRow.lt h q hq).2
attribute [local go_sem] Oper.semAt_some
abbrev Off (len : Nat) := { x : Nat // x + 2 ≤ len }
attribute [local go_sem] Oper.semAt_some
def ki4 (v : Value) (rows : List (List Bs)) (w : World) : Prop := ∃ vs : List Value, vs.length = rows.length ∧ IsSl v vs w ∧ ∀ j, j < rows.length → IsSl (vs.getD j undef) ((rows.getD j []).map vS) w
def kg4 (base : Nat) (v : Value) (rows : List (List Bs)) (w : World) : Prop := ∃ vs : List Value, vs.length = rows.length ∧ w.ownsRow base 39 1 v vs.length vs ∧ ∀ j, j < rows.length → w.ownsRow base 9 1 (vs.getD j undef) (rows.getD j []).length ((rows.getD j []).map vS)
theorem kg4.kept {base : Nat} {v : Value} {rows : List (List Bs)} {w w' : World} {S : Nat → Prop} (h : kg4 base v rows w) (hk : ka1 S w w') (hS : ∀ k, base ≤ k → k < w.heap.size → ¬ S k) : kg4 base v rows w' := by
 obtain ⟨vs, hl, ho, hv⟩ := h
 exact ⟨vs, hl, kaf ho (fun q h1 h2 => hk.block q h2 (hS q h1 h2)), fun j hj => kaf (hv j hj) (fun q h1 h2 => hk.block q h2 (hS q h1 h2))⟩
def kc6 (R : List Bs) {m : Nat} (pre : List (Off m)) : List Bs := pre.map fun x => kep (R.getD x.1 []) (R.getD (x.1 + 1) [])
def kh3 (R : List Bs) (A : Nat) (W0 : World) {m : Nat} (pre : List (Off m)) (W : World) : Prop :=
 ka1 (One A) W0 W ∧ ∃ v, W.heap[A]? = some (.cells #[v] 39) ∧ W.ownsRow W0.heap.size 9 1 v pre.length ((kc6 R pre).map vS)
theorem kq0 {W : World} {r : Nat} {cs : Array Value} {T : TypeId} {fr : Nat × Nat} (h : W.heap[r]? = some (.cells cs T fr)) {q : Nat} (hq : ∃ o : Obj, W.heap[q]? = some o ∧ o.isCells = false) : r ≠ q := by
 rintro rfl
 obtain ⟨o, h1, h2⟩ := hq
 rw [h] at h1
 cases h1
 cases h2
theorem kh3.own (R : List Bs) (A : Nat) (W0 : World) {m : Nat} (_ : A < W0.heap.size) : OwnFrom W0.heap.size (fun (pre : List (Off m)) W => kh3 R A W0 pre W) := by
 rintro pre W W' row ⟨hK, v, hb, ho⟩ hg hr
 refine ⟨hK.grown hg (fun k hk => .inl (hr k hk).1), v, ?_, ?_⟩
 · rw [hg.block A (kac hb) (fun e => kq0 hb (hr A e.symm).2 rfl)]
   exact hb
 · refine ho.kept hg ?_
   rcases id ho.2 with ⟨rfl, _⟩ | ⟨g, cap, cur, rfl, _, hh, _⟩
   · exact .inl rfl
   · refine .inr fun e => ?_
     have e' : row = some g := e.symm
     exact kq0 hh (hr g e').2 rfl
theorem ki4.at {v : Value} {rows : List (List Bs)} {w : World} (h : ki4 v rows w) {n : Nat} (hn : rows.length = n) {j : Nat} (hj : j < n) :
 ∃ blk off cap row, v = .slice (some ⟨blk, off, none⟩) n cap ∧ blk < w.heap.size ∧ w.cell? ⟨blk, off + j, none⟩ = some row ∧ IsSl row ((rows.getD j []).map vS) w := by
 obtain ⟨vs, h1, h2, h3⟩ := h
 obtain ⟨a, cap, rfl⟩ := h2.form
 obtain ⟨blk, off, rfl, hb, hc⟩ := h2.at (k := j) (by omega)
 refine ⟨blk, off, cap, vs.getD j undef, by rw [h1, hn], hb, ?_, h3 j (by omega)⟩
 rw [hc, List.getD_eq_getElem?_getD, List.getElem?_eq_getElem (by omega)]
 rfl
theorem ki4.below {v : Value} {rows : List (List Bs)} {w w' : World} (h : ki4 v rows w) (hb : Below w.heap.size w w') : ki4 v rows w' := by
 obtain ⟨vs, h1, h2, h3⟩ := h
 exact ⟨vs, h1, h2.below hb, fun j hj => (h3 j hj).below hb⟩
theorem Tab.drew {w : World} (h : Tab w) : Tab w.drew := h.same ⟨rfl, rfl, rfl, Nat.le_refl _, fun _ _ => rfl⟩
theorem kbs {P : Program} {ops : Array Oper} {rest : List Oper} {o : Oper} {a : Act} {w : World} {Q : Exit → Act → World → Prop} (d : Nat) (_ : o.dst = some d) (h : wpList P ops Q (o :: rest) a w) : wpList P ops Q (o :: rest) a w := h
end Go.Proofs.YtknpbekoenbphaaGreatDoor
