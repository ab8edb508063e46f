/- Parts of the proofs: PlainMg, WkOrd. No condition beyond those at each theorem. -/
import Derived.Test.YtknpbekoenbphaaGreatDoorQk21
import Derived.Test.YtknpbekoenbphaaGreatDoorQk31
set_option linter.unusedVariables false
set_option linter.unusedSimpArgs false
set_option maxHeartbeats 16000000
set_option maxRecDepth 100000
namespace Licit.Rv
open Go Licit
def orderE (l:List Ev):List Ev × Int × Int :=
 if (setE l (idsOf l)).2=0 then match arrS l (idsOf l) with
  |some S=>(sorted l S,-1,0)
  |none=>([],-1,12)
 else ([],(setE l (idsOf l)).1,(setE l (idsOf l)).2)
theorem orderE_ok {l:List Ev} {S:Stt} (h:kej l) (hS:arrS l (idsOf l)=some S):orderE l=(sorted l S,-1,0):=by
 unfold orderE;rw [if_pos (set_ok.2 ⟨h,S,hS⟩),hS]
theorem orderE_err (l:List Ev):(orderE l).2.2=(setE l (idsOf l)).2:=by
 unfold orderE
 by_cases c:(setE l (idsOf l)).2=0
 ·rw [if_pos c,c]
  obtain ⟨h1,S,hS⟩:=set_ok.1 c;rw [hS]
 ·rw [if_neg c]
theorem orderE_nil {l:List Ev} (h:(orderE l).2.2≠0):(orderE l).1=[]:=by
 rw [orderE_err] at h;unfold orderE;rw [if_neg h]
end Licit.Rv
namespace Go.Proofs.YtknpbekoenbphaaGreatDoor
open Go Go.RowKit Licit
theorem kgh (l:List Rv.Ev):(Rv.orderE l).2=Rv.setE l (Rv.idsOf l):=by
 unfold Rv.orderE
 by_cases c:(Rv.setE l (Rv.idsOf l)).2=0
 ·obtain ⟨h1,S,hS⟩:=Rv.set_ok.1 c
  rw [if_pos c,hS];unfold Rv.setE;rw [if_pos (Rv.pre_ok.2 h1),hS];rfl
 ·rw [if_neg c]
def kdy (l:List Rv.Ev) (w:World) (en:Ending) (w':World):Prop:=∃v,en = .returned (.tuple #[v,.int .i64 (Rv.orderE l).2.1,.int .i64 (Rv.orderE l).2.2])∧kbt v (Rv.orderE l).1 w'∧kjq v∧Below w.heap.size w w'
end Go.Proofs.YtknpbekoenbphaaGreatDoor
