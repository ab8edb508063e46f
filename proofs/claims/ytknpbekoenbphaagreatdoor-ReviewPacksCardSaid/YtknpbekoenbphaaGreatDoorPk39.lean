/- Parts of the proofs: WkRvQ. No condition beyond those at each theorem. -/
import Derived.Test.YtknpbekoenbphaaGreatDoorPk31
import Derived.Test.YtknpbekoenbphaaGreatDoorPk32
import Derived.Test.YtknpbekoenbphaaGreatDoorPk34
set_option linter.unusedVariables false
set_option linter.unusedSimpArgs false
set_option maxHeartbeats 16000000
set_option maxRecDepth 100000
namespace Go.Proofs.YtknpbekoenbphaaGreatDoor
open Go Go.RowKit Licit
theorem kug {e : Rv.Ev} (h : Rv.validB e = true) : vdF (Rv.encV e) = 0 ∧ vdV (Rv.encV e) = { e with sg := Rv.sg0 } := by
 have I := Rv.valid_in h
 have e0 : Rv.encV e = (num e.kind ++ (Rv.tx e.author ++ (num e.number ++ (Rv.txs e.names ++ (Rv.tx e.root ++ (num e.bits ++ (num e.height ++ (Rv.tx e.pkg ++ (Rv.tx e.digest ++ (Rv.tx e.question ++ (Rv.tx e.scope ++ (Rv.tx e.answer ++ (num e.till ++ (Rv.txs e.targets ++ ([] : Bs))))))))))))))) := by unfold Rv.encV; simp only [List.append_assoc, List.append_nil]
 have g1 : Licit.Good (ka3 0 5) (num e.kind) e.kind := (kct (by have := I.k1; omega) (by have := I.k5; omega) (by have := I.k1; omega) I.k5)
 have x1 : dv1 (Rv.encV e) = (e.kind, ((Rv.tx e.author ++ (num e.number ++ (Rv.txs e.names ++ (Rv.tx e.root ++ (num e.bits ++ (num e.height ++ (Rv.tx e.pkg ++ (Rv.tx e.digest ++ (Rv.tx e.question ++ (Rv.tx e.scope ++ (Rv.tx e.answer ++ (num e.till ++ (Rv.txs e.targets ++ ([] : Bs)))))))))))))), 0)) := by unfold dv1; rw [e0]; exact g1.back _
 have g2 : Licit.Good (kao 32) (Rv.tx e.author) e.author := (kbu (s := e.author) (by have := I.author; omega) (by have := I.author; omega))
 have x2 : dv2 (Rv.encV e) = (e.author, ((num e.number ++ (Rv.txs e.names ++ (Rv.tx e.root ++ (num e.bits ++ (num e.height ++ (Rv.tx e.pkg ++ (Rv.tx e.digest ++ (Rv.tx e.question ++ (Rv.tx e.scope ++ (Rv.tx e.answer ++ (num e.till ++ (Rv.txs e.targets ++ ([] : Bs))))))))))))), 0)) := by unfold dv2; rw [x1]; exact g2.back _
 have g3 : Licit.Good (ka3 0 63) (num e.number) e.number := (kct (n := e.number) I.n0 (by have := I.n1; omega) I.n0 I.n1)
 have x3 : dv3 (Rv.encV e) = (e.number, ((Rv.txs e.names ++ (Rv.tx e.root ++ (num e.bits ++ (num e.height ++ (Rv.tx e.pkg ++ (Rv.tx e.digest ++ (Rv.tx e.question ++ (Rv.tx e.scope ++ (Rv.tx e.answer ++ (num e.till ++ (Rv.txs e.targets ++ ([] : Bs)))))))))))), 0)) := by unfold dv3; rw [x2]; exact g3.back _
 have g4 : Licit.Good (ka5 32) (Rv.txs e.names) e.names := (kdi (by unfold kb1; rw [List.all_eq_true]; intro x hx; simpa using I.named x hx) (by have := I.names; omega)).1
 have x4 : dv4 (Rv.encV e) = (e.names, ((Rv.tx e.root ++ (num e.bits ++ (num e.height ++ (Rv.tx e.pkg ++ (Rv.tx e.digest ++ (Rv.tx e.question ++ (Rv.tx e.scope ++ (Rv.tx e.answer ++ (num e.till ++ (Rv.txs e.targets ++ ([] : Bs))))))))))), 0)) := by unfold dv4; rw [x3]; exact g4.back _
 have g5 : Licit.Good (kao 32) (Rv.tx e.root) e.root := (kbu (s := e.root) (by have := I.root; omega) (by have := I.root; omega))
 have x5 : dv5 (Rv.encV e) = (e.root, ((num e.bits ++ (num e.height ++ (Rv.tx e.pkg ++ (Rv.tx e.digest ++ (Rv.tx e.question ++ (Rv.tx e.scope ++ (Rv.tx e.answer ++ (num e.till ++ (Rv.txs e.targets ++ ([] : Bs)))))))))), 0)) := by unfold dv5; rw [x4]; exact g5.back _
 have g6 : Licit.Good (ka3 0 512) (num e.bits) e.bits := (kct I.b0 (by have := I.b1; omega) I.b0 (by have := I.b1; omega))
 have x6 : dv6 (Rv.encV e) = (e.bits, ((num e.height ++ (Rv.tx e.pkg ++ (Rv.tx e.digest ++ (Rv.tx e.question ++ (Rv.tx e.scope ++ (Rv.tx e.answer ++ (num e.till ++ (Rv.txs e.targets ++ ([] : Bs))))))))), 0)) := by unfold dv6; rw [x5]; exact g6.back _
 have g7 : Licit.Good (ka3 0 512) (num e.height) e.height := (kct (n := e.height) I.h0 (by have := I.h1; omega) I.h0 (by have := I.h1; omega))
 have x7 : dv7 (Rv.encV e) = (e.height, ((Rv.tx e.pkg ++ (Rv.tx e.digest ++ (Rv.tx e.question ++ (Rv.tx e.scope ++ (Rv.tx e.answer ++ (num e.till ++ (Rv.txs e.targets ++ ([] : Bs)))))))), 0)) := by unfold dv7; rw [x6]; exact g7.back _
 have g8 : Licit.Good (kao 200) (Rv.tx e.pkg) e.pkg := (kbu (s := e.pkg) (by have := I.pkg; omega) (by have := I.pkg; omega))
 have x8 : dv8 (Rv.encV e) = (e.pkg, ((Rv.tx e.digest ++ (Rv.tx e.question ++ (Rv.tx e.scope ++ (Rv.tx e.answer ++ (num e.till ++ (Rv.txs e.targets ++ ([] : Bs))))))), 0)) := by unfold dv8; rw [x7]; exact g8.back _
 have g9 : Licit.Good (kao 200) (Rv.tx e.digest) e.digest := (kbu (s := e.digest) (by have := I.digest; omega) (by have := I.digest; omega))
 have x9 : dv9 (Rv.encV e) = (e.digest, ((Rv.tx e.question ++ (Rv.tx e.scope ++ (Rv.tx e.answer ++ (num e.till ++ (Rv.txs e.targets ++ ([] : Bs)))))), 0)) := by unfold dv9; rw [x8]; exact g9.back _
 have g10 : Licit.Good (kao 200) (Rv.tx e.question) e.question := (kbu (s := e.question) (by have := I.question; omega) (by have := I.question; omega))
 have x10 : kkz (Rv.encV e) = (e.question, ((Rv.tx e.scope ++ (Rv.tx e.answer ++ (num e.till ++ (Rv.txs e.targets ++ ([] : Bs))))), 0)) := by unfold kkz; rw [x9]; exact g10.back _
 have g11 : Licit.Good (kao 200) (Rv.tx e.scope) e.scope := (kbu (s := e.scope) (by have := I.scope; omega) (by have := I.scope; omega))
 have x11 : kll (Rv.encV e) = (e.scope, ((Rv.tx e.answer ++ (num e.till ++ (Rv.txs e.targets ++ ([] : Bs)))), 0)) := by unfold kll; rw [x10]; exact g11.back _
 have g12 : Licit.Good (kao 200) (Rv.tx e.answer) e.answer := (kbu (s := e.answer) (by have := I.answer; omega) (by have := I.answer; omega))
 have x12 : kms (Rv.encV e) = (e.answer, ((num e.till ++ (Rv.txs e.targets ++ ([] : Bs))), 0)) := by unfold kms; rw [x11]; exact g12.back _
 have g13 : Licit.Good (ka3 0 1000) (num e.till) e.till := (kct (n := e.till) I.t0 (by have := I.t1; omega) I.t0 I.t1)
 have x13 : kof (Rv.encV e) = (e.till, ((Rv.txs e.targets ++ ([] : Bs)), 0)) := by unfold kof; rw [x12]; exact g13.back _
 have g14 : Licit.Good (ka5 32) (Rv.txs e.targets) e.targets := (kdi (by unfold kb1; rw [List.all_eq_true]; intro x hx; simpa using I.aimed x hx) (by have := I.aims; omega)).1
 have x14 : khc (Rv.encV e) = (e.targets, (([] : Bs), 0)) := by unfold khc; rw [x13]; exact g14.back _
 have hev : kip (Rv.encV e) = { e with sg := Rv.sg0 } := by
  unfold kip
  rw [x1, x2, x3, x4, x5, x6, x7, x8, x9, x10, x11, x12, x13, x14]
 have hok : ky7 (Rv.encV e) = true := by
  unfold ky7
  rw [hev, x14, show Rv.validB { e with sg := Rv.sg0 } = true from h]
  rfl
 unfold vdF vdV
 rw [hok, hev]
 exact ⟨rfl, rfl⟩
end Go.Proofs.YtknpbekoenbphaaGreatDoor
