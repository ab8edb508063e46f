/- Parts of the proofs: FrmPrs. No condition beyond those at each theorem. -/
import Derived.Test.YtknpbekoenbphaaGreatDoorQk01
set_option linter.unusedVariables false
set_option linter.unusedSimpArgs false
set_option maxHeartbeats 16000000
set_option maxRecDepth 100000
namespace Licit
open Go Go.RowKit
def pbC (p:Nat × Nat):List Value:=[.int .u8 (p.1:Int),.int .u8 (p.2:Int)]
def kjx (v:Value) (D:List (Nat × Nat)) (w:World):Prop:=D.length≤maxLen∧(∀p∈D,p.1<256∧p.2<256)∧((∃a cap,v = .slice a 0 cap∧D=[]) ∨
 ∃b off cap,v = .slice (some ⟨b,off,none⟩) D.length cap∧0<D.length∧b<w.heap.size∧∀i (h:i<D.length),w.rangeAt b (off+i*2) (pbC D[i]))
theorem kjx.at {a:Option Addr} {n cap:Nat} {D:List (Nat × Nat)} {w:World} (h:kjx (.slice a n cap) D w) {i:Nat} (hi:i<D.length):∃b off,a=some ⟨b,off,none⟩∧b<w.heap.size∧w.rangeAt b (off+i*2) (pbC D[i]):=by
 rcases h.2.2 with ⟨a,cap,e,rfl⟩|⟨b,off,cap,e,h0,hlt,hc⟩
 ·simp at hi
 ·simp only [Value.slice.injEq] at e
  obtain ⟨rfl,-,-⟩:=e;exact ⟨b,off,rfl,hlt,hc i hi⟩
end Licit
