/- Parts of the proofs: FrmAll. No condition beyond those at each theorem. -/
import Derived.Deep.MidRow
import Derived.Deep.RegionHeld3
import Derived.Laws.DeepStrings4
import Derived.Laws.IdiomCopy
import Derived.Laws.IdiomStrings
import Derived.Laws.Rows
import Derived.Laws.Tables
import Derived.Lib.Builder
import Derived.Lib.Hide
import Derived.Lib.Strings
import Derived.OwnWalkIn
import Derived.RangeFuncCalls
import Derived.RangeFuncNested
import Derived.RangeFuncOwn
import Derived.RegionTactic
import Derived.StillTailTactics
import Derived.WalkKit
import Derived.WalkLawsBesides
set_option linter.unusedVariables false
set_option linter.unusedSimpArgs false
set_option maxHeartbeats 16000000
set_option maxRecDepth 100000
namespace Licit
open Go
theorem hdd {p:Prop} (h:p):Go.RowKit.Hid p:=Lib.hid h
theorem ar1 {P:Program} {md:Region.Mode} {ops:Array Oper} {Q:Exit→Act→World→Prop} {S:World→Prop} {fuel:Nat} {listed:Array Bool} {a:Act} {w:World} {i:Nat} {o:Oper} (ho:ops[i]? = some o) (h:∀K':Act→World→Prop,Shut (∀a w,S w→(S w→wpAnyH P md ops Q S fuel (listed.setIfInBounds i true) a w)→K' a w)→if Region.wanted o (yielded ops a.tmps)=true then Oper.wp P o a w K' Q else K' (a.put o.dst undef) w):AllReadyH P md ops Q S fuel listed a w [i]:=AllReadyH.cons ho h AllReadyH.nil
theorem s4 {α:Type} (l:List α) (i:Nat) (h:i<l.toArray.size):l.toArray[i]'h=l[i]'(by simpa using h):=List.getElem_toArray ..
theorem s5 {α:Type} (a:α) (l:List α) (i:Nat) (h:i+1<(a :: l).length):(a :: l)[i+1]'h=l[i]'(Nat.lt_of_succ_lt_succ h):=rfl
theorem s6 {α:Type} (a:α) (l:List α) (h:0<(a :: l).length):(a :: l)[0]'h=a:=rfl
theorem s7 {α:Type} (l:List α) (i:Nat):l.toArray[i]? = l[i]?:=List.getElem?_toArray
theorem s8 {α:Type} (a:α) (l:List α) (i:Nat):(a :: l)[i+1]? = l[i]?:=rfl
theorem s9 {α:Type} (a:α) (l:List α):(a :: l)[0]? = some a:=rfl
end Licit
namespace Licit
open Go Go.RowKit
abbrev Bs:=List UInt8
def B (l:Bs):ByteArray:=⟨l.toArray⟩
@[simp] theorem B_list (l:Bs):(B l).data.toList=l:=rfl
theorem kzh (s:ByteArray):B s.data.toList=s:=rfl
theorem kdf (l:Bs):(B l).size=l.length:=rfl
theorem ky7 {a b:Bs} (h:B a=B b):a=b:=by have:=congrArg (fun s:ByteArray=>s.data.toList) h;simpa using this
theorem ka5 (a b:Bs):B a++B b=B (a++b):=by
 show ByteArray.append _ _=_
 apply ByteArray.ext
 simp [B,ByteArray.append]
structure ka7 (S:Nat→Prop) (w w':World):Prop where
 os:w'.os=w.os
 tape:w'.tape=w.tape
 output:w'.output=w.output
 size:w.heap.size≤w'.heap.size
 block:∀k,k<w.heap.size→¬ S k→w'.heap[k]? = w.heap[k]?
abbrev One (r:Nat):Nat→Prop:=fun k=>k=r
section
variable {S S':Nat→Prop} {w w' w'':World}
theorem ka7.refl (S:Nat→Prop) (w:World):ka7 S w w:=⟨rfl,rfl,rfl,Nat.le_refl _,fun _ _ _=>rfl⟩
theorem ka7.trans (h:ka7 S w w') (k:ka7 S w' w''):ka7 S w w'' :=
 ⟨k.os.trans h.os,k.tape.trans h.tape,k.output.trans h.output,Nat.le_trans h.size k.size,fun i hi hs=>(k.block i (Nat.lt_of_lt_of_le hi h.size) hs).trans (h.block i hi hs)⟩
theorem ka7.mono (h:ka7 S w w') (hs:∀k,k<w.heap.size→S k→S' k):ka7 S' w w' :=
 ⟨h.os,h.tape,h.output,h.size,fun i hi hn=>h.block i hi (fun c=>hn (hs i hi c))⟩
theorem ka7.of_below (h:Below w.heap.size w w'):ka7 S w w':=⟨h.os,h.tape,h.output,h.size,fun i hi _=>h.block i hi⟩
theorem ka7.below {B:Nat} (h:ka7 S w w') (hB:B≤w.heap.size) (hS:∀k,k<B→¬ S k):Below B w w' :=
 ⟨h.os,h.tape,h.output,h.size,fun i hi=>h.block i (Nat.lt_of_lt_of_le hi hB) (hS i hi)⟩
theorem ka7.drew (h:ka7 S w w'):ka7 S w w'.drew:=⟨h.os,h.tape,h.output,h.size,h.block⟩
theorem ka7.alloc (h:ka7 S w w') (o:Obj):ka7 S w (w'.alloc o) :=
 h.trans (ka7.of_below ((Below.refl _ _).alloc (Nat.le_refl _) o))
theorem ka7.setCell (h:ka7 S w w') {p:Addr} (hp:w.heap.size≤p.block∨S p.block) (u:Value):ka7 S w (w'.setCell p u) :=
 ⟨h.os,h.tape,h.output,by simpa [World.setCell] using h.size,fun k hk hs=>by
   rw [Below.heap_setCell _ _ _ _ (fun e=>by subst e;rcases hp with c|c;omega;exact hs c)];exact h.block k hk hs⟩
theorem ka7.grown {row:Option Nat} (h:ka7 S w w') (hg:w'.grownBy w'' row) (hr:∀k,row=some k→w.heap.size≤k∨S k):ka7 S w w'' :=
 ⟨hg.os.trans h.os,hg.tape.trans h.tape,hg.output.trans h.output,Nat.le_trans h.size hg.size,fun k hk hs=>by
   rw [hg.block k (Nat.lt_of_lt_of_le hk h.size) (fun e=>by rcases hr k e.symm with c|c;omega;exact hs c)];exact h.block k hk hs⟩
theorem ka7.cell (h:ka7 S w w') {b o:Nat} (hb:b<w.heap.size) (hs:¬ S b):w'.cell? ⟨b,o,none⟩=w.cell? ⟨b,o,none⟩ :=
 World.cell?_of_block (w:=w) (h.block b hb hs)
end
section
variable {w:World} {r:Nat} {cs:Array Value} {T:TypeId} {fr:Nat × Nat}
theorem kaa (h:w.heap[r]? = some (.cells cs T fr)) (i:Nat):w.cell? ⟨r,i,none⟩=cs[i]?:=Lib.cell_of_heap h i
theorem kbm (h:w.heap[r]? = some (.cells cs T (0,0))) (i:Nat):w.frozen? ⟨r,i,none⟩=false:=by simp [World.frozen?,h]
theorem kad (h:w.heap[r]? = some (.cells cs T fr)):r<w.heap.size:=by
 rcases Nat.lt_or_ge r w.heap.size with c|c
 ·exact c
 ·simp [Array.getElem?_eq_none c] at h
theorem set_of (h:w.heap[r]? = some (.cells cs T fr)) (i:Nat) (v:Value):(w.setCell ⟨r,i,none⟩ v).heap[r]? = some (.cells (cs.setIfInBounds i v) T fr):=by
 simp [World.setCell,Array.getElem?_modify,h]
theorem kai (w:World) (o:Obj):(w.alloc o).heap[w.heap.size]? = some o:=by show (w.heap.push o)[w.heap.size]? = _;simp
end
theorem kbj {w:World} {o:Nat} {x:Value} {t:TypeId} {fr:Nat × Nat} (hb:w.heap[o]? = some (.cells #[x] t fr)):∀j u,[x][j]? = some u→w.cell? ((⟨o,0,none⟩:Addr).add j)=some u:=fun j u hu=>by
 have hadd:(⟨o,0,none⟩:Addr).add j=⟨o,j,none⟩:=by unfold Addr.add;split <;> simp_all
 rw [hadd,kaa hb]
 simpa using hu
theorem kay {S:Nat→Prop} {w w':World} {base:Nat} {e:TypeId} {size:Nat} {v:Value} {n:Nat} {xs:List Value} (h:w.ownsRow base e size v n xs) (hk:ka7 S w w') (hS:∀k,base≤k→¬ S k):w'.ownsRow base e size v n xs:=by
 obtain ⟨h1,h2⟩:=h;refine ⟨h1,?_⟩;rcases h2 with h2|⟨g,cap,cur,hv,hg,hh,r⟩
 ·exact .inl h2
 ·exact .inr ⟨g,cap,cur,hv,hg,by rw [hk.block g (kad hh) (hS g hg)];exact hh,r⟩
theorem kbh {w:World} {base base':Nat} {e:TypeId} {size:Nat} {v:Value} {n:Nat} {xs:List Value} (h:w.ownsRow base e size v n xs) (hb:base'≤base):w.ownsRow base' e size v n xs:=by
 obtain ⟨h1,h2⟩:=h;refine ⟨h1,?_⟩;rcases h2 with h2|⟨g,cap,cur,hv,hg,hh,r⟩
 ·exact .inl h2
 ·exact .inr ⟨g,cap,cur,hv,Nat.le_trans hb hg,hh,r⟩
section
variable (w:World) (a b c:Value) {T U V:TypeId}
theorem kwv:(w.alloc (.cells #[a] T)).cell? ⟨w.heap.size,0,none⟩=some a:=by rw [kaa (kai _ _)];rfl
end
def IsSl (v:Value) (xs:List Value) (w:World):Prop :=
 xs.length≤maxLen∧((∃a cap,v = .slice a 0 cap∧xs=[]) ∨
  ∃b off cap,v = .slice (some ⟨b,off,none⟩) xs.length cap∧0<xs.length∧∀i,i<xs.length→w.cell? ⟨b,off+i,none⟩=xs[i]?)
theorem IsSl.below {v:Value} {xs:List Value} {w w':World} (h:IsSl v xs w) (hb:Below w.heap.size w w'):IsSl v xs w':=by
 refine ⟨h.1,?_⟩;rcases h.2 with h|⟨b,off,cap,rfl,h0,hc⟩
 ·exact .inl h
 ·refine .inr ⟨b,off,cap,rfl,h0,fun i hi=>?_⟩
  have hx:=hc i hi;have hlt:b<w.heap.size:=World.block_lt_of_cell? w _ (hx.trans (List.getElem?_eq_getElem hi));rw [hb.cell (p:=⟨b,off+i,none⟩) hlt];exact hx
theorem IsSl.of_owns {w:World} {base:Nat} {e:TypeId} {v:Value} {xs:List Value} (h:w.ownsRow base e 1 v xs.length xs) (hm:xs.length≤maxLen):IsSl v xs w:=by
 refine ⟨hm,?_⟩;rcases h.2 with ⟨rfl,h0⟩|⟨g,cap,cur,rfl,hg,hh,h1,h2,h3,h4⟩
 ·exact .inl ⟨none,0,by rw [],List.eq_nil_of_length_eq_zero h0⟩
 ·by_cases h0:xs.length=0
  ·exact .inl ⟨_,cap,by rw [h0],List.eq_nil_of_length_eq_zero h0⟩
  ·refine .inr ⟨g,0,cap,rfl,by omega,fun i hi=>?_⟩
   have h5:xs[i]? = (List.take (xs.length*1) cur.toList)[i]?:=by rw [h4]
   rw [kaa hh,Nat.zero_add,h5,List.getElem?_take_of_lt (by omega),Array.getElem?_toList]
theorem kag {w:World} {base:Nat} {e:TypeId} {size:Nat} {v:Value} {n:Nat} {xs:List Value} (h:w.ownsRow base e size v n xs):∃a cap,v = .slice a n cap:=by
 rcases h.2 with ⟨rfl,rfl⟩|⟨g,cap,cur,rfl,_⟩
 ·exact ⟨none,0,rfl⟩
 ·exact ⟨_,cap,rfl⟩
theorem kax {w:World} {base:Nat} {e:TypeId} {size:Nat} {v:Value} {n:Nat} {xs:List Value} (h:w.ownsRow base e size v n xs) (hn:0<n):∃g cap,v = .slice (some ⟨g,0,none⟩) n cap∧base≤g∧g<w.heap.size∧n≤cap:=by
 rcases h.2 with ⟨rfl,rfl⟩|⟨g,cap,cur,rfl,h1,h2,h3,_⟩
 ·omega
 ·exact ⟨g,cap,rfl,h1,kad h2,h3⟩
theorem IsSl.form {v:Value} {xs:List Value} {w:World} (h:IsSl v xs w):∃a cap,v = .slice a xs.length cap:=by
 rcases h.2 with ⟨a,cap,rfl,rfl⟩|⟨b,off,cap,rfl,_⟩
 ·exact ⟨a,cap,rfl⟩
 ·exact ⟨_,cap,rfl⟩
theorem IsSl.formMap {α:Type} {V:α→Value} {v:Value} {xs:List α} {w:World} (h:IsSl v (xs.map V) w):∃a cap,v = .slice a xs.length cap:=by
 obtain ⟨a,cap,h⟩:=h.form;exact ⟨a,cap,by rw [h,List.length_map]⟩
def kt8 (size:Nat) (v:Value) (n:Nat) (xs:List Value) (w:World):Prop :=
 n≤maxLen∧xs.length=n*size∧((∃a cap,v = .slice a 0 cap∧n=0) ∨
  ∃b off cap,v = .slice (some ⟨b,off,none⟩) n cap∧0<n∧∀j,j<n*size→w.cell? ⟨b,off+j,none⟩=xs[j]?)
theorem kt8.at {size:Nat} {a:Option Addr} {cap:Nat} {n:Nat} {xs:List Value} {w:World} (h:kt8 size (.slice a n cap) n xs w) (hs:0<size) {k:Nat} (hk:k<n) :
 ∃b off,a=some ⟨b,off,none⟩∧b<w.heap.size∧∀j,j<size→w.cell? ⟨b,off+(k*size+j),none⟩=xs[k*size+j]?:=by
 rcases h.2.2 with ⟨a',cap',e,h0⟩|⟨b,off,cap',e,h0,hc⟩
 ·omega
 ·simp only [Value.slice.injEq] at e
  have hlt:∀j,j<size→k*size+j<n*size:=fun j hj=>by
   have:(k+1)*size≤n*size:=Nat.mul_le_mul_right _ hk
   rw [Nat.add_mul] at this;omega
  have h1:=hc (k*size+0) (hlt 0 hs);rw [List.getElem?_eq_getElem (by rw [h.2.1];exact hlt 0 hs)] at h1;exact ⟨b,off,e.1,World.block_lt_of_cell? w _ h1,fun j hj=>hc _ (hlt j hj)⟩
theorem IsSl.at {a:Option Addr} {cap:Nat} {xs:List Value} {w:World} (h:IsSl (.slice a xs.length cap) xs w) {k:Nat} (hk:k<xs.length) :
 ∃b off,a=some ⟨b,off,none⟩∧b<w.heap.size∧w.cell? ⟨b,off+k,none⟩=some xs[k]:=by
 rcases h.2 with ⟨a',cap',e,h0⟩|⟨b,off,cap',e,h0,hc⟩
 ·subst h0;exact (Nat.not_lt_zero _ hk).elim
 ·simp only [Value.slice.injEq] at e
  have hx:=hc k hk;rw [List.getElem?_eq_getElem hk] at hx;exact ⟨b,off,e.1,World.block_lt_of_cell? w _ hx,hx⟩
section
variable {P:Program}
theorem ka8 {ops:Array Oper} {rest:List Oper} {o:Oper} {a:Act} {w:World} {Q:Exit→Act→World→Prop} (hgd:o.guard=none) (ty:TypeId) (x y:Operand) (ho:o.op = .store ty x y)
 (g:Nat) (hx:a.eval x = .pointer (some ⟨g,0,none⟩)) (cs:Array Value) (hy:a.eval y = .agg cs) (t:TypeId) (old:Array Value) (hg:w.heap[g]? = some (.cells old t (0,0)))
 (hi:(P.info? ty).map (·.size)=some cs.size) (hs:old.size=cs.size) (h1:cs.all (·.oneCell')=true)
 (h:wpList P ops Q rest (a.put o.dst undef) (w.setRow g cs)):wpList P ops Q (o :: rest) a w :=
 wpList_plain hgd fun K hK=>by
  unfold Oper.wp execOp;simp only [ho,hx,hy,Instr.storeAt,Instr.sureAddr,Sem.run_bind,Sem.run_pure,Result.andThen_ok,run_storeVar_row w g t ty old cs hg hi hs h1];exact hK _ _ h
theorem kbv {fn:Func} {p:Tmp} {ty:TypeId} (h:fn.results = #[.cell p ty]) {a:Act} {w:World} {R:Ending→World→Prop} (g:Nat) (t:TypeId) (cs:Array Value) (fr:Nat × Nat) (d:TypeDesc)
 (hp:a.tmps.getD p undef = .pointer (some ⟨g,0,none⟩)) (hg:w.heap[g]? = some (.cells cs t fr))
 (hu:P.underlying ty=some d) (hd:(match d with|.struct _|.array _ _=>true|_=>false)=true) (hi:(P.info? ty).map (·.size)=some cs.size)
 (hde:a.defers=[]) (hR:R (.returned (.agg cs)) w):bodyPost P fn R .ret a w :=
 bodyPost_ret (results_cell_row h _ w g t cs fr d hp hg hu hd hi) hde hR
theorem kef {t e:TypeId} {n:Nat} {cs:Array Value} {v:Value} (h:P.underlying t=some (.array n e)) (he:∀w:World,(isAgg e).run P w=Result.ok false w) (hz:∀w:World,(Go.sizeOf e).run P w=Result.ok 1 w) {i:Nat} (hi:i<n) (hv:cs[i]? = some v) (w:World) :
 (Instr.index t (.agg cs) (.int .i64 (i:Int))).run P w = .ok v w:=by
 have hin:(0:Int)≤(i:Int)∧(i:Int)<(n:Int):=by omega
 simp [Instr.index,run_underlying h,asIntOf,hi,part,he,hz,hv,go_sem]
theorem kf0 {w:World} {r:Nat} {cs cs':Array Value} {T:TypeId} {fr:Nat × Nat} (h:w.heap[r]? = some (.cells cs T fr)):(w.setRow r cs').heap[r]? = some (.cells cs' T fr):=setRow_heap w r cs cs' T fr h
theorem kgl {w:World} {r k:Nat} {cs:Array Value} {o:Obj} (h:w.heap[k]? = some o) (hn:k≠r):(w.setRow r cs).heap[k]? = some o:=by rw [setRow_other _ _ _ _ hn];exact h
theorem kbf {w:World} {p:Addr} {k:Nat} {v:Value} {o:Obj} (h:w.heap[k]? = some o) (hn:k≠p.block):(w.setCell p v).heap[k]? = some o:=by rw [Below.heap_setCell _ _ _ _ hn];exact h
theorem kah {w:World} {k:Nat} {o o':Obj} (h:w.heap[k]? = some o):(w.alloc o').heap[k]? = some o:=by
 have hlt:k<w.heap.size:=(Array.getElem?_eq_some_iff.1 h).1;show (w.heap.push o')[k]? = some o;rw [Array.getElem?_push,if_neg (by omega)];exact h
theorem kak {w:World} {o o':Obj} {k:Nat} (hk:k=w.heap.size) (ho:o=o'):(w.alloc o).heap[k]? = some o':=by subst hk;subst ho;exact kai _ _
theorem _root_.Go.RowKit.Below.setRow' {B:Nat} {w w':World} (h:Below B w w') {r:Nat} (hr:B≤r) (cs:Array Value):Below B w (w'.setRow r cs) :=
 ⟨h.os,h.tape,h.output,by simpa using h.size,fun k hk=>by rw [setRow_other _ _ _ _ (by omega)];exact h.block k hk⟩
theorem kab {B:Nat} {w w':World} (h:Below B w w') {k:Nat} (hk:k<B) {o:Obj} (ho:w.heap[k]? = some o):w'.heap[k]? = some o:=by rw [h.block k hk];exact ho
theorem bhh {w w':World} {b:Nat} {cs:Array Value} {T:TypeId} {fr:Nat × Nat} (hb:Below w.heap.size w w') (h:Go.RowKit.Hid (w.heap[b]? = some (.cells cs T fr))):Go.RowKit.Hid (w'.heap[b]? = some (.cells cs T fr)):=Lib.hid (kab hb (kad h.out) h.out)
end
theorem kga {w:World} {base:Nat} {e:TypeId} {size:Nat} {v:Value} {n:Nat} {xs:List Value} (h:w.ownsRow base e size v n xs) {p:Addr} {v':Value} (hp:p.block<base):(w.setCell p v').ownsRow base e size v n xs:=by
 obtain ⟨h1,h2⟩:=h;refine ⟨h1,?_⟩;rcases h2 with h2|⟨g,cap,cur,hv,hg,hh,r⟩
 ·exact .inl h2
 ·exact .inr ⟨g,cap,cur,hv,hg,kbf hh (by omega),r⟩
theorem kcd {w w':World} {base:Nat} {e:TypeId} {size:Nat} {v:Value} {n:Nat} {xs:List Value} (h:w.ownsRow base e size v n xs) (hb:∀k,base≤k→k<w.heap.size→w'.heap[k]? = w.heap[k]?):w'.ownsRow base e size v n xs:=by
 obtain ⟨h1,h2⟩:=h;refine ⟨h1,?_⟩;rcases h2 with h2|⟨g,cap,cur,hv,hg,hh,r⟩
 ·exact .inl h2
 ·exact .inr ⟨g,cap,cur,hv,hg,by rw [hb g hg (kad hh)];exact hh,r⟩
theorem kd5 {w:World} {b:Nat} {cs:Array Value} {e:TypeId} {base n:Nat} (h:w.heap[b]? = some (.cells cs e (0,0))) (hb:base≤b) (hn:cs.size=n) (hm:n≤maxLen):w.ownsRow base e 1 (.slice (some ⟨b,0,none⟩) n n) n cs.toList:=by
 subst hn;exact ⟨by simp,.inr ⟨b,cs.size,cs,rfl,hb,h,Nat.le_refl _,hm,by simp,by rw [List.take_of_length_le (by simp)]⟩⟩
def kms (C:Array Value):Nat→List Value→Array Value
 |_,[]=>C
 |o,v :: r=>kms (C.setIfInBounds o v) (o+1) r
theorem kiz:∀(vs:List Value) (C:Array Value) (o:Nat),(kms C o vs).size=C.size
 | [],_,_=>rfl
 |v :: r,C,o=>by rw [kms,kiz r];simp
theorem kgx:∀(vs:List Value) (C:Array Value) (o i:Nat),i<o∨o+vs.length≤i→(kms C o vs)[i]? = C[i]?
 | [],_,_,_,_=>rfl
 |v :: r,C,o,i,h=>by
  have h':i<o+1∨o+1+r.length≤i:=by simp at h;omega
  rw [kms,kgx r _ _ _ h',Array.getElem?_setIfInBounds_ne (by simp at h;omega)]
theorem kle:∀(vs:List Value) (C:Array Value) (o i:Nat),o+vs.length≤C.size→i<vs.length→(kms C o vs)[o+i]? = vs[i]?
 | [],_,_,_,_,h=>by simp at h
 |v :: r,C,o,i,hs,h=>by
  simp only [List.length_cons] at hs h
  cases i with
  |zero =>
   rw [kms,Nat.add_zero,kgx r _ _ _ (by omega)];simp [show o<C.size by omega]
  |succ i =>
   rw [kms,show o+(i+1)=o+1+i by omega,kle r _ _ _ (by simp;omega) (by omega)];rfl
theorem kcu {b:Nat} {T:TypeId} {fr:Nat × Nat}:∀(vs:List Value) (C:Array Value) (o:Nat) (w:World),w.heap[b]? = some (.cells C T fr)→(w.setCells b o vs).heap[b]? = some (.cells (kms C o vs) T fr)
 | [],_,_,_,h=>h
 |v :: r,C,o,w,h=>by
  rw [World.setCells,kms];exact kcu r _ _ _ (set_of h o v)
theorem kb9 {S:Nat→Prop} {b:Nat}:∀(vs:List Value) (o:Nat) (w0 w:World),ka7 S w0 w→w0.heap.size≤b∨S b→ka7 S w0 (w.setCells b o vs)
 | [],_,_,_,h,_=>h
 |v :: r,o,w0,w,h,hb=>by
  rw [World.setCells];exact kb9 r _ _ _ (h.setCell (p:=⟨b,o,none⟩) hb v) hb
theorem kop {w:World} {b:Nat} {C:Array Value} {T:TypeId} {fr:Nat × Nat} (h:w.heap[b]? = some (.cells C T fr)) (o:Nat) (vs:List Value) (hv:∀i,i<vs.length→C[o+i]? = vs[i]?):w.rangeAt b o vs:=by
 intro j v hj
 rw [kaa h,hv j (by
  rcases Nat.lt_or_ge j vs.length with c|c
  ·exact c
  ·rw [List.getElem?_eq_none c] at hj;cases hj)]
 exact hj
theorem kfl {w:World} {b:Nat} {C:Array Value} {T:TypeId} (h:w.heap[b]? = some (.cells C T (0,0))) (o n:Nat) (hn:o+n≤C.size):w.there b o n:=by
 intro j hj;refine ⟨?_,kbm h _⟩;rw [kaa h,Array.getElem?_eq_getElem (by omega)];rfl
section
variable {P:Program}
theorem kac {ops:Array Oper} {rest:List Oper} {o:Oper} {a:Act} {w:World} {Q:Exit→Act→World→Prop} (hgd:o.guard=none) (ty:TypeId) (x y:Operand) (ho:o.op = .store ty x y)
 (g:Nat) (hx:a.eval x = .pointer (some ⟨g,0,none⟩)) (cs:Array Value) (hy:a.eval y = .agg cs) (t:TypeId) (old:Array Value) (hg:w.heap[g]? = some (.cells old t (0,0)))
 (hi:(P.info? ty).map (·.size)=some cs.size) (hs:old.size=cs.size) (h1:cs.all (·.oneCell')=true)
 (h:∀w',w'.heap[g]? = some (.cells cs t (0,0))→ka7 (One g) w w'→wpList P ops Q rest (a.put o.dst undef) w'):wpList P ops Q (o :: rest) a w :=
 ka8 hgd ty x y ho g hx cs hy t old hg hi hs h1 (h _ (kf0 hg) ⟨rfl,rfl,rfl,by simp,fun k _ hn=>setRow_other _ _ _ _ hn⟩)
theorem kaz {ops:Array Oper} {rest:List Oper} {op:Oper} {a:Act} {w:World} {Q:Exit→Act→World→Prop} (hgd:op.guard=none) (ty:TypeId) (x y:Operand) (ho:op.op = .store ty x y)
 (b o:Nat) (cells:Array Value) (hx:a.eval x = .pointer (some ⟨b,o,none⟩)) (hy:a.eval y = .agg cells) (C:Array Value) (T:TypeId) (hg:w.heap[b]? = some (.cells C T (0,0))) (hn:o+cells.size≤C.size)
 (hi:(P.info? ty).map (·.size)=some cells.size) (h1:cells.all (·.oneCell')=true)
 (h:∀w',w'.heap[b]? = some (.cells (kms C o cells.toList) T (0,0))→ka7 (One b) w w'→wpList P ops Q rest (a.put op.dst undef) w'):wpList P ops Q (op :: rest) a w :=
 wpList_store_mid hgd ty x y ho b o cells hx hy (kfl hg o _ hn) hi h1 (h _ (kcu _ _ _ _ hg) (kb9 _ _ _ _ (ka7.refl _ _) (.inr rfl)))
theorem kae {ops:Array Oper} {rest:List Oper} {op:Oper} {a:Act} {w:World} {Q:Exit→Act→World→Prop} (hgd:op.guard=none) (ty:TypeId) (x y:Operand) (ho:op.op = .store ty x y)
 (b o:Nat) (hx:a.eval x = .pointer (some ⟨b,o,none⟩)) (v:Value) (hy:a.eval y=v) (hv:v.cells = #[v]) (h1:v.oneCell'=true) (C:Array Value) (T:TypeId) (hg:w.heap[b]? = some (.cells C T (0,0))) (hn:o<C.size)
 (hi:(P.info? ty).map (·.size)=some 1)
 (h:∀w',w'.heap[b]? = some (.cells (C.setIfInBounds o v) T (0,0))→ka7 (One b) w w'→wpList P ops Q rest (a.put op.dst undef) w'):wpList P ops Q (op :: rest) a w:=by
 refine wpList_plain hgd fun K hK=>?_
 have hr:(storeVar ty ⟨b,o,none⟩ v).run P w = .ok () (w.setCell ⟨b,o,none⟩ v):=by
  have ht:=kfl hg o 1 (by omega)
  have:=run_storeCells_cells (P:=P) b o [v] 0 w (fun j hj=>by simpa using (ht j (by simpa using hj)).1) (fun j hj=>by simpa using (ht j (by simpa using hj)).2)
   (fun u hu=>by simp at hu;subst hu;exact h1)
  cases hq:P.info? ty with
  |none=>simp [hq] at hi
  |some i =>
   have hs:1=i.size:=by simp [hq] at hi;omega
   simp only [Nat.add_zero] at this;simp [storeVar,Go.sizeOf,Go.typeInfo,hq,hv,←hs,this,World.setCells]
 unfold Oper.wp execOp;simp only [ho,hx,hy,Instr.storeAt,Instr.sureAddr,Sem.run_bind,Sem.run_pure,Result.andThen_ok,hr];exact hK _ _ (h _ (set_of hg o v) ((ka7.refl (One b) w).setCell (p:=⟨b,o,none⟩) (.inr rfl) v))
theorem kdd {ops:Array Oper} {rest:List Oper} {op:Oper} {a:Act} {w:World} {Q:Act→Prop} (hgd:op.guard=none) (ty:TypeId) (x:Operand) (ho:op.op = .load ty x)
 (b o:Nat) (hx:a.eval x = .pointer (some ⟨b,o,none⟩)) (cs:List Value) (d:TypeDesc) (hc:w.rangeAt b o cs)
 (hu:P.underlying ty=some d) (hd:d.isRow=true) (hi:(P.info? ty).map (·.size)=some cs.length)
 (h:wpStill P ops w Q rest (a.put op.dst (.agg cs.toArray))):wpStill P ops w Q (op :: rest) a:=by
 refine wpStill_step fun K hK=>?_
 rw [if_pos (by simp [Region.wanted,hgd])];unfold Oper.still execOp;simp only [ho,hx,Instr.loadAt,Instr.sureAddr,Sem.run_bind,Sem.run_pure,Result.andThen_ok,run_loadVar_mid w b o ty cs d hc hu hd hi,Oper.stillUpon_value];exact hK _ h
theorem ke3 {ops:Array Oper} {o:Oper} {a:Act} {w:World} {K:Act→World→Prop} {Q:Exit→Act→World→Prop} {E:Prop} (hgd:o.guard=none) (ty:TypeId) (x:Operand) (ho:o.op = .load ty x)
 (g:Nat) (hx:a.eval x = .pointer (some ⟨g,0,none⟩)) (t:TypeId) (cs:Array Value) (fr:Nat × Nat) (d:TypeDesc) (hg:w.heap[g]? = some (.cells cs t fr))
 (hu:P.underlying ty=some d) (hd:(match d with|.struct _|.array _ _=>true|_=>false)=true) (hi:(P.info? ty).map (·.size)=some cs.size)
 (hK:K (a.put o.dst (.agg cs)) w):if Region.wanted o (yielded ops a.tmps)=true then Oper.wp P o a w K Q else E:=by
 rw [if_pos (by simp [Region.wanted,hgd])];exact wp_load_row ty x ho g hx t cs fr d hg hu hd hi hK
theorem kam {ops:Array Oper} {o:Oper} {a:Act} {w:World} {K:Act→World→Prop} {Q:Exit→Act→World→Prop} {E:Prop} (hgd:o.guard=none) (ty:TypeId) (x y:Operand) (ho:o.op = .store ty x y)
 (g:Nat) (hx:a.eval x = .pointer (some ⟨g,0,none⟩)) (cs:Array Value) (hy:a.eval y = .agg cs) (t:TypeId) (old:Array Value) (hg:w.heap[g]? = some (.cells old t (0,0)))
 (hi:(P.info? ty).map (·.size)=some cs.size) (hs:old.size=cs.size) (h1:cs.all (·.oneCell')=true)
 (h:∀w',w'.heap[g]? = some (.cells cs t (0,0))→ka7 (One g) w w'→K (a.put o.dst undef) w'):if Region.wanted o (yielded ops a.tmps)=true then Oper.wp P o a w K Q else E:=by
 rw [if_pos (by simp [Region.wanted,hgd])];unfold Oper.wp execOp;simp only [ho,hx,hy,Instr.storeAt,Instr.sureAddr,Sem.run_bind,Sem.run_pure,Result.andThen_ok,run_storeVar_row w g t ty old cs hg hi hs h1];exact h _ (kf0 hg) ⟨rfl,rfl,rfl,by simp,fun k _ hn=>setRow_other _ _ _ _ hn⟩
end
section
variable {P:Program}
theorem kaq {ops:Array Oper} {o:Oper} {a:Act} {w:World} {K:Act→World→Prop} {Q:Exit→Act→World→Prop} {E:Prop} (hgd:o.guard=none) (s x:Operand) (t:TypeId)
 (ho:o.op = .call { callee:=.builtin .append,args:=#[s,x],argTypes:=#[t,t] })
 (base:Nat) (e:TypeId) (i:TypeInfo) (z:Value) (size bytes:Nat) (ht:P.underlying t=some (.slice e)) (hi:P.info? e=some i) (hz:i.zero=some z)
 (hsize:i.size=size) (hby:i.bytes=bytes) (hzs:z.cells.size=size) (hsz:0<size)
 (v:Value) (n:Nat) (xs:List Value) (hs:a.eval s=v) (hown:w.ownsRow base e size v n xs)
 (ad:Addr) (m c:Nat) (news:List Value) (hx:a.eval x = .slice (some ad) m c) (hl:news.length=m*size) (hnews:∀j u,news[j]? = some u→w.cell? (ad.add j)=some u) (h1:∀u∈news,u.oneCell'=true)
 (h63:n+m≤maxLen) (hbytes:(n+m)*bytes≤140737488355328) (hbase:base≤w.heap.size)
 (h:∀v' w',w'.ownsRow base e size v' (n+m) (xs++news)→w.grownBy w' v.ownBlock→(v' = .slice none 0 0 ↔ v = .slice none 0 0∧m=0)→K (a.put o.dst v') w') :
 if Region.wanted o (yielded ops a.tmps)=true then Oper.wp P o a w K Q else E:=by
 rw [if_pos (by simp [Region.wanted,hgd])];exact wp_append_own w s x t ho base e i z size bytes ht hi hz hsize hby hzs hsz v n xs hs hown ad m c news hx hl hnews h1 h63 hbytes hbase h
end
section
variable {P:Program}
theorem kan {ops:Array Oper} {op:Oper} {a:Act} {w:World} {K:Act→World→Prop} {Q:Exit→Act→World→Prop} {E:Prop} (hgd:op.guard=none) (ty:TypeId) (x y:Operand) (ho:op.op = .store ty x y)
 (b o:Nat) (hx:a.eval x = .pointer (some ⟨b,o,none⟩)) (v:Value) (hy:a.eval y=v) (hv:v.cells = #[v]) (h1:v.oneCell'=true) (C:Array Value) (T:TypeId) (hg:w.heap[b]? = some (.cells C T (0,0))) (hn:o<C.size)
 (hi:(P.info? ty).map (·.size)=some 1)
 (h:∀w',w'.heap[b]? = some (.cells (C.setIfInBounds o v) T (0,0))→ka7 (One b) w w'→K (a.put op.dst undef) w'):if Region.wanted op (yielded ops a.tmps)=true then Oper.wp P op a w K Q else E:=by
 rw [if_pos (by simp [Region.wanted,hgd])]
 have hr:(storeVar ty ⟨b,o,none⟩ v).run P w = .ok () (w.setCell ⟨b,o,none⟩ v):=by
  have ht:=kfl hg o 1 (by omega)
  have:=run_storeCells_cells (P:=P) b o [v] 0 w (fun j hj=>by simpa using (ht j (by simpa using hj)).1) (fun j hj=>by simpa using (ht j (by simpa using hj)).2)
   (fun u hu=>by simp at hu;subst hu;exact h1)
  cases hq:P.info? ty with
  |none=>simp [hq] at hi
  |some i =>
   have hs:1=i.size:=by simp [hq] at hi;omega
   simp only [Nat.add_zero] at this;simp [storeVar,Go.sizeOf,Go.typeInfo,hq,hv,←hs,this,World.setCells]
 unfold Oper.wp execOp;simp only [ho,hx,hy,Instr.storeAt,Instr.sureAddr,Sem.run_bind,Sem.run_pure,Result.andThen_ok,hr];exact h _ (set_of hg o v) ((ka7.refl (One b) w).setCell (p:=⟨b,o,none⟩) (.inr rfl) v)
end
section
variable {P:Program} (w:World)
variable {w}
theorem kdp (b o:Nat) (w:World) (v:Value):ka7 (One b) w (w.setCell ⟨b,o,none⟩ v):=(ka7.refl (One b) w).setCell (p:=⟨b,o,none⟩) (.inr rfl) v
end
section
variable {P:Program}
theorem kh9 {fn:Func} {p t':Tmp} {ty:TypeId} (h:fn.results = #[.cell p ty,.tmp t']) (tmps:Array Value) (w:World) (g:Nat) (t:TypeId) (cs:Array Value) (fr:Nat × Nat) (d:TypeDesc)
 (hp:tmps.getD p undef = .pointer (some ⟨g,0,none⟩)) (hg:w.heap[g]? = some (.cells cs t fr))
 (hu:P.underlying ty=some d) (hd:(match d with|.struct _|.array _ _=>true|_=>false)=true) (hi:(P.info? ty).map (·.size)=some cs.size) :
 (results fn tmps).run P w = .ok (.tuple #[.agg cs,tmps.getD t' undef]) w:=by
 have hp':tmps[p]?.getD undef = .pointer (some ⟨g,0,none⟩):=by simpa using hp
 simp [results,h,hp',asAddr,run_loadVar_row w g t ty cs fr d hg hu hd hi]
theorem kbs {fn:Func} {p t':Tmp} {ty:TypeId} (h:fn.results = #[.cell p ty,.tmp t']) {a:Act} {w:World} {R:Ending→World→Prop} (g:Nat) (t:TypeId) (cs:Array Value) (fr:Nat × Nat) (d:TypeDesc)
 (hp:a.tmps.getD p undef = .pointer (some ⟨g,0,none⟩)) (hg:w.heap[g]? = some (.cells cs t fr))
 (hu:P.underlying ty=some d) (hd:(match d with|.struct _|.array _ _=>true|_=>false)=true) (hi:(P.info? ty).map (·.size)=some cs.size)
 (hde:a.defers=[]) (hR:R (.returned (.tuple #[.agg cs,a.tmps.getD t' undef])) w):bodyPost P fn R .ret a w :=
 bodyPost_ret (kh9 h _ w g t cs fr d hp hg hu hd hi) hde hR
end
section
variable {P:Program} {ops:Array Oper} {Q:Exit→Act→World→Prop} {md:Region.Mode} {S:World→Prop}
theorem ksw (i t:Nat) {oi:Oper} {v:Value} {fuel:Nat} {listed:Array Bool} {a:Act} {w:World} (hi:ops[i]? = some oi) (hd:oi.dst=some t)
 (hs:Region.noSelect ops=true) (hf:Region.free md ops listed i=true) (hr:(Region.ready md ops listed).contains i=true)
 (hQ:∀c a w,Q (.panic c) (a.put oi.dst v) w→Q (.panic c) a w) (hw:Region.wanted oi (yielded ops a.tmps)=true) (hy:∀w,S w→(execOp a.eval oi).run P w = .ok (.value v) w) (hS:S w)
 (h:wpAnyH P md ops Q S fuel (listed.setIfInBounds i true) (a.put (some t) v) w):wpAnyH P md ops Q S (fuel+1) listed a w :=
 wpAnyH_take hi hs hf hr hQ (.inl ⟨hw,hy⟩) hS (hd ▸ h)
theorem kye (i t:Nat) {oi:Oper} {fuel:Nat} {listed:Array Bool} {a:Act} {w:World} (hi:ops[i]? = some oi) (hd:oi.dst=some t)
 (hs:Region.noSelect ops=true) (hf:Region.free md ops listed i=true) (hr:(Region.ready md ops listed).contains i=true)
 (hQ:∀c a w,Q (.panic c) (a.put oi.dst undef) w→Q (.panic c) a w) (hw:Region.wanted oi (yielded ops a.tmps)=false) (hS:S w)
 (h:wpAnyH P md ops Q S fuel (listed.setIfInBounds i true) (a.put (some t) undef) w):wpAnyH P md ops Q S (fuel+1) listed a w :=
 wpAnyH_take hi hs hf hr hQ (.inr ⟨hw,rfl⟩) hS (hd ▸ h)
def len {α:Type}:List α→Nat
 | []=>0
 |_ :: r=>len r+1
def kat {α:Type}:List α→List Bool
 | []=>[]
 |_ :: r=>false :: kat r
theorem kr3 {α:Type}:∀l:List α,len l=l.length
 | []=>rfl
 |_ :: r=>by rw [List.length_cons,←kr3 r];rfl
theorem ki4 {α:Type}:∀l:List α,kat l=List.replicate l.length false
 | []=>rfl
 |_ :: r=>by rw [List.length_cons,List.replicate_succ,←ki4 r];rfl
def nxt (s:Nat):List Bool→Nat→Option Nat
 | [],_=>none
 |b :: r,k=>bif b || Nat.blt k s then nxt s r (k+1) else some k
def ktz:List Oper→Nat→Option Oper
 | [],_=>none
 |o :: _,0=>some o
 |_ :: r,n+1=>ktz r n
theorem knb:∀(l:List Oper) (i:Nat),ktz l i=l[i]?
 | [],i=>by simp [ktz]
 |_ :: _,0=>rfl
 |_ :: r,n+1=>by rw [List.getElem?_cons_succ,←knb r n];rfl
theorem kf2 {i:Nat} {oi:Oper} (h:ktz ops.toList i=some oi):ops[i]? = some oi:=by rw [knb,Array.getElem?_toList] at h;exact h
theorem kaj {id:Nat} {a:Act} {w:World} (hm:P.follows .mixedOrders=true) (hS:S w.drew) (h:S w.drew→wpAnyH P .any ops Q S (len ops.toList) (kat ops.toList).toArray a w.drew):(Code.region id ops true).wp P Q a w:=by
 refine wp_region_held_drew hm hS fun h0=>?_
 have:=h h0
 rw [kr3,ki4,List.toArray_replicate] at this;exact this
theorem s1 {α:Type} (l:List α) (i:Nat) (a:α):l.toArray.setIfInBounds i a=(l.set i a).toArray:=List.setIfInBounds_toArray ..
theorem s2 {α:Type} (l:List α) (a b:α):(a :: l).set 0 b=b :: l:=rfl
theorem s3 {α:Type} (l:List α) (i:Nat) (a b:α):(a :: l).set (i+1) b=a :: l.set i b:=rfl
theorem tk (s:Nat) {i t:Nat} {oi:Oper} {v:Value} {fuel:Nat} {listed:Array Bool} {a:Act} {w:World} (_:nxt s listed.toList 0=some i) (hi:ktz ops.toList i=some oi) (hd:oi.dst=some t)
 (hc:(Region.noSelect ops && Region.free md ops listed i && (Region.ready md ops listed).contains i && Region.wanted oi (yielded ops a.tmps))=true) (hQ:∀c a w,Q (.panic c) (a.put oi.dst v) w→Q (.panic c) a w)
 (hy:∀w,S w→(execOp a.eval oi).run P w = .ok (.value v) w) (hS:S w) (h:wpAnyH P md ops Q S fuel (listed.setIfInBounds i true) (a.put (some t) v) w):wpAnyH P md ops Q S (fuel+1) listed a w:=by
 simp only [Bool.and_eq_true] at hc;exact ksw i t (kf2 hi) hd hc.1.1.1 hc.1.1.2 hc.1.2 hQ hc.2 hy hS h
theorem tkx (i:Nat) (v:Value) {t:Nat} {oi:Oper} {fuel:Nat} {listed:Array Bool} {a:Act} {w:World} (hi:ktz ops.toList i=some oi) (hd:oi.dst=some t)
 (hc:(Region.noSelect ops && Region.free md ops listed i && (Region.ready md ops listed).contains i && Region.wanted oi (yielded ops a.tmps))=true) (hQ:∀c a w,Q (.panic c) (a.put oi.dst v) w→Q (.panic c) a w)
 (hS:S w) (hy:∀w,S w→(execOp a.eval oi).run P w = .ok (.value v) w) (h:wpAnyH P md ops Q S fuel (listed.setIfInBounds i true) (a.put (some t) v) w):wpAnyH P md ops Q S (fuel+1) listed a w:=by
 simp only [Bool.and_eq_true] at hc;exact ksw i t (kf2 hi) hd hc.1.1.1 hc.1.1.2 hc.1.2 hQ hc.2 hy hS h
theorem ps (s:Nat) {i t:Nat} {oi:Oper} {fuel:Nat} {listed:Array Bool} {a:Act} {w:World} (_:nxt s listed.toList 0=some i) (hi:ktz ops.toList i=some oi) (hd:oi.dst=some t)
 (hc:(Region.noSelect ops && Region.free md ops listed i && (Region.ready md ops listed).contains i && !Region.wanted oi (yielded ops a.tmps))=true) (hQ:∀c a w,Q (.panic c) (a.put oi.dst undef) w→Q (.panic c) a w)
 (hS:S w) (h:wpAnyH P md ops Q S fuel (listed.setIfInBounds i true) (a.put (some t) undef) w):wpAnyH P md ops Q S (fuel+1) listed a w:=by
 simp only [Bool.and_eq_true,Bool.not_eq_true'] at hc;exact kye i t (kf2 hi) hd hc.1.1.1 hc.1.1.2 hc.1.2 hQ hc.2 hS h
end
section
variable {P:Program} {ops:Array Oper} {Q:Exit→Act→World→Prop} {md:Region.Mode} {S:World→Prop}
theorem tz (s:Nat) {i t:Nat} {oi:Oper} {v:Value} {fuel:Nat} {listed:Array Bool} {a:Act} {w:World} (h:wpAnyH P md ops Q S fuel (listed.setIfInBounds i true) (a.put (some t) v) w) (h1:nxt s listed.toList 0=some i:=by rfl) (hi:ktz ops.toList i=some oi:=by rfl) (hd:oi.dst=some t:=by rfl) (hc:(Region.noSelect ops && Region.free md ops listed i && (Region.ready md ops listed).contains i && Region.wanted oi (yielded ops a.tmps))=true:=by kernel_rfl) (hQ:∀c a w,Q (.panic c) (a.put oi.dst v) w→Q (.panic c) a w:=by exact fun _ _ _ h=>h) (hy:∀w,S w→(execOp a.eval oi).run P w = .ok (.value v) w:=by intro W hW;(try dsimp only at hW);go_simp <;> with_reducible rfl) (hS:S w:=by assumption):wpAnyH P md ops Q S (fuel+1) listed a w:=tk s h1 hi hd hc hQ hy hS h
theorem ar2 (i:Nat) {fuel:Nat} {listed:Array Bool} {a:Act} {w:World} {o:Oper} (hr:Region.ready md ops listed=[i]) (ho:ops[i]? = some o) (h:∀K':Act→World→Prop,Shut (∀a w,S w→(S w→wpAnyH P md ops Q S fuel (listed.setIfInBounds i true) a w)→K' a w)→if Region.wanted o (yielded ops a.tmps)=true then Oper.wp P o a w K' Q else K' (a.put o.dst undef) w):wpAnyH P md ops Q S (fuel+1) listed a w:=wpAnyH_ready hr (by simp) (AllReadyH.cons ho h AllReadyH.nil)
end
end Licit
