/- Parts of the proofs: PlainEn, PlainMg, PlainNs, WkNs1, FrmTail, WkNs2. No condition beyond those at each theorem. -/
import Derived.Test.YtknpbekoenbphaaGreatDoorQk28
set_option linter.unusedVariables false
set_option linter.unusedSimpArgs false
set_option maxHeartbeats 16000000
set_option maxRecDepth 100000
namespace Licit.Rv
open Go Licit
section
variable {f:Nat→Nat} {n:Nat} {A:List Nat}
theorem km4 {p q:Nat→Bool} (h:∀k∈A,q (f k)=p k):(A.map f).find? q=(A.find? p).map f:=by
 induction A with
 |nil=>rfl
 |cons a r ih =>
  rw [List.map_cons,List.find?_cons,List.find?_cons,h a (by simp)]
  cases p a with
  |true=>rfl
  |false=>exact ih fun k hk=>h k (by simp [hk])
end
structure Sub (f:Nat→Nat) (cm cl:Cx):Prop where
 ev:∀i,i<cm.l.length→cl.ev (f i)=cm.ev i
 id:∀i,i<cm.l.length→cl.id (f i)=cm.id i
 past:∀i k,i<cm.l.length→k<cm.l.length→cl.past (f i) (f k)=cm.past i k
section
variable {f:Nat→Nat} {cm cl:Cx} {A:List Nat}
theorem Sub.turn (h:Sub f cm cl) (hA:∀k∈A,k<cm.l.length) (a:Bs) (n:Int):cl.turn (A.map f) a n=(cm.turn A a n).map f:=km4 fun k hk=>by rw [h.ev k (hA k hk)]
theorem Sub.named (h:Sub f cm cl) (hA:∀k∈A,k<cm.l.length) (s:Bs):cl.named (A.map f) s=(cm.named A s).map f:=km4 fun k hk=>by rw [h.id k (hA k hk)]
theorem Sub.turn_lt {cm:Cx} {A:List Nat} (hA:∀k∈A,k<cm.l.length) {a:Bs} {n:Int} {j:Nat} (h:cm.turn A a n=some j):j<cm.l.length:=hA j (ksc h).1
theorem Sub.entry (h:Sub f cm cl) (hA:∀k∈A,k<cm.l.length) {i:Nat} (hi:i<cm.l.length):cl.entry (A.map f) (f i)=cm.entry A i:=by
 unfold Cx.entry;rw [h.ev i hi,h.turn hA,h.turn hA,h.turn hA]
 by_cases h1:(cm.ev i).kind=1
 ·rw [if_pos h1,if_pos h1];cases cm.turn A (cm.ev i).author 0 <;> rfl
 ·rw [if_neg h1,if_neg h1]
  cases hj:cm.turn A (cm.ev i).author 0 with
  |none=>rfl
  |some j =>
   have hjl:=Sub.turn_lt hA hj;simp only [Option.map_some];rw [h.past i j hi hjl,h.ev j hjl]
   cases hb:cm.turn A (cm.ev i).author ((cm.ev i).number - 1) with
   |none=>rfl
   |some b =>
    have hbl:=Sub.turn_lt hA hb;simp only [Option.map_some];rw [h.past i b hi hbl]
    cases cm.turn A (cm.ev i).author (cm.ev i).number <;> rfl
theorem Sub.named_lt {cm:Cx} {A:List Nat} (hA:∀k∈A,k<cm.l.length) {s:Bs} {j:Nat} (h:cm.named A s=some j):j<cm.l.length:=hA j (List.mem_of_find?_eq_some h)
theorem Sub.dec (h:Sub f cm cl) (hA:∀k∈A,k<cm.l.length) {i:Nat} (hi:i<cm.l.length) (s:Bs):cl.dec (A.map f) (f i) s=(cm.dec A i s).map f:=by
 unfold Cx.dec;rw [h.named hA]
 cases hj:cm.named A s with
 |none=>rfl
 |some j =>
  have hjl:=Sub.named_lt hA hj;simp only [Option.map_some];rw [h.past i j hi hjl,h.ev j hjl];split <;> rfl
theorem Sub.dec_lt {cm:Cx} {A:List Nat} (hA:∀k∈A,k<cm.l.length) {i:Nat} {s:Bs} {j:Nat} (h:cm.dec A i s=some j):j<cm.l.length:=by
 unfold Cx.dec at h
 cases hj:cm.named A s with
 |none=>rw [hj] at h;cases h
 |some k =>
  rw [hj] at h;simp only [] at h;split at h
  ·cases h;exact Sub.named_lt hA hj
  ·cases h
theorem Sub.targets (h:Sub f cm cl) (hA:∀k∈A,k<cm.l.length) {i:Nat} (hi:i<cm.l.length):cl.targets (A.map f) (f i)=cm.targets A i:=by
 unfold Cx.targets;rw [h.ev i hi]
 by_cases h4:(cm.ev i).kind=4
 ·rw [if_pos h4,if_pos h4,h.dec hA hi]
  cases hj:cm.dec A i ((cm.ev i).targets.getD 0 []) with
  |none=>rfl
  |some j=>simp only [Option.map_some];rw [h.ev j (Sub.dec_lt hA hj)]
 ·rw [if_neg h4,if_neg h4]
  by_cases h5:(cm.ev i).kind=5
  ·rw [if_pos h5,if_pos h5,h.dec hA hi,h.dec hA hi]
   cases hj:cm.dec A i ((cm.ev i).targets.getD 0 []) with
   |none=>rfl
   |some j =>
    cases hk:cm.dec A i ((cm.ev i).targets.getD 1 []) with
    |none=>rfl
    |some k =>
     simp only [Option.map_some];rw [h.ev j (Sub.dec_lt hA hj),h.ev k (Sub.dec_lt hA hk)]
  ·rw [if_neg h5,if_neg h5]
theorem Sub.apply (h:Sub f cm cl) (hA:∀k∈A,k<cm.l.length) {i:Nat} (hi:i<cm.l.length):cl.apply (A.map f) (f i)=cm.apply A i:=by
 unfold Cx.apply;rw [h.entry hA hi,h.targets hA hi]
end
def sorted (l:List Ev) (S:Stt):List Ev:=(ordI S (idsOf l)).map fun i=>l.getD i ev0
theorem sorted_perm {l:List Ev} {S:Stt} (hS:arrS l (idsOf l)=some S):(sorted l S).Perm l:=by
 have hO:=ordI_perm S (idsOf l);have el:=(arrS_lower hS).2.1;have h1:(sorted l S).Perm ((List.range S.length).map fun i=>l.getD i ev0):=hO.map _;refine h1.trans (List.Perm.of_eq ?_);rw [el]
 apply List.ext_getElem
 ·simp
 ·intro i h1 h2
  simp [List.getD_eq_getElem?_getD,List.getElem?_eq_getElem h2]
theorem nodup_le:∀{l m:List Bs},l.Nodup→(∀x∈l,x∈m)→l.length≤m.length
 | [],_,_,_=>Nat.zero_le _
 |a :: r,m,hn,hs=>by
  rw [List.nodup_cons] at hn;have h1:=nodup_le (l:=r) (m:=m.erase a) hn.2 (fun x hx=>(List.mem_erase_of_ne (fun e:x=a=>hn.1 (by rw [←e];exact hx))).2 (hs x (List.mem_cons_of_mem _ hx)));have h2:=List.length_erase_of_mem (hs a (by simp));have h3:0<m.length:=List.length_pos_of_mem (hs a (by simp));simp only [List.length_cons];omega
theorem cntS_set:∀{S:Stt} {i:Nat},i<S.length→S.getD i none=none→∀x:Row,cntS (S.set i (some x))=cntS S+1
 | [],_,h,_,_=>by simp at h
 |a :: r,0,_,h,x=>by
  have:a=none:=h
  subst this;simp [cntS]
 |a :: r,i+1,hi,h,x=>by
  have:=cntS_set (S:=r) (i:=i) (by simpa using hi) h x
  unfold cntS at this ⊢
  cases a <;> simp [this]
def RankB (S:Stt):Prop:=∀i r,S.getD i none=some r→r.1+1≤cntS S
theorem getD_set (S:Stt) {i:Nat} (x:Option Row) (k:Nat) (hi:i<S.length):(S.set i x).getD k none=if k=i then x else S.getD k none:=by
 by_cases h:k=i
 ·subst h;rw [if_pos rfl,kf5 x hi]
 ·rw [if_neg h,getD_set_ne x (Ne.symm h)]
theorem RankB.set {S:Stt} (h:RankB S) {i:Nat} (hi:i<S.length) (hn:S.getD i none=none) {x:Row} (hx:x.1≤cntS S):RankB (S.set i (some x)):=by
 intro k r hr;rw [getD_set S _ k hi] at hr;rw [cntS_set hi hn];split at hr
 ·cases hr;omega
 ·have:=h k r hr;omega
theorem RankB.none (n:Nat):RankB (List.replicate n none):=fun i r h=>by rw [none_at] at h;cases h
theorem Fits.set {S:Stt} (h:Fits S) {i:Nat} (hi:i<S.length) {x:Row} (hx:x.2.length=S.length):Fits (S.set i (some x)):=by
 intro k r hr;rw [getD_set S _ k hi] at hr;rw [List.length_set];split at hr
 ·cases hr;exact hx
 ·exact h k r hr
end Licit.Rv
namespace Go.Proofs.YtknpbekoenbphaaGreatDoor
open Go Go.RowKit Licit
abbrev vBo (b:Bool):Value:=.bool b
def rkV:Option Rv.Row→Value
 |none=>.int .i64 (-1)
 |some r=>.int .i64 (r.1:Int)
def kia (S:Rv.Stt) (i:Nat):Rv.Past:=((S.getD i none).map (·.2)).getD (List.replicate S.length false)
abbrev kew (vL vI vR vP vO:Value):Array Value:=#[vL,vI,vR,vP,vO]
theorem kdg {w:World} {base:Nat} {T:TypeId} {g n cap:Nat} {xs:List Value} (h:w.ownsRow base T 1 (.slice (some ⟨g,0,none⟩) n cap) n xs):∃cur:Array Value,w.heap[g]? = some (.cells cur T (0,0))∧n≤cur.size∧base≤g∧n≤cap∧cap≤maxLen∧cur.size=cap*1∧cur.toList.take (n*1)=xs:=by
 rcases h.2 with ⟨e,_⟩|⟨g',cap',cur,e,h1,h2,h3,h4,h5,h6⟩
 ·cases e
 ·simp only [Value.slice.injEq,Option.some.injEq,Addr.mk.injEq,and_true,true_and] at e
  obtain ⟨rfl,rfl⟩:=e;exact ⟨cur,h2,by omega,h1,h3,h4,h5,h6⟩
theorem kgr {w w':World} {base:Nat} {T:TypeId} {g n cap i:Nat} {v:Value} {xs:List Value} {cur:Array Value} (h:w.ownsRow base T 1 (.slice (some ⟨g,0,none⟩) n cap) n xs) (hcur:w.heap[g]? = some (.cells cur T (0,0))) (hw:w'.heap[g]? = some (.cells (cur.setIfInBounds i v) T (0,0))):w'.ownsRow base T 1 (.slice (some ⟨g,0,none⟩) n cap) n (xs.set i v):=by
 obtain ⟨cur',hc,hz,h1,h3,h4,h5,h6⟩:=kdg h;rw [hcur] at hc
 cases hc;refine ⟨by rw [List.length_set];exact h.1,.inr ⟨g,cap,cur.setIfInBounds i v,rfl,h1,hw,h3,h4,by simpa using h5,?_⟩⟩;rw [←h6,Array.toList_setIfInBounds,List.take_set]
theorem kas {w:World} {base:Nat} {T:TypeId} {size:Nat} {v:Value} {n:Nat} {xs:List Value} {q:Nat} {cs:Array Value} {T':TypeId} {fr:Nat × Nat} (h:w.ownsRow base T size v n xs) (hq:w.heap[q]? = some (.cells cs T' fr)) (hT:T≠T'):∀p,v.ownBlock=some p→p≠q:=by
 rintro p hp rfl;rcases h.2 with ⟨rfl,_⟩|⟨g,cap,cur,rfl,h1,h2,-⟩
 ·cases hp
 ·cases hp
  rw [hq] at h2;simp only [Option.some.injEq,Obj.cells.injEq] at h2;exact hT h2.2.1.symm
theorem km8 {w:World} {base:Nat} {T:TypeId} {size:Nat} {v:Value} {n:Nat} {xs:List Value} (h:w.ownsRow base T size v n xs) {p:Nat} (hp:v.ownBlock=some p):∃cur,w.heap[p]? = some (.cells cur T (0,0)):=by
 rcases h.2 with ⟨rfl,_⟩|⟨g,cap,cur,rfl,h1,h2,-⟩
 ·cases hp
 ·cases hp;exact ⟨cur,h2⟩
structure RkS (l:List Rv.Ev) (ids:List Bs) (S:Rv.Stt) (bs:Nat) (vL vI vR vP:Value) (pv:Nat→Value) (w0 w:World):Prop where
 below:Below w0.heap.size w0 w
 head:w.heap[bs]? = some (.cells (kew vL vI vR vP kaf) 107 (0,0))
 ids:w.ownsRow w0.heap.size 9 1 vI ids.length (ids.map vS)
 ranks:w.ownsRow w0.heap.size 3 1 vR S.length (S.map rkV)
 pasts:w.ownsRow w0.heap.size 122 1 vP S.length ((List.range S.length).map pv)
 rows:∀i,i<S.length→w.ownsRow w0.heap.size 4 1 (pv i) S.length ((kia S i).map vBo)
theorem ktk {S:Rv.Stt} {i:Nat} (hi:i<S.length) (x:Rv.Row) (k:Nat):kia (S.set i (some x)) k=if k=i then x.2 else kia S k:=by
 unfold kia;rw [Rv.getD_set S _ k hi,List.length_set];split <;> rfl
theorem ks6 (n i:Nat) (f:Nat→Value) (v:Value):((List.range n).map f).set i v=(List.range n).map (fun k=>if k=i then v else f k):=by
 apply List.ext_getElem
 ·simp
 ·intro j h1 h2
  rw [List.getElem_set];simp only [List.getElem_map,List.getElem_range]
  by_cases h:i=j
  ·rw [if_pos h,if_pos h.symm]
  ·rw [if_neg h,if_neg (Ne.symm h)]
theorem RkS.set {l:List Rv.Ev} {ids:List Bs} {S:Rv.Stt} {bs:Nat} {vL vI:Value} {g2 c2 g3 c3:Nat} {pv:Nat→Value} {w0 w w5 w6:World} {i P n:Nat} {x:Rv.Row} {cu2 cu3:Array Value}
 (h:RkS l ids S bs vL vI (.slice (some ⟨g2,0,none⟩) S.length c2) (.slice (some ⟨g3,0,none⟩) S.length c3) pv w0 w) (hn:S.length=n) (hi:i<n) (hP:w.heap[P]? = some (.cells (x.2.map vBo).toArray 4 (0,0))) (hPb:w0.heap.size≤P) (hx:x.2.length=n) (hm:n≤maxLen)
 (h2:w.heap[g2]? = some (.cells cu2 3 (0,0))) (h3:w.heap[g3]? = some (.cells cu3 122 (0,0)))
 (h5:w5.heap[g2]? = some (.cells (cu2.setIfInBounds i (.int .i64 (x.1:Int))) 3 (0,0))) (k5:ka7 (Licit.One g2) w w5)
 (h6:w6.heap[g3]? = some (.cells (cu3.setIfInBounds i (.slice (some ⟨P,0,none⟩) n n)) 122 (0,0))) (k6:ka7 (Licit.One g3) w5 w6) (hg2:w0.heap.size≤g2) (hg3:w0.heap.size≤g3) :
 RkS l ids (S.set i (some x)) bs vL vI (.slice (some ⟨g2,0,none⟩) S.length c2) (.slice (some ⟨g3,0,none⟩) S.length c3) (fun k=>if k=i then .slice (some ⟨P,0,none⟩) n n else pv k) w0 w6:=by
 have hne:g2≠g3:=by rintro rfl;rw [h2] at h3;simp only [Option.some.injEq,Obj.cells.injEq] at h3;exact absurd h3.2.1 (by decide)
 have hst:∀q,q<w.heap.size→q≠g2→q≠g3→w6.heap[q]? = w.heap[q]?:=fun q hq a b=>(k6.block q (Nat.lt_of_lt_of_le hq k5.size) b).trans (k5.block q hq a)
 have hty:∀{q:Nat} {cs:Array Value} {T:TypeId} {fr:Nat × Nat},w.heap[q]? = some (.cells cs T fr)→T≠3→T≠122→w6.heap[q]? = w.heap[q]?:=fun {q cs T fr} hq a b=>hst q (kad hq)
  (fun e=>by rw [e,h2] at hq;simp only [Option.some.injEq,Obj.cells.injEq] at hq;exact a hq.2.1.symm)
  (fun e=>by rw [e,h3] at hq;simp only [Option.some.injEq,Obj.cells.injEq] at hq;exact b hq.2.1.symm)
 have hkp:∀{v:Value} {T:TypeId} {m:Nat} {xs:List Value},w.ownsRow w0.heap.size T 1 v m xs→T≠3→T≠122→w6.ownsRow w0.heap.size T 1 v m xs:=fun {v T m xs} ho a b=>kal ho fun q hq=>by
  obtain ⟨cur,hc⟩:=km8 ho hq;exact hty hc a b
 have hb5:Below w0.heap.size w0 w5:=h.below.trans (k5.below h.below.size (fun q hq e=>by have:q=g2:=e;omega));refine ⟨hb5.trans (k6.below hb5.size (fun q hq e=>by have:q=g3:=e;omega)),(hty h.head (by decide) (by decide)).trans h.head,hkp h.ids (by decide) (by decide),?_,?_,fun k hk=>?_⟩
 ·rw [List.length_set,List.map_set]
  have:=kgr h.ranks h2 h5
  exact kal this fun q hq=>by
   cases hq;exact k6.block _ (kad h5) hne
 ·rw [List.length_set,←ks6]
  have h3':w5.heap[g3]? = some (.cells cu3 122 (0,0)):=(k5.block g3 (kad h3) (fun e=>hne (by have:g3=g2:=e;exact this.symm))).trans h3
  have hp5:w5.ownsRow w0.heap.size 122 1 (.slice (some ⟨g3,0,none⟩) S.length c3) S.length ((List.range S.length).map pv):=kal h.pasts fun q hq=>by
   cases hq;exact k5.block _ (kad h3) (fun e=>hne (by have:g3=g2:=e;exact this.symm))
  exact kgr hp5 h3' h6
 ·rw [List.length_set] at hk ⊢
  rw [ktk (by omega)]
  by_cases e:k=i
  ·rw [if_pos e,if_pos e]
   have hP6:=(hty hP (by decide) (by decide)).trans hP
   have:=kd5 (base:=w0.heap.size) (n:=n) hP6 hPb (by simp [hx]) hm
   rw [hn]
   simpa using this
  ·rw [if_neg e,if_neg e]
   exact hkp (h.rows k hk) (by decide) (by decide)
end Go.Proofs.YtknpbekoenbphaaGreatDoor
namespace Licit
open Go Go.RowKit
section
variable {P:Program} {ops:Array Oper} {Q:Exit→Act→World→Prop} {md:Region.Mode} {S:World→Prop} {Tl:List Nat}
def kdq (P:Program) (md:Region.Mode) (ops:Array Oper) (Q:Exit→Act→World→Prop) (S:World→Prop) (Tl:List Nat):Nat→Array Bool→Act→World→Prop
 |0,listed,a,w=>Region.ready md ops listed=[]∧Q .normal a w
 |fuel+1,listed,a,w=>(Region.ready md ops listed=[]→Q .normal a w)∧∀i∈Region.ready md ops listed,wpOp P ops Q i (fun a' w'=>(Tl.contains i=false→S w')∧kdq P md ops Q S Tl fuel (listed.setIfInBounds i true) a' w') a w
theorem kka:∀(fuel:Nat) (listed:Array Bool) (a:Act) (w:World),kdq P md ops Q S Tl fuel listed a w→wpAny P md ops Q fuel listed a w
 |0,_,_,_,h=>h
 |fuel+1,_,_,_,h=>⟨h.1,fun i hi=>wpOp_mono (fun a' w' h'=>kka fuel _ a' w' h'.2) (h.2 i hi)⟩
theorem khq {i:Nat} {oi:Oper} {v:Value} (hi:ops[i]? = some oi) (hsel:∀(j:Nat) (o:Oper) cs b,ops[j]? = some o→o.op≠.select cs b)
 (hQ:∀c a w,Q (.panic c) (a.put oi.dst v) w→Q (.panic c) a w) :
 ∀(fuel:Nat) (listed:Array Bool) (a:Act) (w:World),
  (∀j oj,ops[j]? = some oj→j≠i→listed.getD j true=false→(∀e∈oj.after,Region.binds md e=true→e.on≠i)→oi.apart ops oj=true) →
  (∀j oj,ops[j]? = some oj→j≠i→listed.getD j true=false→(∀e∈oj.after,Region.binds md e=true→e.on≠i)→Tl.contains i=false→Tl.contains j=false) →
  i∈Region.ready md ops listed→YieldsIf P ops (fun w=>Tl.contains i=false→S w) oi v a→(Tl.contains i=false→S w) →
  kdq P md ops Q S Tl fuel (listed.setIfInBounds i true) (a.put oi.dst v) w→kdq P md ops Q S Tl (fuel+1) listed a w:=by
 intro fuel
 induction fuel with
 |zero =>
  intro listed a w _ _ hr hy hS H;refine ⟨fun h=>(by rw [h] at hr;cases hr),fun j hj=>?_⟩
  by_cases hji:j=i
  ·subst hji;exact hy.wpOp hi hS ⟨hS,H⟩
  ·have:=ready_mono hj hji
   rw [H.1] at this
   cases this
 |succ fuel ih =>
  intro listed a w hfree htl hr hy hS H;refine ⟨fun h=>(by rw [h] at hr;cases hr),fun j hj=>?_⟩
  by_cases hji:j=i
  ·subst hji;exact hy.wpOp hi hS ⟨hS,H⟩
  ·have h1:=H.2 j (ready_mono hj hji)
   obtain ⟨hjun,oj,hoj,hall⟩:=mem_ready.1 hj
   have hnot:∀e∈oj.after,Region.binds md e=true→e.on≠i:=fun e he hb heq=>by
    have h1:=hall e he hb;have h0:=(mem_ready.1 hr).1;rw [heq] at h1;rcases Nat.lt_or_ge i listed.size with h'|h'
    ·simp [h'] at h0 h1;rw [h0] at h1;cases h1
    ·simp [Array.getElem?_eq_none h'] at h1
   have hlist:∀k,(listed.setIfInBounds j true).getD k true=false→listed.getD k true=false:=fun k hun=>by
    by_cases hjk:j=k
    ·subst hjk;exact hjun
    ·rw [getD_set_ne true hjk] at hun;exact hun
   have h2:=wpOp_putIf hoj (hfree j oj hoj hji hjun hnot) (fun cs b=>hsel i oi cs b hi) (fun cs b=>hsel j oj cs b hoj) hQ hy h1
   refine wpOp_mono (fun a' w' h3=>⟨h3.2.1,ih (listed.setIfInBounds j true) a' w' (fun k ok hk hki hun hno=>hfree k ok hk hki (hlist k hun) hno) (fun k ok hk hki hun hno=>htl k ok hk hki (hlist k hun) hno)
    (ready_mono hr (Ne.symm hji)) h3.1 (fun hc=>h3.2.1 (htl j oj hoj hji hjun hnot hc)) ?_⟩) h2
   rw [Array.setIfInBounds_comm _ _ hji];exact h3.2.2
def kkm (md:Region.Mode) (ops:Array Oper) (Tl:List Nat) (listed:Array Bool) (i:Nat):Bool :=
 Tl.contains i || Tl.all fun j=>Nat.beq j i || listed.getD j true || ((ktz ops.toList j).map fun o=>o.after.toList.any fun e=>Region.binds md e && Nat.beq e.on i).getD true
theorem kks {listed:Array Bool} {i:Nat} (h:kkm md ops Tl listed i=true):∀j oj,ops[j]? = some oj→j≠i→listed.getD j true=false→(∀e∈oj.after,Region.binds md e=true→e.on≠i)→Tl.contains i=false→Tl.contains j=false:=by
 intro j oj hj hji hun hno hc;unfold kkm at h;rw [hc,Bool.false_or,List.all_eq_true] at h
 cases hq:Tl.contains j with
 |false=>rfl
 |true =>
  have h1:=h j (by simpa using hq);rw [hun,knb,Array.getElem?_toList,hj,Option.map_some,Option.getD_some,Bool.or_false] at h1
  have h2:Nat.beq j i=false:=by
   cases h3:Nat.beq j i with
   |false=>rfl
   |true=>exact absurd (Nat.eq_of_beq_eq_true h3) hji
  rw [h2,Bool.false_or,List.any_eq_true] at h1;obtain ⟨e,he,h4⟩:=h1;rw [Bool.and_eq_true] at h4;exact absurd (Nat.eq_of_beq_eq_true h4.2) (hno e (by simpa using he) h4.1)
theorem tkT (s:Nat) {i t:Nat} {oi:Oper} {v:Value} {fuel:Nat} {listed:Array Bool} {a:Act} {w:World} (_:nxt s listed.toList 0=some i) (hi:ktz ops.toList i=some oi) (hd:oi.dst=some t)
 (hc:(Region.noSelect ops && Region.free md ops listed i && (Region.ready md ops listed).contains i && Region.wanted oi (yielded ops a.tmps) && kkm md ops Tl listed i && !Tl.contains i)=true) (hQ:∀c a w,Q (.panic c) (a.put oi.dst v) w→Q (.panic c) a w)
 (hy:∀w,S w→(execOp a.eval oi).run P w = .ok (.value v) w) (hS:S w) (h:kdq P md ops Q S Tl fuel (listed.setIfInBounds i true) (a.put (some t) v) w):kdq P md ops Q S Tl (fuel+1) listed a w:=by
 simp only [Bool.and_eq_true,Bool.not_eq_true'] at hc;exact khq (kf2 hi) (Region.noSelect_spec hc.1.1.1.1.1) hQ fuel listed a w (Region.free_spec (kf2 hi) hc.1.1.1.1.2) (kks hc.1.2) (by simpa using hc.1.1.1.2) (.inl ⟨hc.1.1.2,fun w hw=>hy w (hw hc.2)⟩) (fun _=>hS) (hd ▸ h)
theorem tuT (s:Nat) {i t:Nat} {oi:Oper} {v:Value} {fuel:Nat} {listed:Array Bool} {a:Act} {w:World} (_:nxt s listed.toList 0=some i) (hi:ktz ops.toList i=some oi) (hd:oi.dst=some t)
 (hc:(Region.noSelect ops && Region.free md ops listed i && (Region.ready md ops listed).contains i && Region.wanted oi (yielded ops a.tmps) && Tl.contains i)=true) (hQ:∀c a w,Q (.panic c) (a.put oi.dst v) w→Q (.panic c) a w)
 (hy:∀w,(execOp a.eval oi).run P w = .ok (.value v) w) (h:kdq P md ops Q S Tl fuel (listed.setIfInBounds i true) (a.put (some t) v) w):kdq P md ops Q S Tl (fuel+1) listed a w:=by
 simp only [Bool.and_eq_true] at hc;have hn:¬ Tl.contains i=false:=by rw [hc.2];simp
 exact khq (kf2 hi) (Region.noSelect_spec hc.1.1.1.1) hQ fuel listed a w (Region.free_spec (kf2 hi) hc.1.1.1.2) (fun j oj _ _ _ _ h0=>absurd h0 hn) (by simpa using hc.1.1.2) (.inl ⟨hc.1.2,fun w _=>hy w⟩) (fun h0=>absurd h0 hn) (hd ▸ h)
def kao (P:Program) (md:Region.Mode) (ops:Array Oper) (Q:Exit→Act→World→Prop) (S:World→Prop) (Tl:List Nat) (fuel:Nat) (listed:Array Bool) (a:Act) (w:World) (rs:List Nat):Prop :=
 ∀i∈rs,wpOp P ops Q i (fun a' w'=>(Tl.contains i=false→S w')∧kdq P md ops Q S Tl fuel (listed.setIfInBounds i true) a' w') a w
theorem kao.nil {fuel:Nat} {listed:Array Bool} {a:Act} {w:World}:kao P md ops Q S Tl fuel listed a w []:=fun _ h=>by cases h
theorem kao.cons {fuel:Nat} {listed:Array Bool} {a:Act} {w:World} {i:Nat} {o:Oper} {rs:List Nat} (ho:ops[i]? = some o)
 (h:∀K':Act→World→Prop,Shut (∀a w,S w→(S w→kdq P md ops Q S Tl fuel (listed.setIfInBounds i true) a w)→K' a w)→if Region.wanted o (yielded ops a.tmps)=true then Oper.wp P o a w K' Q else K' (a.put o.dst undef) w)
 (hs:kao P md ops Q S Tl fuel listed a w rs):kao P md ops Q S Tl fuel listed a w (i :: rs):=fun j hj=>by
 rcases List.mem_cons.1 hj with rfl|hj
 ·exact wpOp_step ho (fun K' hK=>h K' (fun a w hS hW=>hK a w ⟨fun _=>hS,hW hS⟩))
 ·exact hs j hj
theorem kao.last {fuel:Nat} {listed:Array Bool} {a:Act} {w:World} {i:Nat} {o:Oper} (ho:ops[i]? = some o) (hT:Tl.contains i=true)
 (h:∀K':Act→World→Prop,Shut (∀a w,kdq P md ops Q S Tl fuel (listed.setIfInBounds i true) a w→K' a w)→if Region.wanted o (yielded ops a.tmps)=true then Oper.wp P o a w K' Q else K' (a.put o.dst undef) w) :
 kao P md ops Q S Tl fuel listed a w [i]:=fun j hj=>by
 obtain rfl:=List.mem_singleton.1 hj;exact wpOp_step ho (fun K' hK=>h K' (fun a w hW=>hK a w ⟨fun h0=>(by rw [hT] at h0;cases h0),hW⟩))
theorem kau {rs:List Nat} {fuel:Nat} {listed:Array Bool} {a:Act} {w:World} (hr:Region.ready md ops listed=rs) (hne:rs≠[]) (h:kao P md ops Q S Tl fuel listed a w rs):kdq P md ops Q S Tl (fuel+1) listed a w :=
 ⟨fun h0=>absurd (hr ▸ h0) hne,hr ▸ h⟩
theorem kb6 {listed:Array Bool} {a:Act} {w:World} (hr:Region.ready md ops listed=[]) (h:Q .normal a w):∀fuel,kdq P md ops Q S Tl fuel listed a w
 |0=>⟨hr,h⟩
 |_+1=>⟨fun _=>h,by rw [hr];simp⟩
theorem kdb (Tl:List Nat) {id:Nat} {a:Act} {w:World} (hm:P.follows .mixedOrders=true) (hS:S w.drew) (h:S w.drew→kdq P .any ops Q S Tl (len ops.toList) (kat ops.toList).toArray a w.drew):(Code.region id ops true).wp P Q a w:=by
 refine wp_region_any hm (kka (S:=S) (Tl:=Tl) _ _ _ _ ?_)
 have:=h hS
 rw [kr3,ki4,List.toArray_replicate] at this;exact this
end
end Licit
namespace Go.Proofs.YtknpbekoenbphaaGreatDoor
open Go Go.RowKit Licit
theorem kdc {w w':World} {b1 b2:Nat} {T1 T2:TypeId} {s1 s2:Nat} {u v:Value} {n m:Nat} {xs ys:List Value} (h:w.ownsRow b1 T1 s1 u n xs) (k:w.ownsRow b2 T2 s2 v m ys) (hT:T1≠T2) (hg:w.grownBy w' v.ownBlock):w'.ownsRow b1 T1 s1 u n xs :=
 kal h fun q hq=>by
  obtain ⟨cur,hc⟩:=km8 h hq;exact hg.block q (h.lt q hq).2 (fun e=>kas k hc (Ne.symm hT) q e.symm rfl)
end Go.Proofs.YtknpbekoenbphaaGreatDoor
