/- Parts of the proofs: WkRvC. No condition beyond those at each theorem. -/
import Derived.DeepKeys4
import Derived.Test.YtknpbekoenbphaaGreatDoorQk15
set_option linter.unusedVariables false
set_option linter.unusedSimpArgs false
set_option maxHeartbeats 16000000
set_option maxRecDepth 100000
namespace Go.Proofs.YtknpbekoenbphaaGreatDoor
open Go Go.RowKit Licit
abbrev kT (x:Bs × Int):Value:=.agg #[.string (B x.1),.int .i64 x.2]
theorem kt7:laidOutB Tryz.prog=true:=by kernel_rfl
theorem k0y:(140:TypeId)<Tryz.prog.types.size:=of_decide_eq_true (by kernel_rfl)
theorem k0i:(match Tryz.prog.underlying 140 with|some (.array _ _)|some (.struct _)=>true|_=>false)=true:=by rw [Tryz.underlying140]
theorem kj2:kdu Tryz.prog 140 kT:=⟨Go.Maps.Keyed.of_law (deep_law_laid kt7 (m:=3) (by omega) k0y (by kernel_rfl) k0i),fun a b h=>by
 obtain ⟨a1,a2⟩:=a;obtain ⟨b1,b2⟩:=b;simp only [kT,Value.agg.injEq,Array.mk.injEq,List.cons.injEq,Value.string.injEq,Value.int.injEq,true_and,and_true] at h;rw [ky7 h.1,h.2]⟩
theorem kv9:Tryz.prog.keyType 140=true:=by kernel_rfl
theorem kwl:Tryz.prog.cellsOf 140=2:=by kernel_rfl
theorem kyy:Tryz.prog.cellsOf 9=1:=by kernel_rfl
theorem kyz:Tryz.prog.cellsOf 3=1:=by kernel_rfl
theorem ky1 (x:Bs × Int) (h:x.1.length≤maxLen) (h1:IntKind.i64.min≤x.2) (h2:x.2≤IntKind.i64.max):∃l,keyOf Tryz.prog 140 (kT x)=some l:=by
 obtain ⟨m,hm⟩:∃m,Tryz.prog.types.size=m+1:=⟨_,(Nat.succ_pred_eq_of_pos (Nat.lt_of_le_of_lt (Nat.zero_le _) k0y)).symm⟩;have hsz:(B x.1).size≤maxLen:=by rw [kdf];exact h
 have h1':(-9223372036854775808:Int)≤x.2:=h1;have h2':x.2≤(9223372036854775807:Int):=h2
 have hw:(Lit.int .i64 x.2).wf=true:=by
  show (decide (IntKind.i64.min≤x.2) && decide (x.2≤IntKind.i64.max))=true;rw [decide_eq_true h1,decide_eq_true h2];rfl
 unfold keyOf;rw [Tryz.underlying140];simp only [kv9,Value.formed,Tryz.underlying140,kwl,hm];simp [Program.keyLits,Tryz.underlying140,Tryz.underlying9,Tryz.underlying3,kwl,kyy,kyz,Value.cells,hsz,hw]
abbrev dcC (wd ov rp:Bool):Array Value:=#[.string (B []),.string (B []),.string (B []),.string (B []),.string (B []),.string (B []),.int .i64 0,.bool wd,.bool ov,.bool rp]
abbrev dcV (wd ov rp:Bool):Value:=.agg (dcC wd ov rp)
theorem kuv (w:World):(zeroValue 56).run Tryz.prog w = .ok (dcV false false false) w:=by kernel_rfl
def kde (c:Rv.Cx) (A:List Nat):List Nat:=A.filter fun k=>decide ((c.ev k).kind=3)
structure Nds (c:Rv.Cx) (pt pb:Nat→Nat) (w0 w1:World):Prop where
 ok:kn3 c.l c.ids
 len:c.S.length=c.l.length
 low:Rv.Lower c.S
 idl:∀i,(c.id i).length≤maxLen
 below:Below w0.heap.size w0 w1
 node:∀i,i<c.l.length→∃row,c.S.getD i none=some row∧kd4 c.ids (c.l.getD i Rv.ev0) i row (pt i) (pb i) w0 w1
structure Jr (c:Rv.Cx) (pt:Nat→Nat) (A:List Nat) (bj bE bT bN:Nat) (w1 w:World):Prop where
 below:Below w1.heap.size w1 w
 evs:kbi Tryz.prog 9 kS w bE (A.map fun i=>(c.id i,ptr (pt i)))
 trn:kbi Tryz.prog 140 kT w bT (A.map fun i=>(((c.ev i).author,(c.ev i).number),ptr (pt i)))
 ended:∃Ln,kbi Tryz.prog 9 kS w bN Ln∧∀s,(kb2 Ln s).getD (dcV false false false)=dcV (c.wd A s) (c.ov A s) (c.rp A s)
 head:∃v,w.heap[bj]? = some (.cells #[.map (some bE),.map (some bT),v,.map (some bN)] 138 (0,0))∧w.ownsRow w1.heap.size 91 1 v (kde c A).length ((kde c A).map fun i=>ptr (pt i))
 mem:∀i∈A,i<c.l.length
 bj1:w1.heap.size≤bj
 bE1:w1.heap.size≤bE
 bT1:w1.heap.size≤bT
 bN1:w1.heap.size≤bN
 ne:bj≠bE∧bj≠bT∧bj≠bN∧bE≠bT∧bE≠bN∧bT≠bN
theorem kci {w w':World} {base:Nat} {t:TypeId} {size:Nat} {v:Value} {n:Nat} {xs:List Value} (h:w.ownsRow base t size v n xs) (hb:∀q,v.ownBlock=some q→w'.heap[q]? = w.heap[q]?):w'.ownsRow base t size v n xs:=by
 refine ⟨h.1,?_⟩;rcases h.2 with ⟨rfl,h0⟩|⟨g,cap,cur,rfl,h1,h2,h3⟩
 ·exact .inl ⟨rfl,h0⟩
 ·exact .inr ⟨g,cap,cur,rfl,h1,(hb g rfl).trans h2,h3⟩
section
variable {c:Rv.Cx} {pt pb:Nat→Nat} {A:List Nat} {bj bE bT bN:Nat} {w0 w1 w w':World}
theorem Nds.at (h:Nds c pt pb w0 w1) (hb:Below w1.heap.size w1 w) {i:Nat} (hi:i<c.l.length) :
 (∃(r:Int) (na nc ta tc sa sc ha hc ra rc:_),kcw (evW (c.ev i) na nc ta tc sa sc ha hc ra rc) (c.ev i) w0∧w.heap[pt i]? = some (.cells (ndC (c.id i) (i:Int) r (c.ev i) (.slice na (c.ev i).names.length nc) (.slice ta (c.ev i).targets.length tc) (.slice sa (c.ev i).sg.S.length sc) (.slice ha (c.ev i).sg.H.length hc) (.slice ra (c.ev i).sg.R.length rc) (pb i)) 94 (0,0)))∧pt i<w1.heap.size ∧
 ∃L,kes w (pb i) L∧∀k,k<c.l.length→decide (c.id k∈L)=c.past i k:=by
 obtain ⟨row,hr,hn⟩:=h.node i hi;have hl:=hn.lt;obtain ⟨⟨na,nc,ta,tc,sa,sc,ha,hc,ra,rc,he,hh⟩,L,hL,hm⟩:=hn;refine ⟨⟨_,na,nc,ta,tc,sa,sc,ha,hc,ra,rc,he,(hb.block _ hl.1).trans hh⟩,hl.1,L,kbi.of_block hL (hb.block _ hl.2),fun k hk=>?_⟩
 have hp:c.past i k=row.2.getD k false:=by
  show Rv.pastI c.S i k=_;unfold Rv.pastI;rw [hr];rfl
 rw [hp,Bool.eq_iff_iff,decide_eq_true_eq,hm];constructor
 ·rintro ⟨j,hj,e⟩
  have hjl:j<c.l.length:=by
   rw [←h.len,←h.low.1 i row hr];rcases Nat.lt_or_ge j row.2.length with q|q
   ·exact q
   ·rw [List.getD_eq_getElem?_getD,List.getElem?_eq_none q] at hj;cases hj
  rw [←h.ok.inj j k hjl hk e];exact hj
 ·exact fun hk2=>⟨k,hk2,rfl⟩
theorem Jr.kept {T:Nat→Prop} (h:Jr c pt A bj bE bT bN w1 w) (hk:ka7 T w w') (hT:∀k,k<w.heap.size→¬ T k):Jr c pt A bj bE bT bN w1 w':=by
 obtain ⟨Ln,hL,hL2⟩:=h.ended;obtain ⟨v,hv,ho⟩:=h.head
 exact ⟨h.below.trans (hk.below h.below.size fun k hk2=>hT k (Nat.lt_of_lt_of_le hk2 h.below.size)),h.evs.kept hk (hT _ h.evs.lt),h.trn.kept hk (hT _ h.trn.lt),⟨Ln,hL.kept hk (hT _ hL.lt),hL2⟩,
  ⟨v,(hk.block _ (kad hv) (hT _ (kad hv))).trans hv,kci ho fun q hq=>hk.block q ((ho.lt _ hq).2) (hT _ ((ho.lt _ hq).2))⟩,h.mem,h.bj1,h.bE1,h.bT1,h.bN1,h.ne⟩
theorem Jr.grow (h:Jr c pt A bj bE bT bN w1 w) (hb:Below w.heap.size w w'):Jr c pt A bj bE bT bN w1 w':=h.kept (T:=fun _=>False) (ka7.of_below hb) (fun _ _ e=>e)
theorem Jr.get (h:Jr c pt A bj bE bT bN w1 w) (s:Bs):kb2 (A.map fun i=>(c.id i,ptr (pt i))) s=(c.named A s).map fun i=>ptr (pt i):=Rv.getL_find A c.id (fun i=>ptr (pt i)) s
theorem Jr.getT (h:Jr c pt A bj bE bT bN w1 w) (a:Bs) (n:Int):kb2 (A.map fun i=>(((c.ev i).author,(c.ev i).number),ptr (pt i))) (a,n)=(c.turn A a n).map fun i=>ptr (pt i):=by
 rw [←Rv.turn_find];exact Rv.getL_find A (fun i=>((c.ev i).author,(c.ev i).number)) (fun i=>ptr (pt i)) (a,n)
end
def kdx (c:Rv.Cx) (A:List Nat) (i:Nat) (s:Bs) (w:World) (en:Ending) (w':World):Prop:=Below w.heap.size w w'∧∃(e':Rv.Ev) (ok:Bool) (vn vt vs vh vr:Value),en = .returned (.tuple #[.agg (evC e' vn vt vs vh vr),.bool ok]) ∧
 (evC e' vn vt vs vh vr).all (·.oneCell')=true∧ok=(c.dec A i s).isSome∧∀k,c.dec A i s=some k→e'=c.ev k
theorem kdo {κ:Type} [DecidableEq κ] {P:Program} (w:World) {ops:Array Oper} {rest:List Oper} {o:Oper} {a:Act} {Q:Exit→Act→World→Prop} (hw:Region.wanted o (yielded ops a.tmps)=true) (m x:Operand) (t:TypeId) (c:Bool) (hop:o.op=Op.lookup t m x c) (k e:TypeId) (kv:κ→Value) (K:kdu P k kv) (ht:P.underlying t=some (.map k e)) (z:Value) (hz:∀w,(zeroValue e).run P w = .ok z w)
 (b:Nat) (L:List (κ × Value)) (hm:a.eval m = .map (some b)) (h:kbi P k kv w b L) (s:κ) (hx:a.eval x=kv s) (hk:∃l,keyOf P k (kv s)=some l)
 (hK:wpList P ops Q rest (a.put o.dst (if c then .tuple #[(kb2 L s).getD z,.bool (kb2 L s).isSome] else (kb2 L s).getD z)) w):wpList P ops Q (o :: rest) a w:=by
 refine BigFrame.wpList_want hw fun K' hK'=>?_
 unfold Oper.wp;simp only [execOp,hop,hm,hx,Sem.run_bind,h.look K ht (hz w) s hk c,Result.andThen,Sem.run_pure];exact hK' _ _ hK
theorem ka0 {κ:Type} [DecidableEq κ] {P:Program} {ops:Array Oper} {rest:List Oper} {op:Oper} {a:Act} {w:World} {Q:Act→Prop} (hw:Region.wanted op (yielded ops a.tmps)=true) (m x:Operand) (t:TypeId) (ho:op.op = .lookup t m x false)
 {k e:TypeId} {kv:κ→Value} (K:kdu P k kv) (ht:P.underlying t=some (.map k e)) {z:Value} (hz:∀w,(zeroValue e).run P w = .ok z w) {b:Nat} {L:List (κ × Value)} (h:kbi P k kv w b L) (s:κ) (hm:a.eval m = .map (some b)) (hx:a.eval x=kv s) (hk:∃l,keyOf P k (kv s)=some l) {r:Value} (hr:(kb2 L s).getD z=r)
 (hq:wpStill P ops w Q rest (a.put op.dst r)):wpStill P ops w Q (op :: rest) a:=by
 refine wpStill_step fun K' hK=>?_
 rw [if_pos hw];unfold Oper.still;rw [ka4 ho K ht hz h hm hx hk hr,Oper.stillUpon_value];exact hK _ hq
theorem keh {w:World} {b:Nat} {s:Bs} {i r:Int} {e:Rv.Ev} {vn vt vs vh vr:Value} {pb:Nat} {T:TypeId} {fr:Nat × Nat} (h:w.heap[b]? = some (.cells (ndC s i r e vn vt vs vh vr pb) T fr)):w.rangeAt b 3 (evC e vn vt vs vh vr).toList:=by
 intro j v hj;rw [kaa h,←Array.getElem?_toList];rw [show (ndC s i r e vn vt vs vh vr pb).toList=[.string (B s),.int .i64 i,.int .i64 r]++(evC e vn vt vs vh vr).toList++[.map (some pb)] from rfl,List.getElem?_append_left (by have:=(List.getElem?_eq_some_iff.1 hj).1;simp at this ⊢;omega),List.getElem?_append_right (by simp),show 3+j - [Value.string (B s),Value.int .i64 i,Value.int .i64 r].length=j by simp];exact hj
theorem kho (c:Rv.Cx) (pt pb:Nat→Nat) (A:List Nat) (bj bE bT bN:Nat) (w0 w1 w:World) (hN:Nds c pt pb w0 w1) (hJ:Jr c pt A bj bE bT bN w1 w) (i:Nat) (hi:i<c.l.length) (s:Bs) (hs:s.length≤maxLen) :
 Calls Tryz.prog 212 #[ptr bj,ptr (pt i),.string (B s)] w (kdx c A i s w):=by
 obtain ⟨⟨r,na,nc,ta,tc,sa,sc,ha,hc,ra,rc,hev,hnd⟩,hpt,L,hL,hLm⟩:=hN.at hJ.below hi;obtain ⟨v,hv,ho⟩:=hJ.head;have cj0:w.cell? ⟨bj,0,none⟩=some (.map (some bE)):=by rw [kaa hv];rfl
 have ci21:w.cell? ⟨pt i,21,none⟩=some (.map (some (pb i))):=by rw [kaa hnd];rfl
 have hbj:=kad hv;have hbi:=kad hnd;have HE:=hdd hJ.evs;have HbE:=hdd hJ.evs.lt;have HL:=hdd hL;have HbL:=hdd hL.lt;have HO0:=hdd (kbe Rv.ev0 (.slice none 0 0) (.slice none 0 0) (.slice none 0 0) (.slice none 0 0) (.slice none 0 0) rfl rfl rfl rfl rfl);have hg:=hJ.get s;have HN:=hdd hN;have HJ:=hdd hJ;have HLm:=hdd hLm;clear hev ho hL hLm hN hJ
 cases hnm:c.named A s with
 |none =>
  have HD:=hdd (show c.dec A i s=none by unfold Rv.Cx.dec;rw [hnm]);rw [hnm] at hg;have HG:=hdd (show kb2 _ s=none from hg);have HM:=hdd (show decide (s∈L)=decide (s∈L) from rfl);clear hg hnm hv hnd
  go_enter Tryz.func212,Tryz.ntmps212
  go_wp2_with (first
   |(at_lookup;first|(refine kbl _ rfl _ _ 134 false rfl 9 91 kS kcx Tryz.underlying134 (.pointer none) kcr bE _ rfl (HE.out.of_block (Below.heap_alloc w _ bE HbE.out)) s rfl (kbp hs) ?_;rw [HG.out];simp only [Bool.false_eq_true,if_false,Option.getD_none,Option.getD_some])|(refine kdo _ (by kernel_rfl) _ _ 92 false rfl 9 4 kS kcx Tryz.underlying92 (.bool false) kev (pb i) _ rfl (kbi.of_block HL.out (Below.heap_alloc w _ (pb i) HbL.out)) s rfl (kbp hs) ?_;rw [kdv,HM.out];simp only [Bool.false_eq_true,if_false]))
   |(refine kac rfl 45 _ _ rfl w.heap.size rfl evZ rfl 45 evZ (kak rfl rfl) (by kernel_rfl) rfl HO0.out ?_
     intro w2 hw2 hk2;have HW2:=hdd hw2;have HB2:=hdd (((Below.refl w.heap.size w).alloc (Nat.le_refl _) _).trans (hk2.below (B:=w.heap.size) (by simp) (fun q hq e=>by have:q=w.heap.size:=e;omega)));clear hw2 hk2)
   |fail)
  refine kbs rfl w.heap.size 45 _ (0,0) _ rfl HW2.out rfl rfl (by kernel_rfl) rfl ?_;unfold kdx;exact ⟨HB2.out,Rv.ev0,false,_,_,_,_,_,rfl,HO0.out,by rw [HD.out];rfl,fun k hk=>by rw [HD.out] at hk;cases hk⟩
 |some k =>
  have hk1:=List.find?_some hnm;have hk2:=HJ.out.mem k (List.mem_of_find?_eq_some hnm);have hk3:c.id k=s:=by simpa using hk1
  rw [hnm] at hg;have HG:=hdd (show kb2 _ s=some (ptr (pt k)) from hg);obtain ⟨⟨r2,na2,nc2,ta2,tc2,sa2,sc2,ha2,hc2,ra2,rc2,hev2,hnd2⟩,hpt2,-⟩:=HN.out.at HJ.out.below hk2;have ck3:w.cell? ⟨pt k,3,none⟩=some (.int .i64 (c.ev k).kind):=by rw [kaa hnd2];rfl
  have hbk:=kad hnd2;have hdec:c.dec A i s=if c.past i k=true∧(c.ev k).kind=3 then some k else none:=by unfold Rv.Cx.dec;rw [hnm]
  have hpm:=HLm.out k hk2;rw [hk3] at hpm
  cases hp:c.past i k with
  |false =>
   rw [hp] at hpm hdec;have HM:=hdd hpm;have HD:=hdd (show c.dec A i s=none by rw [hdec];simp);clear hg hnm hv hnd hk1 hk3 hdec hpm hev2 hnd2 hp
   go_enter Tryz.func212,Tryz.ntmps212
   go_wp2_with (first
    |(at_lookup;first|(refine kbl _ rfl _ _ 134 false rfl 9 91 kS kcx Tryz.underlying134 (.pointer none) kcr bE _ rfl (HE.out.of_block (Below.heap_alloc w _ bE HbE.out)) s rfl (kbp hs) ?_;rw [HG.out];simp only [Bool.false_eq_true,if_false,Option.getD_none,Option.getD_some])|(refine kdo _ (by kernel_rfl) _ _ 92 false rfl 9 4 kS kcx Tryz.underlying92 (.bool false) kev (pb i) _ rfl (kbi.of_block HL.out (Below.heap_alloc w _ (pb i) HbL.out)) s rfl (kbp hs) ?_;rw [kdv,HM.out];simp only [Bool.false_eq_true,if_false]))
    |(refine kac rfl 45 _ _ rfl w.heap.size rfl evZ rfl 45 evZ (kak rfl rfl) (by kernel_rfl) rfl HO0.out ?_
      intro w2 hw2 hk2;have HW2:=hdd hw2;have HB2:=hdd (((Below.refl w.heap.size w).alloc (Nat.le_refl _) _).trans (hk2.below (B:=w.heap.size) (by simp) (fun q hq e=>by have:q=w.heap.size:=e;omega)));clear hw2 hk2)
    |fail)
   refine kbs rfl w.heap.size 45 _ (0,0) _ rfl HW2.out rfl rfl (by kernel_rfl) rfl ?_;unfold kdx;exact ⟨HB2.out,Rv.ev0,false,_,_,_,_,_,rfl,HO0.out,by rw [HD.out];rfl,fun k hk=>by rw [HD.out] at hk;cases hk⟩
  |true =>
   rw [hp] at hpm hdec;have HM:=hdd hpm
   by_cases h3:(c.ev k).kind=3
   ·have HD:=hdd (show c.dec A i s=some k by rw [hdec];simp [h3])
    rw [h3] at ck3;have HRg:=hdd (fun (W:World) (hb:Below w.heap.size w W)=>keh ((hb.block _ hbk).trans hnd2));have HOk:=hdd (evS1 (c.ev k) na2 nc2 ta2 tc2 sa2 sc2 ha2 hc2 ra2 rc2);clear hg hnm hv hnd hk1 hk3 hdec hpm hev2 hnd2 hp h3
    go_enter Tryz.func212,Tryz.ntmps212
    go_wp2_with (first
     |(at_lookup;first|(refine kbl _ rfl _ _ 134 false rfl 9 91 kS kcx Tryz.underlying134 (.pointer none) kcr bE _ rfl (HE.out.of_block (Below.heap_alloc w _ bE HbE.out)) s rfl (kbp hs) ?_;rw [HG.out];simp only [Bool.false_eq_true,if_false,Option.getD_none,Option.getD_some])|(refine kdo _ (by kernel_rfl) _ _ 92 false rfl 9 4 kS kcx Tryz.underlying92 (.bool false) kev (pb i) _ rfl (kbi.of_block HL.out (Below.heap_alloc w _ (pb i) HbL.out)) s rfl (kbp hs) ?_;rw [kdv,HM.out];simp only [Bool.false_eq_true,if_false]))
     |(refine wpList_load_mid rfl 45 _ rfl (pt k) _ rfl (evS (c.ev k) na2 nc2 ta2 tc2 sa2 sc2 ha2 hc2 ra2 rc2).toList _ (HRg.out _ ((Below.refl w.heap.size w).alloc (Nat.le_refl _) _)) rfl rfl (by kernel_rfl) ?_)
     |(refine kac rfl 45 _ _ rfl w.heap.size rfl (evS (c.ev k) na2 nc2 ta2 tc2 sa2 sc2 ha2 hc2 ra2 rc2) rfl 45 evZ (kak rfl rfl) (by kernel_rfl) rfl HOk.out ?_
       intro w2 hw2 hk2;have HW2:=hdd hw2;have HB2:=hdd (((Below.refl w.heap.size w).alloc (Nat.le_refl _) _).trans (hk2.below (B:=w.heap.size) (by simp) (fun q hq e=>by have:q=w.heap.size:=e;omega)));clear hw2 hk2)
     |fail)
    refine kbs rfl w.heap.size 45 _ (0,0) _ rfl HW2.out rfl rfl (by kernel_rfl) rfl ?_;unfold kdx;exact ⟨HB2.out,(c.ev k),true,_,_,_,_,_,rfl,HOk.out,by rw [HD.out];rfl,fun k hk=>by rw [HD.out] at hk;(cases hk;rfl)⟩
   ·have HD:=hdd (show c.dec A i s=none by rw [hdec];simp [h3])
    have d1:((c.ev k).kind == 3)=false:=beq_eq_false_iff_ne.2 h3;have d2:((c.ev k).kind != 3)=true:=by rw [bne,d1];rfl
    clear hg hnm hv hnd hk1 hk3 hdec hpm hev2 hnd2 hp h3
    go_enter Tryz.func212,Tryz.ntmps212
    go_wp2_with (first
     |(at_lookup;first|(refine kbl _ rfl _ _ 134 false rfl 9 91 kS kcx Tryz.underlying134 (.pointer none) kcr bE _ rfl (HE.out.of_block (Below.heap_alloc w _ bE HbE.out)) s rfl (kbp hs) ?_;rw [HG.out];simp only [Bool.false_eq_true,if_false,Option.getD_none,Option.getD_some])|(refine kdo _ (by kernel_rfl) _ _ 92 false rfl 9 4 kS kcx Tryz.underlying92 (.bool false) kev (pb i) _ rfl (kbi.of_block HL.out (Below.heap_alloc w _ (pb i) HbL.out)) s rfl (kbp hs) ?_;rw [kdv,HM.out];simp only [Bool.false_eq_true,if_false]))
     |(refine kac rfl 45 _ _ rfl w.heap.size rfl evZ rfl 45 evZ (kak rfl rfl) (by kernel_rfl) rfl HO0.out ?_
       intro w2 hw2 hk2;have HW2:=hdd hw2;have HB2:=hdd (((Below.refl w.heap.size w).alloc (Nat.le_refl _) _).trans (hk2.below (B:=w.heap.size) (by simp) (fun q hq e=>by have:q=w.heap.size:=e;omega)));clear hw2 hk2)
     |fail)
    refine kbs rfl w.heap.size 45 _ (0,0) _ rfl HW2.out rfl rfl (by kernel_rfl) rfl ?_;unfold kdx;exact ⟨HB2.out,Rv.ev0,false,_,_,_,_,_,rfl,HO0.out,by rw [HD.out];rfl,fun k hk=>by rw [HD.out] at hk;cases hk⟩
end Go.Proofs.YtknpbekoenbphaaGreatDoor
