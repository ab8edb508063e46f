/- Parts of the proofs: WkBnd. No condition beyond those at each theorem. -/
import Derived.Test.YtknpbekoenbphaaGreatDoorQk31
set_option linter.unusedVariables false
set_option linter.unusedSimpArgs false
set_option maxHeartbeats 16000000
set_option maxRecDepth 100000
namespace Go.Proofs.YtknpbekoenbphaaGreatDoor
open Go Go.RowKit Licit
def kih:Bs:=[110,111,116,104,105,110,103]
def kxk (l:List Rv.Ev) (how:Nat) (w:World) (en:Ending) (w':World):Prop:=∃(v:Value) (L:List EvX),en = .returned v∧ka1 w.heap.size (Fr v NoB) v L w'∧L.length≤l.length+1∧(how=0∨how=11→ka2 L=l)∧(∀x∈L,kdz 1001 x.e)∧Below w.heap.size w w'
theorem kb7 (L:List EvX) (i:Nat) (x:EvX):ka2 (L.set i x)=(ka2 L).set i x.e:=by simp [ka2,List.map_set]
theorem kcv {α:Type} (l:List α) (i:Nat) (d:α):l.set i (l.getD i d)=l:=by
 apply List.ext_getElem
 ·simp
 ·intro j h1 h2
  rw [List.getElem_set];split
  ·rename_i e
   subst e;rw [List.getD_eq_getElem?_getD,List.getElem?_eq_getElem h2];rfl
  ·rfl
theorem kxu (W:World):IsSl kaf (([]:List Bs).map vS) W:=⟨Nat.zero_le _,.inl ⟨none,0,rfl,rfl⟩⟩
def BT (l:List Rv.Ev) (how r:Nat) (x:EvX):Prop:=kdz 1001 x.e∧(how=0∨how=11→x.e=l.getD r Rv.ev0)
theorem kjk {P:Program} {w:World} {ops:Array Oper} {o:Oper} {a:Act} {K:Act→World→Prop} {Q:Exit→Act→World→Prop} {E:Prop} (hgd:o.guard=none) (s x:Operand) (t:TypeId) (ho:o.op = .call { callee:=.builtin .append,args:=#[s,x],argTypes:=#[t,t] }) (u v v':Value) (w':World) (hs:a.eval s=u) (hx:a.eval x=v)
 (hr:(Builtin.append_ #[t,t] o.type #[u,v]).run P w = .ok v' w') (h:K (a.put o.dst v') w'):if Region.wanted o (yielded ops a.tmps)=true then Oper.wp P o a w K Q else E:=by
 rw [if_pos (by simp [Region.wanted,hgd])];exact kcb s x t ho u v v' w' hs hx hr h
theorem kvv (v:Value) (L0:List EvX) (b0:Nat) (how at_:Nat) (w:World) (h:ka1 b0 (Fr v NoB) v L0 w) (hni:∀x∈L0,x.Nice) (hl:L0.length≤1000) (hti:∀x∈L0,kdz 1000 x.e) (hh:how<12) :
 Calls Tryz.prog 30 #[v,.int .i64 (how:Int),.int .i64 (at_:Int)] w (kxk (ka2 L0) how w):=by
 obtain ⟨z,hz⟩:∃z:Int,z=(how:Int):=⟨_,rfl⟩;rw [←hz];have HZ:=hdd hz;clear hz;obtain ⟨l,hle⟩:∃l,ka2 L0=l:=⟨_,rfl⟩;have hll:l.length=L0.length:=by rw [←hle,kbd]
 have hEI:kbt v l w:=hle ▸ h.is (by omega);have hnil:khn v:=h.nilC;obtain ⟨a0,c0,rfl⟩:=hEI.form;have HEI:=hdd hEI;have HOw:=hdd h;have HNi:=hdd hni;have HTi:=hdd hti;have HLe:=hdd hle;have HNil:=hdd hnil;have HB0:=hdd ((Below.refl w.heap.size w).alloc (Nat.le_refl _) (.cells #[] 45));have HE0:=hdd (ka1.empty (G:=NoB) (base:=w.heap.size) w rfl (Nat.le_refl _))
 have HTin:=hdd (show ∀e∈l,kdz 1000 e by
  rw [←hle];intro e he;obtain ⟨x,hx,rfl⟩:=List.mem_map.1 he;exact hti x hx)
 have hl1:l.length≤1000:=by omega
 have HLl:=hdd hll;rw [hle];clear hEI h hni hti hle hnil hll hl
 go_enter Tryz.func30,Tryz.ntmps30
 go_upto_region 2 with (first
  |(at_builtin
    go_loud (
    refine kd0 rfl _ _ rfl (base:=w.heap.size) (G:=NoB) (L:=[]) rfl rfl HE0.out HEI.out HB0.out (fun q hq=>by
     rcases hq with hq|hq
     ·cases hq;exact Nat.le_refl _
     ·exact hq.elim) HNil.out (by simp;omega) (by simp) ?_
    intro v7 w4 M hM hO4 hg4 hq4;have HB4:=hdd (HB0.out.grown hg4 (by simp) (fun q hq=>by cases hq;exact Nat.le_refl _));rw [List.nil_append] at hO4;have HO4:=hdd hO4;have HMe:=hdd hM;obtain ⟨a7,c7,rfl⟩:=kag hO4.row;clear hM hO4 hg4 hq4))
  |fail)
 have HMl:=hdd (show M.length=l.length by rw [←HMe.out,kbd]);have HTn:=hdd (show ∀x∈M,kdz 1000 x.e from fun x hx=>HTin.out _ (by rw [←HMe.out];exact List.mem_map.2 ⟨x,hx,rfl⟩))
 by_cases h0:l.length=0
 ·have hq0:((l.length:Int) == 0)=true:=by rw [h0];rfl
  go_wp2_with fail
  go_ret
  exact ⟨_,_,rfl,HO4.out,by rw [HMl.out];omega,fun _=>HMe.out,fun x hx=>(HTn.out x hx).mono (by omega),HB4.out⟩
 have hq0:((l.length:Int) == 0)=false:=by rw [beq_eq_false_iff_ne];omega
 obtain ⟨r,hr⟩:∃r,at_ % l.length=r:=⟨_,rfl⟩;have hrl:r<l.length:=by rw [←hr];exact Nat.mod_lt _ (by omega)
 have hrm:(at_:Int).tmod (l.length:Int)=(r:Int):=by rw [Int.tmod_eq_emod_of_nonneg (by omega),←hr];omega
 have hwr:IntKind.i64.wrap (r:Int)=(r:Int):=by rw [IntKind.wrap_i64];omega
 have hrL:r<L0.length:=by have:=HLl.out;omega
 obtain ⟨x0,hx0⟩:∃x,L0[r]=x:=⟨_,rfl⟩;have hx0m:x0∈L0:=hx0 ▸ List.getElem_mem hrL
 have hx0e:x0.e=l.getD r Rv.ev0:=by
  rw [←HLe.out,←hx0];simp [ka2,List.getD_eq_getElem?_getD,List.getElem?_eq_getElem hrL]
 obtain ⟨gb,cv,hve,-,-,-⟩:=kax HOw.out.row (by omega);simp only [Value.slice.injEq] at hve;obtain ⟨rfl,-,-⟩:=hve;have hrow:w.rangeAt gb (r*18) x0.cells:=hx0 ▸ HOw.out.at hrL;have HRow:=hdd (kbo hrow HB4.out (World.block_lt_of_cell? _ _ (hrow 0 _ rfl)))
 have HX0:=hdd ((HOw.out.safe x0 hx0m).step (F':=Fr (.slice a7 M.length c7) NoB) HB4.out.size (fun q hq _=>HB4.out.block q hq) (fun q hq=>by
  rcases hq with hq|hq
  ·exact .inr (HO4.out.row.lt q hq).1
  ·exact hq.elim))
 have HX0e:=hdd hx0e;have HX0n:=hdd (HNi.out x0 hx0m);have HT0:=hdd ((HTi.out x0 hx0m).mono (c':=1001) (by omega));have HT00:=hdd (HTi.out x0 hx0m);obtain ⟨t,ht⟩:∃t,w4.heap.size=t:=⟨_,rfl⟩;have HTt:=hdd ht;clear hr hx0 hx0m hx0e hrow hrL ht;have hok:=EvX.ok_of HX0.out.is;obtain ⟨na,nc,hvn⟩:=hok.n.formMap;obtain ⟨ta,tc,hvt⟩:=hok.t.formMap;obtain ⟨sa,sc,hvs⟩:=hok.s.formMap;obtain ⟨ha,hc,hvh⟩:=hok.h.formMap;obtain ⟨ra,rc,hvr⟩:=hok.r.formMap
 have hxa:x0.arr=evC x0.e (.slice na x0.e.names.length nc) (.slice ta x0.e.targets.length tc) (.slice sa x0.e.sg.S.length sc) (.slice ha x0.e.sg.H.length hc) (.slice ra x0.e.sg.R.length rc):=by
  show evC x0.e x0.vn x0.vt x0.vs x0.vh x0.vr=_;rw [hvn,hvt,hvs,hvh,hvr]
 have hrw:w4.rangeAt gb (r*18) (evC x0.e (.slice na x0.e.names.length nc) (.slice ta x0.e.targets.length tc) (.slice sa x0.e.sg.S.length sc) (.slice ha x0.e.sg.H.length hc) (.slice ra x0.e.sg.R.length rc)).toList:=by rw [←hxa];exact HRow.out
 have HRw:=hdd hrw;have HXa:=hdd hxa;have HVn:=hdd hvn;have HVt:=hdd hvt;clear hok hvn hvt hvs hvh hvr hxa hrw
 go_upto_region 6 with (first
  |(refine wpList_load_mid rfl 45 _ rfl gb _ rfl (evC x0.e (.slice na x0.e.names.length nc) (.slice ta x0.e.targets.length tc) (.slice sa x0.e.sg.S.length sc) (.slice ha x0.e.sg.H.length hc) (.slice ra x0.e.sg.R.length rc)).toList _ HRw.out rfl rfl (by kernel_rfl) ?_)
  |fail)
 show Code.wp _ _ _ _ (w4.alloc (.cells (evC x0.e (.slice na x0.e.names.length nc) (.slice ta x0.e.targets.length tc) (.slice sa x0.e.sg.S.length sc) (.slice ha x0.e.sg.H.length hc) (.slice ra x0.e.sg.R.length rc)) 45));rw [←HXa.out]
 have hF:∀W,W=w4.alloc (.cells x0.arr 45)→Below w4.heap.size w4 W∧W.heap[t]? = some (.cells x0.arr 45 (0,0)):=by
  rintro _ rfl;exact ⟨(Below.refl _ _).alloc (Nat.le_refl _) _,by rw [←HTt.out];exact kai _ _⟩
 rw [HTt.out];generalize hw5:w4.alloc (.cells x0.arr 45)=w5;obtain ⟨hb5,hT5⟩:=hF w5 hw5.symm;have HB5:=hdd hb5;have HT5:=hdd hT5;clear hF hw5 hb5;have ct2:w5.cell? ⟨t,2,none⟩=some (.int .i64 x0.e.number):=by rw [kaa hT5];rfl
 have ct12:w5.cell? ⟨t,12,none⟩=some (.int .i64 x0.e.till):=by rw [kaa hT5];rfl
 have ct14:w5.cell? ⟨t,14,none⟩=some (.int .i64 x0.e.sg.i):=by rw [kaa hT5];rfl
 have ct11:w5.cell? ⟨t,11,none⟩=some (.string (B x0.e.answer)):=by rw [kaa hT5];rfl
 clear hT5;rcases (show how=0∨how=1∨how=2∨how=3∨how=4∨how=5∨how=6∨how=7∨how=8∨how=9∨how=10∨how=11 by omega) with rfl|rfl|rfl|rfl|rfl|rfl|rfl|rfl|rfl|rfl|rfl|rfl
 ·skip
  have hz':z=0:=HZ.out;subst hz';clear HZ
  go_upto_region 28 with fail
  have HT6:=hdd HT5.out;have HB6:=hdd HB5.out;obtain ⟨w6,hw6⟩:∃W,w5=W:=⟨_,rfl⟩;rw [hw6] at HT6 HB6 ⊢;have HX6:=hdd (show kba (Fr (.slice a7 M.length c7) NoB) x0.val x0.e w6 from (HX0.out).step HB6.out.size (fun q hq _=>HB6.out.block q hq) (fun _ h=>.inl h));have HBt:=hdd (show BT l 0 r x0 from ⟨HT0.out,fun _=>HX0e.out⟩);obtain ⟨g,c7,hv7,hg7,hgl7,-⟩:=kax HO4.out.row (by have:=HMl.out;omega)
  cases hv7;have HOt:=hdd (HO4.out.grow HB6.out);obtain ⟨cur,hcur,hcz,-⟩:=HOt.out.block;have Hcur:=hdd hcur;have HOne:=hdd (EvX.flat HX6.out.is);have hml:=HMl.out;have hst:r*18+18≤cur.size:=by rw [hml] at hcz;omega
  have hrM:r<M.length:=by omega
  clear hcur hml hgl7 hcz
  go_wp2_with (first
   |(refine wpList_load_row rfl 45 _ rfl t rfl 45 (EvX.arr x0) (0,0) _ HT6.out rfl rfl (by kernel_rfl) ?_)
   |(refine kaz rfl 45 _ _ rfl g (r*18) (EvX.arr x0) (by first|rfl|(simp;done)) rfl cur 45 Hcur.out hst (by kernel_rfl) HOne.out ?_
     intro w8 hw8 hk8;have HW8:=hdd hw8;have HK8:=hdd hk8;clear hw8 hk8)
   |fail)
  go_ret
  have hO8:=HOt.out.set (.inl rfl) (i:=r) hrM HX6.out Hcur.out HW8.out HK8.out;refine ⟨_,_,rfl,hO8,by rw [List.length_set,HMl.out];omega,fun hh=>?_,fun y hy=>?_,HB4.out.trans ((HB6.out.mono HB4.out.size).trans (HK8.out.below (Nat.le_trans HB4.out.size HB6.out.size) (fun q hq e=>by have:q=g:=e;omega)))⟩
  ·rw [kb7,HMe.out,HBt.out.2 hh]
   exact kcv l r Rv.ev0
  ·rcases List.mem_or_eq_of_mem_set hy with hy|rfl
   ·exact (HTn.out y hy).mono (by omega)
   ·exact HBt.out.1
 ·skip
  have hz':z=1:=HZ.out;subst hz';clear HZ
  go_upto_region 28 with (first
   |(refine kae rfl 3 _ _ rfl t 2 rfl (.int .i64 (wrap64 (x0.e.number+1))) ?hyv rfl rfl _ 45 HT5.out (by simp) (by kernel_rfl) ?_
     go_loud (
     case hyv=>(first|(go_simp;done)|(go_simp;exact ka5 _ [33]))
     intro w6 hw6 hk6;have HT6:=hdd (show w6.heap[t]? = some (.cells (EvX.arr {x0 with e:={x0.e with number:=wrap64 (x0.e.number+1)}}) 45 (0,0)) from hw6);have HB6:=hdd (show Below w4.heap.size w4 w6 from HB5.out.trans (hk6.below HB5.out.size (fun q hq e=>by have:q=t:=e;have:=HTt.out;omega)));clear hw6 hk6))
   |fail)
  have HX6:=hdd (show kba (Fr (.slice a7 M.length c7) NoB) (EvX.val {x0 with e:={x0.e with number:=wrap64 (x0.e.number+1)}}) (EvX.e {x0 with e:={x0.e with number:=wrap64 (x0.e.number+1)}}) w6 from kba.alter (x:=x0) ((HX0.out).step HB6.out.size (fun q hq _=>HB6.out.block q hq) (fun _ h=>.inl h)) fun W _ h=>⟨⟨h.ok.author,h.ok.root,h.ok.pkg,h.ok.digest,h.ok.question,h.ok.scope,h.ok.answer,h.ok.names,h.ok.targets⟩,h.n,h.t,h.s,h.h,h.r⟩);have HBt:=hdd (show BT l 1 r {x0 with e:={x0.e with number:=wrap64 (x0.e.number+1)}} from ⟨⟨HT0.out.answer,HT0.out.names,HT0.out.targets,HT0.out.S,HT0.out.H,HT0.out.R⟩,fun hh=>absurd hh (by decide)⟩);obtain ⟨g,c7,hv7,hg7,hgl7,-⟩:=kax HO4.out.row (by have:=HMl.out;omega)
  cases hv7;have HOt:=hdd (HO4.out.grow HB6.out);obtain ⟨cur,hcur,hcz,-⟩:=HOt.out.block;have Hcur:=hdd hcur;have HOne:=hdd (EvX.flat HX6.out.is);have hml:=HMl.out;have hst:r*18+18≤cur.size:=by rw [hml] at hcz;omega
  have hrM:r<M.length:=by omega
  clear hcur hml hgl7 hcz
  go_wp2_with (first
   |(refine wpList_load_row rfl 45 _ rfl t rfl 45 (EvX.arr {x0 with e:={x0.e with number:=wrap64 (x0.e.number+1)}}) (0,0) _ HT6.out rfl rfl (by kernel_rfl) ?_)
   |(refine kaz rfl 45 _ _ rfl g (r*18) (EvX.arr {x0 with e:={x0.e with number:=wrap64 (x0.e.number+1)}}) (by first|rfl|(simp;done)) rfl cur 45 Hcur.out hst (by kernel_rfl) HOne.out ?_
     intro w8 hw8 hk8;have HW8:=hdd hw8;have HK8:=hdd hk8;clear hw8 hk8)
   |fail)
  go_ret
  have hO8:=HOt.out.set (.inl rfl) (i:=r) hrM HX6.out Hcur.out HW8.out HK8.out;refine ⟨_,_,rfl,hO8,by rw [List.length_set,HMl.out];omega,fun hh=>?_,fun y hy=>?_,HB4.out.trans ((HB6.out.mono HB4.out.size).trans (HK8.out.below (Nat.le_trans HB4.out.size HB6.out.size) (fun q hq e=>by have:q=g:=e;omega)))⟩
  ·rw [kb7,HMe.out,HBt.out.2 hh]
   exact kcv l r Rv.ev0
  ·rcases List.mem_or_eq_of_mem_set hy with hy|rfl
   ·exact (HTn.out y hy).mono (by omega)
   ·exact HBt.out.1
 ·skip
  have hz':z=2:=HZ.out;subst hz';clear HZ
  go_upto_region 28 with (first
   |(refine kae rfl 9 _ _ rfl t 1 rfl (.string ⟨#[100,97,110]⟩) ?hyv rfl rfl _ 45 HT5.out (by simp) (by kernel_rfl) ?_
     go_loud (
     case hyv=>(first|(go_simp;done)|(go_simp;exact ka5 _ [33]))
     intro w6 hw6 hk6;have HT6:=hdd (show w6.heap[t]? = some (.cells (EvX.arr {x0 with e:={x0.e with author:=[100,97,110]}}) 45 (0,0)) from hw6);have HB6:=hdd (show Below w4.heap.size w4 w6 from HB5.out.trans (hk6.below HB5.out.size (fun q hq e=>by have:q=t:=e;have:=HTt.out;omega)));clear hw6 hk6))
   |fail)
  have HX6:=hdd (show kba (Fr (.slice a7 M.length c7) NoB) (EvX.val {x0 with e:={x0.e with author:=[100,97,110]}}) (EvX.e {x0 with e:={x0.e with author:=[100,97,110]}}) w6 from kba.alter (x:=x0) ((HX0.out).step HB6.out.size (fun q hq _=>HB6.out.block q hq) (fun _ h=>.inl h)) fun W _ h=>⟨⟨by show 3≤1000000000;omega,h.ok.root,h.ok.pkg,h.ok.digest,h.ok.question,h.ok.scope,h.ok.answer,h.ok.names,h.ok.targets⟩,h.n,h.t,h.s,h.h,h.r⟩);have HBt:=hdd (show BT l 2 r {x0 with e:={x0.e with author:=[100,97,110]}} from ⟨⟨HT0.out.answer,HT0.out.names,HT0.out.targets,HT0.out.S,HT0.out.H,HT0.out.R⟩,fun hh=>absurd hh (by decide)⟩);obtain ⟨g,c7,hv7,hg7,hgl7,-⟩:=kax HO4.out.row (by have:=HMl.out;omega)
  cases hv7;have HOt:=hdd (HO4.out.grow HB6.out);obtain ⟨cur,hcur,hcz,-⟩:=HOt.out.block;have Hcur:=hdd hcur;have HOne:=hdd (EvX.flat HX6.out.is);have hml:=HMl.out;have hst:r*18+18≤cur.size:=by rw [hml] at hcz;omega
  have hrM:r<M.length:=by omega
  clear hcur hml hgl7 hcz
  go_wp2_with (first
   |(refine wpList_load_row rfl 45 _ rfl t rfl 45 (EvX.arr {x0 with e:={x0.e with author:=[100,97,110]}}) (0,0) _ HT6.out rfl rfl (by kernel_rfl) ?_)
   |(refine kaz rfl 45 _ _ rfl g (r*18) (EvX.arr {x0 with e:={x0.e with author:=[100,97,110]}}) (by first|rfl|(simp;done)) rfl cur 45 Hcur.out hst (by kernel_rfl) HOne.out ?_
     intro w8 hw8 hk8;have HW8:=hdd hw8;have HK8:=hdd hk8;clear hw8 hk8)
   |fail)
  go_ret
  have hO8:=HOt.out.set (.inl rfl) (i:=r) hrM HX6.out Hcur.out HW8.out HK8.out;refine ⟨_,_,rfl,hO8,by rw [List.length_set,HMl.out];omega,fun hh=>?_,fun y hy=>?_,HB4.out.trans ((HB6.out.mono HB4.out.size).trans (HK8.out.below (Nat.le_trans HB4.out.size HB6.out.size) (fun q hq e=>by have:q=g:=e;omega)))⟩
  ·rw [kb7,HMe.out,HBt.out.2 hh]
   exact kcv l r Rv.ev0
  ·rcases List.mem_or_eq_of_mem_set hy with hy|rfl
   ·exact (HTn.out y hy).mono (by omega)
   ·exact HBt.out.1
 ·have hz':z=3:=HZ.out
  subst hz';clear HZ;have ctc:w5.cell? ⟨t,3,none⟩=some (.slice na x0.e.names.length nc):=by rw [kaa HT5.out];show some x0.vn=_;rw [HVn.out]
  have HYs:=hdd (show IsSl (.slice na x0.e.names.length nc) (x0.e.names.map vS) w5 from HVn.out ▸ (EvX.ok_of ((HX0.out).step (F':=Fr (.slice a7 M.length c7) NoB) HB5.out.size (fun q hq _=>HB5.out.block q hq) (fun _ h=>.inl h)).is).n);have HYn:=hdd (show khn (.slice na x0.e.names.length nc) from HVn.out ▸ HX0n.out.n.nil);have HYl:=hdd (show x0.e.names.length≤1001 from HT0.out.names)
  have HH:=hdd (fun W=>kg5 (l:=[kih]) (cs:=#[.string ⟨#[110,111,116,104,105,110,103]⟩]) 1 rfl (by decide) rfl (by decide) (by
   intro y hy;simp only [List.mem_cons,List.not_mem_nil,or_false] at hy;subst hy;unfold maxLen;decide) W)
  obtain ⟨rt,hh⟩:∃rt,hsh [kih]=rt:=⟨_,rfl⟩;have hhl:rt.length=32:=by rw [←hh,kf6]
  rw [hh] at HH;clear hh
  go_upto_region 12 with fail
  have HS:=hdd (fun (W:World) (hb:Below w5.heap.size w5 W)=>(hb.cell (p:=⟨t,3,none⟩) (World.block_lt_of_cell? _ _ ctc)).trans ctc);have hz5t:=kad HT5.out;clear ctc;refine kdb [6,7] (S:=fun W=>W.cell? ⟨t,3,none⟩=some (.slice na x0.e.names.length nc)) (by kernel_rfl) (HS.out w5.drew (Below.refl _ _).drew) (fun hHeld=>?_);have hbz:Below w5.heap.size w5 w5.drew:=(Below.refl _ _).drew;generalize w5.drew=wz at hbz hHeld ⊢;simp only [List.toList_toArray,len,kat]
  iterate 2 (refine tkT 3 rfl rfl rfl (by kernel_rfl) (fun _ _ _ h=>h) (by intro W hW;(try dsimp only at hW);go_simp <;> with_reducible rfl) (by assumption) ?_;simp only [Act.put,s1,s2,s3])
  refine kau (rs:=[0]) (by kernel_rfl) (by simp) ?_;refine kao.cons rfl (fun K hK=>?_) kao.nil;go_simp
  have hb1:=hbz.alloc hbz.size (.cells #[.string ⟨#[110,111,116,104,105,110,103]⟩] 9);clear hHeld;refine hK.out _ _ (HS.out _ hb1) (fun hHeld=>?_);clear hK K
  try simp only [Act.put,s1,s2,s3,s4,s5,s6]
  refine kau (rs:=[1]) (by kernel_rfl) (by simp) ?_;refine kao.cons rfl (fun K hK=>?_) kao.nil;go_simp
  refine (HH.out wz).mono ?_;rintro en wa ⟨rfl,hb2⟩;have hb3:=hb1.next hb2;clear hHeld;refine hK.out _ _ (HS.out _ hb3) (fun hHeld=>?_);clear hK K
  try simp only [Act.put,s1,s2,s3,s4,s5,s6]
  refine kau (rs:=[2]) (by kernel_rfl) (by simp) ?_;refine kao.cons rfl (fun K hK=>?_) kao.nil;go_simp
  have hb4:=hb3.alloc hb3.size (.cells #[.string (B rt)] 9);have hrow:(wa.alloc (.cells #[.string (B rt)] 9)).ownsRow w5.heap.size 9 1 (.slice (some ⟨wa.heap.size,0,none⟩) 1 1) ([rt]:List Bs).length ([rt].map vS):=kd5 (n:=1) (kai wa (.cells #[.string (B rt)] 9)) hb3.size rfl (by unfold maxLen;decide);clear hHeld;refine hK.out _ _ (HS.out _ hb4) (fun hHeld=>?_);clear hK K
  try simp only [Act.put,s1,s2,s3,s4,s5,s6]
  refine kau (rs:=[5]) (by kernel_rfl) (by simp) ?_;refine kao.cons rfl (fun K hK=>?_) kao.nil;refine kfb rfl _ _ rfl (base:=w5.heap.size) (u:=.slice (some ⟨wa.heap.size,0,none⟩) 1 1) (v:=.slice na x0.e.names.length nc) (xs:=[rt]) (ys:=x0.e.names) (w0:=w5) rfl rfl hrow HYs.out hb4 HYn.out (by simp only [List.length_cons,List.length_nil];have:=HYl.out;omega) (by simp;have:=hb3.size;omega) ?_;intro v9 w9 ho9 hg9 hq9;have hb9:Below w5.heap.size w5 w9:=hb4.grown hg9 (by simp;have:=hb3.size;omega) (fun q hq=>(hrow.lt q hq).1);clear hHeld;refine hK.out _ _ (HS.out _ hb9) (fun hHeld=>?_);obtain ⟨a9,c9,rfl⟩:=kag ho9;clear hK K
  try simp only [Act.put,s1,s2,s3,s4,s5,s6]
  (refine tuT 6 rfl rfl rfl (by kernel_rfl) (fun _ _ _ h=>h) (by intro W;go_simp <;> with_reducible rfl) ?_;simp only [Act.put,s1,s2,s3])
  refine kau (rs:=[7]) (by kernel_rfl) (by simp) ?_;refine kao.last rfl rfl (fun K hK=>?_);have hT9:=kab hb9 (kad HT5.out) HT5.out;refine kan rfl 39 _ _ rfl t 3 rfl (.slice a9 ([rt]++x0.e.names).length c9) rfl rfl rfl _ 45 hT9 (by simp) (by kernel_rfl) ?_;intro w6 hw6 hk6;have ho6:=kal ho9 (w':=w6) fun q hq=>hk6.block q (ho9.lt q hq).2 (fun e=>by have:=(ho9.lt q hq).1;have:q=t:=e;omega)
  have HO6:=hdd ho6;have HT6:=hdd (show w6.heap[t]? = some (.cells (EvX.arr {x0 with e:={x0.e with names:=[rt]++x0.e.names},vn:=.slice a9 ([rt]++x0.e.names).length c9}) 45 (0,0)) from hw6);have HB6:=hdd (show Below w4.heap.size w4 w6 from (HB5.out.next hb9).trans (hk6.below (Nat.le_trans HB5.out.size hb9.size) (fun q hq e=>by have:q=t:=e;have:=HTt.out;omega)));refine hK.out _ _ ?_;clear hK K
  try simp only [Act.put,s1,s2,s3,s4,s5,s6]
  clear hHeld ho6 ho9 hw6 hk6 hT9 hb9 hg9 hq9 hrow hb1 hb2 hb3 hb4 hbz;refine kb6 (by kernel_rfl) ?_ _
  try simp only [Exit.then]
  have HX6:=hdd (show kba (Fr (.slice a7 M.length c7) NoB) (EvX.val {x0 with e:={x0.e with names:=[rt]++x0.e.names},vn:=.slice a9 ([rt]++x0.e.names).length c9}) (EvX.e {x0 with e:={x0.e with names:=[rt]++x0.e.names},vn:=.slice a9 ([rt]++x0.e.names).length c9}) w6 from kba.alter (x:=x0) ((HX0.out).step HB6.out.size (fun q hq _=>HB6.out.block q hq) (fun _ h=>.inl h)) fun W hW h=>by
   have hn:=kie HO6.out (lo:=w4.heap.size) (fun q hq=>by
    rcases hq with hq|hq
    ·exact (HO4.out.row.lt q hq).2
    ·exact hq.elim) HB5.out.size (by simp only [List.length_append,List.length_cons,List.length_nil];have:=HYl.out;omega) hW
   exact ⟨⟨h.ok.author,h.ok.root,h.ok.pkg,h.ok.digest,h.ok.question,h.ok.scope,h.ok.answer,(fun y hy=>by rcases List.mem_append.1 hy with hy|hy;obtain rfl:=List.mem_singleton.1 hy;omega;exact h.ok.names y hy),h.ok.targets⟩,hn,h.t,h.s,h.h,h.r⟩)
  have HBt:=hdd (show BT l 3 r {x0 with e:={x0.e with names:=[rt]++x0.e.names},vn:=.slice a9 ([rt]++x0.e.names).length c9} from ⟨⟨HT0.out.answer,by show ([rt]++x0.e.names).length≤1001;rw [List.length_append,List.length_singleton];have:=HT00.out.names;omega,HT0.out.targets,HT0.out.S,HT0.out.H,HT0.out.R⟩,fun hh=>absurd hh (by decide)⟩);clear HYs HYn HYl HO6 hhl hz5t;obtain ⟨g,c7,hv7,hg7,hgl7,-⟩:=kax HO4.out.row (by have:=HMl.out;omega)
  cases hv7;have HOt:=hdd (HO4.out.grow HB6.out);obtain ⟨cur,hcur,hcz,-⟩:=HOt.out.block;have Hcur:=hdd hcur;have HOne:=hdd (EvX.flat HX6.out.is);have hml:=HMl.out;have hst:r*18+18≤cur.size:=by rw [hml] at hcz;omega
  have hrM:r<M.length:=by omega
  clear hcur hml hgl7 hcz
  go_wp2_with (first
   |(refine wpList_load_row rfl 45 _ rfl t rfl 45 (EvX.arr {x0 with e:={x0.e with names:=[rt]++x0.e.names},vn:=.slice a9 ([rt]++x0.e.names).length c9}) (0,0) _ HT6.out rfl rfl (by kernel_rfl) ?_)
   |(refine kaz rfl 45 _ _ rfl g (r*18) (EvX.arr {x0 with e:={x0.e with names:=[rt]++x0.e.names},vn:=.slice a9 ([rt]++x0.e.names).length c9}) (by first|rfl|(simp;done)) rfl cur 45 Hcur.out hst (by kernel_rfl) HOne.out ?_
     intro w8 hw8 hk8;have HW8:=hdd hw8;have HK8:=hdd hk8;clear hw8 hk8)
   |fail)
  go_ret
  have hO8:=HOt.out.set (.inl rfl) (i:=r) hrM HX6.out Hcur.out HW8.out HK8.out;refine ⟨_,_,rfl,hO8,by rw [List.length_set,HMl.out];omega,fun hh=>?_,fun y hy=>?_,HB4.out.trans ((HB6.out.mono HB4.out.size).trans (HK8.out.below (Nat.le_trans HB4.out.size HB6.out.size) (fun q hq e=>by have:q=g:=e;omega)))⟩
  ·rw [kb7,HMe.out,HBt.out.2 hh]
   exact kcv l r Rv.ev0
  ·rcases List.mem_or_eq_of_mem_set hy with hy|rfl
   ·exact (HTn.out y hy).mono (by omega)
   ·exact HBt.out.1
 ·have hz':z=4:=HZ.out
  subst hz';clear HZ;have hbb:=HB5.out.alloc HB5.out.size (.cells x0.arr 45);have HO5a:=hdd (HO4.out.grow hbb);have HX5a:=hdd (HX0.out.step (F':=Fr (.slice a7 M.length c7) NoB) hbb.size (fun q hq _=>hbb.block q hq) (fun _ h=>.inl h));have HB5a:=hdd (HB4.out.trans (hbb.mono HB4.out.size));have hz4:=HB4.out.size;have hz5:=HB5.out.size;clear hbb
  go_wp2_with (first
   |(refine wpList_load_row rfl 45 _ rfl t rfl 45 x0.arr (0,0) _ HT5.out rfl rfl (by kernel_rfl) ?_)
   |(at_builtin
     go_loud (
     refine kcj rfl _ _ rfl (base:=w.heap.size) (b:=w5.heap.size) (G:=NoB) (u:=.slice a7 M.length c7) (L:=M) (X:=x0) rfl rfl HO5a.out (kai w5 (.cells x0.arr 45)) HX5a.out (by have:=HMl.out;omega) (by simp;omega) ?_;intro v8 w8 ho8 hg8 hq8;have HO8:=hdd ho8;have HB8:=hdd (HB5a.out.grown hg8 (by simp;omega) (fun q hq=>(HO5a.out.row.lt q hq).1));clear ho8 hg8 hq8))
   |fail)
  go_ret
  refine ⟨_,_,rfl,HO8.out,by rw [List.length_append,List.length_singleton,HMl.out];omega,fun hh=>absurd hh (by decide),fun y hy=>?_,HB8.out⟩;rcases List.mem_append.1 hy with hy|hy
  ·exact (HTn.out y hy).mono (by omega)
  ·obtain rfl:=List.mem_singleton.1 hy
   exact HT0.out
 ·have hz':z=5:=HZ.out
  subst hz';clear HZ;obtain ⟨g,e7,hv7,hg7,hgl7,hgc⟩:=kax HO4.out.row (by have:=HMl.out;omega)
  cases hv7;have HO5:=hdd (HO4.out.grow HB5.out);have hml:=HMl.out;obtain ⟨q,hq⟩:∃q,r+1=q:=⟨_,rfl⟩;have hwq:IntKind.i64.wrap ((r:Int)+1)=(q:Int):=by rw [IntKind.wrap_i64];omega
  have hr0:(0:Int)≤(r:Int):=by omega
  have hrc:(r:Int)≤(c7:Int):=by omega
  have hq0':(0:Int)≤(q:Int):=by omega
  have hqM:(q:Int)≤(M.length:Int):=by omega
  have hMc:(M.length:Int)≤(c7:Int):=by omega
  have HQ:=hdd hq;clear hml hq
  go_upto_region 16 with fail
  refine kdb [] (S:=fun _=>True) (by kernel_rfl) trivial (fun hHeld=>?_);have hbz:Below w5.heap.size w5 w5.drew:=(Below.refl _ _).drew;generalize w5.drew=wz at hbz hHeld ⊢;simp only [List.toList_toArray,len,kat]
  obtain ⟨ad,had,hadn⟩:∃ad:Addr,(if c7=q then some (⟨g,0,none⟩:Addr) else some ⟨g,q*18,none⟩)=some ad∧(q<M.length→ad=⟨g,q*18,none⟩):=by
   by_cases c:c7=q
   ·exact ⟨_,if_pos c,fun h=>by omega⟩
   ·exact ⟨_,if_neg c,fun _=>rfl⟩
  have HAd:=hdd hadn;have HMc:=hdd hgc;clear hadn
  iterate 7 (refine tkT 0 rfl rfl rfl (by kernel_rfl) (fun _ _ _ h=>h) (by intro W hW;(try dsimp only at hW);go_simp <;> with_reducible rfl) (by assumption) ?_;simp only [Act.put,s1,s2,s3])
  refine kau (rs:=[7]) (by kernel_rfl) (by simp) ?_;refine kao.cons rfl (fun K hK=>?_) kao.nil;have hOz:=HO5.out.grow hbz;have hOt:=hOz.take (k:=r) (by have:=HMl.out;omega);obtain ⟨i0,hi0,hz0,hz1,hz2⟩:=kk7
  obtain ⟨v8,w8,hrun,ho8,hg8,hq8⟩:=kgt (P:=Tryz.prog) wz w.heap.size 23 23 45 i0 (.agg evZ) 18 280 Tryz.underlying23 hi0 hz0 hz1 hz2 rfl (by decide) _ _ _ hOt.row ad (M.length - q) (c7 - q) (evL (M.drop q)) (by rw [kf3,List.length_drop]) (fun j u hu=>by
   by_cases c:q<M.length
   ·rw [HAd.out c];exact hOz.behind q j u hu
   ·rw [List.drop_eq_nil_of_le (by omega)] at hu
    simp [evL] at hu) (kor (w:=wz) fun y hy=>(hOz.safe y (List.mem_of_mem_drop hy)).is) (by rw [List.length_take];have:=HMl.out;unfold maxLen;omega) (by rw [List.length_take];have:=HMl.out;omega) (by have:=HB4.out.size;have:=HB5.out.size;have:=hbz.size;omega)
  refine kjk rfl _ _ _ rfl _ _ v8 w8 rfl rfl hrun ?_;refine hK.out _ _ trivial (fun hHeld=>?_)
  have HO8:=hdd (show ka1 w.heap.size (Fr v8 NoB) v8 (M.take r++M.drop q) w8 from ⟨by
   rw [kmz,List.length_append,List.length_drop];exact ho8,fun y hy=>by
   have hm:y∈M:=(List.mem_append.1 hy).elim List.mem_of_mem_take List.mem_of_mem_drop
   exact (hOz.safe y hm).step hg8.size (fun p hp hn=>hg8.block p hp (fun e=>hn (.inl e.symm))) (fun p hp=>by
    rcases hp with hp|hp
    ·exact (hq8 p hp).imp .inl id
    ·exact hp.elim)⟩)
  have HB8:=hdd (show Below w.heap.size w w8 from (HB4.out.trans ((HB5.out.next hbz).mono HB4.out.size)).grown hg8 (by have:=HB4.out.size;have:=HB5.out.size;have:=hbz.size;omega) (fun p hp=>by cases hp;exact hg7));clear hK K
  try simp only [Act.put,s1,s2,s3,s4,s5,s6]
  (refine tkT 8 rfl rfl rfl (by kernel_rfl) (fun _ _ _ h=>h) (by intro W hW;(try dsimp only at hW);go_simp <;> with_reducible rfl) (by assumption) ?_;simp only [Act.put,s1,s2,s3])
  refine kb6 (by kernel_rfl) ?_ _
  try simp only [Exit.then]
  clear hrun ho8 hg8 hq8 hOz hOt
  go_wp2_with fail
  go_ret
  refine ⟨_,_,rfl,HO8.out,by rw [List.length_append,List.length_take,List.length_drop];have:=HMl.out;have:=HQ.out;omega,fun hh=>absurd hh (by decide),fun y hy=>?_,HB8.out⟩;exact (HTn.out y ((List.mem_append.1 hy).elim List.mem_of_mem_take List.mem_of_mem_drop)).mono (by omega)
 ·skip
  have hz':z=6:=HZ.out;subst hz';clear HZ
  go_upto_region 28 with (first
   |(refine kae rfl 3 _ _ rfl t 12 rfl (.int .i64 (wrap64 (x0.e.till+1))) ?hyv rfl rfl _ 45 HT5.out (by simp) (by kernel_rfl) ?_
     go_loud (
     case hyv=>(first|(go_simp;done)|(go_simp;exact ka5 _ [33]))
     intro w6 hw6 hk6;have HT6:=hdd (show w6.heap[t]? = some (.cells (EvX.arr {x0 with e:={x0.e with till:=wrap64 (x0.e.till+1)}}) 45 (0,0)) from hw6);have HB6:=hdd (show Below w4.heap.size w4 w6 from HB5.out.trans (hk6.below HB5.out.size (fun q hq e=>by have:q=t:=e;have:=HTt.out;omega)));clear hw6 hk6))
   |fail)
  have HX6:=hdd (show kba (Fr (.slice a7 M.length c7) NoB) (EvX.val {x0 with e:={x0.e with till:=wrap64 (x0.e.till+1)}}) (EvX.e {x0 with e:={x0.e with till:=wrap64 (x0.e.till+1)}}) w6 from kba.alter (x:=x0) ((HX0.out).step HB6.out.size (fun q hq _=>HB6.out.block q hq) (fun _ h=>.inl h)) fun W _ h=>⟨⟨h.ok.author,h.ok.root,h.ok.pkg,h.ok.digest,h.ok.question,h.ok.scope,h.ok.answer,h.ok.names,h.ok.targets⟩,h.n,h.t,h.s,h.h,h.r⟩);have HBt:=hdd (show BT l 6 r {x0 with e:={x0.e with till:=wrap64 (x0.e.till+1)}} from ⟨⟨HT0.out.answer,HT0.out.names,HT0.out.targets,HT0.out.S,HT0.out.H,HT0.out.R⟩,fun hh=>absurd hh (by decide)⟩);obtain ⟨g,c7,hv7,hg7,hgl7,-⟩:=kax HO4.out.row (by have:=HMl.out;omega)
  cases hv7;have HOt:=hdd (HO4.out.grow HB6.out);obtain ⟨cur,hcur,hcz,-⟩:=HOt.out.block;have Hcur:=hdd hcur;have HOne:=hdd (EvX.flat HX6.out.is);have hml:=HMl.out;have hst:r*18+18≤cur.size:=by rw [hml] at hcz;omega
  have hrM:r<M.length:=by omega
  clear hcur hml hgl7 hcz
  go_wp2_with (first
   |(refine wpList_load_row rfl 45 _ rfl t rfl 45 (EvX.arr {x0 with e:={x0.e with till:=wrap64 (x0.e.till+1)}}) (0,0) _ HT6.out rfl rfl (by kernel_rfl) ?_)
   |(refine kaz rfl 45 _ _ rfl g (r*18) (EvX.arr {x0 with e:={x0.e with till:=wrap64 (x0.e.till+1)}}) (by first|rfl|(simp;done)) rfl cur 45 Hcur.out hst (by kernel_rfl) HOne.out ?_
     intro w8 hw8 hk8;have HW8:=hdd hw8;have HK8:=hdd hk8;clear hw8 hk8)
   |fail)
  go_ret
  have hO8:=HOt.out.set (.inl rfl) (i:=r) hrM HX6.out Hcur.out HW8.out HK8.out;refine ⟨_,_,rfl,hO8,by rw [List.length_set,HMl.out];omega,fun hh=>?_,fun y hy=>?_,HB4.out.trans ((HB6.out.mono HB4.out.size).trans (HK8.out.below (Nat.le_trans HB4.out.size HB6.out.size) (fun q hq e=>by have:q=g:=e;omega)))⟩
  ·rw [kb7,HMe.out,HBt.out.2 hh]
   exact kcv l r Rv.ev0
  ·rcases List.mem_or_eq_of_mem_set hy with hy|rfl
   ·exact (HTn.out y hy).mono (by omega)
   ·exact HBt.out.1
 ·skip
  have hz':z=7:=HZ.out;subst hz';clear HZ
  go_upto_region 28 with (first
   |(refine kae rfl 39 _ _ rfl t 3 rfl (kaf) ?hyv rfl rfl _ 45 HT5.out (by simp) (by kernel_rfl) ?_
     go_loud (
     case hyv=>(first|(go_simp;done)|(go_simp;exact ka5 _ [33]))
     intro w6 hw6 hk6;have HT6:=hdd (show w6.heap[t]? = some (.cells (EvX.arr {x0 with e:={x0.e with names:=[]},vn:=kaf}) 45 (0,0)) from hw6);have HB6:=hdd (show Below w4.heap.size w4 w6 from HB5.out.trans (hk6.below HB5.out.size (fun q hq e=>by have:q=t:=e;have:=HTt.out;omega)));clear hw6 hk6))
   |fail)
  have HX6:=hdd (show kba (Fr (.slice a7 M.length c7) NoB) (EvX.val {x0 with e:={x0.e with names:=[]},vn:=kaf}) (EvX.e {x0 with e:={x0.e with names:=[]},vn:=kaf}) w6 from kba.alter (x:=x0) ((HX0.out).step HB6.out.size (fun q hq _=>HB6.out.block q hq) (fun _ h=>.inl h)) fun W _ h=>⟨⟨h.ok.author,h.ok.root,h.ok.pkg,h.ok.digest,h.ok.question,h.ok.scope,h.ok.answer,(fun y hy=>by cases hy),h.ok.targets⟩,kxu W,h.t,h.s,h.h,h.r⟩);have HBt:=hdd (show BT l 7 r {x0 with e:={x0.e with names:=[]},vn:=kaf} from ⟨⟨HT0.out.answer,Nat.zero_le _,HT0.out.targets,HT0.out.S,HT0.out.H,HT0.out.R⟩,fun hh=>absurd hh (by decide)⟩);obtain ⟨g,c7,hv7,hg7,hgl7,-⟩:=kax HO4.out.row (by have:=HMl.out;omega)
  cases hv7;have HOt:=hdd (HO4.out.grow HB6.out);obtain ⟨cur,hcur,hcz,-⟩:=HOt.out.block;have Hcur:=hdd hcur;have HOne:=hdd (EvX.flat HX6.out.is);have hml:=HMl.out;have hst:r*18+18≤cur.size:=by rw [hml] at hcz;omega
  have hrM:r<M.length:=by omega
  clear hcur hml hgl7 hcz
  go_wp2_with (first
   |(refine wpList_load_row rfl 45 _ rfl t rfl 45 (EvX.arr {x0 with e:={x0.e with names:=[]},vn:=kaf}) (0,0) _ HT6.out rfl rfl (by kernel_rfl) ?_)
   |(refine kaz rfl 45 _ _ rfl g (r*18) (EvX.arr {x0 with e:={x0.e with names:=[]},vn:=kaf}) (by first|rfl|(simp;done)) rfl cur 45 Hcur.out hst (by kernel_rfl) HOne.out ?_
     intro w8 hw8 hk8;have HW8:=hdd hw8;have HK8:=hdd hk8;clear hw8 hk8)
   |fail)
  go_ret
  have hO8:=HOt.out.set (.inl rfl) (i:=r) hrM HX6.out Hcur.out HW8.out HK8.out;refine ⟨_,_,rfl,hO8,by rw [List.length_set,HMl.out];omega,fun hh=>?_,fun y hy=>?_,HB4.out.trans ((HB6.out.mono HB4.out.size).trans (HK8.out.below (Nat.le_trans HB4.out.size HB6.out.size) (fun q hq e=>by have:q=g:=e;omega)))⟩
  ·rw [kb7,HMe.out,HBt.out.2 hh]
   exact kcv l r Rv.ev0
  ·rcases List.mem_or_eq_of_mem_set hy with hy|rfl
   ·exact (HTn.out y hy).mono (by omega)
   ·exact HBt.out.1
 ·skip
  have hz':z=8:=HZ.out;subst hz';clear HZ
  go_upto_region 28 with (first
   |(refine kae rfl 3 _ _ rfl t 14 rfl (.int .i64 (wrap64 (x0.e.sg.i+1))) ?hyv rfl rfl _ 45 HT5.out (by simp) (by kernel_rfl) ?_
     go_loud (
     case hyv=>(first|(go_simp;done)|(go_simp;exact ka5 _ [33]))
     intro w6 hw6 hk6;have HT6:=hdd (show w6.heap[t]? = some (.cells (EvX.arr {x0 with e:={x0.e with sg:={x0.e.sg with i:=wrap64 (x0.e.sg.i+1)}}}) 45 (0,0)) from hw6);have HB6:=hdd (show Below w4.heap.size w4 w6 from HB5.out.trans (hk6.below HB5.out.size (fun q hq e=>by have:q=t:=e;have:=HTt.out;omega)));clear hw6 hk6))
   |fail)
  have HX6:=hdd (show kba (Fr (.slice a7 M.length c7) NoB) (EvX.val {x0 with e:={x0.e with sg:={x0.e.sg with i:=wrap64 (x0.e.sg.i+1)}}}) (EvX.e {x0 with e:={x0.e with sg:={x0.e.sg with i:=wrap64 (x0.e.sg.i+1)}}}) w6 from kba.alter (x:=x0) ((HX0.out).step HB6.out.size (fun q hq _=>HB6.out.block q hq) (fun _ h=>.inl h)) fun W _ h=>⟨⟨h.ok.author,h.ok.root,h.ok.pkg,h.ok.digest,h.ok.question,h.ok.scope,h.ok.answer,h.ok.names,h.ok.targets⟩,h.n,h.t,h.s,h.h,h.r⟩);have HBt:=hdd (show BT l 8 r {x0 with e:={x0.e with sg:={x0.e.sg with i:=wrap64 (x0.e.sg.i+1)}}} from ⟨⟨HT0.out.answer,HT0.out.names,HT0.out.targets,HT0.out.S,HT0.out.H,HT0.out.R⟩,fun hh=>absurd hh (by decide)⟩);obtain ⟨g,c7,hv7,hg7,hgl7,-⟩:=kax HO4.out.row (by have:=HMl.out;omega)
  cases hv7;have HOt:=hdd (HO4.out.grow HB6.out);obtain ⟨cur,hcur,hcz,-⟩:=HOt.out.block;have Hcur:=hdd hcur;have HOne:=hdd (EvX.flat HX6.out.is);have hml:=HMl.out;have hst:r*18+18≤cur.size:=by rw [hml] at hcz;omega
  have hrM:r<M.length:=by omega
  clear hcur hml hgl7 hcz
  go_wp2_with (first
   |(refine wpList_load_row rfl 45 _ rfl t rfl 45 (EvX.arr {x0 with e:={x0.e with sg:={x0.e.sg with i:=wrap64 (x0.e.sg.i+1)}}}) (0,0) _ HT6.out rfl rfl (by kernel_rfl) ?_)
   |(refine kaz rfl 45 _ _ rfl g (r*18) (EvX.arr {x0 with e:={x0.e with sg:={x0.e.sg with i:=wrap64 (x0.e.sg.i+1)}}}) (by first|rfl|(simp;done)) rfl cur 45 Hcur.out hst (by kernel_rfl) HOne.out ?_
     intro w8 hw8 hk8;have HW8:=hdd hw8;have HK8:=hdd hk8;clear hw8 hk8)
   |fail)
  go_ret
  have hO8:=HOt.out.set (.inl rfl) (i:=r) hrM HX6.out Hcur.out HW8.out HK8.out;refine ⟨_,_,rfl,hO8,by rw [List.length_set,HMl.out];omega,fun hh=>?_,fun y hy=>?_,HB4.out.trans ((HB6.out.mono HB4.out.size).trans (HK8.out.below (Nat.le_trans HB4.out.size HB6.out.size) (fun q hq e=>by have:q=g:=e;omega)))⟩
  ·rw [kb7,HMe.out,HBt.out.2 hh]
   exact kcv l r Rv.ev0
  ·rcases List.mem_or_eq_of_mem_set hy with hy|rfl
   ·exact (HTn.out y hy).mono (by omega)
   ·exact HBt.out.1
 ·have hsz9:¬ (9223372036854775807<(B x0.e.answer).size+1):=by rw [kdf];have:=HT00.out.answer;omega
  have hz':z=9:=HZ.out;subst hz';clear HZ
  go_upto_region 28 with (first
   |(refine kae rfl 9 _ _ rfl t 11 rfl (.string (B (x0.e.answer++[33]))) ?hyv rfl rfl _ 45 HT5.out (by simp) (by kernel_rfl) ?_
     go_loud (
     case hyv=>(first|(go_simp;done)|(go_simp;exact ka5 _ [33]))
     intro w6 hw6 hk6;have HT6:=hdd (show w6.heap[t]? = some (.cells (EvX.arr {x0 with e:={x0.e with answer:=x0.e.answer++[33]}}) 45 (0,0)) from hw6);have HB6:=hdd (show Below w4.heap.size w4 w6 from HB5.out.trans (hk6.below HB5.out.size (fun q hq e=>by have:q=t:=e;have:=HTt.out;omega)));clear hw6 hk6))
   |fail)
  have HX6:=hdd (show kba (Fr (.slice a7 M.length c7) NoB) (EvX.val {x0 with e:={x0.e with answer:=x0.e.answer++[33]}}) (EvX.e {x0 with e:={x0.e with answer:=x0.e.answer++[33]}}) w6 from kba.alter (x:=x0) ((HX0.out).step HB6.out.size (fun q hq _=>HB6.out.block q hq) (fun _ h=>.inl h)) fun W _ h=>⟨⟨h.ok.author,h.ok.root,h.ok.pkg,h.ok.digest,h.ok.question,h.ok.scope,by show (x0.e.answer++[33]).length≤1000000000;rw [List.length_append,List.length_singleton];have:=HT0.out.answer;omega,h.ok.names,h.ok.targets⟩,h.n,h.t,h.s,h.h,h.r⟩);have HBt:=hdd (show BT l 9 r {x0 with e:={x0.e with answer:=x0.e.answer++[33]}} from ⟨⟨by show (x0.e.answer++[33]).length≤1001;rw [List.length_append,List.length_singleton];have:=HT00.out.answer;omega,HT0.out.names,HT0.out.targets,HT0.out.S,HT0.out.H,HT0.out.R⟩,fun hh=>absurd hh (by decide)⟩);obtain ⟨g,c7,hv7,hg7,hgl7,-⟩:=kax HO4.out.row (by have:=HMl.out;omega)
  cases hv7;have HOt:=hdd (HO4.out.grow HB6.out);obtain ⟨cur,hcur,hcz,-⟩:=HOt.out.block;have Hcur:=hdd hcur;have HOne:=hdd (EvX.flat HX6.out.is);have hml:=HMl.out;have hst:r*18+18≤cur.size:=by rw [hml] at hcz;omega
  have hrM:r<M.length:=by omega
  clear hcur hml hgl7 hcz
  go_wp2_with (first
   |(refine wpList_load_row rfl 45 _ rfl t rfl 45 (EvX.arr {x0 with e:={x0.e with answer:=x0.e.answer++[33]}}) (0,0) _ HT6.out rfl rfl (by kernel_rfl) ?_)
   |(refine kaz rfl 45 _ _ rfl g (r*18) (EvX.arr {x0 with e:={x0.e with answer:=x0.e.answer++[33]}}) (by first|rfl|(simp;done)) rfl cur 45 Hcur.out hst (by kernel_rfl) HOne.out ?_
     intro w8 hw8 hk8;have HW8:=hdd hw8;have HK8:=hdd hk8;clear hw8 hk8)
   |fail)
  go_ret
  have hO8:=HOt.out.set (.inl rfl) (i:=r) hrM HX6.out Hcur.out HW8.out HK8.out;refine ⟨_,_,rfl,hO8,by rw [List.length_set,HMl.out];omega,fun hh=>?_,fun y hy=>?_,HB4.out.trans ((HB6.out.mono HB4.out.size).trans (HK8.out.below (Nat.le_trans HB4.out.size HB6.out.size) (fun q hq e=>by have:q=g:=e;omega)))⟩
  ·rw [kb7,HMe.out,HBt.out.2 hh]
   exact kcv l r Rv.ev0
  ·rcases List.mem_or_eq_of_mem_set hy with hy|rfl
   ·exact (HTn.out y hy).mono (by omega)
   ·exact HBt.out.1
 ·have ct13:w5.cell? ⟨t,13,none⟩=some (.slice ta x0.e.targets.length tc):=by rw [kaa HT5.out];show some x0.vt=_;rw [HVt.out]
  by_cases htl:x0.e.targets.length=0
  ·have htl0:¬ (0:Int)<(x0.e.targets.length:Int):=by omega
   have hz':z=10:=HZ.out;subst hz';clear HZ
   go_upto_region 28 with fail
   have HT6:=hdd HT5.out;have HB6:=hdd HB5.out;obtain ⟨w6,hw6⟩:∃W,w5=W:=⟨_,rfl⟩;rw [hw6] at HT6 HB6 ⊢;have HX6:=hdd (show kba (Fr (.slice a7 M.length c7) NoB) x0.val x0.e w6 from (HX0.out).step HB6.out.size (fun q hq _=>HB6.out.block q hq) (fun _ h=>.inl h));have HBt:=hdd (show BT l 10 r x0 from ⟨HT0.out,fun _=>HX0e.out⟩);obtain ⟨g,c7,hv7,hg7,hgl7,-⟩:=kax HO4.out.row (by have:=HMl.out;omega)
   cases hv7;have HOt:=hdd (HO4.out.grow HB6.out);obtain ⟨cur,hcur,hcz,-⟩:=HOt.out.block;have Hcur:=hdd hcur;have HOne:=hdd (EvX.flat HX6.out.is);have hml:=HMl.out;have hst:r*18+18≤cur.size:=by rw [hml] at hcz;omega
   have hrM:r<M.length:=by omega
   clear hcur hml hgl7 hcz
   go_wp2_with (first
    |(refine wpList_load_row rfl 45 _ rfl t rfl 45 (EvX.arr x0) (0,0) _ HT6.out rfl rfl (by kernel_rfl) ?_)
    |(refine kaz rfl 45 _ _ rfl g (r*18) (EvX.arr x0) (by first|rfl|(simp;done)) rfl cur 45 Hcur.out hst (by kernel_rfl) HOne.out ?_
      intro w8 hw8 hk8;have HW8:=hdd hw8;have HK8:=hdd hk8;clear hw8 hk8)
    |fail)
   go_ret
   have hO8:=HOt.out.set (.inl rfl) (i:=r) hrM HX6.out Hcur.out HW8.out HK8.out;refine ⟨_,_,rfl,hO8,by rw [List.length_set,HMl.out];omega,fun hh=>?_,fun y hy=>?_,HB4.out.trans ((HB6.out.mono HB4.out.size).trans (HK8.out.below (Nat.le_trans HB4.out.size HB6.out.size) (fun q hq e=>by have:q=g:=e;omega)))⟩
   ·rw [kb7,HMe.out,HBt.out.2 hh]
    exact kcv l r Rv.ev0
   ·rcases List.mem_or_eq_of_mem_set hy with hy|rfl
    ·exact (HTn.out y hy).mono (by omega)
    ·exact HBt.out.1
  ·have htl0:(0:Int)<(x0.e.targets.length:Int):=by omega
   have hz':z=10:=HZ.out;subst hz';clear HZ;have hYs0:=(show IsSl (.slice ta x0.e.targets.length tc) (x0.e.targets.map vS) w5 from HVt.out ▸ (EvX.ok_of ((HX0.out).step (F':=Fr (.slice a7 M.length c7) NoB) HB5.out.size (fun q hq _=>HB5.out.block q hq) (fun _ h=>.inl h)).is).t);have htc:x0.e.targets.length≤tc:=(show kjq (.slice ta x0.e.targets.length tc) from HVt.out ▸ HX0n.out.t).cap _ _ _ rfl
   obtain ⟨tb,tof,rfl⟩:∃b o,ta=some ⟨b,o,none⟩:=by
    rcases hYs0.2 with ⟨_,_,_,e⟩|⟨b,off,cap,e,_⟩
    ·exact absurd (congrArg List.length e) (by rw [List.length_map];exact htl)
    ·simp only [Value.slice.injEq] at e
     exact ⟨_,_,e.1⟩
   have htn1:1≤x0.e.targets.length:=by omega
   have htnI:(1:Int)≤(x0.e.targets.length:Int):=by omega
   have htcI:(x0.e.targets.length:Int)≤(tc:Int):=by omega
   obtain ⟨ad,had,hadn⟩:∃ad:Addr,(if tc=1 then some (⟨tb,tof,none⟩:Addr) else some ⟨tb,tof+1,none⟩)=some ad∧(1<x0.e.targets.length→ad=⟨tb,tof+1,none⟩):=by
    by_cases c:tc=1
    ·exact ⟨_,if_pos c,fun h=>by omega⟩
    ·exact ⟨_,if_neg c,fun _=>rfl⟩
   have HYs:=hdd (kxv hYs0 rfl (by omega) hadn);have HYn:=hdd (show khn (.slice (some ad) (x0.e.targets.length - 1) (tc - 1)) from by intro n c e;cases e);have HYl:=hdd (show (x0.e.targets.drop 1).length≤1001 from by rw [List.length_drop];have:=HT0.out.targets;omega);have ctc:=ct13;obtain ⟨ys,hys⟩:∃ys,x0.e.targets.drop 1=ys:=⟨_,rfl⟩;rw [hys] at HYs HYl;have HYd:=hdd hys;clear ct13 hYs0 hadn hys
   have HH:=hdd (fun W=>kg5 (l:=[kih]) (cs:=#[.string ⟨#[110,111,116,104,105,110,103]⟩]) 1 rfl (by decide) rfl (by decide) (by
    intro y hy;simp only [List.mem_cons,List.not_mem_nil,or_false] at hy;subst hy;unfold maxLen;decide) W)
   obtain ⟨rt,hh⟩:∃rt,hsh [kih]=rt:=⟨_,rfl⟩;have hhl:rt.length=32:=by rw [←hh,kf6]
   rw [hh] at HH;clear hh
   go_upto_region 27 with fail
   have HS:=hdd (fun (W:World) (hb:Below w5.heap.size w5 W)=>(hb.cell (p:=⟨t,13,none⟩) (World.block_lt_of_cell? _ _ ctc)).trans ctc);have hz5t:=kad HT5.out;clear ctc;refine kdb [7,8] (S:=fun W=>W.cell? ⟨t,13,none⟩=some (.slice (some ⟨tb,tof,none⟩) x0.e.targets.length tc)) (by kernel_rfl) (HS.out w5.drew (Below.refl _ _).drew) (fun hHeld=>?_);have hbz:Below w5.heap.size w5 w5.drew:=(Below.refl _ _).drew;generalize w5.drew=wz at hbz hHeld ⊢;simp only [List.toList_toArray,len,kat]
   iterate 3 (refine tkT 3 rfl rfl rfl (by kernel_rfl) (fun _ _ _ h=>h) (by intro W hW;(try dsimp only at hW);go_simp <;> with_reducible rfl) (by assumption) ?_;simp only [Act.put,s1,s2,s3])
   refine kau (rs:=[0]) (by kernel_rfl) (by simp) ?_;refine kao.cons rfl (fun K hK=>?_) kao.nil;go_simp
   have hb1:=hbz.alloc hbz.size (.cells #[.string ⟨#[110,111,116,104,105,110,103]⟩] 9);clear hHeld;refine hK.out _ _ (HS.out _ hb1) (fun hHeld=>?_);clear hK K
   try simp only [Act.put,s1,s2,s3,s4,s5,s6]
   refine kau (rs:=[1]) (by kernel_rfl) (by simp) ?_;refine kao.cons rfl (fun K hK=>?_) kao.nil;go_simp
   refine (HH.out wz).mono ?_;rintro en wa ⟨rfl,hb2⟩;have hb3:=hb1.next hb2;clear hHeld;refine hK.out _ _ (HS.out _ hb3) (fun hHeld=>?_);clear hK K
   try simp only [Act.put,s1,s2,s3,s4,s5,s6]
   refine kau (rs:=[2]) (by kernel_rfl) (by simp) ?_;refine kao.cons rfl (fun K hK=>?_) kao.nil;go_simp
   have hb4:=hb3.alloc hb3.size (.cells #[.string (B rt)] 9);have hrow:(wa.alloc (.cells #[.string (B rt)] 9)).ownsRow w5.heap.size 9 1 (.slice (some ⟨wa.heap.size,0,none⟩) 1 1) ([rt]:List Bs).length ([rt].map vS):=kd5 (n:=1) (kai wa (.cells #[.string (B rt)] 9)) hb3.size rfl (by unfold maxLen;decide);clear hHeld;refine hK.out _ _ (HS.out _ hb4) (fun hHeld=>?_);clear hK K
   try simp only [Act.put,s1,s2,s3,s4,s5,s6]
   refine kau (rs:=[6]) (by kernel_rfl) (by simp) ?_;refine kao.cons rfl (fun K hK=>?_) kao.nil;refine kfb rfl _ _ rfl (base:=w5.heap.size) (u:=.slice (some ⟨wa.heap.size,0,none⟩) 1 1) (v:=.slice (some ad) (x0.e.targets.length - 1) (tc - 1)) (xs:=[rt]) (ys:=ys) (w0:=w5) rfl rfl hrow HYs.out hb4 HYn.out (by simp only [List.length_cons,List.length_nil];have:=HYl.out;omega) (by simp;have:=hb3.size;omega) ?_;intro v9 w9 ho9 hg9 hq9;have hb9:Below w5.heap.size w5 w9:=hb4.grown hg9 (by simp;have:=hb3.size;omega) (fun q hq=>(hrow.lt q hq).1);clear hHeld;refine hK.out _ _ (HS.out _ hb9) (fun hHeld=>?_);obtain ⟨a9,c9,rfl⟩:=kag ho9;clear hK K
   try simp only [Act.put,s1,s2,s3,s4,s5,s6]
   (refine tuT 7 rfl rfl rfl (by kernel_rfl) (fun _ _ _ h=>h) (by intro W;go_simp <;> with_reducible rfl) ?_;simp only [Act.put,s1,s2,s3])
   refine kau (rs:=[8]) (by kernel_rfl) (by simp) ?_;refine kao.last rfl rfl (fun K hK=>?_);have hT9:=kab hb9 (kad HT5.out) HT5.out;refine kan rfl 39 _ _ rfl t 13 rfl (.slice a9 ([rt]++ys).length c9) rfl rfl rfl _ 45 hT9 (by simp) (by kernel_rfl) ?_;intro w6 hw6 hk6;have ho6:=kal ho9 (w':=w6) fun q hq=>hk6.block q (ho9.lt q hq).2 (fun e=>by have:=(ho9.lt q hq).1;have:q=t:=e;omega)
   have HO6:=hdd ho6;have HT6:=hdd (show w6.heap[t]? = some (.cells (EvX.arr {x0 with e:={x0.e with targets:=[rt]++ys},vt:=.slice a9 ([rt]++ys).length c9}) 45 (0,0)) from hw6);have HB6:=hdd (show Below w4.heap.size w4 w6 from (HB5.out.next hb9).trans (hk6.below (Nat.le_trans HB5.out.size hb9.size) (fun q hq e=>by have:q=t:=e;have:=HTt.out;omega)));refine hK.out _ _ ?_;clear hK K
   try simp only [Act.put,s1,s2,s3,s4,s5,s6]
   clear hHeld ho6 ho9 hw6 hk6 hT9 hb9 hg9 hq9 hrow hb1 hb2 hb3 hb4 hbz;refine kb6 (by kernel_rfl) ?_ _
   try simp only [Exit.then]
   have HX6:=hdd (show kba (Fr (.slice a7 M.length c7) NoB) (EvX.val {x0 with e:={x0.e with targets:=[rt]++ys},vt:=.slice a9 ([rt]++ys).length c9}) (EvX.e {x0 with e:={x0.e with targets:=[rt]++ys},vt:=.slice a9 ([rt]++ys).length c9}) w6 from kba.alter (x:=x0) ((HX0.out).step HB6.out.size (fun q hq _=>HB6.out.block q hq) (fun _ h=>.inl h)) fun W hW h=>by
    have hn:=kie HO6.out (lo:=w4.heap.size) (fun q hq=>by
     rcases hq with hq|hq
     ·exact (HO4.out.row.lt q hq).2
     ·exact hq.elim) HB5.out.size (by simp only [List.length_append,List.length_cons,List.length_nil];have:=HYl.out;omega) hW
    exact ⟨⟨h.ok.author,h.ok.root,h.ok.pkg,h.ok.digest,h.ok.question,h.ok.scope,h.ok.answer,h.ok.names,(fun y hy=>by rcases List.mem_append.1 hy with hy|hy;obtain rfl:=List.mem_singleton.1 hy;omega;exact h.ok.targets y (List.mem_of_mem_drop (HYd.out ▸ hy)))⟩,h.n,hn,h.s,h.h,h.r⟩)
   have HBt:=hdd (show BT l 10 r {x0 with e:={x0.e with targets:=[rt]++ys},vt:=.slice a9 ([rt]++ys).length c9} from ⟨⟨HT0.out.answer,HT0.out.names,by show ([rt]++ys).length≤1001;rw [List.length_append,List.length_singleton,←HYd.out,List.length_drop];have:=HT00.out.targets;omega,HT0.out.S,HT0.out.H,HT0.out.R⟩,fun hh=>absurd hh (by decide)⟩);clear HYs HYn HYl HO6 hhl hz5t;obtain ⟨g,c7,hv7,hg7,hgl7,-⟩:=kax HO4.out.row (by have:=HMl.out;omega)
   cases hv7;have HOt:=hdd (HO4.out.grow HB6.out);obtain ⟨cur,hcur,hcz,-⟩:=HOt.out.block;have Hcur:=hdd hcur;have HOne:=hdd (EvX.flat HX6.out.is);have hml:=HMl.out;have hst:r*18+18≤cur.size:=by rw [hml] at hcz;omega
   have hrM:r<M.length:=by omega
   clear hcur hml hgl7 hcz
   go_wp2_with (first
    |(refine wpList_load_row rfl 45 _ rfl t rfl 45 (EvX.arr {x0 with e:={x0.e with targets:=[rt]++ys},vt:=.slice a9 ([rt]++ys).length c9}) (0,0) _ HT6.out rfl rfl (by kernel_rfl) ?_)
    |(refine kaz rfl 45 _ _ rfl g (r*18) (EvX.arr {x0 with e:={x0.e with targets:=[rt]++ys},vt:=.slice a9 ([rt]++ys).length c9}) (by first|rfl|(simp;done)) rfl cur 45 Hcur.out hst (by kernel_rfl) HOne.out ?_
      intro w8 hw8 hk8;have HW8:=hdd hw8;have HK8:=hdd hk8;clear hw8 hk8)
    |fail)
   go_ret
   have hO8:=HOt.out.set (.inl rfl) (i:=r) hrM HX6.out Hcur.out HW8.out HK8.out;refine ⟨_,_,rfl,hO8,by rw [List.length_set,HMl.out];omega,fun hh=>?_,fun y hy=>?_,HB4.out.trans ((HB6.out.mono HB4.out.size).trans (HK8.out.below (Nat.le_trans HB4.out.size HB6.out.size) (fun q hq e=>by have:q=g:=e;omega)))⟩
   ·rw [kb7,HMe.out,HBt.out.2 hh]
    exact kcv l r Rv.ev0
   ·rcases List.mem_or_eq_of_mem_set hy with hy|rfl
    ·exact (HTn.out y hy).mono (by omega)
    ·exact HBt.out.1
 ·skip
  have hz':z=11:=HZ.out;subst hz';clear HZ
  go_upto_region 28 with fail
  have HT6:=hdd HT5.out;have HB6:=hdd HB5.out;obtain ⟨w6,hw6⟩:∃W,w5=W:=⟨_,rfl⟩;rw [hw6] at HT6 HB6 ⊢;have HX6:=hdd (show kba (Fr (.slice a7 M.length c7) NoB) x0.val x0.e w6 from (HX0.out).step HB6.out.size (fun q hq _=>HB6.out.block q hq) (fun _ h=>.inl h));have HBt:=hdd (show BT l 11 r x0 from ⟨HT0.out,fun _=>HX0e.out⟩);obtain ⟨g,c7,hv7,hg7,hgl7,-⟩:=kax HO4.out.row (by have:=HMl.out;omega)
  cases hv7;have HOt:=hdd (HO4.out.grow HB6.out);obtain ⟨cur,hcur,hcz,-⟩:=HOt.out.block;have Hcur:=hdd hcur;have HOne:=hdd (EvX.flat HX6.out.is);have hml:=HMl.out;have hst:r*18+18≤cur.size:=by rw [hml] at hcz;omega
  have hrM:r<M.length:=by omega
  clear hcur hml hgl7 hcz
  go_wp2_with (first
   |(refine wpList_load_row rfl 45 _ rfl t rfl 45 (EvX.arr x0) (0,0) _ HT6.out rfl rfl (by kernel_rfl) ?_)
   |(refine kaz rfl 45 _ _ rfl g (r*18) (EvX.arr x0) (by first|rfl|(simp;done)) rfl cur 45 Hcur.out hst (by kernel_rfl) HOne.out ?_
     intro w8 hw8 hk8;have HW8:=hdd hw8;have HK8:=hdd hk8;clear hw8 hk8)
   |fail)
  go_ret
  have hO8:=HOt.out.set (.inl rfl) (i:=r) hrM HX6.out Hcur.out HW8.out HK8.out;refine ⟨_,_,rfl,hO8,by rw [List.length_set,HMl.out];omega,fun hh=>?_,fun y hy=>?_,HB4.out.trans ((HB6.out.mono HB4.out.size).trans (HK8.out.below (Nat.le_trans HB4.out.size HB6.out.size) (fun q hq e=>by have:q=g:=e;omega)))⟩
  ·rw [kb7,HMe.out,HBt.out.2 hh]
   exact kcv l r Rv.ev0
  ·rcases List.mem_or_eq_of_mem_set hy with hy|rfl
   ·exact (HTn.out y hy).mono (by omega)
   ·exact HBt.out.1
end Go.Proofs.YtknpbekoenbphaaGreatDoor
