/- Parts of the proofs: FrmAll, Rd, WkTexts, PlainEn, PlainBg, WkBg, LawKitP. No condition beyond those at each theorem. -/
import Derived.WideShapes
import Derived.Test.YtknpbekoenbphaaGreatDoorQk41
import Derived.Test.YtknpbekoenbphaaGreatDoorQk43
import Derived.Test.YtknpbekoenbphaaGreatDoorQk44
set_option linter.unusedVariables false
set_option linter.unusedSimpArgs false
set_option maxHeartbeats 16000000
set_option maxRecDepth 100000
namespace Licit
open Go Go.RowKit
section
variable {P:Program} (w:World)
variable {w}
theorem krl.symm {u v:Value} (h:krl u v):krl v u:=fun q hv hu=>h q hu hv
end
section
variable {T:TypeId} {r:Nat} {s:ByteArray} {E:Int} {w w':World}
theorem Rd.below (h:Rd T r s E w) (hb:Below w.heap.size w w'):Rd T r s E w':=(hb.block r (kad h)).trans h
end
end Licit
namespace Go.Proofs.YtknpbekoenbphaaGreatDoor
open Go Go.RowKit Licit
theorem kp1.below {v:Value} {i:Int} {S H R:List Bs} {w w':World} (h:kp1 v i S H R w) (hb:Below w.heap.size w w'):kp1 v i S H R w':=by
 obtain ⟨vs,vh,vr,rfl,h1,h2,h3⟩:=h;exact ⟨vs,vh,vr,rfl,h1.below hb,h2.below hb,h3.below hb⟩
end Go.Proofs.YtknpbekoenbphaaGreatDoor
namespace Licit.Rv
open Go Licit
theorem kj8 {c:Cx}:∀{r q A:List Nat},c.replay A (r++q)=none→c.replay A r=none
 | [],_,_,_=>rfl
 |i :: r,q,A,h=>by
  rw [List.cons_append] at h;unfold Cx.replay at h ⊢
  by_cases c':c.apply A i=0
  ·rw [if_pos c'] at h ⊢;exact kj8 h
  ·rw [if_neg c'] at h;cases h
theorem knn {S:Stt} {ids:List Bs} (hS:Lower S) {A r:List Nat} {i k:Nat} (h:ordI S ids=A++i :: r) (hk:pastI S i k=true) (hlt:k<S.length):k∈A:=by
 have hm:k∈ordI S ids:=(ordI_perm S ids).mem_iff.2 (List.mem_range.2 hlt);rw [h] at hm;rcases List.mem_append.1 hm with hm|hm
 ·exact hm
 ·exfalso
  have h1:=kdh hS hk;rcases List.mem_cons.1 hm with rfl|hm
  ·omega
  ·have hs:=kc1 S ids
   rw [h] at hs;have h2:=(List.pairwise_cons.1 (List.pairwise_append.1 hs).2.1).1 k hm;rw [kkt] at h2;unfold befN at h2;rw [if_neg (by omega),decide_eq_false_iff_not] at h2;omega
theorem ktp {l:List Ev} {S:Stt} (hl:kej l) (hS:arrS l (idsOf l)=some S) (k:Nat):Emb (fun i=>(ordI S (idsOf l)).getD i 0) ((sorted l S).take k) l:=by
 obtain ⟨lo,el,tl⟩:=arrS_lower hS;have hO:=ordI_perm S (idsOf l);have hlen:(ordI S (idsOf l)).length=l.length:=by rw [hO.length_eq,List.length_range,el]
 have hnd:(ordI S (idsOf l)).Nodup:=hO.nodup_iff.2 List.nodup_range
 have hmem:∀i,i<l.length→(ordI S (idsOf l)).getD i 0<l.length:=fun i hi=>by
  rw [List.getD_eq_getElem?_getD,List.getElem?_eq_getElem (by omega)]
  have:=List.mem_range.1 (hO.mem_iff.1 (List.getElem_mem (show i<(ordI S (idsOf l)).length by omega)))
  simp only [Option.getD_some];omega
 have hml:((sorted l S).take k).length≤l.length:=by rw [List.length_take];unfold sorted;rw [List.length_map,hlen];omega
 have hmk:((sorted l S).take k).length≤k:=by rw [List.length_take];omega
 have hev:∀i,i<((sorted l S).take k).length→((sorted l S).take k).getD i ev0=l.getD ((ordI S (idsOf l)).getD i 0) ev0:=fun i hi=>by
  rw [List.getD_eq_getElem?_getD,List.getElem?_take_of_lt (by omega)];unfold sorted;rw [List.getElem?_map,List.getElem?_eq_getElem (by omega),List.getD_eq_getElem?_getD (l:=ordI S (idsOf l)),List.getElem?_eq_getElem (by omega)];rfl
 refine ⟨fun i hi=>hmem i (by omega),hev,fun i j hi hj e=>?_,fun i hi s hs=>?_⟩
 ·rw [List.getD_eq_getElem?_getD,List.getElem?_eq_getElem (by omega),List.getD_eq_getElem?_getD,List.getElem?_eq_getElem (by omega)] at e
  exact (List.getElem_inj hnd).1 e
 ·rw [hev i hi] at hs
  have hil:=hmem i (by omega);have hfi:=hl.names _ hil s hs;have hlt:=findI_mem.2 hfi;rw [ids_len] at hlt;have hat:=findI_at (findI_mem.2 hfi);obtain ⟨y,hy⟩:=tl ((ordI S (idsOf l)).getD i 0) (by omega);have r2:=kij hS _ y hy
  have hp:pastI S ((ordI S (idsOf l)).getD i 0) (findI (idsOf l) s)=true:=by
   unfold pastI;rw [hy];exact ke2 lo.1 r2 (by rw [namesJ_at _ _ hil];exact List.mem_map.2 ⟨s,hs,rfl⟩) (by simp) (by omega)
  have hsplit:ordI S (idsOf l)=(ordI S (idsOf l)).take i++(ordI S (idsOf l)).getD i 0 :: (ordI S (idsOf l)).drop (i+1):=by
   rw [List.getD_eq_getElem?_getD,List.getElem?_eq_getElem (by omega)];simp
  have hb:=knn lo hsplit hp (by omega);obtain ⟨j,hj,hje⟩:=List.mem_iff_getElem.1 hb;rw [List.length_take] at hj;rw [List.getElem_take] at hje;have hjm:j<((sorted l S).take k).length:=by omega
  have:=kkc hjm
  rw [hev j hjm,List.getD_eq_getElem?_getD (l:=ordI S (idsOf l)),List.getElem?_eq_getElem (by omega),Option.getD_some,hje,←kkc hlt,hat] at this;rw [←this,List.getD_eq_getElem?_getD,List.getElem?_eq_getElem (by rw [ids_len];exact hjm)];exact List.getElem_mem _
theorem kpd {l:List Ev} {S:Stt} (hl:kej l) (hS:arrS l (idsOf l)=some S) (h0:(foldE l).2.2=0) (k:Nat) :
 foldE ((sorted l S).take k)=((Cx.mk l (idsOf l) S).state ((ordI S (idsOf l)).take k),-1,0):=by
 have h:=ktp hl hS k;obtain ⟨Sm,hm⟩:=h.arr hl hS;have lm:Sm.length=((sorted l S).take k).length:=(arrS_lower hm).2.1;have hlen:(ordI S (idsOf l)).length=l.length:=by rw [(ordI_perm S _).length_eq,List.length_range,(arrS_lower hS).2.1]
 have hml:((sorted l S).take k).length=min k l.length:=by rw [List.length_take];unfold sorted;rw [List.length_map,hlen]
 have hrange:(List.range ((sorted l S).take k).length).map (fun i=>(ordI S (idsOf l)).getD i 0)=(ordI S (idsOf l)).take k:=by
  refine List.ext_getElem? fun i=>?_
  rw [List.getElem?_map,List.getElem?_take,hml]
  by_cases hi:i<min k l.length
  ·rw [List.getElem?_range hi,if_pos (by omega),Option.map_some,List.getD_eq_getElem?_getD,List.getElem?_eq_getElem (by omega)];rfl
  ·rw [List.getElem?_eq_none (by simp;omega)]
   by_cases hk:i<k
   ·rw [if_pos hk,List.getElem?_eq_none (by omega)];rfl
   ·rw [if_neg hk];rfl
 have ho:=h.order hl hm hS (O:=(ordI S (idsOf l)).take k) (by rw [hrange]) (List.Pairwise.sublist (List.take_sublist _ _) (kc1 S _));have hlt:∀x∈ordI Sm (idsOf ((sorted l S).take k)),x<((sorted l S).take k).length:=fun x hx=>by have:=List.mem_range.1 ((ordI_perm Sm _).mem_iff.1 hx);omega
 have hsub:=h.sub hl hm hS;have hr:=hsub.replay (ordI Sm (idsOf ((sorted l S).take k))) [] (fun _ h=>by cases h) hlt;have hst:=hsub.state (A:=ordI Sm (idsOf ((sorted l S).take k))) hlt;rw [List.map_nil,ho] at hr;rw [ho] at hst
 have hno:(Cx.mk l (idsOf l) S).replay [] (ordI S (idsOf l))=none:=by
  rw [kgi hl hS] at h0
  cases hq:(Cx.mk l (idsOf l) S).replay [] (ordI S (idsOf l)) with
  |none=>rfl
  |some x=>rw [hq] at h0;exact absurd h0 (kfn (i:=x.1) (e:=x.2) hq).1
 have hno2:(Cx.mk l (idsOf l) S).replay [] ((ordI S (idsOf l)).take k)=none:=by
  rw [←List.take_append_drop k (ordI S (idsOf l))] at hno;exact kj8 hno
 rw [hno2] at hr
 have hno3:(Cx.mk ((sorted l S).take k) (idsOf ((sorted l S).take k)) Sm).replay [] (ordI Sm (idsOf ((sorted l S).take k)))=none:=by
  cases hq:(Cx.mk ((sorted l S).take k) (idsOf ((sorted l S).take k)) Sm).replay [] (ordI Sm (idsOf ((sorted l S).take k))) with
  |none=>rfl
  |some x=>rw [hq] at hr;cases hr
 rw [kgi (h.pre hl) hm,hno3,hst]
theorem kpk (c:Cx) (O:List Nat) (k:Nat):(c.decs (O.take k)).length≤(c.decs O).length∧∀j (h1:j<(c.decs (O.take k)).length) (h2:j<(c.decs O).length),(c.decs O)[j].id=(c.decs (O.take k))[j].id∧(c.decs O)[j].answer=(c.decs (O.take k))[j].answer ∧
 ((c.decs (O.take k))[j].wd=true→(c.decs O)[j].wd=true)∧((c.decs (O.take k))[j].ov=true→(c.decs O)[j].ov=true)∧((c.decs (O.take k))[j].rp=true→(c.decs O)[j].rp=true):=by
 have hany:∀(p:Nat→Bool),(O.take k).any p=true→O.any p=true:=fun p h=>by
  obtain ⟨x,h1,h2⟩:=List.any_eq_true.1 h;exact List.any_eq_true.2 ⟨x,List.mem_of_mem_take h1,h2⟩
 have hpre:((O.take k).filter fun k=>decide ((c.ev k).kind=3)) <+: (O.filter fun k=>decide ((c.ev k).kind=3)):=(List.take_prefix k O).filter _;have hl:=hpre.length_le;unfold Cx.decs;refine ⟨by simpa using hl,fun j h1 h2=>?_⟩;rw [List.getElem_map,List.getElem_map];rw [List.length_map] at h1 h2;have he:(O.filter fun k=>decide ((c.ev k).kind=3))[j]=((O.take k).filter fun k=>decide ((c.ev k).kind=3))[j]:=(hpre.getElem h1).symm;rw [he];refine ⟨rfl,rfl,hany _,hany _,fun h=>?_⟩;unfold Cx.decOf Cx.rp at h ⊢;simp only [] at h ⊢;obtain ⟨x,g1,g2⟩:=List.any_eq_true.1 h;rw [Bool.and_eq_true] at g2;exact List.any_eq_true.2 ⟨x,List.mem_of_mem_take g1,by rw [Bool.and_eq_true];exact ⟨g2.1,hany _ g2.2⟩⟩
end Licit.Rv
namespace Licit.Rv
open Go
def k04 (part whole:List Dc):Prop:=part.length≤whole.length∧∀j (h1:j<part.length) (h2:j<whole.length),whole[j].id=part[j].id∧whole[j].answer=part[j].answer∧(part[j].wd=true→whole[j].wd=true)∧(part[j].ov=true→whole[j].ov=true)∧(part[j].rp=true→whole[j].rp=true)
theorem begin_plain {l:List Ev} (h:(foldE l).2.2=0) (k:Nat):(orderE l).2.2=0∧(orderE l).1.length=l.length∧∃st,foldE ((orderE l).1.take k)=(st,-1,0)∧k04 st.decs (foldE l).1.decs:=by
 have hs:(setE l (idsOf l)).2=0:=by
  by_cases c:(setE l (idsOf l)).2=0
  ·exact c
  ·unfold foldE foldI at h
   rw [if_neg c] at h;exact absurd h c
 obtain ⟨hl,S,hS⟩:=set_ok.1 hs;have ho:=orderE_ok hl hS;have hb:=kpd hl hS h k;have hf:=kgi hl hS;rw [ho];refine ⟨rfl,?_,_,hb,?_⟩
 ·show (sorted l S).length=l.length
  unfold sorted;rw [List.length_map,(ordI_perm S _).length_eq,List.length_range,(arrS_lower hS).2.1]
 ·have hst:(foldE l).1=(Cx.mk l (idsOf l) S).state (ordI S (idsOf l)):=by
   rw [hf] at h ⊢
   cases hr:(Cx.mk l (idsOf l) S).replay [] (ordI S (idsOf l)) with
   |none=>rfl
   |some x =>
    rw [hr] at h;exact absurd h (kfn (i:=x.1) (e:=x.2) hr).1
  rw [hst];exact kpk _ _ k
end Licit.Rv
namespace Go.Proofs.YtknpbekoenbphaaGreatDoor
open Go Go.RowKit Licit
theorem kbt.take {a:Option Addr} {n c:Nat} {l:List Rv.Ev} {w:World} (h:kbt (.slice a n c) l w) {k:Nat} (hk:k≤l.length):kbt (.slice a k c) (l.take k) w:=by
 have hl:(l.take k).length=k:=by rw [List.length_take];omega
 refine ⟨by rw [hl];have:=h.1;omega,?_⟩;rcases Nat.eq_zero_or_pos k with h0|h0
 ·subst h0
  exact .inl ⟨a,c,rfl,rfl⟩
 ·rcases h.2 with ⟨a',c',e,rfl⟩|⟨b,off,c',e,h1,hb,hc⟩
  ·simp at hk;omega
  ·simp only [Value.slice.injEq] at e
   obtain ⟨rfl,-,rfl⟩:=e;refine .inr ⟨b,off,c,by rw [hl],by rw [hl];exact h0,hb,fun i hi=>?_⟩;rw [hl] at hi
   have:=hc i (by omega)
   rwa [show (l.take k).getD i Rv.ev0=l.getD i Rv.ev0 by simp [List.getD_eq_getElem?_getD,List.getElem?_take,hi]]
theorem kpo (haw:kgw) (vd ve:Value) (D:List Dd) (b a nn:Nat) (X:List Rv.Ev) (w:World) (hD:kfs vd D w) (hE:kc0 ve X w) (hn:khn ve) (hb:b<256) (ha:a<256) (hnn:nn<256) (ht:Tab w) :
 Calls Tryz.prog 6 #[.agg #[vd,.int .u8 (b:Int),.int .u8 (a:Int),ve],.int .u8 (nn:Int)] w fun en w'=>en = .returned (.bool true)∧Below w.heap.size w w':=by
 obtain ⟨ad,cd,rfl⟩:=hD.form;obtain ⟨ae,ce,rfl⟩:=hE.form;have HAw:=hdd haw;have HTb:=hdd (fun (W:World) (h:Below w.heap.size w W)=>ht.same h)
 have hF:∀W,W=w.alloc (.cells #[.slice ad D.length cd,.int .u8 (b:Int),.int .u8 (a:Int),.slice ae X.length ce] 25)→Below w.heap.size w W∧W.heap[w.heap.size]? = some (.cells #[.slice ad D.length cd,.int .u8 (b:Int),.int .u8 (a:Int),.slice ae X.length ce] 25 (0,0)):=by
  rintro _ rfl;exact ⟨(Below.refl _ _).alloc (Nat.le_refl _) _,kai _ _⟩
 have HHis:=hdd (fun (W:World) (h:Below w.heap.size w W)=>klj _ _ D b a X W (hD.below h) (hE.below h) hn hb ha);obtain ⟨t,htt⟩:∃t,w.heap.size=t:=⟨_,rfl⟩;have HTt:=hdd htt;clear hD hE hn htt ht haw
 go_enter Tryz.func6,Tryz.ntmps6
 go_upto_region 1 with fail
 generalize hw1:w.alloc (.cells #[.slice ad D.length cd,.int .u8 (b:Int),.int .u8 (a:Int),.slice ae X.length ce] 25)=w1;obtain ⟨hb1,hT1⟩:=hF w1 hw1.symm;rw [HTt.out] at hT1 ⊢;have HB1:=hdd hb1;have HT1:=hdd hT1;clear hF hw1 hb1 hT1
 go_upto_region 2 with (first
  |(refine wpList_load_row rfl 25 _ rfl t rfl 25 #[.slice ad D.length cd,.int .u8 (b:Int),.int .u8 (a:Int),.slice ae X.length ce] (0,0) _ HT1.out rfl rfl (by kernel_rfl) ?_)
  |(go_at_call 13
    go_loud (
    refine (HHis.out _ HB1.out).mono ?_;rintro en w2 ⟨v2,ok,rfl,hb2,hok⟩;have HB2:=hdd (HB1.out.next hb2);have HOk:=hdd hok;clear hb2 hok))
  |fail)
 cases ok with
 |false =>
  go_wp2_with (first
   |(go_at_call 14
     refine (HAw.out _ (HTb.out _ HB3.out)).mono ?_;rintro en w4 ⟨rfl,hb4⟩;have HB4:=hdd (HB3.out.next hb4);clear hb4)
   |(go_at_call 14
     refine (HAw.out _ (HTb.out _ HB2.out)).mono ?_;rintro en w3 ⟨rfl,hb3⟩;have HB3:=hdd (HB2.out.next hb3);clear hb3)
   |fail)
  go_ret
  exact ⟨rfl,HB4.out⟩
 |true =>
  obtain ⟨L,L0,l1,hO,hLl,hLt,-⟩:=HOk.out rfl;obtain ⟨l,hl⟩:∃l,ka2 L=l:=⟨_,rfl⟩;have hll:l.length=L.length:=by rw [←hl,kbd]
  have hl17:l.length≤17:=by omega
  have hI:kbt v2 l w2:=hl ▸ hO.is (by omega);have HI:=hdd (fun (W:World) (hb:Below w2.heap.size w2 W)=>hI.below hb);have HNc:=hdd hO.nilC
  have HLn:=hdd (show ∀i,i<l.length→km9 (l.getD i Rv.ev0) from fun i hi=>by
   have hi':i<L.length:=by omega
   have h1:=(hLt L[i] (List.getElem_mem hi')).len (by omega);have h2:l.getD i Rv.ev0=L[i].e:=by rw [←hl];simp [ka2,List.getD_eq_getElem?_getD,List.getElem?_eq_getElem hi']
   rw [h2];exact h1)
  obtain ⟨a2,c2,rfl⟩:=hI.form;clear hO hLl hLt hl hll hI HOk
  go_upto_region 5 with (first
   |(go_at_call 15
     go_loud (
     refine (kfm _ l w4 H4.out (HTb.out _ HB4.out)).mono ?_;rintro en w5x ⟨hb5,vp,vk,vdc,vq,rfl,hst⟩;obtain ⟨ap,cp,rfl⟩:=kag hst.1;obtain ⟨ak,ck,rfl⟩:=kag hst.2.1;obtain ⟨ac,cc,rfl⟩:=kag hst.2.2.1;obtain ⟨aq,cq,rfl⟩:=kag hst.2.2.2;have HSt:=hdd hst.2.2.1;have HB5x:=hdd (HB4.out.next hb5);have HB25x:=hdd (HB24.out.next hb5);clear hst hb5))
   |(go_at_call 16
     go_loud (
     refine (kcq _ l w3 (HI.out _ HB23.out) HNc.out).mono ?_;rintro en w4 ⟨v4,M,rfl,h4,hM,hb4⟩;have hM5:M.length≤100000:=by rw [←kbd,hM];omega
     have h4':kbt v4 l w4:=hM ▸ h4.is hM5;obtain ⟨a4,c4,rfl⟩:=h4'.form;have H4:=hdd h4';have HB4:=hdd (HB3.out.next hb4);have HB24:=hdd (HB23.out.next hb4);clear h4 hM hb4 h4' hM5))
   |(go_at_call 14
     go_loud (
     refine (HAw.out _ (HTb.out _ HB2.out)).mono ?_;rintro en w3 ⟨rfl,hb3⟩;have HB3:=hdd (HB2.out.next hb3);have HB23:=hdd hb3;clear hb3))
   |fail)
  have hF:∀W,W=w5x.alloc (.cells #[.slice ap (Rv.foldE l).1.people.length cp,.slice ak (Rv.foldE l).1.packs.length ck,.slice ac (Rv.foldE l).1.decs.length cc,.slice aq (Rv.foldE l).1.disps.length cq] 34)→Below w5x.heap.size w5x W∧W.cell? ⟨w5x.heap.size,2,none⟩=some (.slice ac (Rv.foldE l).1.decs.length cc):=by
   rintro _ rfl;exact ⟨(Below.refl _ _).alloc (Nat.le_refl _) _,by rw [kaa (kai _ _)];rfl⟩
  obtain ⟨t5,ht5⟩:∃t,w5x.heap.size=t:=⟨_,rfl⟩;generalize hw5:w5x.alloc (.cells #[.slice ap (Rv.foldE l).1.people.length cp,.slice ak (Rv.foldE l).1.packs.length ck,.slice ac (Rv.foldE l).1.decs.length cc,.slice aq (Rv.foldE l).1.disps.length cq] 34)=w5;obtain ⟨hb5,hc5⟩:=hF w5 hw5.symm;rw [ht5] at hc5 ⊢;have HC5:=hdd (fun (W:World) (hb:Below w5.heap.size w5 W)=>(hb.cell (p:=⟨t5,2,none⟩) (World.block_lt_of_cell? _ _ hc5)).trans hc5);have HB5:=hdd (HB5x.out.next hb5);have HB25:=hdd (HB25x.out.next hb5);have HD5:=hdd (kal HSt.out (w':=w5) fun q hq=>hb5.block q (HSt.out.lt q hq).2);clear hF ht5 hw5 hb5 hc5 HSt
  go_upto_region 6 with (first
   |(go_at_call 21
     go_loud (
     refine (kly _ l w6 H6.out (HTb.out _ HB6.out) HLn.out).mono ?_;rintro en w7 ⟨v7,rfl,h7,hs7,hb7⟩;obtain ⟨a7,c7,rfl⟩:=h7.form;have H7:=hdd h7;have HS7:=hdd hs7;have HB7:=hdd (HB6.out.next hb7);have HB57:=hdd (HB56.out.next hb7);clear h7 hs7 hb7))
   |(go_at_call 16
     go_loud (
     refine (kcq _ l w5 (HI.out _ HB25.out) HNc.out).mono ?_;rintro en w6 ⟨v6,M6,rfl,h6,hM6,hb6⟩;have hM:M6.length≤100000:=by rw [←kbd,hM6];omega
     have h6':kbt v6 l w6:=hM6 ▸ h6.is hM;obtain ⟨a6,c6,rfl⟩:=h6'.form;have H6:=hdd h6';have HB6:=hdd (HB5.out.next hb6);have HB56:=hdd hb6;clear h6 hM6 hb6 h6' hM))
   |fail)
  by_cases h0:(Rv.foldE l).2.2=0
  rotate_left
  ·have d1:((Rv.foldE l).2.2 != 0)=true:=by rw [bne_iff_ne];exact h0
   have d2:((Rv.foldE l).2.2 == 0)=false:=beq_eq_false_iff_ne.2 h0
   go_wp2_with fail
   go_ret
   exact ⟨rfl,HB7.out⟩
  obtain ⟨k,hk⟩:∃k,nn % (l.length+1)=k:=⟨_,rfl⟩;have hkl:k≤l.length:=by have:=Nat.mod_lt nn (show 0<l.length+1 by omega);omega
  obtain ⟨ho,hol,st,hst,hbg⟩:=Rv.begin_plain h0 k;have hkm:(nn:Int).tmod ((l.length:Int)+1)=(k:Int):=by rw [Int.tmod_eq_emod_of_nonneg (by omega),←hk];exact (Int.natCast_emod nn (l.length+1)).symm
  have hwn:IntKind.i64.wrap (nn:Int)=(nn:Int):=by rw [IntKind.wrap_i64];omega
  have hwl:IntKind.i64.wrap ((l.length:Int)+1)=(l.length:Int)+1:=by rw [IntKind.wrap_i64];omega
  have hwk:IntKind.i64.wrap (k:Int)=(k:Int):=by rw [IntKind.wrap_i64];omega
  have h7t:=H7.out.take (k:=k) (by rw [hol];exact hkl);have hcap:=HS7.out.cap _ _ _ rfl
  have hnil:khn (.slice a7 k c7):=fun n c e=>by
   cases e;exact HS7.out.nil _ _ rfl
  have hPl:((Rv.orderE l).1.take k).length=k:=by rw [List.length_take];omega
  rw [hol] at hcap;obtain ⟨P,hP⟩:∃P,(Rv.orderE l).1.take k=P:=⟨_,rfl⟩;rw [hP] at h7t hst hPl;have HT7:=hdd h7t;have HN7:=hdd hnil;have HPl:=hdd hPl;have HFo:=hdd hst;have HBg:=hdd hbg;have hkc:k≤c7:=by omega
  have hbl:=hbg.1;obtain ⟨whole,hwh⟩:∃x,(Rv.foldE l).1.decs=x:=⟨_,rfl⟩;rw [hwh] at HC5 HD5 HBg hbl;rw [hol,h0,ho];clear h7t hnil hP hst hbg hk ho hol hPl hcap hwh
  go_upto_region 9 with (first
   |(go_at_call 15
     go_loud (
     refine (kfm _ P w8 H8.out (HTb.out _ HB8.out)).mono ?_;rintro en w9x ⟨hb9,yp,yk,yd,yq,rfl,hs9⟩;rw [HFo.out] at hs9 ⊢;obtain ⟨ap9,cp9,rfl⟩:=kag hs9.1;obtain ⟨ak9,ck9,rfl⟩:=kag hs9.2.1;obtain ⟨ac9,cc9,rfl⟩:=kag hs9.2.2.1;obtain ⟨aq9,cq9,rfl⟩:=kag hs9.2.2.2;have HSt9:=hdd hs9.2.2.1;have HB9x:=hdd (HB8.out.next hb9);have HB59x:=hdd (HB58.out.next hb9);clear hs9 hb9))
   |(go_at_call 16
     go_loud (
     refine (kcq _ P w7 HT7.out HN7.out).mono ?_;rintro en w8 ⟨v8,M8,rfl,h8,hM8,hb8⟩;have hM:M8.length≤100000:=by rw [←kbd,hM8,HPl.out];omega
     have h8':kbt v8 P w8:=hM8 ▸ h8.is hM;have HB8:=hdd (HB7.out.next hb8);have HB58:=hdd (HB57.out.next hb8);obtain ⟨a8,c8,rfl⟩:=h8'.form;have H8:=hdd h8';clear h8 hM8 hb8 h8' hM))
   |fail)
  have hF:∀W,W=w9x.alloc (.cells #[.slice ap9 st.people.length cp9,.slice ak9 st.packs.length ck9,.slice ac9 st.decs.length cc9,.slice aq9 st.disps.length cq9] 34)→Below w9x.heap.size w9x W∧W.cell? ⟨w9x.heap.size,2,none⟩=some (.slice ac9 st.decs.length cc9):=by
   rintro _ rfl;exact ⟨(Below.refl _ _).alloc (Nat.le_refl _) _,by rw [kaa (kai _ _)];rfl⟩
  obtain ⟨t9,ht9⟩:∃t,w9x.heap.size=t:=⟨_,rfl⟩;generalize hw9:w9x.alloc (.cells #[.slice ap9 st.people.length cp9,.slice ak9 st.packs.length ck9,.slice ac9 st.decs.length cc9,.slice aq9 st.disps.length cq9] 34)=w9;obtain ⟨hb9,hc9⟩:=hF w9 hw9.symm;rw [ht9] at hc9 ⊢;have HC9:=hdd (fun (W:World) (hb:Below w9.heap.size w9 W)=>(hb.cell (p:=⟨t9,2,none⟩) (World.block_lt_of_cell? _ _ hc9)).trans hc9);have HB9:=hdd (HB9x.out.next hb9);have HB59:=hdd (HB59x.out.next hb9);have HC59:=hdd (fun (W:World) (hb:Below w9.heap.size w9 W)=>HC5.out W (HB59.out.next hb));have HD9:=hdd (fun (W:World) (hb:Below w9.heap.size w9 W)=>kal HSt9.out (w':=W) fun q hq=>(hb9.next hb).block q (HSt9.out.lt q hq).2);have HD59:=hdd (fun (W:World) (hb:Below w9.heap.size w9 W)=>kal HD5.out (w':=W) fun q hq=>(HB59.out.next hb).block q (HD5.out.lt q hq).2);clear hF ht9 hw9 hb9 HSt9;have c5:=HC59.out w9 (Below.refl _ _);have d9:¬ ((whole.length:Int)<(st.decs.length:Int)):=by omega
  obtain ⟨part,hpa⟩:∃x,st.decs=x:=⟨_,rfl⟩;rw [hpa] at HC9 HD9 HBg hbl d9 hc9;clear hpa
  go_upto_region 12 with fail
  have hpm:=kji (HD9.out w9 (Below.refl _ _));unfold maxLen at hpm;clear c5 hc9 d9
  go_loopw [16,17,18,92] (fun _ _ _ n wr=>∃j:Nat,j≤part.length∧n = .int .i64 j∧Below w9.heap.size w9 wr) (fun _ _ _ n _=>part.length - (intOf n).toNat)
  case atStart=>exact ⟨0,Nat.zero_le _,rfl,Below.refl _ _⟩
  case round =>
   obtain ⟨j,hj,rfl,hb⟩:=hrel;have HB:=hdd hb;have c5:=HC59.out wr hb;have c9:=HC9.out wr hb;clear hb
   by_cases hlt:j<part.length
   rotate_left
   ·have d0:¬ ((j:Int)<(part.length:Int)):=by omega
    go_wp2_with fail
    go_ret
    exact ⟨rfl,HB9.out.next HB.out⟩
   have hltI:(j:Int)<(part.length:Int):=by omega
   have hltW:j<whole.length:=by omega
   have hltWI:(j:Int)<(whole.length:Int):=by omega
   obtain ⟨g9,cp',hv9,-,hg9,-⟩:=kax (HD9.out wr HB.out) (by omega);obtain ⟨g5,cp5',hv5,-,hg5,-⟩:=kax (HD59.out wr HB.out) (by omega);simp only [Value.slice.injEq,true_and] at hv9 hv5;obtain ⟨rfl,rfl⟩:=hv9;obtain ⟨rfl,rfl⟩:=hv5;have hr9:=km3 (HD9.out wr HB.out) hlt;have hr5:=km3 (HD59.out wr HB.out) hltW;obtain ⟨q1,q2,q3,q4,q5⟩:=HBg.out.2 j hlt hltW;obtain ⟨d,hd⟩:∃d,part[j]=d:=⟨_,rfl⟩;obtain ⟨x,hx⟩:∃x,whole[j]=x:=⟨_,rfl⟩;rw [hd] at hr9 q1 q2 q3 q4 q5;rw [hx] at hr5 q1 q2 q3 q4 q5;clear hd hx;obtain ⟨xi,xa,xq,xs,xn,xd,xt,xw,xo,xr⟩:=x;obtain ⟨di,da,dq,ds,dn,dd,dt,dw,dov,dr⟩:=d;dsimp only at q1 q2 q3 q4 q5;subst q1 q2;have HR9:=hdd (kbo hr9 (Below.refl _ _) hg9);have HR5:=hdd (fun (W:World) (hb:Below wr.heap.size wr W)=>kbo hr5 hb hg5);have HBa:=hdd (fun (W:World) (hb:Below wr.heap.size wr W)=>HB.out.next hb);clear hr9 hr5;have HQ:=hdd (And.intro q3 (And.intro q4 q5));clear q3 q4 q5;obtain ⟨pd,hpd⟩:∃p,wr.heap.size=p:=⟨_,rfl⟩;have HPd:=hdd hpd
   have hF:∀W,W=wr.alloc (.cells (dvC ⟨xi,da,dq,ds,xn,dd,dt,dw,dov,dr⟩) 56)→Below wr.heap.size wr W∧W.heap[pd]? = some (.cells (dvC ⟨xi,da,dq,ds,xn,dd,dt,dw,dov,dr⟩) 56 (0,0)):=by
    rintro _ rfl;exact ⟨(Below.refl _ _).alloc (Nat.le_refl _) _,hpd ▸ kai _ _⟩
   clear hpd c5
   go_upto_region 14 with (first|(refine wpList_load_mid rfl 56 _ rfl g9 _ rfl (dvC ⟨xi,da,dq,ds,xn,dd,dt,dw,dov,dr⟩).toList _ HR9.out rfl rfl (by kernel_rfl) ?_)|fail)
   rw [HPd.out];show Code.wp _ _ _ _ (wr.alloc (.cells (dvC ⟨xi,da,dq,ds,xn,dd,dt,dw,dov,dr⟩) 56));generalize hwA:wr.alloc (.cells (dvC ⟨xi,da,dq,ds,xn,dd,dt,dw,dov,dr⟩) 56)=wA;obtain ⟨hbA,hpA⟩:=hF wA hwA.symm;have HBA:=hdd hbA;have HPA:=hdd hpA;have c5:=HC59.out wA (HB.out.next hbA);obtain ⟨pe,hpe⟩:∃p,wA.heap.size=p:=⟨_,rfl⟩;have HPe:=hdd hpe
   have hF2:∀W,W=wA.alloc (.cells (dvC ⟨xi,xa,xq,xs,xn,xd,xt,xw,xo,xr⟩) 56)→Below wA.heap.size wA W∧W.heap[pe]? = some (.cells (dvC ⟨xi,xa,xq,xs,xn,xd,xt,xw,xo,xr⟩) 56 (0,0)):=by
    rintro _ rfl;exact ⟨(Below.refl _ _).alloc (Nat.le_refl _) _,hpe ▸ kai _ _⟩
   clear hF hwA hbA hpA hpe c9
   go_upto_region 15 with (first|(refine wpList_load_mid rfl 56 _ rfl g5 _ rfl (dvC ⟨xi,xa,xq,xs,xn,xd,xt,xw,xo,xr⟩).toList _ (HR5.out wA HBA.out) rfl rfl (by kernel_rfl) ?_)|fail)
   rw [HPe.out];show Code.wp _ _ _ _ (wA.alloc (.cells (dvC ⟨xi,xa,xq,xs,xn,xd,xt,xw,xo,xr⟩) 56));generalize hwB:wA.alloc (.cells (dvC ⟨xi,xa,xq,xs,xn,xd,xt,xw,xo,xr⟩) 56)=wB;obtain ⟨hbB,hpB⟩:=hF2 wB hwB.symm;have hpA:=kab hbB (kad HPA.out) HPA.out;have HBB:=hdd (HB.out.next (HBA.out.next hbB));have a0:wB.cell? ⟨pd,0,none⟩=some (.string (B xi)):=by rw [kaa hpA];rfl
   have a4:wB.cell? ⟨pd,4,none⟩=some (.string (B xn)):=by rw [kaa hpA];rfl
   have a7:wB.cell? ⟨pd,7,none⟩=some (.bool dw):=by rw [kaa hpA];rfl
   have a8:wB.cell? ⟨pd,8,none⟩=some (.bool dov):=by rw [kaa hpA];rfl
   have a9:wB.cell? ⟨pd,9,none⟩=some (.bool dr):=by rw [kaa hpA];rfl
   have b0:wB.cell? ⟨pe,0,none⟩=some (.string (B xi)):=by rw [kaa hpB];rfl
   have b4:wB.cell? ⟨pe,4,none⟩=some (.string (B xn)):=by rw [kaa hpB];rfl
   have b7:wB.cell? ⟨pe,7,none⟩=some (.bool xw):=by rw [kaa hpB];rfl
   have b8:wB.cell? ⟨pe,8,none⟩=some (.bool xo):=by rw [kaa hpB];rfl
   have b9:wB.cell? ⟨pe,9,none⟩=some (.bool xr):=by rw [kaa hpB];rfl
   clear hF2 hwB hbB hpB hpA c5;have hq1:((B xi).toList == (B xi).toList)=true:=kbx _;have hq2:((B xn).toList == (B xn).toList)=true:=kbx _;have hn1:dw=false∨(dw=true∧xw=true):=by have:=HQ.out.1;cases dw <;> simp_all
   have hn2:dov=false∨(dov=true∧xo=true):=by have:=HQ.out.2.1;cases dov <;> simp_all
   have hn3:dr=false∨(dr=true∧xr=true):=by have:=HQ.out.2.2;cases dr <;> simp_all
   have hfin:∀hlt2:j<part.length,∃j2:Nat,j2≤part.length∧(Value.int .i64 ((j+1:Nat):Int)) = .int .i64 j2∧Below w9.heap.size w9 wB:=fun _=>⟨j+1,by omega,rfl,HBB.out⟩
   have HFin:=hdd hfin;clear hfin;have fin1:=HFin.out hlt;have HFi:=hdd fin1;clear fin1 HFin;rcases hn1 with rfl|⟨rfl,rfl⟩ <;> rcases hn2 with rfl|⟨rfl,rfl⟩ <;> rcases hn3 with rfl|⟨rfl,rfl⟩
   all_goals
    go_wp2_with fail
    refine ⟨?_,?_⟩
    ·first|exact HFi.out|((repeat apply Exists.intro);exact ⟨HFi.out,rfl⟩)
    ·simp [intOf];omega
end Go.Proofs.YtknpbekoenbphaaGreatDoor
namespace Go.Proofs.YtknpbekoenbphaaGreatDoor
open Go Go.RowKit Licit
open Go.ChangeShapes Go.WideShapes Go.ChangeAt
section
variable {H:Type} {enc:TypeId × Value→H} {W:World} {base:Nat} {held:Bool} {v:Value}
theorem kxg {r:Reach} {b0:Nat} {sp:Nat→Bool} {d:DataW H} {ps:List MemPlace} (hval:Value.okWide Tryz.prog W r b0 5 v) (hd:DataW.Trod enc Tryz.prog W base sp held 5 v d ps):∃n:Nat,v = .int .u8 (n:Int)∧n<256:=by
 obtain ⟨m,rfl,-,-,hw⟩:=open_int Tryz.underlying5 hval hd;obtain ⟨n,rfl,hn⟩:=kc8 (n:=256) hw rfl (by decide);exact ⟨n,rfl,hn⟩
end
end Go.Proofs.YtknpbekoenbphaaGreatDoor
