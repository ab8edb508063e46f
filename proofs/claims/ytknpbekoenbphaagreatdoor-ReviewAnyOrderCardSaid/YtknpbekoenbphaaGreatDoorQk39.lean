/- Parts of the proofs: WkNs3. No condition beyond those at each theorem. -/
import Derived.Test.YtknpbekoenbphaaGreatDoorQk34
import Derived.Test.YtknpbekoenbphaaGreatDoorQk38
set_option linter.unusedVariables false
set_option linter.unusedSimpArgs false
set_option maxHeartbeats 16000000
set_option maxRecDepth 100000
namespace Go.Proofs.YtknpbekoenbphaaGreatDoor
open Go Go.RowKit Licit
theorem kw5 {l:List Rv.Ev} (ids:List Bs) (h:1024<l.length):Rv.preE l ids=(-1,10):=by unfold Rv.preE;rw [if_pos h]
section
variable {l:List Rv.Ev} {ids:List Bs} (h:¬ 1024<l.length)
include h
theorem kw9 {k:Nat} (hk:k<l.length) (h1:∀i,i<k→(!Rv.validB (l.getD i Rv.ev0))=false) (h2:Rv.validB (l.getD k Rv.ev0)=false):Rv.preE l ids=((k:Int),1):=by
 unfold Rv.preE;rw [if_neg h,kc4 (p:=fun i=>!Rv.validB (l.getD i Rv.ev0)) hk h1 (by rw [h2];rfl)]
theorem ks8 (h0:∀i,i<l.length→(!Rv.validB (l.getD i Rv.ev0))=false) {k:Nat} (hk:k<l.length) (h1:∀i,i<k→decide (Rv.findI ids (ids.getD i [])<i)=false) (h2:Rv.findI ids (ids.getD k [])<k):Rv.preE l ids=((k:Int),6):=by
 unfold Rv.preE;rw [if_neg h,kbu.2 h0];dsimp only;rw [kc4 (p:=fun i=>decide (Rv.findI ids (ids.getD i [])<i)) hk h1 (decide_eq_true h2)]
theorem kvy (h0:∀i,i<l.length→(!Rv.validB (l.getD i Rv.ev0))=false) (h1:∀i,i<l.length→decide (Rv.findI ids (ids.getD i [])<i)=false) {k:Nat} (hk:k<l.length)
 (h2:∀i,i<k→((l.getD i Rv.ev0).names.any fun s=>decide (ids.length≤Rv.findI ids s))=false) (h3:((l.getD k Rv.ev0).names.any fun s=>decide (ids.length≤Rv.findI ids s))=true):Rv.preE l ids=((k:Int),7):=by
 unfold Rv.preE;rw [if_neg h,kbu.2 h0];dsimp only;rw [kbu.2 h1];dsimp only;rw [kc4 (p:=fun i=>(l.getD i Rv.ev0).names.any fun s=>decide (ids.length≤Rv.findI ids s)) hk h2 h3]
theorem kt3 (h0:∀i,i<l.length→(!Rv.validB (l.getD i Rv.ev0))=false) (h1:∀i,i<l.length→decide (Rv.findI ids (ids.getD i [])<i)=false)
 (h2:∀i,i<l.length→((l.getD i Rv.ev0).names.any fun s=>decide (ids.length≤Rv.findI ids s))=false):Rv.preE l ids=(-1,0):=by
 unfold Rv.preE;rw [if_neg h,kbu.2 h0];dsimp only;rw [kbu.2 h1];dsimp only;rw [kbu.2 h2]
end
theorem kfk {l:List Rv.Ev} {ids:List Bs} {x:Int × Int} (h:Rv.preE l ids=x) (h0:x.2≠0):Rv.setE l ids=x:=by unfold Rv.setE;rw [h,if_neg h0]
theorem knt {l:List Rv.Ev} {ids:List Bs} (h:Rv.preE l ids=(-1,0)) (h0:Rv.arrS l ids=none):Rv.setE l ids=(-1,12):=by unfold Rv.setE;rw [h,h0];rfl
theorem kss {l:List Rv.Ev} {ids:List Bs} {S:Rv.Stt} (h:Rv.preE l ids=(-1,0)) (h0:Rv.arrS l ids=some S):Rv.setE l ids=(-1,0):=by unfold Rv.setE;rw [h,h0];rfl
abbrev khf:Array Value:=kew kaf kaf kaf kaf kaf
theorem kii:khf.all (·.oneCell')=true:=by simp [kew,Value.oneCell']
def koe (l:List Rv.Ev) (vL:Value) (w:World) (en:Ending) (w':World):Prop:=Below w.heap.size w w'∧∃sv,en = .returned (.tuple #[.agg sv,.int .i64 (Rv.setE l (Rv.idsOf l)).1,.int .i64 (Rv.setE l (Rv.idsOf l)).2])∧((Rv.setE l (Rv.idsOf l)).2≠0→sv=khf) ∧
 ((Rv.setE l (Rv.idsOf l)).2=0→∃(S:Rv.Stt) (vI vR vP vO:Value) (pv:Nat→Value),Rv.arrS l (Rv.idsOf l)=some S∧S.length=l.length∧sv=kew vL vI vR vP vO∧kz9 l S vI vR vP vO pv w')
theorem klz {l:List Rv.Ev} {vL:Value} {w w':World} {x:Int × Int} (h:Rv.setE l (Rv.idsOf l)=x) (h0:x.2≠0) (hb:Below w.heap.size w w'):koe l vL w (.returned (.tuple #[.agg khf,.int .i64 x.1,.int .i64 x.2])) w':=by
 unfold koe;rw [h];exact ⟨hb,_,rfl,fun _=>rfl,fun hc=>absurd hc h0⟩
def NsH (l:List Rv.Ev) (bs m:Nat) (vL vI:Value) (n:Nat) (w wl:World):Prop:=Below w.heap.size w wl∧wl.heap[bs]? = some (.cells (kew vL vI kaf kaf kaf) 107 (0,0))∧wl.heap[m]? = some (.cells khf 107 (0,0))∧wl.ownsRow w.heap.size 9 1 vI n (((Rv.idsOf l).take n).map vS)
theorem NsH.grow {l:List Rv.Ev} {bs m n:Nat} {vL vI:Value} {w wl W:World} (h:NsH l bs m vL vI n w wl) (hb:Below wl.heap.size wl W):NsH l bs m vL vI n w W :=
 ⟨h.1.next hb,kab hb (kad h.2.1) h.2.1,kab hb (kad h.2.2.1) h.2.2.1,kal h.2.2.2 fun q hq=>hb.block q (h.2.2.2.lt q hq).2⟩
def Ns1 (l:List Rv.Ev) (bs m:Nat) (vL:Value) (w:World) (s6:Value) (wl:World):Prop:=∃(k:Nat) (vI:Value),k≤l.length∧s6 = .int .i64 k∧(∀i,i<k→(!Rv.validB (l.getD i Rv.ev0))=false)∧NsH l bs m vL vI k w wl
theorem kpm {w wr:World} {o:Obj} (hb:Below w.heap.size w wr) (hm:wr.heap[w.heap.size]? = some o):Below (w.alloc o).heap.size (w.alloc o) wr:=by
 refine ⟨hb.os,hb.tape,hb.output,?_,fun k hk=>?_⟩
 ·rw [World.size_alloc]
  exact (Array.getElem?_eq_some_iff.1 hm).1
 ·rw [World.size_alloc] at hk
  rcases Nat.lt_succ_iff_lt_or_eq.1 hk with h|rfl
  ·exact (hb.block k h).trans (Below.heap_alloc w o k h).symm
  ·rw [hm];exact (kai w o).symm
theorem ku1 {w:World} {base:Nat} {T:TypeId} {size:Nat} {v:Value} {n:Nat} {xs:List Value} {cs:Array Value} {T':TypeId} {fr:Nat × Nat} (h:w.ownsRow base T size v n xs) (hq:w.heap[base]? = some (.cells cs T' fr)) (hT:T≠T'):w.ownsRow (base+1) T size v n xs:=by
 refine ⟨h.1,?_⟩;rcases h.2 with h0|⟨g,cap,cur,rfl,h1,h2⟩
 ·exact .inl h0
 ·refine .inr ⟨g,cap,cur,rfl,?_,h2⟩
  have:=kas h hq hT g rfl
  omega
def NsO (S:Rv.Stt) (ids:List Bs) (n bs:Nat) (vL vI vR vP:Value) (w3:World) (s12:Value) (wl:World):Prop:=∃(k:Nat) (vO:Value),k≤n∧s12 = .int .i64 k∧wl.heap[bs]? = some (.cells (kew vL vI vR vP vO) 107 (0,0))∧wl.ownsRow w3.heap.size 3 1 vO k ((Rv.ordP S ids k).map vNt)∧ka7 (Licit.One bs) w3 wl
def NsI (S:Rv.Stt) (ids:List Bs) (k bs:Nat) (vL vI vR vP vO:Value) (w3:World) (s13:Value) (wl:World):Prop:=∃(q g:Nat),q≤k∧s13 = .int .i64 q∧wl.heap[bs]? = some (.cells (kew vL vI vR vP vO) 107 (0,0))∧wl.ownsRow w3.heap.size 3 1 vO (k+1) (((Rv.ordP S ids k).take q++g :: (Rv.ordP S ids k).drop q).map vNt) ∧
 (∀j,q≤j→j<k→Rv.befI S ids k ((Rv.ordP S ids k).getD j 0)=true)∧ka7 (Licit.One bs) w3 wl
theorem kte {O:List Nat} {p g:Nat} (hp:p<O.length):((O.take (p+1)++g :: O.drop (p+1)).map vNt).set (p+1) (vNt (O.getD p 0))=((O.take p++O.getD p 0 :: O.drop p).map vNt):=by
 rw [←List.map_set]
 congr 1
 have hl:(O.take (p+1)).length=p+1:=by rw [List.length_take];omega
 have hz:O.getD p 0=O[p]:=by rw [List.getD_eq_getElem?_getD,List.getElem?_eq_getElem hp];rfl
 rw [List.set_append_right _ _ (by omega),hl,Nat.sub_self,List.set_cons_zero,hz,List.drop_eq_getElem_cons hp,List.take_succ_eq_append_getElem hp,List.append_assoc];rfl
theorem krr {O:List Nat} {q g k:Nat} (hq:q≤O.length):((O.take q++g :: O.drop q).map vNt).set q (vNt k)=((O.take q++k :: O.drop q).map vNt):=by
 rw [←List.map_set]
 congr 1
 have hl:(O.take q).length=q:=by rw [List.length_take];omega
 rw [List.set_append_right _ _ (by omega),hl,Nat.sub_self,List.set_cons_zero]
theorem ktv {O:List Nat} {p g:Nat} (hp:p<O.length):((O.take (p+1)++g :: O.drop (p+1)).map vNt)[p]? = some (vNt (O.getD p 0)):=by
 have hl:p<(O.take (p+1)).length:=by rw [List.length_take];omega
 rw [List.getElem?_map,List.getElem?_append_left hl,List.getElem?_take_of_lt (by omega),List.getElem?_eq_getElem hp,List.getD_eq_getElem?_getD,List.getElem?_eq_getElem hp];rfl
def Ns2 (l:List Rv.Ev) (ids:List Bs) (bs m:Nat) (vL vI:Value) (w:World) (s9:Value) (wl:World):Prop:=∃k:Nat,k≤l.length∧s9 = .int .i64 k∧(∀i,i<k→decide (Rv.findI ids (ids.getD i [])<i)=false)∧NsH l bs m vL vI l.length w wl
def Ns3 (l:List Rv.Ev) (ids:List Bs) (bs m:Nat) (vL vI:Value) (w:World) (s10:Value) (wl:World):Prop:=∃k:Nat,k≤l.length∧s10 = .int .i64 k∧(∀i,i<k→((l.getD i Rv.ev0).names.any fun s=>decide (ids.length≤Rv.findI ids s))=false)∧NsH l bs m vL vI l.length w wl
def Ns4 (l:List Rv.Ev) (ids names:List Bs) (bs m:Nat) (vL vI:Value) (w:World) (s11:Value) (wl:World):Prop:=∃q:Nat,q≤names.length∧s11 = .int .i64 q∧(∀j,j<q→Rv.findI ids (names.getD j [])<ids.length)∧NsH l bs m vL vI l.length w wl
theorem kyu {ids names:List Bs} (h:∀j,j<names.length→Rv.findI ids (names.getD j [])<ids.length):(names.any fun s=>decide (ids.length≤Rv.findI ids s))=false:=by
 rw [List.any_eq_false];intro x hx;obtain ⟨j,hj,rfl⟩:=List.getElem_of_mem hx
 have:=h j hj
 rw [List.getD_eq_getElem?_getD,List.getElem?_eq_getElem hj] at this;have h2:Rv.findI ids names[j]<ids.length:=this;simp;omega
theorem kxj {ids names:List Bs} {j:Nat} (hj:j<names.length) (h:¬ Rv.findI ids (names.getD j [])<ids.length):(names.any fun s=>decide (ids.length≤Rv.findI ids s))=true:=by
 rw [List.any_eq_true];rw [List.getD_eq_getElem?_getD,List.getElem?_eq_getElem hj] at h;have h2:¬ Rv.findI ids names[j]<ids.length:=h;exact ⟨names[j],List.getElem_mem hj,by simp;omega⟩
theorem NsH.isI {l:List Rv.Ev} {bs m:Nat} {vL vI:Value} {w wl:World} (h:NsH l bs m vL vI l.length w wl) (hl:l.length≤1024):IsSl vI ((Rv.idsOf l).map vS) wl:=by
 have h1:=h.2.2.2;rw [List.take_of_length_le (by simp [Rv.idsOf])] at h1;exact IsSl.of_owns (by rw [List.length_map,show (Rv.idsOf l).length=l.length by simp [Rv.idsOf]];exact h1) (by rw [List.length_map,show (Rv.idsOf l).length=l.length by simp [Rv.idsOf]];unfold maxLen;omega)
theorem kjz (v:Value) (l:List Rv.Ev) (w:World) (h:kbt v l w):Calls Tryz.prog 59 #[v] w (koe l v w):=by
 obtain ⟨a,cap,rfl⟩:=h.form;have hm:=h.1;have HL:=hdd h;obtain ⟨m,hmm⟩:∃m,w.heap.size=m:=⟨_,rfl⟩;obtain ⟨bs,hbs⟩:∃b,m+1=b:=⟨_,rfl⟩;have HMm:=hdd hmm;have HBs:=hdd hbs;clear h
 by_cases c0:1024<l.length
 ·have d0:decide (1024<(l.length:Int))=true:=decide_eq_true (by omega)
  have HSe:=hdd (kfk (kw5 (Rv.idsOf l) c0) (by simp));clear hmm hbs
  go_enter Tryz.func59,Tryz.ntmps59
  go_wp2_with fail
  refine kcp rfl w.heap.size 107 khf (0,0) _ rfl (kai w (.cells khf 107)) rfl rfl (by kernel_rfl) rfl ?_;exact klz HSe.out (by simp) ((Below.refl _ _).alloc (Nat.le_refl _) _)
 have d0:decide (1024<(l.length:Int))=false:=decide_eq_false (by omega);obtain ⟨ids,hids⟩:∃ids,Rv.idsOf l=ids:=⟨_,rfl⟩;have hidl:ids.length=l.length:=by rw [←hids];simp [Rv.idsOf]
 have hn1:l.length≤1024:=by omega
 obtain ⟨i0,hi0,hz0,hz1,hz2⟩:=info_parts Tryz.infoStr;have Hi:=hdd hi0;have Hz0:=hdd hz0;have Hz1:=hdd hz1;have Hz2:=hdd hz2;have HC0:=hdd c0
 have HN0:=hdd (show NsH l bs m (.slice a l.length cap) kaf 0 w ((w.alloc (.cells khf 107)).alloc (.cells (kew (.slice a l.length cap) kaf kaf kaf kaf) 107)) from
  ⟨((Below.refl _ _).alloc (Nat.le_refl _) _).alloc (by simp) _,by rw [←hbs,←hmm];exact kak (by simp) rfl,by rw [←hmm];exact kah (kai _ _),World.ownsRow_nil _ _ _ _⟩)
 have HIds:=hdd hids;have HIdl:=hdd hidl;clear hi0 hz0 hz1 hz2 hids hidl c0
 go_enter Tryz.func59,Tryz.ntmps59
 go_upto_region 4 with fail
 try simp only [World.size_alloc,hmm,hbs]
 show Code.wp _ _ _ _ ((w.alloc (.cells khf 107)).alloc (.cells (kew (.slice a l.length cap) kaf kaf kaf kaf) 107));generalize (w.alloc (.cells khf 107)).alloc (.cells (kew (.slice a l.length cap) kaf kaf kaf kaf) 107)=w1 at HN0 ⊢;clear hmm hbs
 go_wp2_with fail
 go_loopw [6,7,8] (fun s6 _ _ wl=>Ns1 l bs m (.slice a l.length cap) w s6 wl) (fun s6 _ _ _=>l.length - (intOf s6).toNat)
 case atStart=>exact ⟨0,kaf,Nat.zero_le _,rfl,fun i hi=>by omega,HN0.out⟩
 case round =>
  unfold Ns1 at hrel;obtain ⟨k,vI,hk,rfl,hv,hN⟩:=hrel;have HV:=hdd hv;have HHx:=hdd hN;have hbm:bs≠m:=by have:=HBs.out;omega
  have HBM:=hdd hbm;clear hv hN hbm
  by_cases hlt:k<l.length
  ·have hlti:(k:Int)<(l.length:Int):=by omega
   obtain ⟨b,off,rfl,hbw,na,nc,ta,tc,sa,sc,ha,hc,ra,rc,hE,hA⟩:=(HL.out.below HHx.out.1).at hlt;obtain ⟨e,he⟩:∃e,l.getD k Rv.ev0=e:=⟨_,rfl⟩;rw [he] at hE hA;have HE:=hdd hE;have HA:=hdd hA;have HEe:=hdd he;have HO:=hdd (evS1 e na nc ta tc sa sc ha hc ra rc)
   have hidk:(Rv.idsOf l).take (k+1)=(Rv.idsOf l).take k++[Rv.idE e]:=by
    have hkl:k<(Rv.idsOf l).length:=by simp [Rv.idsOf];exact hlt
    rw [List.take_succ_eq_append_getElem hkl]
    congr 2
    rw [←he,List.getD_eq_getElem?_getD,List.getElem?_eq_getElem hlt];simp [Rv.idsOf]
   have HIk:=hdd hidk;clear hE hA he hidk;obtain ⟨vid,hvid⟩:∃x,Rv.idE e=x:=⟨_,rfl⟩
   cases hq:Rv.validB e with
   |false =>
    have hI1:Rv.validE e=1:=by unfold Rv.validE;rw [hq];rfl
    have HRI:=hdd (fun (W:World) (hb:Below wr.heap.size wr W)=>klf _ e W (HE.out.below hb));rw [hI1] at HRI;have HSe:=hdd (kfk (kw9 (ids:=Rv.idsOf l) HC0.out hlt HV.out (by rw [HEe.out];exact hq)) (by simp));clear hq hI1
    go_upto_region 9 with (first
     |(refine wpList_load_mid rfl 45 _ rfl b _ rfl (evS e na nc ta tc sa sc ha hc ra rc).toList _ HA.out rfl rfl (by kernel_rfl) ?_)
     |(go_at_call 38
       go_loud (
       refine (HRI.out _ (Below.refl _ _)).mono ?_;rintro en w3 ⟨rfl,hb3⟩;have HH3:=hdd (HHx.out.grow hb3);clear hb3 HHx;have HHx:=hdd HH3.out;clear HH3))
     |fail)
    go_wp2_with (first
     |(refine kac rfl 107 _ _ rfl m rfl khf rfl 107 khf HHx.out.2.2.1 (by kernel_rfl) rfl kii ?_
       intro w9 hw9 hk9;have HW9:=hdd hw9;have HB9:=hdd (HHx.out.1.trans (hk9.below HHx.out.1.size (fun q hq e=>by have:q=m:=e;have:=HMm.out;omega)));clear hw9 hk9)
     |fail)
    refine kcp rfl m 107 khf (0,0) _ rfl HW9.out rfl rfl (by kernel_rfl) rfl ?_;exact klz HSe.out (by simp) HB9.out
   |true =>
    have hI1:Rv.validE e=0:=by unfold Rv.validE;rw [hq];rfl
    have HRI:=hdd (fun (W:World) (hb:Below wr.heap.size wr W)=>klf _ e W (HE.out.below hb));rw [hI1,hvid] at HRI;rw [hvid] at HIk;have HQ:=hdd hq;clear hq hI1 hvid
    go_upto_region 10 with (first
     |(refine wpList_load_mid rfl 45 _ rfl b _ rfl (evS e na nc ta tc sa sc ha hc ra rc).toList _ HA.out rfl rfl (by kernel_rfl) ?_)
     |(go_at_call 38
       go_loud (
       refine (HRI.out _ (Below.refl _ _)).mono ?_;rintro en w3 ⟨rfl,hb3⟩;have HH3:=hdd (HHx.out.grow hb3);clear hb3 HHx))
     |fail)
    obtain ⟨aI,cI,rfl⟩:=kag HH3.out.2.2.2;have cb1:w3.cell? ⟨bs,1,none⟩=some (.slice aI k cI):=by rw [kaa HH3.out.2.1];rfl
    go_wp2_with (first
     |(at_builtin
       go_loud (
       refine wpList_append_own _ rfl _ _ 39 rfl w.heap.size 9 i0 (.string ⟨#[]⟩) 1 16 Tryz.underlying39 Hi.out Hz0.out Hz1.out Hz2.out rfl (by decide) _ k (((Rv.idsOf l).take k).map vS) rfl (HH3.out.2.2.2.alloc _) ⟨w3.heap.size,0,none⟩ 1 1 [vS vid] rfl rfl (kbj (kai _ _)) (by simp [vS,Value.oneCell']) (by unfold maxLen;omega) (by omega) (by have:=HH3.out.1.size;simp;omega) ?_;intro v5 w5 ho5 hg5 _;have HO5:=hdd (show w5.ownsRow w.heap.size 9 1 v5 (k+1) (((Rv.idsOf l).take (k+1)).map vS) by rw [HIk.out,List.map_append];exact ho5);have HS5:=hdd ((kdk (kah (o':=.cells #[vS vid] 9) HH3.out.2.1) (HH3.out.2.2.2.alloc _) (by decide) hg5).trans (kah HH3.out.2.1));have HM5:=hdd ((kdk (kah (o':=.cells #[vS vid] 9) HH3.out.2.2.1) (HH3.out.2.2.2.alloc _) (by decide) hg5).trans (kah HH3.out.2.2.1));have HB5:=hdd (show Below w.heap.size w w5 from (HH3.out.1.alloc HH3.out.1.size _).grown hg5 (by have:=HH3.out.1.size;simp;omega) (fun q hq=>(HH3.out.2.2.2.lt q hq).1));obtain ⟨a5,c5,rfl⟩:=kag ho5;clear ho5 hg5))
     |(refine kae rfl 39 _ _ rfl bs 1 rfl (.slice a5 (k+1) c5) rfl rfl rfl _ 107 HS5.out (by simp) (by kernel_rfl) ?_
       intro w6 hw6 hk6
       have HH6:=hdd (show NsH l bs m (.slice (some ⟨b,off,none⟩) l.length cap) (.slice a5 (k+1) c5) (k+1) w w6 from
        ⟨HB5.out.trans (hk6.below HB5.out.size (fun q hq e=>by have:q=bs:=e;have:=HBs.out;have:=HMm.out;omega)),hw6,(hk6.block m (kad HM5.out) (fun e=>HBM.out (by have:m=bs:=e;exact this.symm))).trans HM5.out,
          kal HO5.out fun q hq=>hk6.block q (HO5.out.lt q hq).2 (fun e=>kas HO5.out HS5.out (by decide) q hq e)⟩)
       clear hw6 hk6)
     |fail)
    go_roundw
    case rel =>
     have hF:Ns1 l bs m (.slice (some ⟨b,off,none⟩) l.length cap) w (.int .i64 ((k+1:Nat):Int)) w6:=⟨k+1,_,by omega,rfl,fun i hi=>by
      rcases Nat.lt_succ_iff_lt_or_eq.1 hi with h2|rfl
      ·exact HV.out i h2
      ·rw [HEe.out,HQ.out];rfl,HH6.out⟩
     first|exact hF|((repeat apply Exists.intro);exact ⟨hF,rfl⟩)
    case measure=>simp [intOf];omega
  ·have hke:l.length=k:=by omega
   subst hke;have hni:¬ (l.length:Int)<(l.length:Int):=by omega
   obtain ⟨aI,cI,rfl⟩:=kag HHx.out.2.2.2;have HN1:=hdd HHx.out;have HV1:=hdd HV.out;clear HHx HV
   go_wp2_with fail
   go_loopw [9] (fun s9 wl=>Ns2 l ids bs m (.slice a l.length cap) (.slice aI l.length cI) w s9 wl) (fun s9 _=>l.length - (intOf s9).toNat)
   case atStart=>exact ⟨0,Nat.zero_le _,rfl,fun i hi=>by omega,HN1.out⟩
   case round =>
    unfold Ns2 at hrel;obtain ⟨k,hk,rfl,hv,hN⟩:=hrel;have HV:=hdd hv;have HHp:=hdd hN;have cb1:wr.cell? ⟨bs,1,none⟩=some (.slice aI l.length cI):=by rw [kaa hN.2.1];rfl
    have hI:=hN.isI hn1;rw [HIds.out] at hI;clear hv
    by_cases hlt:k<l.length
    ·have hlti:(k:Int)<(l.length:Int):=by omega
     have hIt:=hI;rw [show (.slice aI l.length cI:Value) = .slice aI ids.length cI by rw [HIdl.out]] at hIt;obtain ⟨bi,oi,ci,hvi,hbi,hci⟩:=hIt.text rfl (show k<ids.length by rw [HIdl.out];exact hlt);simp only [Value.slice.injEq,true_and] at hvi;obtain ⟨rfl,rfl⟩:=hvi;obtain ⟨x,hx⟩:∃x,ids.getD k []=x:=⟨_,rfl⟩;have hself:=Rv.findI_self (ids:=ids) (k:=k) (by rw [HIdl.out];exact hlt);obtain ⟨j,hj⟩:∃j,Rv.findI ids (ids.getD k [])=j:=⟨_,rfl⟩;rw [hj] at hself
     have HFd:=hdd (fun (W:World) (hb:Below wr.heap.size wr W)=>show Calls Tryz.prog 75 #[.slice (some ⟨bi,oi,none⟩) l.length cI,.string (B x)] W fun en w'=>en = .returned (.int .i64 (j:Int))∧w'=W by
      have h1:=kio _ ids x W (hI.below hb);have h2:keu ids x=(j:Int):=by unfold keu;rw [←hx,hj,if_pos (by rw [HIdl.out];omega)]
      rw [h2] at h1;exact h1)
     have HJ:=hdd hj;rw [hx] at hci;clear hx hj hI hN hIt
     by_cases hjk:j<k
     ·have hjki:(j:Int)<(k:Int):=by omega
      have HSe:=hdd (kfk (ks8 (ids:=Rv.idsOf l) HC0.out HV1.out hlt (by rw [HIds.out];exact HV.out) (by rw [HIds.out,HJ.out];exact hjk)) (by simp))
      go_upto_region 14 with fail
      go_quiet ((go_at_call 75;exact Calls.quiet_of_same (HFd.out _ (below_drewN (Below.refl _ _) _))))
      go_wp2_with (first
       |(refine kac rfl 107 _ _ rfl m rfl khf rfl 107 khf (HHp.out.grow (below_drewN (Below.refl _ _) _)).2.2.1 (by kernel_rfl) rfl kii ?_
         intro w9 hw9 hk9;have HW9:=hdd hw9;have HB9:=hdd ((HHp.out.grow (below_drewN (Below.refl _ _) _)).1.trans (hk9.below (HHp.out.grow (below_drewN (Below.refl _ _) _)).1.size (fun q hq e=>by have:q=m:=e;have:=HMm.out;omega)));clear hw9 hk9)
       |fail)
      refine kcp rfl m 107 khf (0,0) _ rfl HW9.out rfl rfl (by kernel_rfl) rfl ?_;exact klz HSe.out (by simp) HB9.out
     ·have hjki:¬ (j:Int)<(k:Int):=by omega
      go_upto_region 14 with fail
      go_quiet ((go_at_call 75;exact Calls.quiet_of_same (HFd.out _ (below_drewN (Below.refl _ _) _))))
      go_wp2_with fail
      go_roundw
      case rel =>
       have hF:∀W,Below wr.heap.size wr W→Ns2 l ids bs m (.slice a l.length cap) (.slice (some ⟨bi,oi,none⟩) l.length cI) w (.int .i64 ((k+1:Nat):Int)) W:=fun W hb=>⟨k+1,by omega,rfl,fun i hi=>by
        rcases Nat.lt_succ_iff_lt_or_eq.1 hi with h2|rfl
        ·exact HV.out i h2
        ·rw [HJ.out];exact decide_eq_false hjk,HHp.out.grow hb⟩
       first|exact hF _ (below_drewN (Below.refl _ _) _)|((repeat apply Exists.intro);exact ⟨hF _ (below_drewN (Below.refl _ _) _),rfl⟩)
      case measure=>simp [intOf];omega
    ·have hke:l.length=k:=by omega
     subst hke;have hni2:¬ (l.length:Int)<(l.length:Int):=by omega
     have HV2:=hdd HV.out;clear HV hI hN cb1
     go_wp2_with fail
     go_loopw [10,11] (fun s10 _ wl=>Ns3 l ids bs m (.slice a l.length cap) (.slice aI l.length cI) w s10 wl) (fun s10 _ _=>l.length - (intOf s10).toNat)
     case atStart=>exact ⟨0,Nat.zero_le _,rfl,fun i hi=>by omega,HHp.out⟩
     case round =>
      unfold Ns3 at hrel;obtain ⟨k,hk,rfl,hv,hN⟩:=hrel;have HV:=hdd hv;have HHq:=hdd hN;clear hv hN HHp
      by_cases hlt:k<l.length
      ·have hlti:(k:Int)<(l.length:Int):=by omega
       obtain ⟨b,off,rfl,hbw,na,nc,ta,tc,sa,sc,ha,hc,ra,rc,hE,hA⟩:=(HL.out.below HHq.out.1).at hlt;obtain ⟨e,he⟩:∃e,l.getD k Rv.ev0=e:=⟨_,rfl⟩;rw [he] at hE hA;have HEe:=hdd he;have HNm:=hdd hE.namesIs;have HcN:=hdd (show wr.cell? ⟨b,off+k*18+3,none⟩=some (.slice na e.names.length nc) from hA 3 _ rfl);have hnl:e.names.length≤9223372036854775807:=by have:=hE.namesIs.1;rw [List.length_map] at this;unfold maxLen at this;omega
       obtain ⟨wq,hwq⟩:∃W,wr=W:=⟨_,rfl⟩;have HWq:=hdd hwq;clear hE hA he hwq
       go_wp2_with fail
       go_loopw [11] (fun s11 wl=>Ns4 l ids e.names bs m (.slice (some ⟨b,off,none⟩) l.length cap) (.slice aI l.length cI) w s11 wl∧Below wq.heap.size wq wl) (fun s11 _=>e.names.length - (intOf s11).toNat)
       case atStart=>exact ⟨⟨0,Nat.zero_le _,rfl,fun j hj=>by omega,HHq.out⟩,by rw [←HWq.out];exact Below.refl _ _⟩
       case round =>
        obtain ⟨hrel,hbq⟩:=hrel;unfold Ns4 at hrel;obtain ⟨q,hq,rfl,hvq,hN⟩:=hrel;have HVq:=hdd hvq;have HHr:=hdd hN;have HBq:=hdd hbq;have cb1:wr.cell? ⟨bs,1,none⟩=some (.slice aI l.length cI):=by rw [kaa hN.2.1];rfl
        have hI:=hN.isI hn1;rw [HIds.out] at hI
        have cN:wr.cell? ⟨b,off+k*18+3,none⟩=some (.slice na e.names.length nc):=by
         have h1:=HcN.out;rw [HWq.out] at h1;exact (hbq.cell (World.block_lt_of_cell? _ _ h1)).trans h1
        have hNmw:IsSl (.slice na e.names.length nc) (e.names.map vS) wr:=by
         have h1:=HNm.out;rw [HWq.out] at h1;exact h1.below hbq
        clear hvq hbq
        by_cases hqn:q<e.names.length
        ·have hqni:(q:Int)<(e.names.length:Int):=by omega
         obtain ⟨bn,on,cn,hvn,hbn,hcn⟩:=hNmw.text rfl hqn;simp only [Value.slice.injEq,true_and] at hvn;obtain ⟨rfl,rfl⟩:=hvn;obtain ⟨x,hx⟩:∃x,e.names.getD q []=x:=⟨_,rfl⟩;rw [hx] at hcn;have HX:=hdd hx;have HFd0:=hdd (fun (W:World) (hb:Below wr.heap.size wr W)=>kio _ ids x W (hI.below hb));clear hx hI hN hNmw
         by_cases hfx:Rv.findI ids x<ids.length
         ·obtain ⟨j,hj⟩:∃j,keu ids x=((j:Nat):Int):=⟨_,by unfold keu;rw [if_pos hfx]⟩
          have HFd:=hdd (fun (W:World) (hb:Below wr.heap.size wr W)=>by have h1:=HFd0.out W hb;rw [hj] at h1;exact h1);have hj0:¬ ((j:Int)<0):=by omega
          have HFx:=hdd hfx;clear hj hfx HFd0
          go_upto_region 22 with fail
          go_quiet ((go_at_call 75;exact Calls.quiet_of_same (HFd.out _ (below_drewN (Below.refl _ _) _))))
          go_wp2_with fail
          go_roundw
          case rel =>
           have hF:∀W,Below wr.heap.size wr W→(Ns4 l ids e.names bs m (.slice (some ⟨b,off,none⟩) l.length cap) (.slice aI l.length cI) w (.int .i64 ((q+1:Nat):Int)) W∧Below wq.heap.size wq W):=fun W hb=>⟨⟨q+1,by omega,rfl,fun j hj=>by
            rcases Nat.lt_succ_iff_lt_or_eq.1 hj with h2|rfl
            ·exact HVq.out j h2
            ·rw [HX.out];exact HFx.out,HHr.out.grow hb⟩,HBq.out.next hb⟩
           first|exact hF _ (below_drewN (Below.refl _ _) _)|((repeat apply Exists.intro);exact ⟨hF _ (below_drewN (Below.refl _ _) _),rfl⟩)
          case measure=>simp [intOf];omega
         ·have hj:keu ids x = -1:=by unfold keu;rw [if_neg hfx]
          have HFd:=hdd (fun (W:World) (hb:Below wr.heap.size wr W)=>by have h1:=HFd0.out W hb;rw [hj] at h1;exact h1);have HSe:=hdd (kfk (kvy (ids:=Rv.idsOf l) HC0.out HV1.out (by rw [HIds.out];exact HV2.out) hlt (by rw [HIds.out];exact HV.out) (by rw [HIds.out,HEe.out];exact kxj hqn (by rw [HX.out];exact hfx))) (by simp));clear hj hfx HFd0
          go_upto_region 22 with fail
          go_quiet ((go_at_call 75;exact Calls.quiet_of_same (HFd.out _ (below_drewN (Below.refl _ _) _))))
          go_wp2_with (first
           |(refine kac rfl 107 _ _ rfl m rfl khf rfl 107 khf (HHr.out.grow (below_drewN (Below.refl _ _) _)).2.2.1 (by kernel_rfl) rfl kii ?_
             intro w9 hw9 hk9;have HW9:=hdd hw9;have HB9:=hdd ((HHr.out.grow (below_drewN (Below.refl _ _) _)).1.trans (hk9.below (HHr.out.grow (below_drewN (Below.refl _ _) _)).1.size (fun q hq e=>by have:q=m:=e;have:=HMm.out;omega)));clear hw9 hk9)
           |fail)
          refine kcp rfl m 107 khf (0,0) _ rfl HW9.out rfl rfl (by kernel_rfl) rfl ?_;exact klz HSe.out (by simp) HB9.out
        ·have hqe:¬ (q:Int)<(e.names.length:Int):=by omega
         clear hI hN hNmw
         go_wp2_with fail
         go_roundw
         case rel =>
          have hF:Ns3 l ids bs m (.slice (some ⟨b,off,none⟩) l.length cap) (.slice aI l.length cI) w (.int .i64 ((k+1:Nat):Int)) wr:=⟨k+1,by omega,rfl,fun i hi=>by
           rcases Nat.lt_succ_iff_lt_or_eq.1 hi with h2|rfl
           ·exact HV.out i h2
           ·rw [HEe.out];exact kyu (fun j hj=>HVq.out j (by omega)),HHr.out⟩
          first|exact hF|((repeat apply Exists.intro);exact ⟨hF,rfl⟩)
         case measure=>simp [intOf];omega
      ·have hke:l.length=k:=by omega
       subst hke;have hni3:¬ (l.length:Int)<(l.length:Int):=by omega
       have HPre:=hdd (show Rv.preE l (Rv.idsOf l)=(-1,0) from kt3 HC0.out HV1.out (by rw [HIds.out];exact HV2.out) (by rw [HIds.out];exact HV.out))
       have hJ:∀i,i<l.length→∀s∈(l.getD i Rv.ev0).names,s∈ids:=fun i hi s hs=>by
        have h1:=HV.out i hi;rw [List.any_eq_false] at h1;have h2:=h1 s hs;have h3:Rv.findI ids s<ids.length:=by simpa using h2
        exact Rv.findI_mem.1 h3
       have hIrow:=HHq.out.2.2.2;rw [List.take_of_length_le (by simp [Rv.idsOf]),HIds.out] at hIrow;obtain ⟨w0,hw0⟩:∃W,w.alloc (.cells khf 107)=W:=⟨_,rfl⟩;have hmb:wr.heap[w.heap.size]? = some (.cells khf 107 (0,0)):=by have h1:=HHq.out.2.2.1;rwa [←HMm.out] at h1
       have hb0:Below w0.heap.size w0 wr:=by rw [←hw0];exact kpm HHq.out.1 hmb
       have hz0:w0.heap.size=bs:=by rw [←hw0,World.size_alloc,HMm.out,HBs.out]
       have hbw:Below w.heap.size w w0:=by rw [←hw0];exact (Below.refl _ _).alloc (Nat.le_refl _) _
       have hmw:w0.heap[m]? = some (.cells khf 107 (0,0)):=by rw [←hw0,←HMm.out];exact kai _ _
       have hIr:wr.ownsRow w0.heap.size 9 1 (.slice aI l.length cI) l.length (ids.map vS):=by
        have:=ku1 hIrow hmb (by decide)
        rw [←hw0,World.size_alloc];exact this
       have HRk:=hdd (ku4 l ids bs _ (.slice aI l.length cI) w0 wr (HL.out.below hbw) hb0 HHq.out.2.1 (by rw [HIdl.out];exact hIr) hn1 HIdl.out hJ (by omega));have HBw:=hdd hbw;have HMw:=hdd hmw;have HZ0:=hdd hz0;clear HV2 HV hJ hIrow hmb hw0 hb0 hz0 hbw hmw hIr
       cases hS:Rv.arrS l ids with
       |none =>
        have HS:=hdd hS;have HSe:=hdd (knt HPre.out (by rw [HIds.out];exact hS));clear hS
        go_upto_region 25 with (first
         |(go_at_call 123
           go_loud (
           refine (HRk.out).mono ?_;intro en w3 hpost;unfold kfh at hpost;rw [HS.out] at hpost;obtain ⟨rfl,hb3⟩:=hpost;have HM3:=bhh hb3 HMw;have HB3:=hdd (HBw.out.next hb3);clear hb3))
         |fail)
        go_wp2_with (first
         |(refine kac rfl 107 _ _ rfl m rfl khf rfl 107 khf HM3.out (by kernel_rfl) rfl kii ?_
           intro w9 hw9 hk9;have HW9:=hdd hw9;have HB9:=hdd (HB3.out.trans (hk9.below HB3.out.size (fun q hq e=>by have:q=m:=e;have:=HMm.out;omega)));clear hw9 hk9)
         |fail)
        refine kcp rfl m 107 khf (0,0) _ rfl HW9.out rfl rfl (by kernel_rfl) rfl ?_;exact klz HSe.out (by simp) HB9.out
       |some S =>
        have HS:=hdd hS;have HSe:=hdd (kss HPre.out (by rw [HIds.out];exact hS));have hSl:S.length=l.length:=(Rv.arrS_lower hS).2.1;have HSl:=hdd hSl;have HAll:=hdd (Rv.arrS_lower hS).2.2;clear hS hSl
        go_upto_region 26 with (first
         |(go_at_call 123
           go_loud (
           refine (HRk.out).mono ?_;intro en w3 hpost;unfold kfh at hpost;rw [HS.out] at hpost;obtain ⟨rfl,vR,vP,pv,hR3⟩:=hpost;have HR3:=hdd hR3;clear hR3))
         |fail)
        obtain ⟨n,hn⟩:∃n,l.length=n:=⟨_,rfl⟩;have HNn:=hdd hn;have hSn:S.length=n:=by rw [HSl.out,hn]
        have HSn:=hdd hSn;obtain ⟨j0,hj0,hy0,hy1,hy2⟩:∃i,Tryz.prog.info? 3=some i∧i.zero=some (.int .i64 0)∧i.size=1∧i.bytes=8:=⟨_,rfl,by kernel_rfl,rfl,rfl⟩;have Hj:=hdd hj0;have Hy0:=hdd hy0;have Hy1:=hdd hy1;have Hy2:=hdd hy2;have hbz:bs<w3.heap.size:=kad HR3.out.head;have HBz:=hdd hbz
        have HCI:=hdd (fun (W:World) (hk:ka7 (Licit.One bs) w3 W)=>show IsSl (.slice aI l.length cI) (ids.map vS) W from by
         have h1:=kal HR3.out.ids fun q hq=>hk.block q (HR3.out.ids.lt q hq).2 (fun e=>kas HR3.out.ids HR3.out.head (by decide) q hq e)
         exact IsSl.of_owns (by rw [List.length_map];exact h1) (by rw [List.length_map,HIdl.out];unfold maxLen;omega))
        have HCR:=hdd (fun (W:World) (hk:ka7 (Licit.One bs) w3 W)=>show IsSl vR (S.map rkV) W from by
         have h1:=kal HR3.out.ranks fun q hq=>hk.block q (HR3.out.ranks.lt q hq).2 (fun e=>kas HR3.out.ranks HR3.out.head (by decide) q hq e)
         exact IsSl.of_owns (by rw [List.length_map];exact h1) (by rw [List.length_map,HSl.out];unfold maxLen;omega))
        clear hj0 hy0 hy1 hy2 hn hSn hbz
        go_wp2_with fail
        go_loopw [12,13] (fun s12 _ wl=>NsO S ids l.length bs (.slice a l.length cap) (.slice aI l.length cI) vR vP w3 s12 wl) (fun s12 _ _=>l.length - (intOf s12).toNat)
        case atStart=>exact ⟨0,kaf,Nat.zero_le _,rfl,HR3.out.head,World.ownsRow_nil _ _ _ _,ka7.refl _ _⟩
        case round =>
         unfold NsO at hrel;obtain ⟨k,vO,hk,rfl,hh,hO,hkp⟩:=hrel;obtain ⟨aO,cO,rfl⟩:=kag hO;have HH:=hdd hh;have HO:=hdd hO;have HK:=hdd hkp;have hPl:(Rv.ordP S ids k).length=k:=Rv.ordP_len S ids k;have HPl:=hdd hPl;clear hO hPl
         by_cases hlt:k<l.length
         ·have hlti:(k:Int)<(l.length:Int):=by omega
          have cb4:wr.cell? ⟨bs,4,none⟩=some (.slice aO k cO):=by rw [kaa hh];rfl
          clear hh hkp
          go_wp2_with (first
           |(at_builtin
             go_loud (
             refine wpList_append_own _ rfl _ _ 104 rfl w3.heap.size 3 j0 (.int .i64 0) 1 8 Tryz.underlying104 Hj.out Hy0.out Hy1.out Hy2.out rfl (by decide) _ k ((Rv.ordP S ids k).map vNt) rfl (HO.out.alloc _) ⟨wr.heap.size,0,none⟩ 1 1 [vNt k] rfl rfl (kbj (kai _ _)) (by simp [Value.oneCell']) (by unfold maxLen;omega) (by omega) (by have:=HK.out.size;simp;omega) ?_;intro v5 w5 ho5 hg5 _
             have HO5:=hdd (show w5.ownsRow w3.heap.size 3 1 v5 (k+1) (((Rv.ordP S ids k).take k++k :: (Rv.ordP S ids k).drop k).map vNt) by
              rw [List.take_of_length_le (by rw [HPl.out];exact Nat.le_refl _),List.drop_of_length_le (by rw [HPl.out];exact Nat.le_refl _),List.map_append];exact ho5)
             have HH5:=hdd ((kdk (kah (o':=.cells #[vNt k] 3) HH.out) (HO.out.alloc _) (by decide) hg5).trans (kah HH.out));have HK5:=hdd (show ka7 (Licit.One bs) w3 w5 from (HK.out.alloc _).grown hg5 (fun q hq=>.inl (HO.out.lt q hq).1));obtain ⟨a5,c5,rfl⟩:=kag ho5;clear ho5 hg5))
           |(refine kae rfl 104 _ _ rfl bs 4 rfl (.slice a5 (k+1) c5) rfl rfl rfl _ 107 HH5.out (by simp) (by kernel_rfl) ?_
             intro w6 hw6 hk6;have HH6:=hdd (show w6.heap[bs]? = some (.cells (kew (.slice a l.length cap) (.slice aI l.length cI) vR vP (.slice a5 (k+1) c5)) 107 (0,0)) from hw6);have HO6:=hdd (kal HO5.out fun q hq=>hk6.block q (HO5.out.lt q hq).2 (fun e=>kas HO5.out HH5.out (by decide) q hq e));have HK6:=hdd (HK5.out.trans hk6);clear hw6 hk6)
           |fail)
          obtain ⟨g4,cg,hv4,-,-,hcg⟩:=kax HO6.out (by omega);simp only [Value.slice.injEq,true_and] at hv4;obtain ⟨rfl,rfl⟩:=hv4;obtain ⟨xk,hxk⟩:=HAll.out k (by rw [HSl.out];exact hlt);have HXk:=hdd hxk;clear cb4 hcg hxk
          go_frame
          go_loopw [13] (fun s13 wl=>NsI S ids k bs (.slice a l.length cap) (.slice aI l.length cI) vR vP (.slice (some ⟨g4,0,none⟩) (k+1) c5) w3 s13 wl) (fun s13 _=>(intOf s13).toNat)
          case atStart=>exact ⟨k,k,Nat.le_refl _,rfl,HH6.out,HO6.out,fun j h1 h2=>by omega,HK6.out⟩
          case round =>
           unfold NsI at hrel;obtain ⟨q,g,hq,rfl,hh,hO,hbf,hkp⟩:=hrel;have HH:=hdd hh;have HOr:=hdd hO;have HBf:=hdd hbf;have HKp:=hdd hkp;have cb4:wr.cell? ⟨bs,4,none⟩=some (.slice (some ⟨g4,0,none⟩) (k+1) c5):=by rw [kaa hh];rfl
           have cb0:wr.cell? ⟨bs,0,none⟩=some (.slice a l.length cap):=by rw [kaa hh];rfl
           have cb1:wr.cell? ⟨bs,1,none⟩=some (.slice aI l.length cI):=by rw [kaa hh];rfl
           have cb2:wr.cell? ⟨bs,2,none⟩=some vR:=by rw [kaa hh];rfl
           have cb3:wr.cell? ⟨bs,3,none⟩=some vP:=by rw [kaa hh];rfl
           clear hh hO hbf hkp
           cases q with
           |zero =>
            go_upto_region 31 with fail
            refine kaj (S:=fun _=>True) (by kernel_rfl) trivial (fun hHeld=>?_);clear cb0 cb1 cb2 cb3;have hcb4:wr.drew.cell? ⟨bs,4,none⟩=some (.slice (some ⟨g4,0,none⟩) (k+1) c5):=cb4;have hkd:ka7 (Licit.One bs) w3 wr.drew:=HKp.out.drew;have hhd:wr.drew.heap[bs]? = some (.cells (kew (.slice a l.length cap) (.slice aI l.length cI) vR vP (.slice (some ⟨g4,0,none⟩) (k+1) c5)) 107 (0,0)):=HH.out;have hod:wr.drew.ownsRow w3.heap.size 3 1 (.slice (some ⟨g4,0,none⟩) (k+1) c5) (k+1) (((Rv.ordP S ids k).take 0++g :: (Rv.ordP S ids k).drop 0).map vNt):=HOr.out;generalize wr.drew=wz at hcb4 hkd hhd hod ⊢;simp only [List.toList_toArray,len,kat]
            iterate 3 (refine tz 0 ?_;simp only [Act.put,s1,s2,s3])
            iterate 9 (refine ps 3 rfl rfl rfl (by kernel_rfl) (fun _ _ _ h=>h) (by assumption) ?_;simp only [Act.put,s1,s2,s3])
            (refine tz 12 ?_;simp only [Act.put,s1,s2,s3])
            refine wpAnyH_done (by kernel_rfl) ?_ _
            try simp only [Exit.then]
            have HOd:=hdd hod;have HHd:=hdd hhd;have HKd:=hdd hkd;clear hod hhd hkd;obtain ⟨cu,hcu,hcz,-⟩:=kdg HOd.out;have HCu:=hdd hcu;have hcz2:0<cu.size:=by omega
            clear hcu hcz
            go_wp2_with (first
             |(refine kae rfl 3 _ _ rfl g4 (0) rfl (.int .i64 (k:Int)) rfl rfl rfl _ 3 HCu.out hcz2 (by kernel_rfl) ?_
               intro w8 hw8 hk8
               have HF:=hdd (show NsO S ids l.length bs (.slice a l.length cap) (.slice aI l.length cI) vR vP w3 (.int .i64 ((k+1:Nat):Int)) w8 from by
                have h1:=kgr (i:=0) (v:=vNt k) HOd.out HCu.out hw8;rw [krr (by rw [HPl.out];omega)] at h1;refine ⟨k+1,_,by omega,rfl,(hk8.block bs (kad HHd.out) (fun e=>kas HOd.out HHd.out (by decide) g4 rfl (by have:bs=g4:=e;exact this.symm))).trans HHd.out,?_,kif HKd.out hk8 (HOd.out.lt g4 rfl).1⟩;rw [Rv.ordP_back (k:=0) (by omega) HBf.out (.inl rfl)];exact h1)
               clear hw8 hk8)
             |fail)
            go_roundw
            case rel=>first|exact HF.out|((repeat apply Exists.intro);exact ⟨HF.out,rfl⟩)
            case measure=>simp [intOf];omega
           |succ p =>
            have hpk:p<k:=by omega
            have hpl:p<(Rv.ordP S ids k).length:=by rw [HPl.out];exact hpk
            obtain ⟨z,hz⟩:∃z,(Rv.ordP S ids k).getD p 0=z:=⟨_,rfl⟩
            have hzk:z<k:=by
             rw [←hz,List.getD_eq_getElem?_getD,List.getElem?_eq_getElem hpl];exact Rv.ordP_lt (List.getElem_mem hpl)
            have hcp:wr.cell? ⟨g4,p,none⟩=some (.int .i64 (z:Int)):=by
             rw [kce HOr.out (i:=p) (by simp [HPl.out];omega),ktv hpl,hz]
            obtain ⟨xz,hxz⟩:=HAll.out z (by rw [HSl.out];omega);have HBef:=hdd (fun (W:World) (hk:ka7 (Licit.One bs) w3 W)=>kqc (.slice a l.length cap) (.slice aI l.length cI) vR vP (.slice (some ⟨g4,0,none⟩) (k+1) c5) ids S k z xk xz W (HCI.out W hk) (HCR.out W hk) (by rw [HIdl.out,HSl.out]) (by rw [HSl.out];exact hlt) (by rw [HSl.out];omega) HXk.out hxz);have HSh:=hdd (kte (g:=g) hpl);rw [hz] at HSh;have HZ:=hdd hz;have hqd:IntKind.i64.wrap (p:Int)=(p:Int):=by rw [IntKind.wrap_i64];omega
            have hp1:(0:Int)<((p+1:Nat):Int):=by omega
            have hp0:(0:Int)≤(p:Int)+1:=by omega
            have hpk1:(p:Int)<(k:Int)+1:=by omega
            have hpk2:(p:Int)+1<(k:Int)+1:=by omega
            have hpk3:(p:Int)<(k:Int):=by omega
            obtain ⟨bf,hbf⟩:∃b,Rv.befI S ids k z=b:=⟨_,rfl⟩;rw [hbf] at HBef;have HBv:=hdd hbf;clear hz hxz hbf hpl
            go_upto_region 31 with fail
            have HSq:=hdd (fun (W:World) (hb:Below wr.heap.size wr W)=>show (W.cell? ⟨bs,0,none⟩=some (.slice a l.length cap)∧W.cell? ⟨bs,1,none⟩=some (.slice aI l.length cI)∧W.cell? ⟨bs,2,none⟩=some vR∧W.cell? ⟨bs,3,none⟩=some vP∧W.cell? ⟨bs,4,none⟩=some (.slice (some ⟨g4,0,none⟩) (k+1) c5)∧W.cell? ⟨g4,p,none⟩=some (.int .i64 (z:Int))) from
             ⟨(hb.cell (p:=⟨bs,0,none⟩) (World.block_lt_of_cell? _ _ cb0)).trans cb0,(hb.cell (p:=⟨bs,1,none⟩) (World.block_lt_of_cell? _ _ cb1)).trans cb1,(hb.cell (p:=⟨bs,2,none⟩) (World.block_lt_of_cell? _ _ cb2)).trans cb2,(hb.cell (p:=⟨bs,3,none⟩) (World.block_lt_of_cell? _ _ cb3)).trans cb3,(hb.cell (p:=⟨bs,4,none⟩) (World.block_lt_of_cell? _ _ cb4)).trans cb4,(hb.cell (p:=⟨g4,p,none⟩) (World.block_lt_of_cell? _ _ hcp)).trans hcp⟩)
            refine kaj (S:=fun W=>W.cell? ⟨bs,0,none⟩=some (.slice a l.length cap)∧W.cell? ⟨bs,1,none⟩=some (.slice aI l.length cI)∧W.cell? ⟨bs,2,none⟩=some vR∧W.cell? ⟨bs,3,none⟩=some vP∧W.cell? ⟨bs,4,none⟩=some (.slice (some ⟨g4,0,none⟩) (k+1) c5)∧W.cell? ⟨g4,p,none⟩=some (.int .i64 (z:Int))) (by kernel_rfl) (HSq.out wr.drew (Below.refl _ _).drew) (fun hHeld=>?_);have hbz:Below wr.heap.size wr wr.drew:=(Below.refl _ _).drew;clear cb0 cb1 cb2 cb3 cb4 hcp;generalize wr.drew=wz at hbz hHeld ⊢;simp only [List.toList_toArray,len,kat]
            iterate 11 (refine tz 0 ?_;simp only [Act.put,s1,s2,s3])
            refine ar2 11 (by kernel_rfl) rfl (fun K hK=>?_);go_simp
            refine (HBef.out _ (HKp.out.trans (ka7.of_below hbz))).mono ?_;rintro en wX ⟨rfl,hbX⟩;have hbY:=hbz.next hbX;clear hHeld;refine hK.out _ _ (HSq.out _ hbY) (fun hHeld=>?_);clear hK K
            try simp only [Act.put,s1,s2,s3,s4,s5,s6]
            (refine tz 12 ?_;simp only [Act.put,s1,s2,s3])
            refine wpAnyH_done (by kernel_rfl) ?_ _
            try simp only [Exit.then]
            have HKd:=hdd (show ka7 (Licit.One bs) w3 wX from HKp.out.trans (ka7.of_below hbY));have HHd:=bhh hbY HH;have HOd:=hdd (kal HOr.out fun q hq=>hbY.block q (HOr.out.lt q hq).2);have HSX:=hdd hHeld;clear hbX hbz hbY hHeld HSq hqd
            cases bf with
            |true =>
             have hc4:wX.cell? ⟨bs,4,none⟩=some (.slice (some ⟨g4,0,none⟩) (k+1) c5):=HSX.out.2.2.2.2.1;have hcp:wX.cell? ⟨g4,p,none⟩=some (.int .i64 (z:Int)):=HSX.out.2.2.2.2.2;have HS2:=hdd (fun (W:World) (h1:W.heap[bs]? = some (.cells (kew (.slice a l.length cap) (.slice aI l.length cI) vR vP (.slice (some ⟨g4,0,none⟩) (k+1) c5)) 107 (0,0))) (h2:W.cell? ⟨g4,p,none⟩=some (.int .i64 (z:Int)))=>And.intro ((kaa h1 4).trans rfl:W.cell? ⟨bs,4,none⟩=some (.slice (some ⟨g4,0,none⟩) (k+1) c5)) h2);obtain ⟨cu,hcu,hcz,-⟩:=kdg HOd.out;have HCu:=hdd hcu;have hcz2:p+1<cu.size:=by omega
             clear hcu hcz
             go_upto_region 32 with fail
             have hqd:IntKind.i64.wrap (p:Int)=(p:Int):=by rw [IntKind.wrap_i64];omega
             refine kaj (S:=fun W=>W.cell? ⟨bs,4,none⟩=some (.slice (some ⟨g4,0,none⟩) (k+1) c5)∧W.cell? ⟨g4,p,none⟩=some (.int .i64 (z:Int))) (by kernel_rfl) (HS2.out wX.drew HHd.out hcp) (fun hHeld=>?_);have hcud:wX.drew.heap[g4]? = some (.cells cu 3 (0,0)):=HCu.out;have hhd:wX.drew.heap[bs]? = some (.cells (kew (.slice a l.length cap) (.slice aI l.length cI) vR vP (.slice (some ⟨g4,0,none⟩) (k+1) c5)) 107 (0,0)):=HHd.out;have hod:wX.drew.ownsRow w3.heap.size 3 1 (.slice (some ⟨g4,0,none⟩) (k+1) c5) (k+1) (((Rv.ordP S ids k).take (p+1)++g :: (Rv.ordP S ids k).drop (p+1)).map vNt):=HOd.out;have hkd:ka7 (Licit.One bs) w3 wX.drew:=HKd.out.drew;have hcpd:wX.drew.cell? ⟨g4,p,none⟩=some (.int .i64 (z:Int)):=hcp;clear hc4 hcp;generalize wX.drew=wy at hcud hhd hod hkd hcpd hHeld ⊢;simp only [List.toList_toArray,len,kat]
             iterate 10 (refine tz 0 ?_;simp only [Act.put,s1,s2,s3])
             refine ar2 10 (by kernel_rfl) rfl (fun K hK=>?_);refine kan rfl 3 _ _ rfl g4 (p+1) rfl (.int .i64 (z:Int)) rfl rfl rfl _ 3 hcud hcz2 (by kernel_rfl) ?_;intro w8 hw8 hk8;have hne:bs≠g4:=fun e=>kas hod hhd (by decide) g4 rfl e.symm
             have hh8:=(hk8.block bs (kad hhd) hne).trans hhd;have ho8:=kgr (i:=p+1) (v:=vNt z) hod hcud hw8;rw [HSh.out] at ho8
             have hc8:w8.cell? ⟨g4,p,none⟩=some (.int .i64 (z:Int)):=by
              rw [kaa hw8,Array.getElem?_setIfInBounds_ne (by omega)];rw [kaa hcud] at hcpd;exact hcpd
             have HF:=hdd (show NsI S ids k bs (.slice a l.length cap) (.slice aI l.length cI) vR vP (.slice (some ⟨g4,0,none⟩) (k+1) c5) w3 (.int .i64 (p:Int)) w8 from
              ⟨p,z,by omega,rfl,hh8,ho8,fun j h1 h2=>by
                rcases Nat.lt_or_ge p j with c|c
                ·exact HBf.out j c h2
                ·obtain rfl:j=p:=by omega
                 rw [HZ.out,HBv.out],kif hkd hk8 (hod.lt g4 rfl).1⟩)
             refine hK.out _ _ (HS2.out _ hh8 hc8) (fun _=>?_);clear hK K
             try simp only [Act.put,s1,s2,s3,s4,s5,s6]
             refine wpAnyH_done (by kernel_rfl) ?_ _
             try simp only [Exit.then]
             clear hHeld hcud hhd hod hkd hcpd hw8 hk8 hne hh8 ho8 hc8 hqd
             go_wp2_with fail
             go_roundw
             case rel=>first|exact HF.out|((repeat apply Exists.intro);exact ⟨HF.out,rfl⟩)
             case measure=>first|(simp [intOf];done)|(simp [intOf];omega)
            |false =>
             have hc4:wX.cell? ⟨bs,4,none⟩=some (.slice (some ⟨g4,0,none⟩) (k+1) c5):=HSX.out.2.2.2.2.1;obtain ⟨cu,hcu,hcz,-⟩:=kdg HOd.out;have HCu:=hdd hcu;have hcz2:p+1<cu.size:=by omega
             clear hcu hcz
             go_wp2_with (first
              |(refine kae rfl 3 _ _ rfl g4 (p+1) rfl (.int .i64 (k:Int)) rfl rfl rfl _ 3 HCu.out hcz2 (by kernel_rfl) ?_
                intro w8 hw8 hk8
                have HF:=hdd (show NsO S ids l.length bs (.slice a l.length cap) (.slice aI l.length cI) vR vP w3 (.int .i64 ((k+1:Nat):Int)) w8 from by
                 have h1:=kgr (i:=p+1) (v:=vNt k) HOd.out HCu.out hw8;rw [krr (by rw [HPl.out];omega)] at h1;refine ⟨k+1,_,by omega,rfl,(hk8.block bs (kad HHd.out) (fun e=>kas HOd.out HHd.out (by decide) g4 rfl (by have:bs=g4:=e;exact this.symm))).trans HHd.out,?_,kif HKd.out hk8 (HOd.out.lt g4 rfl).1⟩;rw [Rv.ordP_back (k:=p+1) (by omega) HBf.out (.inr (by show Rv.befI S ids k ((Rv.ordP S ids k).getD p 0)=false;rw [HZ.out,HBv.out]))];exact h1)
                clear hw8 hk8)
              |fail)
             go_roundw
             case rel=>first|exact HF.out|((repeat apply Exists.intro);exact ⟨HF.out,rfl⟩)
             case measure=>simp [intOf];omega
         ·have hke:l.length=k:=by omega
          subst hke;have hni4:¬ (l.length:Int)<(l.length:Int):=by omega
          have hbsm:bs≠m:=by have:=HBs.out;omega
          have hmz:m<w3.heap.size:=by have:=HBz.out;have:=HBs.out;omega
          have hM3:w3.heap[m]? = some (.cells khf 107 (0,0)):=kab HR3.out.below (kad HMw.out) HMw.out;have hM:wr.heap[m]? = some (.cells khf 107 (0,0)):=(HK.out.block m hmz (fun e=>hbsm (by have:m=bs:=e;exact this.symm))).trans hM3;have HM:=hdd hM
          have hone:(kew (.slice a l.length cap) (.slice aI l.length cI) vR vP (.slice aO l.length cO)).all (·.oneCell')=true:=by
           obtain ⟨_,_,e1⟩:=kag HR3.out.ranks;obtain ⟨_,_,e2⟩:=kag HR3.out.pasts;rw [e1,e2];simp [kew,Value.oneCell']
          have HOne:=hdd hone;clear hone hM hh hkp
          go_wp2_with (first
           |(refine wpList_load_row rfl 107 _ rfl bs rfl 107 (kew (.slice a l.length cap) (.slice aI l.length cI) vR vP (.slice aO l.length cO)) (0,0) _ HH.out rfl rfl (by kernel_rfl) ?_)
           |(refine kac rfl 107 _ _ rfl m rfl (kew (.slice a l.length cap) (.slice aI l.length cI) vR vP (.slice aO l.length cO)) rfl 107 khf HM.out (by kernel_rfl) rfl HOne.out ?_
             intro w9 hw9 hk9;have HW9:=hdd hw9;have HK9:=hdd hk9;clear hw9 hk9)
           |fail)
          refine kcp rfl m 107 _ (0,0) _ rfl HW9.out rfl rfl (by kernel_rfl) rfl ?_
          have hst:∀{v:Value} {T:TypeId} {n':Nat} {xs:List Value} {base:Nat},w3.ownsRow base T 1 v n' xs→T≠107→w9.ownsRow base T 1 v n' xs:=fun {v T n' xs base} ho hT=>kal ho fun q hq=>by
           have h1:=(ho.lt q hq).2;have h2:q≠bs:=kas ho HR3.out.head hT q hq;have h3:q≠m:=kas ho hM3 hT q hq;exact (HK9.out.block q (Nat.lt_of_lt_of_le h1 HK.out.size) h3).trans (HK.out.block q h1 h2)
          have hOw:w9.ownsRow w3.heap.size 3 1 (.slice aO l.length cO) l.length ((Rv.ordP S ids l.length).map vNt):=kal HO.out fun q hq=>HK9.out.block q (HO.out.lt q hq).2 (fun e=>by have:q=m:=e;have:=(HO.out.lt q hq).1;omega)
          have hb9:Below w.heap.size w w9:=by
           have h1:=HBw.out.trans (HR3.out.below.mono HBw.out.size);have h2:=h1.trans (HK.out.below h1.size (fun q hq e=>by have:q=bs:=e;have:=HMm.out;have:=HBs.out;omega));exact h2.trans (HK9.out.below h2.size (fun q hq e=>by have:q=m:=e;have:=HMm.out;omega))
          unfold koe;rw [HSe.out];refine ⟨hb9,_,rfl,fun hc=>absurd rfl hc,fun _=>⟨S,_,_,_,_,pv,by rw [HIds.out];exact HS.out,HSl.out,rfl,?_⟩⟩;have hm64:l.length≤maxLen:=by unfold maxLen;omega
          refine ⟨?_,?_,?_,fun i hi=>?_,?_⟩
          ·rw [HIds.out]
           have h1:=hst HR3.out.ids (by decide);exact IsSl.of_owns (by rw [List.length_map];exact h1) (by rw [List.length_map,HIdl.out];exact hm64)
          ·exact IsSl.of_owns (by rw [List.length_map];exact hst HR3.out.ranks (by decide)) (by rw [List.length_map,HSl.out];exact hm64)
          ·have h1:=hst HR3.out.pasts (by decide)
           rw [HSl.out] at h1;exact IsSl.of_owns (by rw [List.length_map,List.length_range];exact h1) (by rw [List.length_map,List.length_range];exact hm64)
          ·have hiS:i<S.length:=by rw [HSl.out];exact hi
           have h1:=hst (HR3.out.rows i hiS) (by decide);have hpl:((kia S i).map vBo).length=S.length:=by have:=h1.1;rw [this,Nat.mul_one]
           exact IsSl.of_owns (by rw [hpl];exact h1) (by rw [hpl,HSl.out];exact hm64)
          ·rw [HIds.out,←Rv.ordP_all,HSl.out]
           have hpl:((Rv.ordP S ids l.length).map vNt).length=l.length:=by rw [List.length_map,Rv.ordP_len]
           exact IsSl.of_owns (by rw [hpl];exact hOw) (by rw [hpl];exact hm64)
end Go.Proofs.YtknpbekoenbphaaGreatDoor
