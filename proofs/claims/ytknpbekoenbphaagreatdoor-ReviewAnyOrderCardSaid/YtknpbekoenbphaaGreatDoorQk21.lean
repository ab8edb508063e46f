/- Parts of the proofs: WkRvK, WkRvL, WkRvG. No condition beyond those at each theorem. -/
import Derived.Test.YtknpbekoenbphaaGreatDoorQk20
set_option linter.unusedVariables false
set_option linter.unusedSimpArgs false
set_option maxHeartbeats 16000000
set_option maxRecDepth 100000
namespace Go.Proofs.YtknpbekoenbphaaGreatDoor
open Go Go.RowKit Licit
theorem kbn {P:Program} {ops:Array Oper} {rest:List Oper} {op:Oper} {a:Act} {w:World} {Q:Exit→Act→World→Prop} (hw:Region.wanted op (yielded ops a.tmps)=true) (ty:TypeId) (x:Operand) (ho:op.op = .load ty x)
 (b o:Nat) (hx:a.eval x = .pointer (some ⟨b,o,none⟩)) (cs:List Value) (d:TypeDesc) (hc:w.rangeAt b o cs)
 (hu:P.underlying ty=some d) (hd:d.isRow=true) (hi:(P.info? ty).map (·.size)=some cs.length)
 (h:wpList P ops Q rest (a.put op.dst (.agg cs.toArray)) w):wpList P ops Q (op :: rest) a w :=
 BigFrame.wpList_want hw fun _ hK=>wp_load_mid ty x ho b o hx cs d hc hu hd hi (hK _ _ h)
theorem kua {P:Program} (x y:Bs) (ats:Array TypeId) (t:TypeId) (w:World):(Builtin.min_ ats t #[.string (B x),.string (B y)]).run P w = .ok (.string (B (Rv.minB x y))) w:=by
 have l1:=kcc x y;unfold Rv.minB
 cases h2:Rv.ltB y x
 ·cases h1:Rv.ltB x y
  ·have e:=Rv.ltB_tot h1 h2
   subst e;simp [Builtin.min_,Builtin.min2,Op.stringOp,asBool,l1,h1,Result.andThen]
  ·simp [Builtin.min_,Builtin.min2,Op.stringOp,asBool,l1,h1,Result.andThen]
 ·have h1:=Rv.ltB_asymm h2
  have hne:x≠y:=fun e=>by rw [e,Rv.ltB_irr] at h2;cases h2
  have q:=kby hne;simp [Builtin.min_,Builtin.min2,Op.stringOp,asBool,l1,h1,q,Result.andThen]
theorem kuo {P:Program} (x y:Bs) (ats:Array TypeId) (t:TypeId) (w:World):(Builtin.max_ ats t #[.string (B x),.string (B y)]).run P w = .ok (.string (B (Rv.maxB x y))) w:=by
 have l1:=kcc x y;have l2:=kcc y x;unfold Rv.maxB
 cases h1:Rv.ltB x y
 ·cases h2:Rv.ltB y x
  ·have e:=Rv.ltB_tot h1 h2
   subst e;simp [Builtin.max_,Builtin.max2,Op.stringOp,asBool,l1,h1,Result.andThen]
  ·simp [Builtin.max_,Builtin.max2,Op.stringOp,asBool,l1,l2,h1,h2,Result.andThen]
 ·have h2:=Rv.ltB_asymm h1
  have hne:x≠y:=fun e=>by rw [e,Rv.ltB_irr] at h1;cases h1
  have q:=kby hne;have q2:=kby (Ne.symm hne);simp [Builtin.max_,Builtin.max2,Op.stringOp,asBool,l1,l2,h1,h2,q,q2,Result.andThen]
theorem kn2 {P:Program} {w:World} {ops:Array Oper} {rest:List Oper} {o:Oper} {a:Act} {Q:Exit→Act→World→Prop} (hgd:o.guard=none) (x y:Operand) (t:TypeId) (ho:o.op = .call { callee:=.builtin .min,args:=#[x,y],argTypes:=#[t,t] })
 (s u:Bs) (hx:a.eval x = .string (B s)) (hy:a.eval y = .string (B u)) (h:wpList P ops Q rest (a.put o.dst (.string (B (Rv.minB s u)))) w):wpList P ops Q (o :: rest) a w:=by
 refine wpList_plain hgd fun K' hK'=>?_
 have hr:=kua (P:=P) s u #[t,t] o.type w;unfold Oper.wp execOp;simp only [ho,resolve,invoke,builtin,Sem.run_bind,Sem.run_pure,Result.andThen_ok,List.map_toArray,List.map_cons,List.map_nil,hx,hy,hr];exact hK' _ _ h
theorem kmt {P:Program} {w:World} {ops:Array Oper} {rest:List Oper} {o:Oper} {a:Act} {Q:Exit→Act→World→Prop} (hgd:o.guard=none) (x y:Operand) (t:TypeId) (ho:o.op = .call { callee:=.builtin .max,args:=#[x,y],argTypes:=#[t,t] })
 (s u:Bs) (hx:a.eval x = .string (B s)) (hy:a.eval y = .string (B u)) (h:wpList P ops Q rest (a.put o.dst (.string (B (Rv.maxB s u)))) w):wpList P ops Q (o :: rest) a w:=by
 refine wpList_plain hgd fun K' hK'=>?_
 have hr:=kuo (P:=P) s u #[t,t] o.type w;unfold Oper.wp execOp;simp only [ho,resolve,invoke,builtin,Sem.run_bind,Sem.run_pure,Result.andThen_ok,List.map_toArray,List.map_cons,List.map_nil,hx,hy,hr];exact hK' _ _ h
theorem kxm (d:Rv.Dc):(dvC d).all (·.oneCell')=true:=by simp [dvC,Value.oneCell']
def kh1 (l:List Rv.Dc) (pre:List (Bs × Bs)) (da:Rv.Dc) (k j:Nat):List (Bs × Bs):=pre++(((l.drop (k+1)).take j).filter (Rv.disp da)).map (ksm da)
theorem klu (l:List Rv.Dc) (a:Option Addr) (cap:Nat) (w:World) (base:Nat) (hown:w.ownsRow base 56 10 (.slice a l.length cap) l.length (dsL l)) (hm:l.length≤1024) :
 Calls Tryz.prog 58 #[.slice a l.length cap] w fun en w'=>∃v',en = .returned v'∧Below w.heap.size w w'∧w'.ownsRow w.heap.size 116 2 v' (Rv.dispsOf l).length (prL (Rv.sortP (Rv.dispsOf l))):=by
 have HOw:=hdd hown;have hln:=ktn l;have hmul:l.length*l.length≤1024*1024:=Nat.mul_le_mul hm hm;have HLn:=hdd (Nat.le_trans hln hmul)
 have hlc:l.length≤cap:=by
  rcases hown.2 with ⟨h1,h2⟩|⟨g,c,cur,h1,_,_,h2,_⟩
  ·omega
  ·cases h1;exact h2
 have HOd:=hdd kxm;obtain ⟨i0,hi0,hz0,hz1,hz2⟩:∃i,Tryz.prog.info? 116=some i∧i.zero=some (prV ([],[]))∧i.size=2∧i.bytes=32:=⟨_,rfl,by kernel_rfl,rfl,rfl⟩;have Hi:=hdd hi0;have Hz0:=hdd hz0;have Hz1:=hdd hz1;have Hz2:=hdd hz2;clear hown hln hmul hi0 hz0 hz1 hz2
 go_enter Tryz.func58,Tryz.ntmps58
 go_wp2
 go_loopw [3,5,6,8,11] (fun s3 _ _ _ n wr=>∃(k:Nat) (pre:List (Bs × Bs)),k≤l.length∧n = .int .i64 k∧pre++Rv.dispsOf (l.drop k)=Rv.dispsOf l∧Below w.heap.size w wr∧wr.ownsRow w.heap.size 116 2 s3 pre.length (prL pre)) (fun _ _ _ _ n _=>l.length - (intOf n).toNat)
 case atStart=>exact ⟨0,[],Nat.zero_le _,rfl,rfl,Below.refl _ _,World.ownsRow_nil _ _ _ _⟩
 case round =>
  obtain ⟨k,pre,hk,rfl,hp,hb,ho⟩:=hrel;have HP:=hdd hp;have HB:=hdd hb;have HO:=hdd ho;clear hp hb ho
  by_cases hlt:k<l.length
  ·obtain ⟨g0,cv,hve,-,hg0,-⟩:=kax HOw.out (by omega)
   simp only [Value.slice.injEq,true_and] at hve;obtain ⟨rfl,rfl⟩:=hve;obtain ⟨da,hda⟩:∃d,l[k]=d:=⟨_,rfl⟩;have HR0:=hdd (fun (W:World) (hb:Below w.heap.size w W) (i:Nat) (hi:i<l.length)=>km3 (kci HOw.out (w':=W) fun q hq=>hb.block q (HOw.out.lt q hq).2) hi);have hra:=HR0.out wr HB.out k hlt;rw [hda] at hra;have HRa:=hdd hra;have HDa:=hdd hda;have hcons:l.drop k=da :: l.drop (k+1):=by rw [←hda];exact List.drop_eq_getElem_cons hlt
   have HCons:=hdd hcons;clear hra hda hcons
   go_upto_region 6 with (first
    |(refine wpList_load_mid rfl 56 _ rfl g0 _ rfl (dvC da).toList _ HRa.out rfl rfl (by kernel_rfl) ?_)
    |(refine kac rfl 56 _ _ rfl wr.heap.size rfl (dvC da) rfl 56 (dcC false false false) (kak rfl rfl) (by kernel_rfl) rfl (HOd.out da) ?_
      intro w2 hw2 hk2;have HW2:=hdd hw2;have HB2:=hdd (show Below wr.heap.size wr w2 from ((Below.refl wr.heap.size wr).alloc (Nat.le_refl _) _).trans (hk2.below (B:=wr.heap.size) (by simp) (fun q hq e=>by have:q=wr.heap.size:=e;omega)));clear hw2 hk2)
    |fail)
   have hk1:(0:Int)≤(k:Int)+1:=by omega
   have hk2:(k:Int)+1≤(l.length:Int):=by omega
   have hk3:(l.length:Int)≤(cap:Int):=by omega
   have hkc:(k:Int)+1≤(cap:Int):=by omega
   have HO2:=hdd (show w2.ownsRow w.heap.size 116 2 u3 pre.length (prL pre) from kcd HO.out (w':=w2) (fun q _ hq=>HB2.out.block q hq))
   by_cases hcap:k+1=cap
   ·have hkl:k+1=l.length:=by omega
    have hdr:l.drop (k+1)=[]:=List.drop_eq_nil_of_le (by omega)
    have HP2:=hdd (show pre++Rv.dispsOf (l.drop (k+1))=Rv.dispsOf l by
     rw [←HP.out,HCons.out,hdr];rfl)
    have hci:((k:Int)+1=(cap:Int))=True:=by simp;omega
    have hci2:¬ (k:Int)+1<(cap:Int):=by omega
    have hz:l.length - (k+1)=0:=by omega
    have HKl:=hdd hkl;clear hdr hcap hkl
    go_wp2
    refine wp_loop_rounds 1 ?_;rw [rounds_succ]
    go_wp2
    go_roundw
    have hkl:=HKl.out
    case rel=>first|exact ⟨k+1,pre,by omega,by go_num,HP2.out,HB.out.trans (HB2.out.mono HB.out.size),HO2.out⟩|((repeat apply Exists.intro);exact ⟨⟨k+1,pre,by omega,by go_num,HP2.out,HB.out.trans (HB2.out.mono HB.out.size),HO2.out⟩,rfl⟩)
    case measure=>simp [intOf];omega
   ·have hne:¬ (k:Int)+1=(cap:Int):=by omega
    have hlt3:(k:Int)+1<(cap:Int):=by omega
    go_wp2
    obtain ⟨wo,rfl⟩:∃wo:World,wo=wr:=⟨_,rfl⟩
    go_loopw [3,8,21] (fun s3 _ n wx=>∃j:Nat,j≤l.length - (k+1)∧n = .int .i64 j∧Below w.heap.size w wx∧wx.heap[wo.heap.size]? = some (.cells (dvC da) 56 (0,0))∧wx.ownsRow w.heap.size 116 2 s3 (kh1 l pre da k j).length (prL (kh1 l pre da k j))) (fun _ _ n _=>l.length - (k+1) - (intOf n).toNat)
    case atStart=>exact ⟨0,Nat.zero_le _,rfl,HB.out.trans (HB2.out.mono HB.out.size),HW2.out,by simpa [kh1] using HO2.out⟩
    case round =>
     obtain ⟨j,hj,rfl,hb,hwa,ho⟩:=hrel;have HBx:=hdd hb;have HAx:=hdd hwa;have HOx:=hdd ho;clear hb hwa ho
     by_cases hlj:j<l.length - (k+1)
     ·have hji:k+1+j<l.length:=by omega
      obtain ⟨db,hdb⟩:∃d,l[k+1+j]=d:=⟨_,rfl⟩;have hrb:=HR0.out wr HBx.out (k+1+j) hji;rw [hdb,show (k+1+j)*10=(k+1)*10+j*10 by omega] at hrb;have HRb:=hdd hrb
      have hsuc:kh1 l pre da k (j+1)=kh1 l pre da k j++if Rv.disp da db=true then [ksm da db] else []:=by
       unfold kh1;have hjl:j<(l.drop (k+1)).length:=by rw [List.length_drop];exact hlj
       rw [List.take_succ_eq_append_getElem hjl,List.filter_append,List.map_append,List.append_assoc];have e:(l.drop (k+1))[j]=db:=by rw [List.getElem_drop];exact hdb
       rw [e]
       by_cases h:Rv.disp da db=true
       ·simp [h]
       ·simp [h]
      have HSuc:=hdd hsuc
      have hle:(kh1 l pre da k (j+1)).length≤1048576:=by
       have h1:=HLn.out
       have h2:(kh1 l pre da k (j+1)).length≤(Rv.dispsOf l).length:=by
        rw [←HP.out,HCons.out,kj6];unfold kh1;simp only [List.length_append,List.length_map]
        have:=((List.take_sublist (j+1) (l.drop (k+1))).filter (Rv.disp da)).length_le
        omega
       omega
      have HLe:=hdd hle;clear hrb hsuc hle hdb
      go_upto_region 9 with (first
       |(refine wpList_load_mid rfl 56 _ rfl g0 _ rfl (dvC db).toList _ HRb.out rfl rfl (by kernel_rfl) ?_)
       |(refine kac rfl 56 _ _ rfl wr.heap.size rfl (dvC db) rfl 56 (dcC false false false) (kak rfl rfl) (by kernel_rfl) rfl (HOd.out db) ?_
         intro w3 hw3 hk3;have HW3:=hdd hw3;have HB3:=hdd (show Below wr.heap.size wr w3 from ((Below.refl wr.heap.size wr).alloc (Nat.le_refl _) _).trans (hk3.below (B:=wr.heap.size) (by simp) (fun q hq e=>by have:q=wr.heap.size:=e;omega)));clear hw3 hk3)
       |fail)
      have HAw:=hdd (fun (W:World) (hb:Below w3.heap.size w3 W)=>show W.heap[wo.heap.size]? = some (.cells (dvC da) 56 (0,0)) from kab (HB3.out.trans (hb.mono HB3.out.size)) (kad HAx.out) HAx.out);have HBw:=hdd (fun (W:World) (hb:Below w3.heap.size w3 W)=>show W.heap[wr.heap.size]? = some (.cells (dvC db) 56 (0,0)) from kab hb (kad HW3.out) HW3.out);have HBel:=hdd (fun (W:World) (hb:Below w3.heap.size w3 W)=>show Below w.heap.size w W from HBx.out.trans ((HB3.out.trans (hb.mono HB3.out.size)).mono HBx.out.size));have HOw3:=hdd (fun (W:World) (hb:Below w3.heap.size w3 W)=>kcd HOx.out (w':=W) (fun q _ hq=>(HB3.out.trans (hb.mono HB3.out.size)).block q hq));have HDisp:=hdd (show Rv.disp da db = !(da.over || db.over || !decide (da.question=db.question) || !decide (da.scope=db.scope) || decide (da.answer=db.answer)) from rfl)
      cases hoa:da.over with
      |true =>
       have hno:Rv.disp da db=false:=by rw [HDisp.out,hoa];simp
       have HNo:=hdd hno;have HOa:=hdd hoa;clear hno hoa
       go_wp2_with (first|(refine wpList_load_mid rfl 56 _ rfl wo.heap.size 0 rfl (dvC da).toList _ (kap (HAw.out _ (Below.refl _ _))) rfl rfl (by kernel_rfl) ?_)|fail)
       (refine (kct da _).mono ?_;rintro en w4 ⟨rfl,hb4⟩;rw [HOa.out];have HB4:=hdd (show Below w3.heap.size w3 w4 from hb4);clear hb4)
       go_wp2
       have HPn:=hdd (show kh1 l pre da k (j+1)=kh1 l pre da k j by rw [HSuc.out,HNo.out];simp)
       go_roundw
       case rel=>first|exact ⟨j+1,by omega,by go_num,HBel.out _ HB4.out,HAw.out _ HB4.out,by rw [HPn.out];exact HOw3.out _ HB4.out⟩|((repeat apply Exists.intro);exact ⟨⟨j+1,by omega,by go_num,HBel.out _ HB4.out,HAw.out _ HB4.out,by rw [HPn.out];exact HOw3.out _ HB4.out⟩,rfl⟩)
       case measure=>simp [intOf];omega
      |false =>
       have HOa:=hdd hoa;clear hoa
       cases hob:db.over with
       |true =>
        have hno:Rv.disp da db=false:=by rw [HDisp.out,hob];simp
        have HNo:=hdd hno;have HOb:=hdd hob;clear hno hob
        go_wp2_with (first|(refine wpList_load_mid rfl 56 _ rfl wo.heap.size 0 rfl (dvC da).toList _ (kap (HAw.out _ (Below.refl _ _))) rfl rfl (by kernel_rfl) ?_)|fail)
        (refine (kct da _).mono ?_;rintro en w4 ⟨rfl,hb4⟩;rw [HOa.out];have HB4:=hdd (show Below w3.heap.size w3 w4 from hb4);clear hb4)
        go_wp2_with (first|(refine kbn (by kernel_rfl) 56 _ rfl wr.heap.size 0 rfl (dvC db).toList _ (kap (HBw.out _ HB4.out)) rfl rfl (by kernel_rfl) ?_)|fail)
        (refine (kct db _).mono ?_;rintro en w5 ⟨rfl,hb5⟩;rw [HOb.out];have HB5:=hdd (show Below w3.heap.size w3 w5 from HB4.out.next hb5);have hA5:=HAw.out _ HB5.out;have hB5:=HBw.out _ HB5.out;have a2:w5.cell? ⟨wo.heap.size,2,none⟩=some (.string (B da.question)):=(by rw [kaa hA5];rfl);have a3:w5.cell? ⟨wo.heap.size,3,none⟩=some (.string (B da.scope)):=(by rw [kaa hA5];rfl);have a4:w5.cell? ⟨wo.heap.size,4,none⟩=some (.string (B da.answer)):=(by rw [kaa hA5];rfl);have b2:w5.cell? ⟨wr.heap.size,2,none⟩=some (.string (B db.question)):=(by rw [kaa hB5];rfl);have b3:w5.cell? ⟨wr.heap.size,3,none⟩=some (.string (B db.scope)):=(by rw [kaa hB5];rfl);have b4:w5.cell? ⟨wr.heap.size,4,none⟩=some (.string (B db.answer)):=(by rw [kaa hB5];rfl);have a0:w5.cell? ⟨wo.heap.size,0,none⟩=some (.string (B da.id)):=(by rw [kaa hA5];rfl);have b0:w5.cell? ⟨wr.heap.size,0,none⟩=some (.string (B db.id)):=(by rw [kaa hB5];rfl);clear hb5 hA5 hB5)
        go_wp2
        have HPn:=hdd (show kh1 l pre da k (j+1)=kh1 l pre da k j by rw [HSuc.out,HNo.out];simp)
        go_roundw
        case rel=>first|exact ⟨j+1,by omega,by go_num,HBel.out _ HB5.out,HAw.out _ HB5.out,by rw [HPn.out];exact HOw3.out _ HB5.out⟩|((repeat apply Exists.intro);exact ⟨⟨j+1,by omega,by go_num,HBel.out _ HB5.out,HAw.out _ HB5.out,by rw [HPn.out];exact HOw3.out _ HB5.out⟩,rfl⟩)
        case measure=>simp [intOf];omega
       |false =>
        have HOb:=hdd hob;clear hob
        by_cases hq:da.question=db.question
        ·have hq1:((B da.question).toList == (B db.question).toList)=true:=by rw [hq];exact kbx _
         have hq2:((B da.question).toList != (B db.question).toList)=false:=by rw [bne,hq1];rfl
         by_cases hs:da.scope=db.scope
         ·have hs1:((B da.scope).toList == (B db.scope).toList)=true:=by rw [hs];exact kbx _
          have hs2:((B da.scope).toList != (B db.scope).toList)=false:=by rw [bne,hs1];rfl
          by_cases ha:da.answer=db.answer
          ·have ha1:((B da.answer).toList == (B db.answer).toList)=true:=by rw [ha];exact kbx _
           have hno:Rv.disp da db=false:=by rw [HDisp.out,ha];simp
           have HNo:=hdd hno;clear hno hq hs ha
           go_wp2_with (first|(refine wpList_load_mid rfl 56 _ rfl wo.heap.size 0 rfl (dvC da).toList _ (kap (HAw.out _ (Below.refl _ _))) rfl rfl (by kernel_rfl) ?_)|fail)
           (refine (kct da _).mono ?_;rintro en w4 ⟨rfl,hb4⟩;rw [HOa.out];have HB4:=hdd (show Below w3.heap.size w3 w4 from hb4);clear hb4)
           go_wp2_with (first|(refine kbn (by kernel_rfl) 56 _ rfl wr.heap.size 0 rfl (dvC db).toList _ (kap (HBw.out _ HB4.out)) rfl rfl (by kernel_rfl) ?_)|fail)
           (refine (kct db _).mono ?_;rintro en w5 ⟨rfl,hb5⟩;rw [HOb.out];have HB5:=hdd (show Below w3.heap.size w3 w5 from HB4.out.next hb5);have hA5:=HAw.out _ HB5.out;have hB5:=HBw.out _ HB5.out;have a2:w5.cell? ⟨wo.heap.size,2,none⟩=some (.string (B da.question)):=(by rw [kaa hA5];rfl);have a3:w5.cell? ⟨wo.heap.size,3,none⟩=some (.string (B da.scope)):=(by rw [kaa hA5];rfl);have a4:w5.cell? ⟨wo.heap.size,4,none⟩=some (.string (B da.answer)):=(by rw [kaa hA5];rfl);have b2:w5.cell? ⟨wr.heap.size,2,none⟩=some (.string (B db.question)):=(by rw [kaa hB5];rfl);have b3:w5.cell? ⟨wr.heap.size,3,none⟩=some (.string (B db.scope)):=(by rw [kaa hB5];rfl);have b4:w5.cell? ⟨wr.heap.size,4,none⟩=some (.string (B db.answer)):=(by rw [kaa hB5];rfl);have a0:w5.cell? ⟨wo.heap.size,0,none⟩=some (.string (B da.id)):=(by rw [kaa hA5];rfl);have b0:w5.cell? ⟨wr.heap.size,0,none⟩=some (.string (B db.id)):=(by rw [kaa hB5];rfl);clear hb5 hA5 hB5)
           go_wp2
           have HPn:=hdd (show kh1 l pre da k (j+1)=kh1 l pre da k j by rw [HSuc.out,HNo.out];simp)
           go_roundw
           case rel=>first|exact ⟨j+1,by omega,by go_num,HBel.out _ HB5.out,HAw.out _ HB5.out,by rw [HPn.out];exact HOw3.out _ HB5.out⟩|((repeat apply Exists.intro);exact ⟨⟨j+1,by omega,by go_num,HBel.out _ HB5.out,HAw.out _ HB5.out,by rw [HPn.out];exact HOw3.out _ HB5.out⟩,rfl⟩)
           case measure=>simp [intOf];omega
          ·have ha1:=kby ha
           have hyes:Rv.disp da db=true:=by rw [HDisp.out,HOa.out,HOb.out];simp [hq,hs,ha]
           have HYes:=hdd hyes;clear hyes hq hs ha
           go_wp2_with (first|(refine wpList_load_mid rfl 56 _ rfl wo.heap.size 0 rfl (dvC da).toList _ (kap (HAw.out _ (Below.refl _ _))) rfl rfl (by kernel_rfl) ?_)|fail)
           (refine (kct da _).mono ?_;rintro en w4 ⟨rfl,hb4⟩;rw [HOa.out];have HB4:=hdd (show Below w3.heap.size w3 w4 from hb4);clear hb4)
           go_wp2_with (first|(refine kbn (by kernel_rfl) 56 _ rfl wr.heap.size 0 rfl (dvC db).toList _ (kap (HBw.out _ HB4.out)) rfl rfl (by kernel_rfl) ?_)|fail)
           (refine (kct db _).mono ?_;rintro en w5 ⟨rfl,hb5⟩;rw [HOb.out];have HB5:=hdd (show Below w3.heap.size w3 w5 from HB4.out.next hb5);have hA5:=HAw.out _ HB5.out;have hB5:=HBw.out _ HB5.out;have a2:w5.cell? ⟨wo.heap.size,2,none⟩=some (.string (B da.question)):=(by rw [kaa hA5];rfl);have a3:w5.cell? ⟨wo.heap.size,3,none⟩=some (.string (B da.scope)):=(by rw [kaa hA5];rfl);have a4:w5.cell? ⟨wo.heap.size,4,none⟩=some (.string (B da.answer)):=(by rw [kaa hA5];rfl);have b2:w5.cell? ⟨wr.heap.size,2,none⟩=some (.string (B db.question)):=(by rw [kaa hB5];rfl);have b3:w5.cell? ⟨wr.heap.size,3,none⟩=some (.string (B db.scope)):=(by rw [kaa hB5];rfl);have b4:w5.cell? ⟨wr.heap.size,4,none⟩=some (.string (B db.answer)):=(by rw [kaa hB5];rfl);have a0:w5.cell? ⟨wo.heap.size,0,none⟩=some (.string (B da.id)):=(by rw [kaa hA5];rfl);have b0:w5.cell? ⟨wr.heap.size,0,none⟩=some (.string (B db.id)):=(by rw [kaa hB5];rfl);clear hb5 hA5 hB5)
           go_upto_region 10 with fail
           have HOy:=hdd (HOw3.out _ HB5.out);have HSz:=hdd (HBel.out _ HB5.out).size
           have HLy:=hdd (show (kh1 l pre da k j).length+1≤1048576 by
            have:=HLe.out
            rw [HSuc.out,HYes.out,if_pos rfl,List.length_append,List.length_singleton] at this;exact this)
           go_wp2_with (first
            |(refine kn2 rfl _ _ 9 rfl da.id db.id rfl rfl ?_)
            |(refine kmt rfl _ _ 9 rfl da.id db.id rfl rfl ?_)
            |(at_builtin
              refine wpList_append_own _ rfl _ _ 32 rfl w.heap.size 116 i0 (prV ([],[])) 2 32 Tryz.underlying32 Hi.out Hz0.out Hz1.out Hz2.out rfl (by decide) _ (kh1 l pre da k j).length (prL (kh1 l pre da k j)) rfl (HOy.out.alloc _) ⟨w5.heap.size,0,none⟩ 1 1 (prC (ksm da db)).toList rfl rfl (kin (kai w5 (.cells (prC (ksm da db)) 116))) (by simp [prC,Value.oneCell']) (by have:=HLy.out;unfold maxLen;omega) (by have:=HLy.out;omega) (by have:=HSz.out;simp;omega) ?_;intro v8 w8 ho8 hg8 _
              have HO8:=hdd (show w8.ownsRow w.heap.size 116 2 v8 (kh1 l pre da k (j+1)).length (prL (kh1 l pre da k (j+1))) by
               rw [HSuc.out,HYes.out,if_pos rfl,kvs,List.length_append,List.length_singleton];exact ho8)
              have HB8:=hdd (show Below w.heap.size w w8 from ((HBel.out _ HB5.out).alloc HSz.out _).grown hg8 (by have:=HSz.out;simp;omega) (fun q hq=>(HOy.out.lt q hq).1))
              have HA8:=hdd (show w8.heap[wo.heap.size]? = some (.cells (dvC da) 56 (0,0)) from (hg8.block _ (by have:=kad (HAw.out _ HB5.out);simp;omega) (fun e=>by
               obtain ⟨cs,h9⟩:=kik HOy.out (Eq.symm e);rw [HAw.out _ HB5.out] at h9;simp only [Option.some.injEq,Obj.cells.injEq] at h9;exact absurd h9.2.1 (by decide))).trans (kah (HAw.out _ HB5.out)))
              clear ho8 hg8)
            |fail)
           go_roundw
           case rel=>first|exact ⟨j+1,by omega,by go_num,HB8.out,HA8.out,HO8.out⟩|((repeat apply Exists.intro);exact ⟨⟨j+1,by omega,by go_num,HB8.out,HA8.out,HO8.out⟩,rfl⟩)
           case measure=>simp [intOf];omega
         ·have hs1:=kby hs
          have hs2:((B da.scope).toList != (B db.scope).toList)=true:=by rw [bne,hs1];rfl
          have hno:Rv.disp da db=false:=by rw [HDisp.out];simp [hs]
          have HNo:=hdd hno;clear hno hq hs
          go_wp2_with (first|(refine wpList_load_mid rfl 56 _ rfl wo.heap.size 0 rfl (dvC da).toList _ (kap (HAw.out _ (Below.refl _ _))) rfl rfl (by kernel_rfl) ?_)|fail)
          (refine (kct da _).mono ?_;rintro en w4 ⟨rfl,hb4⟩;rw [HOa.out];have HB4:=hdd (show Below w3.heap.size w3 w4 from hb4);clear hb4)
          go_wp2_with (first|(refine kbn (by kernel_rfl) 56 _ rfl wr.heap.size 0 rfl (dvC db).toList _ (kap (HBw.out _ HB4.out)) rfl rfl (by kernel_rfl) ?_)|fail)
          (refine (kct db _).mono ?_;rintro en w5 ⟨rfl,hb5⟩;rw [HOb.out];have HB5:=hdd (show Below w3.heap.size w3 w5 from HB4.out.next hb5);have hA5:=HAw.out _ HB5.out;have hB5:=HBw.out _ HB5.out;have a2:w5.cell? ⟨wo.heap.size,2,none⟩=some (.string (B da.question)):=(by rw [kaa hA5];rfl);have a3:w5.cell? ⟨wo.heap.size,3,none⟩=some (.string (B da.scope)):=(by rw [kaa hA5];rfl);have a4:w5.cell? ⟨wo.heap.size,4,none⟩=some (.string (B da.answer)):=(by rw [kaa hA5];rfl);have b2:w5.cell? ⟨wr.heap.size,2,none⟩=some (.string (B db.question)):=(by rw [kaa hB5];rfl);have b3:w5.cell? ⟨wr.heap.size,3,none⟩=some (.string (B db.scope)):=(by rw [kaa hB5];rfl);have b4:w5.cell? ⟨wr.heap.size,4,none⟩=some (.string (B db.answer)):=(by rw [kaa hB5];rfl);have a0:w5.cell? ⟨wo.heap.size,0,none⟩=some (.string (B da.id)):=(by rw [kaa hA5];rfl);have b0:w5.cell? ⟨wr.heap.size,0,none⟩=some (.string (B db.id)):=(by rw [kaa hB5];rfl);clear hb5 hA5 hB5)
          go_wp2
          have HPn:=hdd (show kh1 l pre da k (j+1)=kh1 l pre da k j by rw [HSuc.out,HNo.out];simp)
          go_roundw
          case rel=>first|exact ⟨j+1,by omega,by go_num,HBel.out _ HB5.out,HAw.out _ HB5.out,by rw [HPn.out];exact HOw3.out _ HB5.out⟩|((repeat apply Exists.intro);exact ⟨⟨j+1,by omega,by go_num,HBel.out _ HB5.out,HAw.out _ HB5.out,by rw [HPn.out];exact HOw3.out _ HB5.out⟩,rfl⟩)
          case measure=>simp [intOf];omega
        ·have hq1:=kby hq
         have hq2:((B da.question).toList != (B db.question).toList)=true:=by rw [bne,hq1];rfl
         have hno:Rv.disp da db=false:=by rw [HDisp.out];simp [hq]
         have HNo:=hdd hno;clear hno hq
         go_wp2_with (first|(refine wpList_load_mid rfl 56 _ rfl wo.heap.size 0 rfl (dvC da).toList _ (kap (HAw.out _ (Below.refl _ _))) rfl rfl (by kernel_rfl) ?_)|fail)
         (refine (kct da _).mono ?_;rintro en w4 ⟨rfl,hb4⟩;rw [HOa.out];have HB4:=hdd (show Below w3.heap.size w3 w4 from hb4);clear hb4)
         go_wp2_with (first|(refine kbn (by kernel_rfl) 56 _ rfl wr.heap.size 0 rfl (dvC db).toList _ (kap (HBw.out _ HB4.out)) rfl rfl (by kernel_rfl) ?_)|fail)
         (refine (kct db _).mono ?_;rintro en w5 ⟨rfl,hb5⟩;rw [HOb.out];have HB5:=hdd (show Below w3.heap.size w3 w5 from HB4.out.next hb5);have hA5:=HAw.out _ HB5.out;have hB5:=HBw.out _ HB5.out;have a2:w5.cell? ⟨wo.heap.size,2,none⟩=some (.string (B da.question)):=(by rw [kaa hA5];rfl);have a3:w5.cell? ⟨wo.heap.size,3,none⟩=some (.string (B da.scope)):=(by rw [kaa hA5];rfl);have a4:w5.cell? ⟨wo.heap.size,4,none⟩=some (.string (B da.answer)):=(by rw [kaa hA5];rfl);have b2:w5.cell? ⟨wr.heap.size,2,none⟩=some (.string (B db.question)):=(by rw [kaa hB5];rfl);have b3:w5.cell? ⟨wr.heap.size,3,none⟩=some (.string (B db.scope)):=(by rw [kaa hB5];rfl);have b4:w5.cell? ⟨wr.heap.size,4,none⟩=some (.string (B db.answer)):=(by rw [kaa hB5];rfl);have a0:w5.cell? ⟨wo.heap.size,0,none⟩=some (.string (B da.id)):=(by rw [kaa hA5];rfl);have b0:w5.cell? ⟨wr.heap.size,0,none⟩=some (.string (B db.id)):=(by rw [kaa hB5];rfl);clear hb5 hA5 hB5)
         go_wp2
         have HPn:=hdd (show kh1 l pre da k (j+1)=kh1 l pre da k j by rw [HSuc.out,HNo.out];simp)
         go_roundw
         case rel=>first|exact ⟨j+1,by omega,by go_num,HBel.out _ HB5.out,HAw.out _ HB5.out,by rw [HPn.out];exact HOw3.out _ HB5.out⟩|((repeat apply Exists.intro);exact ⟨⟨j+1,by omega,by go_num,HBel.out _ HB5.out,HAw.out _ HB5.out,by rw [HPn.out];exact HOw3.out _ HB5.out⟩,rfl⟩)
         case measure=>simp [intOf];omega
     ·have hjl:j=l.length - (k+1):=by omega
      have HP2:=hdd (show kh1 l pre da k j++Rv.dispsOf (l.drop (k+1))=Rv.dispsOf l by
       rw [←HP.out,HCons.out,kj6];unfold kh1;rw [List.take_of_length_le (by rw [List.length_drop];omega),List.append_assoc])
      go_wp2
      go_roundw
      case rel=>first|exact ⟨k+1,_,by omega,by go_num,HP2.out,HBx.out,HOx.out⟩|((repeat apply Exists.intro);exact ⟨⟨k+1,_,by omega,by go_num,HP2.out,HBx.out,HOx.out⟩,rfl⟩)
      case measure=>simp [intOf];omega
  ·have hkl:k=l.length:=by omega
   have hpre:pre=Rv.dispsOf l:=by
    have:=HP.out
    rw [hkl,List.drop_length] at this
    simpa [Rv.dispsOf] using this
   have ho:=HO.out;rw [hpre] at ho;have HOe:=hdd ho;have hlb:=HLn.out;clear hpre ho
   by_cases h0:(Rv.dispsOf l).length=0
   ·obtain ⟨av,cv,rfl⟩:=kag HOe.out
    have hnil:Rv.dispsOf l=[]:=List.eq_nil_of_length_eq_zero h0;have HS:=hdd (show Calls Tryz.prog 119 #[.slice av (Rv.dispsOf l).length cv,.func (.func 120) #[] #[]] wr fun en w'=>en = .returned (.tuple #[])∧w'=wr by rw [h0];exact kix av cv wr)
    have HOf:=hdd (show wr.ownsRow w.heap.size 116 2 (.slice av (Rv.dispsOf l).length cv) (Rv.dispsOf l).length (prL (Rv.sortP (Rv.dispsOf l))) by
     have:=HOe.out
     rw [hnil] at this ⊢;exact this)
    clear h0 hnil
    go_wp2_with (first|(go_at_call 119;refine HS.out.mono ?_;rintro en w9 ⟨rfl,rfl⟩)|fail)
    go_ret
    exact ⟨_,rfl,HB.out,HOf.out⟩
   ·obtain ⟨g,cv,rfl,hg1,hg2,hg3⟩:=kax HOe.out (by omega)
    have HS:=hdd (kpi (Rv.dispsOf l) wr w.heap.size g cv HOe.out (by omega));have HG:=hdd hg1;clear h0 hg1 hg2 hg3
    go_wp2_with (first|(go_at_call 119;refine HS.out.mono ?_;rintro en w9 ⟨rfl,ho9,hk9⟩;have HO9:=hdd ho9;have HK9:=hdd hk9;clear ho9 hk9)|fail)
    go_ret
    have hg:=HG.out;exact ⟨_,rfl,HB.out.trans (HK9.out.below HB.out.size (fun q hq e=>by have:q=g:=e;omega)),HO9.out⟩
end Go.Proofs.YtknpbekoenbphaaGreatDoor
namespace Go.Proofs.YtknpbekoenbphaaGreatDoor
open Go Go.RowKit Licit Go.Maps Go.Sort Go.Shelf
theorem ktd (mb:Option Nat) (W:World):Calls Tryz.prog 55 #[.map mb] W fun e w'=>e = .returned (.func (.func 116) #[] #[.pointer (some ⟨W.heap.size,0,none⟩)])∧w'=W.alloc (.cells #[.map mb] 89) :=
 callsIn_wide.1 (AnyZ.keys_in Tryz.keysR Fence.wide 5 trivial rfl mb W)
theorem kr5 (mb:Option Nat) (W:World):Calls Tryz.prog 56 #[.map mb] W fun e w'=>e = .returned (.func (.func 117) #[] #[.pointer (some ⟨W.heap.size,0,none⟩)])∧w'=W.alloc (.cells #[.map mb] 90) :=
 callsIn_wide.1 (AnyZ.keys_in Tryz.keysI Fence.wide 5 trivial rfl mb W)
theorem kjd (m:Nat):AnyZ.SortsIn Tryz.prog Tryz.sortedS_ren Fence.wide m :=
 ⟨fun blk off cap ss W hH hblk hsz=>callsIn_wide.2 (AnyM.slices_Sort_string Tryz.sortStr blk off cap ss W hH hblk hsz),
  fun p cap W=>callsIn_wide.2 (AnyM.slices_Sort_string_none Tryz.sortStr p cap W)⟩
theorem kjo {ss l:List Bs} (hp:ss.Perm l) (hn:l.Nodup):(ss.mergeSort fun x y=>decide (x≤y))=Rv.sortB l:=by
 have hm:=List.mergeSort_perm ss fun x y=>decide (x≤y)
 refine Rv.sortB_only ((hm.trans hp).nodup_iff.2 hn) (fun z=>(hm.trans hp).mem_iff) ?_;have hs:=List.pairwise_mergeSort (le:=fun x y:Bs=>decide (x≤y)) (fun a b c h1 h2=>by simp only [decide_eq_true_eq] at *;exact List.le_trans h1 h2) (fun a b=>by simp only [Bool.or_eq_true,decide_eq_true_eq];exact List.le_total a b) ss;exact hs.imp fun {a b} h=>by rw [Rv.ltB_false];simpa using h
theorem kng {w:World} {b:Nat} {L:List (Bs × Value)} (h:kbi Tryz.prog 9 kS w b L) (hn:L.length≤1048576):∃(nn:Nat) (D0:DataW Unit),w.ownsMap Tryz.prog 9 (fun _=>some (.nil,[])) b nn D0∧(strKeys D0).Perm (kbc L)∧Maps.size D0=L.length:=by
 have hread:=fun es clock hb=>h.readable (es:=es) (clock:=clock) hb
 obtain ⟨es,clock,hb,hst,hl,hr⟩:=h;have hsz:es.size=L.length:=by have:=congrArg List.length hl;simpa using this
 have hk:∀x∈es.toList,∃s:Bs,x.key=kS s∧Go.WideElems.rg Tryz.prog 9 (fun _=>some ((.nil:DataW Unit),[])) x=(.string s,.nil):=fun x hx=>by
  obtain ⟨l,hl⟩:=hread es clock hb x hx;obtain ⟨y,e1,e2,_⟩:=Go.Maps.keyOf_str Tryz.underlying9 hl;refine ⟨y,e1,?_⟩;unfold Go.WideElems.rg Go.WideElems.rd;rw [hl,e2];rfl
 have hmap:((es.toList.map (Go.WideElems.rg Tryz.prog 9 (fun _=>some ((.nil:DataW Unit),[])))).map fun p=>strOf p.1)=kbc L:=by
  have e1:es.toList.map (·.key)=L.map fun x=>kS x.1:=by
   have:=congrArg (List.map (·.1)) hl
   simpa [List.map_map,Function.comp_def] using this
  have e2:((es.toList.map (Go.WideElems.rg Tryz.prog 9 (fun _=>some ((.nil:DataW Unit),[])))).map fun p=>strOf p.1)=(es.toList.map (·.key)).map fun v=>match v with|.string z=>z.data.toList|_=>[]:=by
   rw [List.map_map,List.map_map];refine List.map_congr_left fun x hx=>?_
   obtain ⟨s,h1,h2⟩:=hk x hx;simp only [Function.comp,h1,h2];exact (B_list s).symm
  rw [e2,e1,List.map_map];unfold kbc;exact List.map_congr_left fun x _=>B_list x.1
 refine ⟨es.size,.map ((es.toList.map (Go.WideElems.rg Tryz.prog 9 (fun _=>some ((.nil:DataW Unit),[])))).foldr DataW.insert []),⟨es,clock,hb,⟨by rw [hsz];unfold maxLen;omega,hst,fun x hx=>?_⟩,Nat.le_refl _,rfl⟩,?_,?_⟩
 ·obtain ⟨l,hl⟩:=hread es clock hb x hx
  exact ⟨(l,.nil),by unfold Go.WideElems.rd;rw [hl];rfl⟩
 ·rw [←hmap]
  exact (Go.WideShapes.sorted_perm _).map _
 ·show (List.foldr DataW.insert [] _).length=_
  rw [(Go.WideShapes.sorted_perm _).length_eq,List.length_map,Array.length_toList,hsz]
theorem knz (b:Nat) (L:List (Bs × Value)) (w:World) (h:kbi Tryz.prog 9 kS w b L) (hn:L.length≤1048576) :
 Calls Tryz.prog 54 #[.func (.func 116) #[] #[.pointer (some ⟨w.heap.size,0,none⟩)]] (w.alloc (.cells #[.map (some b)] 89)) fun e w'=>∃v,e = .returned v∧w'.ownsRow (w.heap.size+1) 9 1 v (Rv.sortB (kbc L)).length ((Rv.sortB (kbc L)).map vS)∧Below (w.heap.size+1) (w.alloc (.cells #[.map (some b)] 89)) w':=by
 obtain ⟨nn,D0,hown,hperm,hsz⟩:=kng h hn;have hbl:=hown.lt
 have hseq:SeqGives Fence.wide 2 Tryz.prog 116 #[.pointer (some ⟨w.heap.size,0,none⟩)] encStr (fun ss=>ss.Perm (strKeys D0)) (Maps.size D0) (w.alloc (.cells #[.map (some b)] 89)) :=
  AnyZ.keys_gives (ρ:=Tryz.keysR_ren) { Tryz.keysR with } Fence.wide _ trivial rfl (by omega) w.heap.size b nn D0 _ (by simp) (by simp) (by
   obtain ⟨es,clock,hb,Ft,hs,hD⟩:=hown;exact ⟨es,clock,(Below.heap_alloc _ _ b hbl).trans hb,Ft,hs,hD⟩)
 have hc:=callsIn_wide.1 (AnyZ.sorted_in Tryz.sortedS Fence.wide 5 trivial trivial trivial trivial rfl (by omega) (kjd _) (enters_of Tryz.func52 (by kernel_rfl) rfl) 116 #[.pointer (some ⟨w.heap.size,0,none⟩)] trivial (enters_of Tryz.func116 (by kernel_rfl) rfl) _ (Maps.size D0) (by rw [hsz];unfold maxLen;omega) (by rw [hsz];omega) _ hseq);refine hc.mono ?_;rintro e w' ⟨v,ss,rfl,hp,hrow,-,hb⟩;have hs:(ss.mergeSort fun x y=>decide (x≤y))=Rv.sortB (kbc L):=kjo (hp.trans hperm) (h.nodup kcx);rw [World.size_alloc] at hrow hb;rw [hs] at hrow;have hl:ss.length=(Rv.sortB (kbc L)).length:=by rw [←hs];simp
 rw [hl] at hrow;exact ⟨v,rfl,hrow,hb⟩
theorem knq (b:Nat) (L:List (Bs × Value)) (w:World) (h:kbi Tryz.prog 9 kS w b L) (hn:L.length≤1048576) :
 Calls Tryz.prog 54 #[.func (.func 117) #[] #[.pointer (some ⟨w.heap.size,0,none⟩)]] (w.alloc (.cells #[.map (some b)] 90)) fun e w'=>∃v,e = .returned v∧w'.ownsRow (w.heap.size+1) 9 1 v (Rv.sortB (kbc L)).length ((Rv.sortB (kbc L)).map vS)∧Below (w.heap.size+1) (w.alloc (.cells #[.map (some b)] 90)) w':=by
 obtain ⟨nn,D0,hown,hperm,hsz⟩:=kng h hn;have hbl:=hown.lt
 have hseq:SeqGives Fence.wide 2 Tryz.prog 117 #[.pointer (some ⟨w.heap.size,0,none⟩)] encStr (fun ss=>ss.Perm (strKeys D0)) (Maps.size D0) (w.alloc (.cells #[.map (some b)] 90)) :=
  AnyZ.keys_gives (ρ:=Tryz.keysI_ren) { Tryz.keysI with } Fence.wide _ trivial rfl (by omega) w.heap.size b nn D0 _ (by simp) (by simp) (by
   obtain ⟨es,clock,hb,Ft,hs,hD⟩:=hown;exact ⟨es,clock,(Below.heap_alloc _ _ b hbl).trans hb,Ft,hs,hD⟩)
 have hc:=callsIn_wide.1 (AnyZ.sorted_in Tryz.sortedS Fence.wide 5 trivial trivial trivial trivial rfl (by omega) (kjd _) (enters_of Tryz.func52 (by kernel_rfl) rfl) 117 #[.pointer (some ⟨w.heap.size,0,none⟩)] trivial (enters_of Tryz.func117 (by kernel_rfl) rfl) _ (Maps.size D0) (by rw [hsz];unfold maxLen;omega) (by rw [hsz];omega) _ hseq);refine hc.mono ?_;rintro e w' ⟨v,ss,rfl,hp,hrow,-,hb⟩;have hs:(ss.mergeSort fun x y=>decide (x≤y))=Rv.sortB (kbc L):=kjo (hp.trans hperm) (h.nodup kcx);rw [World.size_alloc] at hrow hb;rw [hs] at hrow;have hl:ss.length=(Rv.sortB (kbc L)).length:=by rw [←hs];simp
 rw [hl] at hrow;exact ⟨v,rfl,hrow,hb⟩
end Go.Proofs.YtknpbekoenbphaaGreatDoor
namespace Go.Proofs.YtknpbekoenbphaaGreatDoor
open Go Go.RowKit Licit
theorem krk {l:List Rv.Ev} (h:(Rv.setE l (Rv.idsOf l)).2≠0):(Rv.foldE l).2=Rv.setE l (Rv.idsOf l):=by unfold Rv.foldE Rv.foldI;rw [if_neg h]
theorem kq0 {l:List Rv.Ev} (h:(Rv.setE l (Rv.idsOf l)).2=0) {S:Rv.Stt} (hS:Rv.arrS l (Rv.idsOf l)=some S):(Rv.foldE l).2=match (Rv.Cx.mk l (Rv.idsOf l) S).replay [] (Rv.ordI S (Rv.idsOf l)) with
 |some (i,f)=>((i:Int),f)
 |none=>(-1,0):=by
 unfold Rv.foldE Rv.foldI;rw [if_pos h,hS];dsimp only;generalize Rv.Cx.replay _ _ _=q
 cases q with
 |none=>rfl
 |some p=>rfl
theorem knv {l:List Rv.Ev} (h:(Rv.setE l (Rv.idsOf l)).2=0) {S:Rv.Stt} (hS:Rv.arrS l (Rv.idsOf l)=some S) (hr:(Rv.Cx.mk l (Rv.idsOf l) S).replay [] (Rv.ordI S (Rv.idsOf l))=none):Rv.foldE l=((Rv.Cx.mk l (Rv.idsOf l) S).state (Rv.ordI S (Rv.idsOf l)),-1,0):=by
 unfold Rv.foldE Rv.foldI;rw [if_pos h,hS];dsimp only;rw [hr]
theorem kg9 {l:List Rv.Ev} (h:(Rv.setE l (Rv.idsOf l)).2=0):(Rv.preE l (Rv.idsOf l)).2=0:=by
 unfold Rv.setE at h
 by_cases c:(Rv.preE l (Rv.idsOf l)).2=0
 ·exact c
 ·rw [if_neg c] at h;exact h
theorem ki2 (c:Rv.Cx) (A:List Nat) (i:Nat) (r:List Nat):c.replay A (i :: r)=if c.apply A i=0 then c.replay (A++[i]) r else some (i,c.apply A i):=rfl
def kg2 (l:List Rv.Ev) (w:World) (en:Ending) (w':World):Prop:=Below w.heap.size w w'∧∃jv nv,en = .returned (.tuple #[jv,nv,.int .i64 (Rv.foldE l).2.1,.int .i64 (Rv.foldE l).2.2]) ∧
 ((Rv.foldE l).2.2=0→∃(S:Rv.Stt) (pt pb:Nat→Nat) (bj bE bT bN:Nat) (w1:World),Rv.arrS l (Rv.idsOf l)=some S∧Rv.foldE l=((Rv.Cx.mk l (Rv.idsOf l) S).state (Rv.ordI S (Rv.idsOf l)),-1,0)∧jv=ptr bj∧Nds (Rv.Cx.mk l (Rv.idsOf l) S) pt pb w w1 ∧
   Jr (Rv.Cx.mk l (Rv.idsOf l) S) pt (Rv.ordI S (Rv.idsOf l)) bj bE bT bN w1 w'∧w'.ownsRow w.heap.size 91 1 nv l.length ((Rv.ordI S (Rv.idsOf l)).map fun i=>ptr (pt i)))
theorem kv6 (c:Rv.Cx) (A:List Nat) (i:Nat) (h:c.apply A i≠0) (r:List Nat):c.replay A (i :: r)=some (i,c.apply A i):=by rw [ki2,if_neg h]
theorem kpz (v:Value) (l:List Rv.Ev) (w:World) (h:kbt v l w) (ht:Tab w):Calls Tryz.prog 53 #[v] w (kg2 l w):=by
 have HA:=hdd (kf9 v l w h ht);have hmm:=@run_makeMap Tryz.prog;clear h ht
 by_cases hE:(Rv.setE l (Rv.idsOf l)).2=0
 rotate_left
 ·have d1:((Rv.setE l (Rv.idsOf l)).2 == 0)=false:=beq_eq_false_iff_ne.2 hE
  have d2:((Rv.setE l (Rv.idsOf l)).2 != 0)=true:=by rw [bne,d1];rfl
  have HF:=hdd (krk hE);have HE:=hdd hE;clear hE
  go_enter Tryz.func53,Tryz.ntmps53
  go_wp2_with (first|(go_at_call 66;refine HA.out.mono ?_;intro en w1 hpost;unfold kck at hpost;obtain ⟨hb1,va,rfl,-⟩:=hpost;have HB1:=hdd hb1;clear hb1)|fail)
  have hP:kg2 l w (.returned (.tuple #[.pointer none,.slice none 0 0,.int .i64 (Rv.setE l (Rv.idsOf l)).1,.int .i64 (Rv.setE l (Rv.idsOf l)).2])) w1:=by
   unfold kg2;rw [HF.out];exact ⟨HB1.out,_,_,rfl,fun h=>absurd h HE.out⟩
  refine bodyPost_ret (v:=.tuple #[.pointer none,.slice none 0 0,.int .i64 (Rv.setE l (Rv.idsOf l)).1,.int .i64 (Rv.setE l (Rv.idsOf l)).2]) (by simp [results,Tryz.results53,go_sem]) rfl hP
 have HE:=hdd hE
 go_enter Tryz.func53,Tryz.ntmps53
 go_upto_region 2 with (first|(go_at_call 66;refine HA.out.mono ?_;intro en w1 hpost;unfold kck at hpost;rw [hE] at hpost;obtain ⟨hb1,va,rfl,hok⟩:=hpost;have HB1:=hdd hb1;have HOK:=hdd (hok rfl);clear hb1 hok)|fail)
 obtain ⟨S,pt,pb,hS,hSl,hown,hnd⟩:=HOK.out;obtain ⟨a,cap,rfl⟩:=kag hown;generalize (Rv.setE l (Rv.idsOf l)).1=e1 at *;obtain ⟨c,hc⟩:∃c:Rv.Cx,c=Rv.Cx.mk l (Rv.idsOf l) S:=⟨_,rfl⟩;have hlow:=Rv.arrS_lower hS
 have hN:Nds c pt pb w w1:=by
  rw [hc];exact ⟨kn3.of l (kg9 HE.out),hSl,hlow.1,khz l,HB1.out,hnd⟩
 have HN:=hdd hN;have HS:=hdd hS;have HOwn:=hdd hown;have HC:=hdd hc;have HSl:=hdd hSl;have HLow:=hdd hlow.1;have HRep:=hdd (kq0 HE.out hS);obtain ⟨O,hO⟩:∃O,Rv.ordI S (Rv.idsOf l)=O:=⟨_,rfl⟩;have HO:=hdd hO;have hOl:O.length=l.length:=by rw [←hO,(Rv.ordI_perm S _).length_eq,List.length_range,hSl]
 have HOl:=hdd hOl;have hle:=(kn3.of l (kg9 HE.out)).le;clear hS hSl hown hnd hlow hN HOK hE hO hc HA hOl
 go_upto_region 5 with fail
 have hb4:Below w1.heap.size w1 ((((w1.alloc (.map #[] 0)).alloc (.map #[] 0)).alloc (.map #[] 0)).alloc (.cells #[.map (some w1.heap.size),.map (some (w1.heap.size+1)),.slice none 0 0,.map (some (w1.heap.size+2))] 138)):=((((Below.refl _ _).alloc (Nat.le_refl _) _).alloc (by simp) _).alloc (by simp;omega) _).alloc (by simp;omega) _
 have hJ0:Jr c pt [] (w1.heap.size+1+1+1) w1.heap.size (w1.heap.size+1) (w1.heap.size+1+1) w1 ((((w1.alloc (.map #[] 0)).alloc (.map #[] 0)).alloc (.map #[] 0)).alloc (.cells #[.map (some w1.heap.size),.map (some (w1.heap.size+1)),.slice none 0 0,.map (some (w1.heap.size+1+1))] 138)):=by
  refine ⟨hb4,?_,?_,⟨[],?_,fun s=>rfl⟩,⟨.slice none 0 0,kak (by simp) rfl,World.ownsRow_nil _ _ _ _⟩,by simp,by omega,by omega,by omega,by omega,by omega⟩
  ·exact (kbi.made w1).below (B:=(w1.alloc (.map #[] 0)).heap.size) ((((Below.refl _ _).alloc (Nat.le_refl _) _).alloc (by simp) _).alloc (by simp) _) (by simp)
  ·have h:=kbi.made (P:=Tryz.prog) (k:=140) (kv:=kT) (w1.alloc (.map #[] 0))
   rw [World.size_alloc] at h;exact h.below (B:=((w1.alloc (.map #[] 0)).alloc (.map #[] 0)).heap.size) (((Below.refl _ _).alloc (Nat.le_refl _) _).alloc (by simp) _) (by simp)
  ·have h:=kbi.made (P:=Tryz.prog) (k:=9) (kv:=kS) ((w1.alloc (.map #[] 0)).alloc (.map #[] 0))
   rw [World.size_alloc,World.size_alloc] at h;exact h.below (B:=(((w1.alloc (.map #[] 0)).alloc (.map #[] 0)).alloc (.map #[] 0)).heap.size) ((Below.refl _ _).alloc (Nat.le_refl _) _) (by simp)
 have HJ0:=hdd hJ0;have hcl:c.l=l:=by rw [HC.out]
 have hcS:c.S=S:=by rw [HC.out]
 have Hcl:=hdd hcl;have HcS:=hdd hcS
 have HRep2:=hdd (show (Rv.foldE l).2=match c.replay [] O with
  |some (i,f)=>((i:Int),f)
  |none=>(-1,0) by rw [HRep.out,HC.out,HO.out])
 clear hb4 hJ0 hcl hcS HRep
 go_wp2
 go_loopw [11,12,30] (fun _ _ n wr=>∃k:Nat,k≤O.length∧n = .int .i64 k∧Jr c pt (O.take k) (w1.heap.size+1+1+1) w1.heap.size (w1.heap.size+1) (w1.heap.size+1+1) w1 wr∧c.replay (O.take k) (O.drop k)=c.replay [] O) (fun _ _ n _=>O.length - (intOf n).toNat)
 case atStart=>exact ⟨0,Nat.zero_le _,rfl,HJ0.out,rfl⟩
 case round =>
  obtain ⟨k,hk,rfl,hj,hr⟩:=hrel;have HJ:=hdd hj;have HR:=hdd hr;clear hj hr;have hol:=HOl.out
  by_cases hlt:k<O.length
  ·have hlt2:k<l.length:=by omega
   obtain ⟨g0,cv,hve,-,-,-⟩:=kax HOwn.out (by omega);simp only [Value.slice.injEq,true_and] at hve;obtain ⟨rfl,rfl⟩:=hve;obtain ⟨i,hi⟩:∃i,O[k]=i:=⟨_,rfl⟩;have how:=kci HOwn.out (w':=wr) fun q hq=>HJ.out.below.block q (HOwn.out.lt q hq).2
   have cd:wr.cell? ⟨g0,k,none⟩=some (ptr (pt i)):=by
    rw [kce how (by rw [List.length_map,HO.out];exact hlt),HO.out,List.getElem?_map,List.getElem?_eq_getElem hlt,hi];rfl
   have cd':wr.cell? ⟨g0,0+k,none⟩=some (ptr (pt i)):=by rw [Nat.zero_add];exact cd
   have hperm:=Rv.ordI_perm S (Rv.idsOf l)
   have hsplit:O=O.take k++i :: O.drop (k+1):=by
    rw [←hi,←List.drop_eq_getElem_cons hlt,List.take_append_drop]
   have hnd:O.Nodup:=by rw [←HO.out];exact hperm.nodup_iff.2 List.nodup_range
   have hil:i<c.l.length:=by
    rw [Hcl.out,←HSl.out]
    have:i∈O:=by rw [←hi];exact List.getElem_mem hlt
    rw [←HO.out] at this;exact List.mem_range.1 (hperm.mem_iff.1 this)
   have hiA:i ∉ O.take k:=by
    rw [hsplit] at hnd;intro hm;exact (List.nodup_append.1 hnd).2.2 i hm i (by simp) rfl
   have hA:∀q∈O.take k,c.past q i=false:=by
    intro q hq;show Rv.pastI c.S q i=false;rw [HcS.out];exact Rv.past_early HLow.out (HO.out.trans hsplit) q hq
   have hii:c.past i i=false:=by
    show Rv.pastI c.S i i=false;rw [HcS.out];exact Rv.past_self HLow.out i
   have HApp:=hdd (krb c pt pb (O.take k) _ _ _ _ w w1 wr HN.out HJ.out i hil hiA hA hii (by rw [List.length_take];omega));have hdrop:O.drop k=i :: O.drop (k+1):=by rw [←hi];exact List.drop_eq_getElem_cons hlt
   have htake:O.take (k+1)=O.take k++[i]:=by rw [List.take_succ_eq_append_getElem hlt,hi]
   have HDr:=hdd hdrop;have HTk:=hdd htake;have HIl:=hdd hil;clear hperm hsplit hnd hil hiA hA hii hdrop htake how hi
   by_cases hap:c.apply (O.take k) i=0
   ·have HAp:=hdd hap
    clear hap
    go_wp2_with (first
     |(go_at_call 114;refine HApp.out.mono ?_;intro en w2 hpost;unfold kja at hpost;rw [HAp.out] at hpost;obtain ⟨rfl,hb2,hj2⟩:=hpost;have HB2:=hdd hb2;have HJ2:=hdd (hj2 rfl);clear hb2 hj2)
     |fail)
    go_roundw
    case rel=>exact ⟨k+1,by omega,by go_num,by rw [HTk.out];exact HJ2.out,by rw [←HR.out,HDr.out,ki2,if_pos HAp.out,HTk.out]⟩
    case measure=>simp [intOf];omega
   ·have d1:(c.apply (O.take k) i == 0)=false:=beq_eq_false_iff_ne.2 hap
    have d2:(c.apply (O.take k) i != 0)=true:=by rw [bne,d1];rfl
    have HRes:=hdd (show (Rv.foldE l).2=((i:Int),c.apply (O.take k) i) by rw [HRep2.out,←HR.out,HDr.out,kv6 c _ i hap]);have HAp:=hdd hap;clear hap
    go_upto_region 10 with (first
     |(go_at_call 114;refine HApp.out.mono ?_;intro en w2 hpost;unfold kja at hpost;obtain ⟨rfl,hb2,-⟩:=hpost;have HB2:=hdd hb2;clear hb2)
     |fail)
    obtain ⟨⟨r2,na2,nc2,ta2,tc2,sa2,sc2,ha2,hc2,ra2,rc2,-,hni⟩,-,-⟩:=HN.out.at HB2.out HIl.out;have ci1:w2.cell? ⟨pt i,1,none⟩=some (.int .i64 (i:Int)):=by rw [kaa hni];rfl
    have hP:kg2 l w (.returned (.tuple #[.pointer none,.slice none 0 0,.int .i64 (i:Int),.int .i64 (c.apply (O.take k) i)])) w2.drew:=by
     unfold kg2;rw [HRes.out];exact ⟨(HB1.out.next HB2.out).drew,_,_,rfl,fun h=>absurd h HAp.out⟩
    have HP:=hdd hP;clear hni hP;refine wp_region_still_lit (by kernel_rfl) (by kernel_rfl) ?_
    repeat still_step
    refine wpStill_nil ?_;rw [show (⟨w2.heap,w2.tape,w2.drawn+1,w2.os,w2.output⟩:World)=w2.drew from rfl]
    go_wp2
    refine bodyPost_ret (v:=.tuple #[.pointer none,.slice none 0 0,.int .i64 (i:Int),.int .i64 (c.apply (O.take k) i)]) (by simp [results,Tryz.results53,go_sem]) rfl HP.out
  ·have hkl:k=O.length:=by omega
   subst hkl;have hr:=HR.out;rw [List.take_length,List.drop_length] at hr;have hnone:c.replay [] O=none:=hr.symm;have hj:=HJ.out;rw [List.take_length] at hj;have hfs:=knv HE.out HS.out (by rw [HO.out,←HC.out];exact hnone)
   have hP:kg2 l w (.returned (.tuple #[ptr (w1.heap.size+1+1+1),.slice a l.length cap,.int .i64 (-1),.int .i64 0])) wr:=by
    unfold kg2;rw [hfs];refine ⟨HB1.out.next hj.below,_,_,rfl,fun _=>⟨S,pt,pb,w1.heap.size+1+1+1,w1.heap.size,w1.heap.size+1,w1.heap.size+1+1,w1,HS.out,rfl,rfl,?_,?_,kci HOwn.out fun q hq=>hj.below.block q (HOwn.out.lt q hq).2⟩⟩
    ·rw [←HC.out];exact HN.out
    ·rw [←HC.out,HO.out];exact hj
   have HP:=hdd hP;clear hr hnone hj hfs hP
   go_wp2
   refine bodyPost_ret (v:=.tuple #[ptr (w1.heap.size+1+1+1),.slice a l.length cap,.int .i64 (-1),.int .i64 0]) (by simp [results,Tryz.results53,go_sem]) rfl HP.out
end Go.Proofs.YtknpbekoenbphaaGreatDoor
