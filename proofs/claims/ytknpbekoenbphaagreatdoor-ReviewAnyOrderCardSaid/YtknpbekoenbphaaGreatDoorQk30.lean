/- Parts of the proofs: WkRr2, WkRr3. No condition beyond those at each theorem. -/
import Derived.Test.YtknpbekoenbphaaGreatDoorQk26
set_option linter.unusedVariables false
set_option linter.unusedSimpArgs false
set_option maxHeartbeats 16000000
set_option maxRecDepth 100000
namespace Go.Proofs.YtknpbekoenbphaaGreatDoor
open Go Go.RowKit Licit
abbrev slE (e:Rv.Ev) (na ta sa ha ra:Option Addr) (nc tc sc hc rc:Nat):Array Value:=evS e na nc ta tc sa sc ha hc ra rc
theorem kcl {B:Nat} {w w':World} (h:Below B w w') (n:Nat):Below B w (w'.drewN n):=⟨h.os,h.tape,h.output,h.size,h.block⟩
theorem kb5 (x:Bs):(B x).toList.isEmpty=decide (x=[]):=by rw [ByteArray.toList_eq,B_list];cases x <;> rfl
theorem kov (v:Value) (e:Rv.Ev) (w:World) (h:kcw v e w):Calls Tryz.prog 40 #[v] w fun en w'=>en = .returned (.int .i64 (Rv.validE e))∧Below w.heap.size w w':=by
 obtain ⟨ho,na,nc,ta,tc,sa,sc,ha,hc,ra,rc,rfl,hN,hT,-,-,-⟩:=h;have hnl:=hN.1;have htl:=hT.1;rw [List.length_map] at hnl htl;unfold maxLen at hnl htl;have hA:∀W,W=w.alloc (.cells (slE e na ta sa ha ra nc tc sc hc rc) 45)→W.heap[w.heap.size]? = some (.cells (slE e na ta sa ha ra nc tc sc hc rc) 45 (0,0))∧Below w.heap.size w W∧w.heap.size<W.heap.size:=by rintro _ rfl;exact ⟨kai _ _,(Below.refl _ _).alloc (Nat.le_refl _) _,by simp⟩
 have HOk:=hdd ho;have q1:=fun W=>kl5 (B e.author) W (by have:=ho.author;show e.author.length≤maxLen;unfold maxLen;omega)
 have q2:=fun W=>kl5 (B e.pkg) W (by have:=ho.pkg;show e.pkg.length≤maxLen;unfold maxLen;omega)
 have b1:∀W,Calls Tryz.prog 96 #[.string (B e.question),.int .u8 33,.int .i64 128] W fun en w'=>en = .returned (.bool (kep e.question 33 128))∧w'=W:=fun W=>khk (B e.question) 33 128 W (by have:=ho.question;show e.question.length≤maxLen;unfold maxLen;omega) (by omega)
 have b2:∀W,Calls Tryz.prog 96 #[.string (B e.scope),.int .u8 33,.int .i64 128] W fun en w'=>en = .returned (.bool (kep e.scope 33 128))∧w'=W:=fun W=>khk (B e.scope) 33 128 W (by have:=ho.scope;show e.scope.length≤maxLen;unfold maxLen;omega) (by omega)
 have b3:∀W,Calls Tryz.prog 96 #[.string (B e.answer),.int .u8 32,.int .i64 200] W fun en w'=>en = .returned (.bool (kep e.answer 32 200))∧w'=W:=fun W=>khk (B e.answer) 32 200 W (by have:=ho.answer;show e.answer.length≤maxLen;unfold maxLen;omega) (by omega)
 rw [B_list] at q1 q2;have HQ2:=hdd q2;have HB1:=hdd b1;have HB2:=hdd b2;have HB3:=hdd b3;clear ho q2 b1 b2 b3
 go_enter Tryz.func40,Tryz.ntmps40
 go_upto_region 1 with fail
 generalize hwa:w.alloc (.cells (slE e na ta sa ha ra nc tc sc hc rc) 45)=wA;obtain ⟨hA1,hA2,hA3⟩:=hA wA hwa.symm;clear hwa hA;obtain ⟨e0,e1,e2,e3,-⟩:=ka3 hA1;have HA:=hdd hA1;have HB:=hdd hA2;have HL:=hdd hA3;have HN:=hdd (hN.below hA2);have HT:=hdd (hT.below hA2);clear hA1 hA2 hA3 hN hT
 by_cases c1:Rv.nameB e.author=true
 rotate_left
 ·simp only [Bool.not_eq_true] at c1
  rw [c1] at q1;have hv:Rv.validE e=1:=by unfold Rv.validE;rw [if_neg (by unfold Rv.validB;simp [c1])]
  have HV:=hdd hv;clear hv
  go_wp2_with (first|(go_at_call 93;(with_reducible refine (q1 _).mono ?_);rintro en w' ⟨rfl,hw⟩;have hw:=hw.symm;subst hw)|(go_at_call 94;refine (kb0 _ _ _ HN.out).mono ?_;rintro en w' ⟨rfl,hw⟩;have hw:=hw.symm;subst hw;rw [H5.out])|fail)
  go_ret
  rw [HV.out];exact ⟨rfl,HB.out⟩
 rw [c1] at q1
 by_cases c2:0≤e.number
 rotate_left
 ·have d2:decide (e.number<0)=true:=decide_eq_true (by omega)
  have hv:Rv.validE e=1:=by unfold Rv.validE;rw [if_neg (by unfold Rv.validB;simp [c2])]
  have HV:=hdd hv;clear hv
  go_wp2_with (first|(go_at_call 93;(with_reducible refine (q1 _).mono ?_);rintro en w' ⟨rfl,hw⟩;have hw:=hw.symm;subst hw)|(go_at_call 94;refine (kb0 _ _ _ HN.out).mono ?_;rintro en w' ⟨rfl,hw⟩;have hw:=hw.symm;subst hw;rw [H5.out])|fail)
  go_ret
  rw [HV.out];exact ⟨rfl,HB.out⟩
 have d2:decide (e.number<0)=false:=decide_eq_false (by omega)
 by_cases c3:e.number≤63
 rotate_left
 ·have d3:decide (63<e.number)=true:=decide_eq_true (by omega)
  have hv:Rv.validE e=1:=by unfold Rv.validE;rw [if_neg (by unfold Rv.validB;simp [c3])]
  have HV:=hdd hv;clear hv
  go_wp2_with (first|(go_at_call 93;(with_reducible refine (q1 _).mono ?_);rintro en w' ⟨rfl,hw⟩;have hw:=hw.symm;subst hw)|(go_at_call 94;refine (kb0 _ _ _ HN.out).mono ?_;rintro en w' ⟨rfl,hw⟩;have hw:=hw.symm;subst hw;rw [H5.out])|fail)
  go_ret
  rw [HV.out];exact ⟨rfl,HB.out⟩
 have d3:decide (63<e.number)=false:=decide_eq_false (by omega)
 by_cases c4:e.names.length≤16
 rotate_left
 ·have d4:decide ((16:Int)<(e.names.length:Int))=true:=decide_eq_true (by omega)
  have hv:Rv.validE e=1:=by unfold Rv.validE;rw [if_neg (by unfold Rv.validB;simp [Rv.namesB,c4])]
  have HV:=hdd hv;clear hv
  go_wp2_with (first|(go_at_call 93;(with_reducible refine (q1 _).mono ?_);rintro en w' ⟨rfl,hw⟩;have hw:=hw.symm;subst hw)|(go_at_call 94;refine (kb0 _ _ _ HN.out).mono ?_;rintro en w' ⟨rfl,hw⟩;have hw:=hw.symm;subst hw;rw [H5.out])|fail)
  go_ret
  rw [HV.out];exact ⟨rfl,HB.out⟩
 have d4:decide ((16:Int)<(e.names.length:Int))=false:=decide_eq_false (by omega)
 cases c5:e.names.all Rv.digB with
 |false =>
  have H5:=hdd c5;have hv:Rv.validE e=1:=by unfold Rv.validE;rw [if_neg (by unfold Rv.validB;simp [Rv.namesB,c5])]
  have HV:=hdd hv;clear hv
  go_wp2_with (first|(go_at_call 93;(with_reducible refine (q1 _).mono ?_);rintro en w' ⟨rfl,hw⟩;have hw:=hw.symm;subst hw)|(go_at_call 94;refine (kb0 _ _ _ HN.out).mono ?_;rintro en w' ⟨rfl,hw⟩;have hw:=hw.symm;subst hw;rw [H5.out])|fail)
  go_ret
  rw [HV.out];exact ⟨rfl,HB.out⟩
 |true =>
  have H5:=hdd c5;clear c5
  go_upto_region 3 with (first|(go_at_call 93;(with_reducible refine (q1 _).mono ?_);rintro en w' ⟨rfl,hw⟩;have hw:=hw.symm;subst hw)|(go_at_call 94;refine (kb0 _ _ _ HN.out).mono ?_;rintro en w' ⟨rfl,hw⟩;have hw:=hw.symm;subst hw;rw [H5.out])|fail)
  have HW:=hdd (fun (W:World) (hb:Below wA.heap.size wA W)=>show W.heap[w.heap.size]? = some (.cells (slE e na ta sa ha ra nc tc sc hc rc) 45 (0,0)) from kab hb HL.out HA.out);have HC1:=hdd c1;have HC2:=hdd (And.intro c2 c3);have HC4:=hdd c4;clear e0 e1 e2 e3 c1 c2 c3 q1 d2 d3 d4
  go_wp2
  go_loopw [3] (fun n wr=>Below wA.heap.size wA wr∧∃k:Nat,1≤k∧(k≤e.names.length∨k=1)∧n = .int .i64 k∧Rv.ascB (e.names.take k)=true) (fun n _=>e.names.length - (intOf n).toNat)
  case atStart=>exact ⟨Below.refl _ _,1,Nat.le_refl _,.inr rfl,rfl,by cases e.names <;> rfl⟩
  case round =>
   obtain ⟨hb,k,hk1,hk,rfl,hA⟩:=hrel;have HAs:=hdd hA;have HBr:=hdd hb;have hnr:=HN.out.below hb;obtain ⟨-,-,-,e3,-⟩:=ka3 (HW.out _ hb);clear hA hb
   by_cases hlt:k<e.names.length
   ·obtain ⟨b,off,cap',hv,hb,hc⟩:=hnr.text rfl hlt
    simp only [Value.slice.injEq,true_and] at hv;obtain ⟨rfl,rfl⟩:=hv;obtain ⟨x,hx⟩:∃x,e.names.getD k []=x:=⟨_,rfl⟩;rw [hx] at hc;obtain ⟨b2,off2,cap2,hv2,hb2,hc2⟩:=hnr.text rfl (show k - 1<e.names.length by omega);simp only [Value.slice.injEq,true_and,Option.some.injEq,Addr.mk.injEq,and_true] at hv2;obtain ⟨⟨rfl,rfl⟩,rfl⟩:=hv2;obtain ⟨y,hy⟩:∃y,e.names.getD (k - 1) []=y:=⟨_,rfl⟩;rw [hy] at hc2;have hst:=kma e.names hlt HAs.out;rw [decide_eq_false (show ¬ k=0 by omega),Bool.false_or,hx,hy] at hst;have HSt:=hdd hst;have hq1:IntKind.i64.wrap ((k:Int) - 1)=((k - 1:Nat):Int):=by rw [IntWalk.i64_in _ (by omega)];omega
    have hq2:((k:Int) - 1).toNat=k - 1:=by omega
    have hq3:(0:Int)≤(k:Int) - 1:=by omega
    clear hx hy hst hnr
    by_cases hl:Rv.ltB y x=true
    ·have hl2:Op.bytesLess (B y).toList (B x).toList=true:=(kcc y x).trans hl
     have HL2:=hdd hl;clear hl
     go_upto_region 6 with fail
     go_quiet (fail)
     go_wp2
     go_roundw
     case rel=>exact ⟨kcl HBr.out _,k+1,by omega,.inl (by omega),by go_num,by rw [HSt.out];exact HL2.out⟩
     case measure=>simp [intOf];omega
    ·simp only [Bool.not_eq_true] at hl
     have hl2:Op.bytesLess (B y).toList (B x).toList=false:=(kcc y x).trans hl;have hasc:Rv.ascB e.names=false:=kq3 e.names (k:=k+1) (by rw [HSt.out];exact hl);have hv:Rv.validE e=1:=by unfold Rv.validE;rw [if_neg (by unfold Rv.validB;simp [Rv.namesB,hasc])]
     have HV:=hdd hv;clear hl hv hasc
     go_upto_region 6 with fail
     go_quiet (fail)
     go_wp2
     go_ret
     rw [HV.out];exact ⟨rfl,HB.out.trans ((kcl HBr.out _).mono HB.out.size)⟩
   ·have hA:=HAs.out
    rw [List.take_of_length_le (by omega)] at hA;have HAsc:=hdd hA
    have hval:Rv.validB e=(Rv.kindB e && (decide (e.kind=1) || (decide (1≤e.number) && decide (0<e.names.length))) && Rv.restB e):=by
     have hnm:Rv.namesB e.names=true:=by unfold Rv.namesB;rw [H5.out,hA,decide_eq_true HC4.out];rfl
     unfold Rv.validB;rw [HC1.out,hnm,decide_eq_true HC2.out.1,decide_eq_true HC2.out.2];rfl
    have HVal:=hdd hval;clear hA hk1 hnr HAs hval
    go_upto_region 8 with fail
    obtain ⟨e0,-,e2,-⟩:=ka3 (HW.out _ HBr.out);have HCells:=hdd (fun (W:World) (hb:Below wr.heap.size wr W)=>ka3 (HW.out _ (HBr.out.trans (hb.mono HBr.out.size))));have HTr:=hdd (fun (W:World) (hb:Below wr.heap.size wr W)=>HT.out.below (HBr.out.trans (hb.mono HBr.out.size)));have HBw:=hdd (fun (W:World) (hb:Below wr.heap.size wr W)=>HB.out.trans ((HBr.out.trans (hb.mono HBr.out.size)).mono HB.out.size));clear hk hlt c4 HBr HN HA HL
    by_cases k1:e.kind=1
    ·have d1:(e.kind == 1)=true:=by simp [k1]
     by_cases n0:e.number=0
     rotate_left
     ·have d2:(e.number == 0)=false:=by simpa using n0
      have HV:=hdd (show Rv.validE e=1 by unfold Rv.validE;rw [if_neg (by rw [HVal.out];unfold Rv.kindB;simp [k1,n0])])
      go_wp2
      go_ret
      rw [HV.out];exact ⟨rfl,HBw.out _ (Below.refl _ _)⟩
     have d2:(e.number == 0)=true:=by simp [n0]
     have HV:=hdd (show Rv.validB e=(Rv.digB e.root && ket e.bits e.height && (decide (e.pkg=[]) && decide (e.digest=[]) && (decide (e.question=[]) && decide (e.scope=[]) && decide (e.answer=[]) && decide (e.till=0)) && decide (e.targets=[]))) by
      rw [HVal.out];unfold Rv.kindB Rv.restB;simp [k1,n0])
     clear HVal n0
     go_upto_region 10 with fail
     rw [k1] at e0;clear d1 d2
     go_quiet (fail)
     go_upto_region 12 with fail
     have hq:Below wr.heap.size wr (wr.drewN nq):=kcl (Below.refl _ _) _;generalize wr.drewN nq=wq at *;have HQ:=hdd hq;obtain ⟨-,-,-,-,e4,e5,e6,-⟩:=HCells.out wq hq;clear hq e0 e2 e3
     cases hd:Rv.digB e.root with
     |false =>
      have HD:=hdd hd;have HVE:=hdd (show Rv.validE e=1 by unfold Rv.validE;rw [if_neg (by rw [HV.out,hd];simp)]);clear hd
      go_wp2_with (first|(go_at_call 95;refine (kcm e.root _).mono ?_;rintro en w' ⟨rfl,hw⟩;have hw:=hw.symm;subst hw;rw [HD.out])|fail)
      go_ret
      rw [HVE.out];exact ⟨rfl,HBw.out _ HQ.out⟩
     |true =>
      have HD:=hdd hd;rw [hd] at HV;clear hd
      cases hk:ket e.bits e.height with
      |false =>
       have HVE:=hdd (show Rv.validE e=1 by unfold Rv.validE;rw [if_neg (by rw [HV.out,hk];simp)]);have HK:=hdd (ktu e.bits e.height wq hk);clear hk
       go_wp2_with (first|(go_at_call 95;refine (kcm e.root _).mono ?_;rintro en w' ⟨rfl,hw⟩;have hw:=hw.symm;subst hw;rw [HD.out])|(go_at_call 80;refine (HK.out).mono ?_;rintro en w5 ⟨rfl,hb5⟩;have HB5:=hdd hb5;clear hb5)|fail)
       go_ret
       rw [HVE.out];exact ⟨rfl,HBw.out _ (HQ.out.next HB5.out)⟩
      |true =>
       have HK:=hdd (kqm e.bits e.height wq hk);rw [hk] at HV;clear hk
       go_upto_region 24 with (first|(go_at_call 95;refine (kcm e.root _).mono ?_;rintro en w' ⟨rfl,hw⟩;have hw:=hw.symm;subst hw;rw [HD.out])|(go_at_call 80;refine (HK.out).mono ?_;rintro en w5 ⟨rfl,hb5⟩;have HB5:=hdd hb5;clear hb5)|fail)
       have h5:=HQ.out.next HB5.out;obtain ⟨-,-,-,-,-,-,-,e7,e8,e9,e10,e11,e12,e13,-⟩:=HCells.out w5 h5;have HE:=hdd (HBw.out w5 h5);clear h5 e4 e5 e6;obtain ⟨p4,h4⟩:∃p,decide (e.pkg=[])=p:=⟨_,rfl⟩;obtain ⟨p5,h5⟩:∃p,decide (e.digest=[])=p:=⟨_,rfl⟩;obtain ⟨p6,h6⟩:∃p,decide (e.question=[])=p:=⟨_,rfl⟩;obtain ⟨p7,h7⟩:∃p,decide (e.scope=[])=p:=⟨_,rfl⟩;obtain ⟨p8,h8⟩:∃p,decide (e.answer=[])=p:=⟨_,rfl⟩;obtain ⟨p9,h9⟩:∃p,decide (e.till=0)=p:=⟨_,rfl⟩;obtain ⟨p10,h10⟩:∃p,decide (e.targets=[])=p:=⟨_,rfl⟩;have q4:=(kb5 e.pkg).trans h4;have q5:=(kb5 e.digest).trans h5;have q6:=(kb5 e.question).trans h6;have q7:=(kb5 e.scope).trans h7;have q8:=(kb5 e.answer).trans h8;have q9:(e.till != 0) = !p9:=by rw [←h9];simp [bne,BEq.beq]
       have q10:decide (0<e.targets.length) = !p10:=by rw [←h10];cases e.targets <;> simp
       rw [h4,h5,h6,h7,h8,h9,h10] at HV;have HVE:=hdd (show Rv.validE e=if (true && true && (p4 && p5 && (p6 && p7 && p8 && p9) && p10))=true then 0 else 1 by unfold Rv.validE;rw [HV.out]);clear h4 h5 h6 h7 h8 h9 h10
       go_wp2
       all_goals
        go_ret
        rw [HVE.out];refine ⟨congrArg (fun n=>Ending.returned (Value.int .i64 n)) ?_,HE.out⟩;clear HVE q4 q5 q6 q7 q8 q9 q10
        first|(simp [*];done)|(simp_all;done)
    ·have d1:(e.kind == 1)=false:=by simpa using k1
     by_cases n0:e.number=0
     ·have d2:(e.number == 0)=true:=by simp [n0]
      have HV:=hdd (show Rv.validE e=1 by unfold Rv.validE;rw [if_neg (by rw [HVal.out];simp [k1,n0])])
      go_wp2
      go_ret
      rw [HV.out];exact ⟨rfl,HBw.out _ (Below.refl _ _)⟩
     have d2:(e.number == 0)=false:=by simpa using n0
     by_cases n1:e.names=[]
     ·have d3:e.names.length=0:=by simp [n1]
      have HV:=hdd (show Rv.validE e=1 by unfold Rv.validE;rw [if_neg (by rw [HVal.out];simp [k1,n1])]);rw [d3] at e3;clear n1
      go_wp2
      go_ret
      rw [HV.out];exact ⟨rfl,HBw.out _ (Below.refl _ _)⟩
     have d3:((e.names.length:Int) == 0)=false:=by cases hz:e.names with|nil=>exact absurd hz n1|cons a r=>simp;omega
     have HV0:=hdd (show Rv.validB e=(Rv.kindB e && Rv.restB e) by
      have h1:1≤e.number:=by have:=HC2.out.1;omega
      have h2:0<e.names.length:=List.length_pos_iff.2 n1;rw [HVal.out,decide_eq_true h1,decide_eq_true h2];simp)
     clear HVal n0 n1
     go_upto_region 10 with fail
     clear d2 d3
     by_cases k2:e.kind=2
     ·have hk:=k2
      rw [k2] at e0
      go_quiet (fail)
      go_upto_region 12 with fail
      have hq:Below wr.heap.size wr (wr.drewN nq):=kcl (Below.refl _ _) _;generalize wr.drewN nq=wq at *;have HE:=hdd (HBw.out wq hq);have HTq:=hdd (HTr.out wq hq);obtain ⟨f0,-,-,-,f4,f5,f6,f7,f8,f9,f10,f11,f12,f13,-⟩:=HCells.out wq hq;clear hq e0 e2 e3;obtain ⟨b1,hb1⟩:∃p,Rv.nameB e.pkg=p:=⟨_,rfl⟩;obtain ⟨b2,hb2⟩:∃p,Rv.digB e.digest=p:=⟨_,rfl⟩;have HN2:=hdd HQ2.out;rw [hb1] at HN2;have HD2:=hdd (kcm e.digest);rw [hb2] at HD2;obtain ⟨p1,hp1⟩:∃p,decide (e.root=[])=p:=⟨_,rfl⟩;have qp1:=(kb5 e.root).trans hp1;obtain ⟨p2,hp2⟩:∃p,decide (e.bits=0)=p:=⟨_,rfl⟩;have qp2:(e.bits == 0)=p2:=by rw [←hp2];rfl
      obtain ⟨p3,hp3⟩:∃p,decide (e.height=0)=p:=⟨_,rfl⟩;have qp3:(e.height == 0)=p3:=by rw [←hp3];rfl
      obtain ⟨p6,hp6⟩:∃p,decide (e.question=[])=p:=⟨_,rfl⟩;have qp6:=(kb5 e.question).trans hp6;obtain ⟨p7,hp7⟩:∃p,decide (e.scope=[])=p:=⟨_,rfl⟩;have qp7:=(kb5 e.scope).trans hp7;obtain ⟨p8,hp8⟩:∃p,decide (e.answer=[])=p:=⟨_,rfl⟩;have qp8:=(kb5 e.answer).trans hp8;obtain ⟨p9,hp9⟩:∃p,decide (e.till=0)=p:=⟨_,rfl⟩;have qp9:(e.till != 0) = !p9:=by rw [←hp9];simp [bne,BEq.beq]
      obtain ⟨p10,hp10⟩:∃p,decide (e.targets=[])=p:=⟨_,rfl⟩;have qp10:decide (0<e.targets.length) = !p10:=by rw [←hp10];cases e.targets <;> simp
      have HVE:=hdd (show Rv.validE e=if (b1 && b2 && (p1 && p2 && p3 && (p6 && p7 && p8 && p9) && p10))=true then 0 else 1 by
       unfold Rv.validE;rw [HV0.out];unfold Rv.kindB Rv.restB;rw [hb1,hb2,hp1,hp2,hp3,hp6,hp7,hp8,hp9,hp10];simp [hk])
      clear hp1 hp2 hp3 hp6 hp7 hp8 hp9 hp10 hb1 hb2 k1 d1
      go_wp2_with (first|(go_at_call 93;(with_reducible refine (HN2.out _).mono ?_);rintro en w' ⟨rfl,hw⟩;have hw:=hw.symm;subst hw)|(go_at_call 95;refine (HD2.out _).mono ?_;rintro en w' ⟨rfl,hw⟩;have hw:=hw.symm;subst hw)|fail)
      all_goals
       go_ret
       rw [HVE.out];refine ⟨congrArg (fun n=>Ending.returned (Value.int .i64 n)) ?_,HE.out⟩;clear HVE qp1 qp2 qp3 qp6 qp7 qp8 qp9 qp10
       first|(simp [*];done)|(simp_all;done)
     by_cases k3:e.kind=3
     ·have hk:=k3
      have d4:(e.kind == 2)=false:=by simpa using k2
      rw [k3] at e0
      go_quiet (fail)
      go_upto_region 12 with fail
      have hq:Below wr.heap.size wr (wr.drewN nq):=kcl (Below.refl _ _) _;generalize wr.drewN nq=wq at *;have HE:=hdd (HBw.out wq hq);have HTq:=hdd (HTr.out wq hq);obtain ⟨f0,-,-,-,f4,f5,f6,f7,f8,f9,f10,f11,f12,f13,-⟩:=HCells.out wq hq;clear hq e0 e2 e3;obtain ⟨b0,hb0⟩:∃p,decide (0<e.question.length)=p:=⟨_,rfl⟩;obtain ⟨b1,hb1⟩:∃p,kep e.question 33 128=p:=⟨_,rfl⟩;obtain ⟨b2,hb2⟩:∃p,kep e.scope 33 128=p:=⟨_,rfl⟩;obtain ⟨b3,hb3⟩:∃p,kep e.answer 32 200=p:=⟨_,rfl⟩;obtain ⟨b4,hb4⟩:∃p,Rv.digB e.digest=p:=⟨_,rfl⟩;obtain ⟨b5,hb5⟩:∃p,decide (0≤e.till)=p:=⟨_,rfl⟩;obtain ⟨b6,hb6⟩:∃p,decide (e.till≤1000)=p:=⟨_,rfl⟩;have HY1:=hdd HB1.out;have HY2:=hdd HB2.out;have HY3:=hdd HB3.out;rw [hb1] at HY1;rw [hb2] at HY2;rw [hb3] at HY3;have HD2:=hdd (kcm e.digest);rw [hb4] at HD2;have z0:decide (0<(B e.question).size)=b0:=hb0;obtain ⟨p1,hp1⟩:∃p,decide (e.root=[])=p:=⟨_,rfl⟩;have qp1:=(kb5 e.root).trans hp1;obtain ⟨p2,hp2⟩:∃p,decide (e.bits=0)=p:=⟨_,rfl⟩;have qp2:(e.bits == 0)=p2:=by rw [←hp2];rfl
      obtain ⟨p3,hp3⟩:∃p,decide (e.height=0)=p:=⟨_,rfl⟩;have qp3:(e.height == 0)=p3:=by rw [←hp3];rfl
      obtain ⟨p4,hp4⟩:∃p,decide (e.pkg=[])=p:=⟨_,rfl⟩;have qp4:=(kb5 e.pkg).trans hp4;obtain ⟨p10,hp10⟩:∃p,decide (e.targets=[])=p:=⟨_,rfl⟩;have qp10:decide (0<e.targets.length) = !p10:=by rw [←hp10];cases e.targets <;> simp
      have HVE:=hdd (show Rv.validE e=if (b0 && b1 && b2 && b3 && b4 && b5 && b6 && (p1 && p2 && p3 && p4 && p10))=true then 0 else 1 by
       have t1:Rv.textB e.question 1 128 33=(b0 && b1):=by rw [←hb0,←hb1];unfold Rv.textB kep;rw [show decide (1≤e.question.length)=decide (0<e.question.length) from rfl];rw [Bool.and_assoc];congr 1;exact Bool.and_comm _ _
       have t2:Rv.textB e.scope 0 128 33=b2:=by rw [←hb2];unfold Rv.textB kep;simp [Bool.and_comm]
       have t3:Rv.textB e.answer 0 200 32=b3:=by rw [←hb3];unfold Rv.textB kep;simp [Bool.and_comm]
       unfold Rv.validE;rw [HV0.out];unfold Rv.kindB Rv.restB Rv.decidesB;rw [t1,t2,t3,hb4,hb5,hb6,hp1,hp2,hp3,hp4,hp10];simp [hk])
      clear hp1 hp2 hp3 hp4 hp10 hb0 hb1 hb2 hb3 hb4 k1 d1 k2
      go_wp2_with (first|(go_at_call 96;(with_reducible refine (HY1.out _).mono ?_);rintro en w' ⟨rfl,hw⟩;have hw:=hw.symm;subst hw)|(go_at_call 96;(with_reducible refine (HY2.out _).mono ?_);rintro en w' ⟨rfl,hw⟩;have hw:=hw.symm;subst hw)|(go_at_call 96;(with_reducible refine (HY3.out _).mono ?_);rintro en w' ⟨rfl,hw⟩;have hw:=hw.symm;subst hw)|(go_at_call 95;refine (HD2.out _).mono ?_;rintro en w' ⟨rfl,hw⟩;have hw:=hw.symm;subst hw)|fail)
      all_goals
       go_ret
       rw [HVE.out];refine ⟨congrArg (fun n=>Ending.returned (Value.int .i64 n)) ?_,HE.out⟩;clear HVE qp1 qp2 qp3 qp4 qp10
       first|(simp [*];done)|(simp_all;done)
     by_cases k4:e.kind=4
     ·have hk:=k4
      have d4:(e.kind == 2)=false:=by simpa using k2
      have d5:(e.kind == 3)=false:=by simpa using k3
      rw [k4] at e0
      go_quiet (fail)
      go_upto_region 12 with fail
      have hq:Below wr.heap.size wr (wr.drewN nq):=kcl (Below.refl _ _) _;generalize wr.drewN nq=wq at *;have HE:=hdd (HBw.out wq hq);have HTq:=hdd (HTr.out wq hq);obtain ⟨f0,-,-,-,f4,f5,f6,f7,f8,f9,f10,f11,f12,f13,-⟩:=HCells.out wq hq;clear hq e0 e2 e3;obtain ⟨b1,hb1⟩:∃p,decide (e.targets.length=1)=p:=⟨_,rfl⟩;obtain ⟨b2,hb2⟩:∃p,e.targets.all Rv.digB=p:=⟨_,rfl⟩;have HD2:=hdd (kb0 _ _ _ HTq.out);rw [hb2] at HD2;have z0:(e.targets.length == 1)=b1:=by rw [←hb1];rfl
      have z1:((e.targets.length:Int) == 1)=b1:=by rw [←z0];simp [BEq.beq];omega
      obtain ⟨p1,hp1⟩:∃p,decide (e.root=[])=p:=⟨_,rfl⟩;have qp1:=(kb5 e.root).trans hp1;obtain ⟨p2,hp2⟩:∃p,decide (e.bits=0)=p:=⟨_,rfl⟩;have qp2:(e.bits == 0)=p2:=by rw [←hp2];rfl
      obtain ⟨p3,hp3⟩:∃p,decide (e.height=0)=p:=⟨_,rfl⟩;have qp3:(e.height == 0)=p3:=by rw [←hp3];rfl
      obtain ⟨p4,hp4⟩:∃p,decide (e.pkg=[])=p:=⟨_,rfl⟩;have qp4:=(kb5 e.pkg).trans hp4;obtain ⟨p5,hp5⟩:∃p,decide (e.digest=[])=p:=⟨_,rfl⟩;have qp5:=(kb5 e.digest).trans hp5;obtain ⟨p6,hp6⟩:∃p,decide (e.question=[])=p:=⟨_,rfl⟩;have qp6:=(kb5 e.question).trans hp6;obtain ⟨p7,hp7⟩:∃p,decide (e.scope=[])=p:=⟨_,rfl⟩;have qp7:=(kb5 e.scope).trans hp7;obtain ⟨p8,hp8⟩:∃p,decide (e.answer=[])=p:=⟨_,rfl⟩;have qp8:=(kb5 e.answer).trans hp8;obtain ⟨p9,hp9⟩:∃p,decide (e.till=0)=p:=⟨_,rfl⟩;have qp9:(e.till != 0) = !p9:=by rw [←hp9];simp [bne,BEq.beq]
      have HVE:=hdd (show Rv.validE e=if (b1 && b2 && (p1 && p2 && p3 && p4 && p5 && (p6 && p7 && p8 && p9)))=true then 0 else 1 by
       have t1:(decide (e.targets.length=1) && Rv.digB (e.targets.getD 0 []))=(b1 && b2):=by
        rw [←hb1,←hb2]
        cases hz:e.targets with
        |nil=>rfl
        |cons x r=>cases r <;> simp
       unfold Rv.validE;rw [HV0.out];unfold Rv.kindB Rv.restB;rw [t1,hp1,hp2,hp3,hp4,hp5,hp6,hp7,hp8,hp9];simp [hk])
      clear hp1 hp2 hp3 hp4 hp5 hp6 hp7 hp8 hp9 hb1 hb2 k1 d1 k2 k3 d4 d5
      go_wp2_with (first|(go_at_call 94;refine (HD2.out).mono ?_;rintro en w' ⟨rfl,hw⟩;have hw:=hw.symm;subst hw)|fail)
      all_goals
       go_ret
       rw [HVE.out];refine ⟨congrArg (fun n=>Ending.returned (Value.int .i64 n)) ?_,HE.out⟩;clear HVE qp1 qp2 qp3 qp4 qp5 qp6 qp7 qp8 qp9
       first|(simp [*];done)|(simp_all;done)
     have d4:(e.kind == 2)=false:=by simpa using k2
     have d5:(e.kind == 3)=false:=by simpa using k3
     have d6:(e.kind == 4)=false:=by simpa using k4
     by_cases k5:e.kind=5
     rotate_left
     ·have d7:(e.kind == 5)=false:=by simpa using k5
      have HV:=hdd (show Rv.validE e=1 by unfold Rv.validE;rw [if_neg (by rw [HV0.out];unfold Rv.kindB;simp [k1,k2,k3,k4,k5])])
      go_quiet (fail)
      go_upto_region 12 with fail
      have hq:Below wr.heap.size wr (wr.drewN nq):=kcl (Below.refl _ _) _;generalize wr.drewN nq=wq at *;have HE:=hdd (HBw.out wq hq);have HTq:=hdd (HTr.out wq hq);have HQ:=hdd hq;obtain ⟨f0,-,-,-,f4,f5,f6,f7,f8,f9,f10,f11,f12,f13,-⟩:=HCells.out wq hq;clear hq e0 e2 e3;clear k1 k2 k3 k4 k5
      go_wp2
      go_ret
      rw [HV.out];exact ⟨rfl,HE.out⟩
     have hk:=k5;rw [k5] at e0
     go_quiet (fail)
     go_upto_region 12 with fail
     have hq:Below wr.heap.size wr (wr.drewN nq):=kcl (Below.refl _ _) _;generalize wr.drewN nq=wq at *;have HE:=hdd (HBw.out wq hq);have HTq:=hdd (HTr.out wq hq);have HQ:=hdd hq;obtain ⟨f0,-,-,-,f4,f5,f6,f7,f8,f9,f10,f11,f12,f13,-⟩:=HCells.out wq hq;clear hq e0 e2 e3;clear k1 k2 k3 k4 d1 d4 d5 d6
     have HVn:=hdd (fun (h:¬ (e.targets.length=2∧e.targets.all Rv.digB=true∧e.targets.getD 0 []≠e.targets.getD 1 []))=>show Rv.validE e=1 by
      unfold Rv.validE;rw [if_neg];rw [HV0.out];intro hv;rw [Bool.and_eq_true] at hv;have hv1:=hv.1;unfold Rv.kindB at hv1;rw [if_neg (by omega),if_neg (by omega),if_neg (by omega),if_neg (by omega),if_pos hk] at hv1;simp only [Bool.and_eq_true,decide_eq_true_eq,Bool.not_eq_true',decide_eq_false_iff_not] at hv1;obtain ⟨⟨⟨g1,g2⟩,g3⟩,g4⟩:=hv1;refine h ⟨g1,?_,g4⟩
      match hz:e.targets,g1 with
      | [x,y],_=>rw [hz] at g2 g3;simpa using And.intro g2 g3)
     have HDg:=hdd (fun W (hb:Below wq.heap.size wq W)=>kb0 _ e.targets W (HTq.out.below hb))
     by_cases t1:e.targets.length=2
     rotate_left
     ·have z1:((e.targets.length:Int) == 2)=false:=by simp;omega
      have HV:=hdd (HVn.out fun q=>t1 q.1);clear t1
      go_upto_region 21 with fail
      go_quiet (fail)
      go_wp2
      go_ret
      rw [HV.out];exact ⟨rfl,kcl HE.out _⟩
     obtain ⟨b0,off0,cap0,hv0,hb0,hc0⟩:=HTq.out.text rfl (show 0<e.targets.length by omega);simp only [Value.slice.injEq,true_and] at hv0;obtain ⟨rfl,rfl⟩:=hv0;obtain ⟨b1,off1,cap1,hv1,hb1,hc1⟩:=HTq.out.text rfl (show 1<e.targets.length by omega);simp only [Value.slice.injEq,true_and,Option.some.injEq,Addr.mk.injEq,and_true] at hv1;obtain ⟨⟨rfl,rfl⟩,rfl⟩:=hv1;obtain ⟨x,hx⟩:∃x,e.targets.getD 0 []=x:=⟨_,rfl⟩;obtain ⟨y,hy⟩:∃y,e.targets.getD 1 []=y:=⟨_,rfl⟩;rw [hx] at hc0 HVn;rw [hy] at hc1 HVn;have HXY:=hdd (And.intro hx hy);have hc0':wq.cell? ⟨b0,off0,none⟩=some (.string (B x)):=by rw [←Nat.add_zero off0];exact hc0
     have HT1:=hdd t1;rw [t1] at f13;simp only [t1] at HDg;clear hx hy t1 hb0 hb1
     cases ha:e.targets.all Rv.digB with
     |false =>
      have HV:=hdd (HVn.out fun q=>by rw [ha] at q;exact absurd q.2.1 (by simp));rw [ha] at HDg;clear ha
      go_upto_region 21 with fail
      go_quiet ((go_at_call 94;exact Calls.quiet_of_same (HDg.out _ (kcl (Below.refl _ _) _))))
      go_wp2
      go_ret
      rw [HV.out];exact ⟨rfl,kcl HE.out _⟩
     |true =>
      have HA:=hdd ha;rw [ha] at HDg;clear ha
      by_cases hxy:x=y
      ·have z2:((B x).toList != (B y).toList)=false:=by rw [hxy,bne,kbx];rfl
       have HV:=hdd (HVn.out fun q=>q.2.2 hxy);have z3:((B x).toList == (B y).toList)=true:=by rw [hxy];exact kbx _
       clear hxy
       go_upto_region 21 with fail
       go_quiet ((go_at_call 94;exact Calls.quiet_of_same (HDg.out _ (kcl (Below.refl _ _) _))))
       go_wp2
       go_ret
       rw [HV.out];exact ⟨rfl,kcl HE.out _⟩
      have z2:((B x).toList != (B y).toList)=true:=by rw [bne,kby hxy];rfl
      have z3:((B x).toList == (B y).toList)=false:=kby hxy;have HXn:=hdd hxy;clear hxy
      go_upto_region 21 with fail
      go_quiet ((go_at_call 94;exact Calls.quiet_of_same (HDg.out _ (kcl (Below.refl _ _) _))))
      obtain ⟨p1,hp1⟩:∃p,decide (e.root=[])=p:=⟨_,rfl⟩;have qp1:=(kb5 e.root).trans hp1;obtain ⟨p2,hp2⟩:∃p,decide (e.bits=0)=p:=⟨_,rfl⟩;have qp2:(e.bits == 0)=p2:=by rw [←hp2];rfl
      obtain ⟨p3,hp3⟩:∃p,decide (e.height=0)=p:=⟨_,rfl⟩;have qp3:(e.height == 0)=p3:=by rw [←hp3];rfl
      obtain ⟨p4,hp4⟩:∃p,decide (e.pkg=[])=p:=⟨_,rfl⟩;have qp4:=(kb5 e.pkg).trans hp4;obtain ⟨p5,hp5⟩:∃p,decide (e.digest=[])=p:=⟨_,rfl⟩;have qp5:=(kb5 e.digest).trans hp5;obtain ⟨p6,hp6⟩:∃p,decide (e.question=[])=p:=⟨_,rfl⟩;have qp6:=(kb5 e.question).trans hp6;obtain ⟨p7,hp7⟩:∃p,decide (e.scope=[])=p:=⟨_,rfl⟩;have qp7:=(kb5 e.scope).trans hp7;obtain ⟨p8,hp8⟩:∃p,decide (e.answer=[])=p:=⟨_,rfl⟩;have qp8:=(kb5 e.answer).trans hp8;obtain ⟨p9,hp9⟩:∃p,decide (e.till=0)=p:=⟨_,rfl⟩;have qp9:(e.till != 0) = !p9:=by rw [←hp9];simp [bne,BEq.beq]
      have HVE:=hdd (show Rv.validE e=if (p1 && p2 && p3 && p4 && p5 && (p6 && p7 && p8 && p9))=true then 0 else 1 by
       have t1:Rv.kindB e=true:=by
        unfold Rv.kindB;rw [if_neg (by omega),if_neg (by omega),if_neg (by omega),if_neg (by omega),if_pos hk,decide_eq_true HT1.out];have g:=HA.out;obtain ⟨gx,gy⟩:=HXY.out;have gn:=HXn.out
        match hz:e.targets,HT1.out with
        | [u,v],_ =>
          rw [hz] at g gx gy;have gx':u=x:=gx;have gy':v=y:=gy;subst gx';subst gy';have g2:Rv.digB u=true∧Rv.digB v=true:=by simpa using g
          show (true && Rv.digB u && Rv.digB v && !decide (u=v))=true;rw [g2.1,g2.2,decide_eq_false gn];rfl
       unfold Rv.validE;rw [HV0.out,t1];unfold Rv.restB;rw [hp1,hp2,hp3,hp4,hp5,hp6,hp7,hp8,hp9];simp [hk])
      clear hp1 hp2 hp3 hp4 hp5 hp6 hp7 hp8 hp9
      go_wp2
      all_goals
       go_ret
       rw [HVE.out];refine ⟨congrArg (fun n=>Ending.returned (Value.int .i64 n)) ?_,kcl HE.out _⟩;clear HVE qp1 qp2 qp3 qp4 qp5 qp6 qp7 qp8 qp9
       first|(simp [*];done)|(simp_all;done)
theorem kge (x:Bs) (w:World) (hx:x.length≤maxLen):kcy 87 #[.string (B x)] w (.string (B (Rv.tx x))):=by
 have H:=hdd (ke5 x w hx)
 go_enter Tryz.func87,Tryz.ntmps87
 go_wp2_with (go_at_call 156;refine (H.out).mono ?_;rintro en w3 ⟨rfl,hb⟩;have HB:=hdd hb;clear hb)
 go_ret
 exact ⟨rfl,HB.out⟩
theorem kou (v:Value) (xs:List Bs) (w:World) (h:IsSl v (xs.map vS) w) (hl:∀x∈xs,x.length≤maxLen):kcy 88 #[v] w (.string (B (Rv.txs xs))):=by
 have H:=hdd (kgm v xs w h hl);clear h
 go_enter Tryz.func88,Tryz.ntmps88
 go_wp2_with (go_at_call 110;refine (H.out).mono ?_;rintro en w3 ⟨rfl,hb⟩;have HB:=hdd hb;clear hb)
 go_ret
 exact ⟨rfl,HB.out⟩
theorem kp5 (e:Rv.Ev) (na ta sa ha ra:Option Addr) (nc tc sc hc rc:Nat) (w:World) (h:kcw (evW e na nc ta tc sa sc ha hc ra rc) e w) (hv:Rv.validB e=false) :
 Calls Tryz.prog 36 #[evW e na nc ta tc sa sc ha hc ra rc] w fun en w'=>en = .returned (.tuple #[.string ⟨#[]⟩,.int .i64 1])∧Below w.heap.size w w':=by
 have hb1:Below w.heap.size w (w.alloc (.cells (evS e na nc ta tc sa sc ha hc ra rc) 45)):=(Below.refl _ _).alloc (Nat.le_refl _) _;have hf:=kov _ e _ (h.below hb1);rw [show Rv.validE e=1 by unfold Rv.validE;rw [hv];rfl] at hf;have QF:=hdd hf;have HB1:=hdd hb1;have HE:=hdd (kai w (.cells (evS e na nc ta tc sa sc ha hc ra rc) 45));clear hf h hv hb1
 go_enter Tryz.func36,Tryz.ntmps36
 go_wp2_with (first|(refine wpList_load_row rfl 45 _ rfl w.heap.size rfl 45 (evS e na nc ta tc sa sc ha hc ra rc) (0,0) _ HE.out rfl rfl (by kernel_rfl) ?_)|fail)
 refine (QF.out).mono ?_;rintro en w1 ⟨rfl,hb⟩;have HB2:=hdd (HB1.out.next hb);clear hb
 go_wp2
 go_ret2
 exact ⟨rfl,HB2.out⟩
theorem kqv (e:Rv.Ev) (na ta sa ha ra:Option Addr) (nc tc sc hc rc:Nat) (w:World) (h:kcw (evW e na nc ta tc sa sc ha hc ra rc) e w) (hv:Rv.validB e=true) :
 Calls Tryz.prog 36 #[evW e na nc ta tc sa sc ha hc ra rc] w fun en w'=>en = .returned (.tuple #[.string (B (Rv.encV e)),.int .i64 0])∧Below w.heap.size w w':=by
 have hb1:Below w.heap.size w (w.alloc (.cells (evS e na nc ta tc sa sc ha hc ra rc) 45)):=(Below.refl _ _).alloc (Nat.le_refl _) _;have hf:=kov _ e _ (h.below hb1);rw [show Rv.validE e=0 by unfold Rv.validE;rw [hv];rfl] at hf;have QF:=hdd hf;have HB1:=hdd hb1;have HE:=hdd (kai w (.cells (evS e na nc ta tc sa sc ha hc ra rc) 45));obtain ⟨ho,na',nc',ta',tc',sa',sc',ha',hc',ra',rc',hq,hN,hT,-⟩:=h;simp only [Value.agg.injEq,Array.mk.injEq,List.cons.injEq,Value.slice.injEq,true_and,and_true] at hq;obtain ⟨⟨rfl,rfl⟩,⟨rfl,rfl⟩,-⟩:=hq;have hm:∀n:Nat,n≤1000000000→n≤maxLen:=fun n h=>by unfold maxLen;omega
 have HN:=hdd hN;have HT:=hdd hT;have HNl:=hdd (fun x hx=>hm _ (ho.names x hx));have HTl:=hdd (fun x hx=>hm _ (ho.targets x hx));have hauthor:=hm _ ho.author;have hroot:=hm _ ho.root;have HP:=hdd (And.intro (hm _ ho.pkg) (And.intro (hm _ ho.digest) (And.intro (hm _ ho.question) (And.intro (hm _ ho.scope) (hm _ ho.answer)))));have hsk:=kb3 e.kind;have hsn:=kb3 e.number;have hsb:=kb3 e.bits;have hsh:=kb3 e.height;have hsa:=kd1 e.author;have hsr:=kd1 e.root;have hsx:=kgb e.names;clear hf hv hb1 hN hT ho hm
 go_enter Tryz.func36,Tryz.ntmps36
 go_wp2_with (first|(refine wpList_load_row rfl 45 _ rfl w.heap.size rfl 45 (evS e na nc ta tc sa sc ha hc ra rc) (0,0) _ HE.out rfl rfl (by kernel_rfl) ?_)|fail)
 refine (QF.out).mono ?_;rintro en w1 ⟨rfl,hb⟩;have HB2:=hdd (HB1.out.next hb);have HW1:=hdd (kab hb (by simp) HE.out);clear hb QF HE HB1;have hc1:¬ 9223372036854775807<(B (num e.kind)).size+(B (Rv.tx e.author)).size:=by omega
 have hc2:¬ 9223372036854775807<(B (num e.kind)).size+(B (Rv.tx e.author)).size+(B (num e.number)).size:=by omega
 have hc3:¬ 9223372036854775807<(B (num e.kind)).size+(B (Rv.tx e.author)).size+(B (num e.number)).size+(B (Rv.txs e.names)).size:=by omega
 have hc4:¬ 9223372036854775807<(B (num e.kind)).size+(B (Rv.tx e.author)).size+(B (num e.number)).size+(B (Rv.txs e.names)).size+(B (Rv.tx e.root)).size:=by omega
 have hc5:¬ 9223372036854775807<(B (num e.kind)).size+(B (Rv.tx e.author)).size+(B (num e.number)).size+(B (Rv.txs e.names)).size+(B (Rv.tx e.root)).size+(B (num e.bits)).size:=by omega
 have hc6:¬ 9223372036854775807<(B (num e.kind)).size+(B (Rv.tx e.author)).size+(B (num e.number)).size+(B (Rv.txs e.names)).size+(B (Rv.tx e.root)).size+(B (num e.bits)).size+(B (num e.height)).size:=by omega
 go_upto_region 3 with fail
 have HS:=hdd (fun W (hb:Below w1.heap.size w1 W)=>by
  obtain ⟨e0,e1,e2,e3,e4,e5,e6,-⟩:=ka3 (kab hb (kad HW1.out) HW1.out);exact And.intro e0 (And.intro e1 (And.intro e2 (And.intro e3 (And.intro e4 (And.intro e5 e6))))))
 have HF:=hdd (krc (Below.refl w1.heap.size w1));have HBW:=hdd (fun W (hb:Below w1.heap.size w1 W)=>HB2.out.trans (hb.mono HB2.out.size));refine kaj (S:=fun W:World=>W.cell? ⟨w.heap.size,0,none⟩=some (.int .i64 e.kind)∧W.cell? ⟨w.heap.size,1,none⟩=some (.string (B e.author))∧W.cell? ⟨w.heap.size,2,none⟩=some (.int .i64 e.number)∧W.cell? ⟨w.heap.size,3,none⟩=some (.slice na e.names.length nc)∧W.cell? ⟨w.heap.size,4,none⟩=some (.string (B e.root))∧W.cell? ⟨w.heap.size,5,none⟩=some (.int .i64 e.bits)∧W.cell? ⟨w.heap.size,6,none⟩=some (.int .i64 e.height)) (by kernel_rfl) (HS.out _ HF.out) (fun hHeld=>?_);simp only [List.toList_toArray,len,kat]
 iterate 2 (refine tz 0 ?_;simp only [Act.put,s1,s2,s3])
 iterate 2 (refine tz 3 ?_;simp only [Act.put,s1,s2,s3])
 iterate 2 (refine tz 7 ?_;simp only [Act.put,s1,s2,s3])
 iterate 2 (refine tz 11 ?_;simp only [Act.put,s1,s2,s3])
 iterate 2 (refine tz 15 ?_;simp only [Act.put,s1,s2,s3])
 iterate 3 (refine tz 19 ?_;simp only [Act.put,s1,s2,s3])
 iterate 3 (refine tz 24 ?_;simp only [Act.put,s1,s2,s3])
 refine ar2 2 (by kernel_rfl) rfl (fun K hK=>?_);go_simp
 refine (kli e.kind _).mono ?_;rintro en u ⟨rfl,hb⟩;have HFn:=hdd (HF.out.trans (hb.mono HF.out.size));refine hK.out _ _ (HS.out _ HFn.out) (fun hHeld=>?_);clear hK K hb HF;have HF:=HFn;clear HFn
 try simp only [Act.put,s1,s2,s3]
 refine ar2 5 (by kernel_rfl) rfl (fun K hK=>?_);go_simp
 refine (kge e.author _ hauthor).mono ?_;rintro en u ⟨rfl,hb⟩;have HFn:=hdd (HF.out.trans (hb.mono HF.out.size));refine hK.out _ _ (HS.out _ HFn.out) (fun hHeld=>?_);clear hK K hb HF;have HF:=HFn;clear HFn
 try simp only [Act.put,s1,s2,s3]
 (refine tz 6 ?_;simp only [Act.put,s1,s2,s3])
 refine ar2 9 (by kernel_rfl) rfl (fun K hK=>?_);go_simp
 refine (kli e.number _).mono ?_;rintro en u ⟨rfl,hb⟩;have HFn:=hdd (HF.out.trans (hb.mono HF.out.size));refine hK.out _ _ (HS.out _ HFn.out) (fun hHeld=>?_);clear hK K hb HF;have HF:=HFn;clear HFn
 try simp only [Act.put,s1,s2,s3]
 (refine tz 10 ?_;simp only [Act.put,s1,s2,s3])
 refine ar2 13 (by kernel_rfl) rfl (fun K hK=>?_);go_simp
 refine (kou _ e.names _ (HN.out.below (HBW.out _ HF.out)) HNl.out).mono ?_;rintro en u ⟨rfl,hb⟩;have HFn:=hdd (HF.out.trans (hb.mono HF.out.size));refine hK.out _ _ (HS.out _ HFn.out) (fun hHeld=>?_);clear hK K hb HF;have HF:=HFn;clear HFn
 try simp only [Act.put,s1,s2,s3]
 (refine tz 14 ?_;simp only [Act.put,s1,s2,s3])
 refine ar2 17 (by kernel_rfl) rfl (fun K hK=>?_);go_simp
 refine (kge e.root _ hroot).mono ?_;rintro en u ⟨rfl,hb⟩;have HFn:=hdd (HF.out.trans (hb.mono HF.out.size));refine hK.out _ _ (HS.out _ HFn.out) (fun hHeld=>?_);clear hK K hb HF;have HF:=HFn;clear HFn
 try simp only [Act.put,s1,s2,s3]
 (refine tz 18 ?_;simp only [Act.put,s1,s2,s3])
 refine ar2 22 (by kernel_rfl) rfl (fun K hK=>?_);go_simp
 refine (kli e.bits _).mono ?_;rintro en u ⟨rfl,hb⟩;have HFn:=hdd (HF.out.trans (hb.mono HF.out.size));refine hK.out _ _ (HS.out _ HFn.out) (fun hHeld=>?_);clear hK K hb HF;have HF:=HFn;clear HFn
 try simp only [Act.put,s1,s2,s3]
 (refine tz 23 ?_;simp only [Act.put,s1,s2,s3])
 refine ar2 27 (by kernel_rfl) rfl (fun K hK=>?_);go_simp
 refine (kli e.height _).mono ?_;rintro en u ⟨rfl,hb⟩;have HFn:=hdd (HF.out.trans (hb.mono HF.out.size));refine hK.out _ _ (HS.out _ HFn.out) (fun hHeld=>?_);clear hK K hb HF;have HF:=HFn;clear HFn
 try simp only [Act.put,s1,s2,s3]
 (refine tz 28 ?_;simp only [Act.put,s1,s2,s3])
 (refine tz 29 ?_;simp only [Act.put,s1,s2,s3])
 refine wpAnyH_done (by kernel_rfl) ?_ _;simp only [Exit.then]
 have hh:B (num e.kind)++B (Rv.tx e.author)++B (num e.number)++B (Rv.txs e.names)++B (Rv.tx e.root)++B (num e.bits)++B (num e.height)=B (klb e 0):=by
  simp only [ka5];unfold klb hdV;simp
 rw [hh];clear hh hc1 hc2 hc3 hc4 hc5 hc6 hsk hsn hsb hsh hsa hsr hsx hHeld HS;have HFo:=hdd HF.out;obtain ⟨hpk,hdg,hqu,hsc,han⟩:=HP.out;have s0:=klk e 0 (by omega);have s1:=kd1 e.pkg;have s2:=kd1 e.digest;have s3:=kd1 e.question;have s4:=kd1 e.scope;have s5:=kd1 e.answer;have s6:=kb3 e.till;have s7:=kgb e.targets;have hc1:¬ 9223372036854775807<(B (Rv.tx e.pkg)).size+(B (Rv.tx e.digest)).size:=by omega
 have hc2:¬ 9223372036854775807<(B (Rv.tx e.pkg)).size+(B (Rv.tx e.digest)).size+(B (Rv.tx e.question)).size:=by omega
 have hc3:¬ 9223372036854775807<(B (Rv.tx e.pkg)).size+(B (Rv.tx e.digest)).size+(B (Rv.tx e.question)).size+(B (Rv.tx e.scope)).size:=by omega
 have hc4:¬ 9223372036854775807<(B (Rv.tx e.pkg)).size+(B (Rv.tx e.digest)).size+(B (Rv.tx e.question)).size+(B (Rv.tx e.scope)).size+(B (Rv.tx e.answer)).size:=by omega
 have hc5:¬ 9223372036854775807<(B (Rv.tx e.pkg)).size+(B (Rv.tx e.digest)).size+(B (Rv.tx e.question)).size+(B (Rv.tx e.scope)).size+(B (Rv.tx e.answer)).size+(B (num e.till)).size:=by omega
 have hc6:¬ 9223372036854775807<(B (Rv.tx e.pkg)).size+(B (Rv.tx e.digest)).size+(B (Rv.tx e.question)).size+(B (Rv.tx e.scope)).size+(B (Rv.tx e.answer)).size+(B (num e.till)).size+(B (Rv.txs e.targets)).size:=by omega
 have hc7:¬ 9223372036854775807<(B (klb e 0)).size+((B (Rv.tx e.pkg)).size+(B (Rv.tx e.digest)).size+(B (Rv.tx e.question)).size+(B (Rv.tx e.scope)).size+(B (Rv.tx e.answer)).size+(B (num e.till)).size+(B (Rv.txs e.targets)).size):=by omega
 go_upto_region 4 with fail
 have HS:=hdd (fun W (hb:Below w1.heap.size w1 W)=>by
  obtain ⟨-,-,-,-,-,-,-,e7,e8,e9,e10,e11,e12,e13,-⟩:=ka3 (kab hb (kad HW1.out) HW1.out);exact And.intro e7 (And.intro e8 (And.intro e9 (And.intro e10 (And.intro e11 (And.intro e12 e13))))))
 clear HF;have HF:=hdd (krc HFo.out);refine kaj (S:=fun W:World=>W.cell? ⟨w.heap.size,7,none⟩=some (.string (B e.pkg))∧W.cell? ⟨w.heap.size,8,none⟩=some (.string (B e.digest))∧W.cell? ⟨w.heap.size,9,none⟩=some (.string (B e.question))∧W.cell? ⟨w.heap.size,10,none⟩=some (.string (B e.scope))∧W.cell? ⟨w.heap.size,11,none⟩=some (.string (B e.answer))∧W.cell? ⟨w.heap.size,12,none⟩=some (.int .i64 e.till)∧W.cell? ⟨w.heap.size,13,none⟩=some (.slice ta e.targets.length tc)) (by kernel_rfl) (HS.out _ HF.out) (fun hHeld=>?_);simp only [List.toList_toArray,len,kat]
 iterate 3 (refine tz 0 ?_;simp only [Act.put,s1,s2,s3])
 iterate 2 (refine tz 4 ?_;simp only [Act.put,s1,s2,s3])
 iterate 2 (refine tz 8 ?_;simp only [Act.put,s1,s2,s3])
 iterate 2 (refine tz 12 ?_;simp only [Act.put,s1,s2,s3])
 iterate 2 (refine tz 16 ?_;simp only [Act.put,s1,s2,s3])
 iterate 2 (refine tz 20 ?_;simp only [Act.put,s1,s2,s3])
 iterate 2 (refine tz 24 ?_;simp only [Act.put,s1,s2,s3])
 refine ar2 3 (by kernel_rfl) rfl (fun K hK=>?_);go_simp
 refine (kge e.pkg _ hpk).mono ?_;rintro en u ⟨rfl,hb⟩;have HFn:=hdd (HF.out.trans (hb.mono HF.out.size));refine hK.out _ _ (HS.out _ HFn.out) (fun hHeld=>?_);clear hK K hb HF;have HF:=HFn;clear HFn
 try simp only [Act.put,s1,s2,s3]
 refine ar2 6 (by kernel_rfl) rfl (fun K hK=>?_);go_simp
 refine (kge e.digest _ hdg).mono ?_;rintro en u ⟨rfl,hb⟩;have HFn:=hdd (HF.out.trans (hb.mono HF.out.size));refine hK.out _ _ (HS.out _ HFn.out) (fun hHeld=>?_);clear hK K hb HF;have HF:=HFn;clear HFn
 try simp only [Act.put,s1,s2,s3]
 (refine tz 7 ?_;simp only [Act.put,s1,s2,s3])
 refine ar2 10 (by kernel_rfl) rfl (fun K hK=>?_);go_simp
 refine (kge e.question _ hqu).mono ?_;rintro en u ⟨rfl,hb⟩;have HFn:=hdd (HF.out.trans (hb.mono HF.out.size));refine hK.out _ _ (HS.out _ HFn.out) (fun hHeld=>?_);clear hK K hb HF;have HF:=HFn;clear HFn
 try simp only [Act.put,s1,s2,s3]
 (refine tz 11 ?_;simp only [Act.put,s1,s2,s3])
 refine ar2 14 (by kernel_rfl) rfl (fun K hK=>?_);go_simp
 refine (kge e.scope _ hsc).mono ?_;rintro en u ⟨rfl,hb⟩;have HFn:=hdd (HF.out.trans (hb.mono HF.out.size));refine hK.out _ _ (HS.out _ HFn.out) (fun hHeld=>?_);clear hK K hb HF;have HF:=HFn;clear HFn
 try simp only [Act.put,s1,s2,s3]
 (refine tz 15 ?_;simp only [Act.put,s1,s2,s3])
 refine ar2 18 (by kernel_rfl) rfl (fun K hK=>?_);go_simp
 refine (kge e.answer _ han).mono ?_;rintro en u ⟨rfl,hb⟩;have HFn:=hdd (HF.out.trans (hb.mono HF.out.size));refine hK.out _ _ (HS.out _ HFn.out) (fun hHeld=>?_);clear hK K hb HF;have HF:=HFn;clear HFn
 try simp only [Act.put,s1,s2,s3]
 (refine tz 19 ?_;simp only [Act.put,s1,s2,s3])
 refine ar2 22 (by kernel_rfl) rfl (fun K hK=>?_);go_simp
 refine (kli e.till _).mono ?_;rintro en u ⟨rfl,hb⟩;have HFn:=hdd (HF.out.trans (hb.mono HF.out.size));refine hK.out _ _ (HS.out _ HFn.out) (fun hHeld=>?_);clear hK K hb HF;have HF:=HFn;clear HFn
 try simp only [Act.put,s1,s2,s3]
 (refine tz 23 ?_;simp only [Act.put,s1,s2,s3])
 refine ar2 26 (by kernel_rfl) rfl (fun K hK=>?_);go_simp
 refine (kou _ e.targets _ (HT.out.below (HBW.out _ HF.out)) HTl.out).mono ?_;rintro en u ⟨rfl,hb⟩;have HFn:=hdd (HF.out.trans (hb.mono HF.out.size));refine hK.out _ _ (HS.out _ HFn.out) (fun hHeld=>?_);clear hK K hb HF;have HF:=HFn;clear HFn
 try simp only [Act.put,s1,s2,s3]
 iterate 2 (refine tz 27 ?_;simp only [Act.put,s1,s2,s3])
 (refine tz 29 ?_;simp only [Act.put,s1,s2,s3])
 refine wpAnyH_done (by kernel_rfl) ?_ _;simp only [Exit.then]
 go_wp2
 go_ret2
 exact ⟨congrArg (fun s=>Ending.returned (.tuple #[.string s,.int .i64 0])) (show B (klb e 0)++(B (Rv.tx e.pkg)++B (Rv.tx e.digest)++B (Rv.tx e.question)++B (Rv.tx e.scope)++B (Rv.tx e.answer)++B (num e.till)++B (Rv.txs e.targets))=B (Rv.encV e) by simp only [ka5];unfold klb hdV Rv.encV;simp),HBW.out _ HF.out⟩
theorem kpg (v:Value) (e:Rv.Ev) (w:World) (h:kcw v e w):Calls Tryz.prog 36 #[v] w fun en w'=>en = .returned (.tuple #[.string (B (Rv.encE e)),.int .i64 (Rv.validE e)])∧Below w.heap.size w w':=by
 obtain ⟨ho,na,nc,ta,tc,sa,sc,ha,hc,ra,rc,rfl,h1,h2,h3,h4,h5⟩:=h;have he:kcw (evW e na nc ta tc sa sc ha hc ra rc) e w:=⟨ho,na,nc,ta,tc,sa,sc,ha,hc,ra,rc,rfl,h1,h2,h3,h4,h5⟩
 cases hv:Rv.validB e
 ·have:=kp5 e na ta sa ha ra nc tc sc hc rc w he hv
  unfold Rv.encE Rv.validE;rw [hv];exact this
 ·have:=kqv e na ta sa ha ra nc tc sc hc rc w he hv
  unfold Rv.encE Rv.validE;rw [hv];exact this
theorem klf (v:Value) (e:Rv.Ev) (w:World) (h:kcw v e w):Calls Tryz.prog 38 #[v] w fun en w'=>en = .returned (.tuple #[.string (B (Rv.idE e)),.int .i64 (Rv.validE e)])∧Below w.heap.size w w':=by
 obtain ⟨ho,na,nc,ta,tc,sa,sc,ha,hc,ra,rc,rfl,h1,h2,h3,h4,h5⟩:=h;have he:kcw (evW e na nc ta tc sa sc ha hc ra rc) e w:=⟨ho,na,nc,ta,tc,sa,sc,ha,hc,ra,rc,rfl,h1,h2,h3,h4,h5⟩;have hb1:Below w.heap.size w (w.alloc (.cells (evS e na nc ta tc sa sc ha hc ra rc) 45)):=(Below.refl _ _).alloc (Nat.le_refl _) _;have hq:=kpg _ e _ (he.below hb1);have HB1:=hdd hb1;have HE:=hdd (kai w (.cells (evS e na nc ta tc sa sc ha hc ra rc) 45));clear he h1 h2 h3 h4 h5 ho hb1
 cases hv:Rv.validB e
 ·have e1:Rv.encE e=[]:=by unfold Rv.encE;rw [hv];rfl
  have e2:Rv.idE e=[]:=by unfold Rv.idE;rw [hv];rfl
  have e3:Rv.validE e=1:=by unfold Rv.validE;rw [hv];rfl
  rw [e1,e3] at hq;rw [e2,e3];have QF:=hdd hq;clear e1 e2 e3 hq hv
  go_enter Tryz.func38,Tryz.ntmps38
  go_wp2_with (first|(refine wpList_load_row rfl 45 _ rfl w.heap.size rfl 45 (evS e na nc ta tc sa sc ha hc ra rc) (0,0) _ HE.out rfl rfl (by kernel_rfl) ?_)|fail)
  refine (QF.out).mono ?_;rintro en w1 ⟨rfl,hb⟩;have HB2:=hdd (HB1.out.next hb);clear hb
  go_wp2
  go_ret2
  exact ⟨rfl,HB2.out⟩
 ·have e1:Rv.encE e=Rv.encV e:=by unfold Rv.encE;rw [hv];rfl
  have e2:Rv.idE e=hsh [Rv.kEvent,Rv.encV e]:=by unfold Rv.idE;rw [hv];rfl
  have e3:Rv.validE e=0:=by unfold Rv.validE;rw [hv];rfl
  have hl:=koj e;rw [e1,e3] at hq;rw [e2,e3];have QF:=hdd hq;obtain ⟨R,hR⟩:∃R,hsh [Rv.kEvent,Rv.encV e]=R:=⟨_,rfl⟩;rw [hR];generalize Rv.encV e=D at *
  have hH:=fun W=>kcy.alloc (kg5 (l:=[Rv.kEvent,D]) (cs:=#[.string ⟨#[101,118,101,110,116]⟩,.string (B D)]) 2 rfl (by decide) rfl (by decide) (by
   intro x hx;simp only [List.mem_cons,List.not_mem_nil,or_false] at hx;unfold maxLen;rcases hx with rfl|rfl
   ·decide
   ·omega) W)
  rw [hR] at hH;have HH:=hdd hH;clear hR e1 e2 e3 hq hv hH
  go_enter Tryz.func38,Tryz.ntmps38
  go_wp2_with (first|(refine wpList_load_row rfl 45 _ rfl w.heap.size rfl 45 (evS e na nc ta tc sa sc ha hc ra rc) (0,0) _ HE.out rfl rfl (by kernel_rfl) ?_)|fail)
  refine (QF.out).mono ?_;rintro en w1 ⟨rfl,hb⟩;have HB2:=hdd (HB1.out.next hb);clear hb
  go_wp2_with fail
  refine (HH.out _).mono ?_;rintro en w2 ⟨rfl,hb⟩;have HB3:=hdd (HB2.out.next hb);clear hb
  go_wp2
  go_ret2
  exact ⟨rfl,HB3.out⟩
end Go.Proofs.YtknpbekoenbphaaGreatDoor
