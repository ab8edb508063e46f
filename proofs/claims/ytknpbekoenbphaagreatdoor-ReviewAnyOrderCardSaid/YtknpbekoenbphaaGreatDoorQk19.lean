/- Parts of the proofs: WkRvF. No condition beyond those at each theorem. -/
import Derived.Test.YtknpbekoenbphaaGreatDoorQk17
import Derived.Test.YtknpbekoenbphaaGreatDoorQk18
set_option linter.unusedVariables false
set_option linter.unusedSimpArgs false
set_option maxHeartbeats 16000000
set_option maxRecDepth 100000
namespace Go.Proofs.YtknpbekoenbphaaGreatDoor
open Go Go.RowKit Licit
structure Jg (c:Rv.Cx) (pt:Nat→Nat) (Ee Tt Dd:List Nat) (f:Bs→Value) (v:Value) (bj bE bT bN:Nat) (w1 w:World):Prop where
 below:Below w1.heap.size w1 w
 evs:kbi Tryz.prog 9 kS w bE (Ee.map fun i=>(c.id i,ptr (pt i)))
 trn:kbi Tryz.prog 140 kT w bT (Tt.map fun i=>(((c.ev i).author,(c.ev i).number),ptr (pt i)))
 ended:∃Ln,kbi Tryz.prog 9 kS w bN Ln∧∀s,(kb2 Ln s).getD (dcV false false false)=f s
 head:w.heap[bj]? = some (.cells #[.map (some bE),.map (some bT),v,.map (some bN)] 138 (0,0))
 own:w.ownsRow w1.heap.size 91 1 v Dd.length (Dd.map fun i=>ptr (pt i))
 bj1:w1.heap.size≤bj
 bE1:w1.heap.size≤bE
 bT1:w1.heap.size≤bT
 bN1:w1.heap.size≤bN
 ne:bj≠bE∧bj≠bT∧bj≠bN∧bE≠bT∧bE≠bN∧bT≠bN
theorem kik {w:World} {base:Nat} {t:TypeId} {size:Nat} {v:Value} {n:Nat} {xs:List Value} (h:w.ownsRow base t size v n xs) {q:Nat} (hq:v.ownBlock=some q):∃cs,w.heap[q]? = some (.cells cs t (0,0)):=by
 rcases h.2 with ⟨rfl,h0⟩|⟨g,cap,cur,rfl,h1,h2,h3⟩
 ·cases hq
 ·cases (hq:some g=some q)
  exact ⟨_,h2⟩
theorem kne {κ:Type} {P:Program} {k:TypeId} {kv:κ→Value} {w:World} {b:Nat} {L:List (κ × Value)} (h:kbi P k kv w b L):∃es cl,w.heap[b]? = some (.map es cl):=by
 obtain ⟨es,cl,hb,_⟩:=h;exact ⟨es,cl,hb⟩
section
variable {c:Rv.Cx} {pt:Nat→Nat} {Ee Tt Dd:List Nat} {f f':Bs→Value} {v:Value} {bj bE bT bN:Nat} {w1 w w':World}
theorem khi {b:Nat} {w:World} {base:Nat} {t:TypeId} {size:Nat} {v:Value} {n:Nat} {xs:List Value} (h:w.ownsRow base t size v n xs) (hm:∃es cl,w.heap[b]? = some (.map es cl)) {q:Nat} (hq:v.ownBlock=some q):q≠b:=by
 rintro rfl;obtain ⟨cs,h1⟩:=kik h hq;obtain ⟨es,cl,h2⟩:=hm;rw [h1] at h2;cases h2
theorem Jg.own_ne (h:Jg c pt Ee Tt Dd f v bj bE bT bN w1 w) {q:Nat} (hq:v.ownBlock=some q):q≠bj∧q≠bE∧q≠bT∧q≠bN:=by
 obtain ⟨Ln,hL,_⟩:=h.ended;refine ⟨?_,khi h.own (kne h.evs) hq,khi h.own (kne h.trn) hq,khi h.own (kne hL) hq⟩;rintro rfl;obtain ⟨cs,h1⟩:=kik h.own hq;rw [h.head] at h1
 cases h1
theorem Jr.g {A:List Nat} (h:Jr c pt A bj bE bT bN w1 w):∃v,Jg c pt A A (kde c A) (fun s=>dcV (c.wd A s) (c.ov A s) (c.rp A s)) v bj bE bT bN w1 w:=by
 obtain ⟨v,hv,ho⟩:=h.head;exact ⟨v,h.below,h.evs,h.trn,h.ended,hv,ho,h.bj1,h.bE1,h.bT1,h.bN1,h.ne⟩
theorem Jg.r {A:List Nat} (h:Jg c pt A A (kde c A) f v bj bE bT bN w1 w) (hf:∀s,f s=dcV (c.wd A s) (c.ov A s) (c.rp A s)) (hm:∀i∈A,i<c.l.length):Jr c pt A bj bE bT bN w1 w:=by
 obtain ⟨Ln,hL,h2⟩:=h.ended;exact ⟨h.below,h.evs,h.trn,⟨Ln,hL,fun s=>(h2 s).trans (hf s)⟩,⟨v,h.head,h.own⟩,hm,h.bj1,h.bE1,h.bT1,h.bN1,h.ne⟩
theorem Jg.grow (h:Jg c pt Ee Tt Dd f v bj bE bT bN w1 w) (hb:Below w.heap.size w w'):Jg c pt Ee Tt Dd f v bj bE bT bN w1 w':=by
 obtain ⟨Ln,hL,h2⟩:=h.ended;exact ⟨h.below.trans (hb.mono h.below.size),h.evs.below hb h.evs.lt,h.trn.below hb h.trn.lt,⟨Ln,hL.below hb hL.lt,h2⟩,(hb.block _ (kad h.head)).trans h.head,kci h.own fun q hq=>hb.block q (h.own.lt q hq).2,h.bj1,h.bE1,h.bT1,h.bN1,h.ne⟩
theorem Jg.setE {E':List Nat} (h:Jg c pt Ee Tt Dd f v bj bE bT bN w1 w) (hk:ka7 (Licit.One bE) w w') (hm:kbi Tryz.prog 9 kS w' bE (E'.map fun i=>(c.id i,ptr (pt i)))):Jg c pt E' Tt Dd f v bj bE bT bN w1 w':=by
 obtain ⟨Ln,hL,h2⟩:=h.ended;obtain ⟨n1,n2,n3,n4,n5,n6⟩:=h.ne;exact ⟨h.below.trans (hk.below h.below.size fun q hq e=>by have:q=bE:=e;have:=h.bE1;omega),hm,h.trn.kept hk (fun e=>n4 (Eq.symm e)),⟨Ln,hL.kept hk (fun e=>n5 (Eq.symm e)),h2⟩,(hk.block _ (kad h.head) n1).trans h.head,kci h.own fun q hq=>hk.block q (h.own.lt q hq).2 (h.own_ne hq).2.1,h.bj1,h.bE1,h.bT1,h.bN1,h.ne⟩
theorem Jg.setT {T':List Nat} (h:Jg c pt Ee Tt Dd f v bj bE bT bN w1 w) (hk:ka7 (Licit.One bT) w w') (hm:kbi Tryz.prog 140 kT w' bT (T'.map fun i=>(((c.ev i).author,(c.ev i).number),ptr (pt i)))):Jg c pt Ee T' Dd f v bj bE bT bN w1 w':=by
 obtain ⟨Ln,hL,h2⟩:=h.ended;obtain ⟨n1,n2,n3,n4,n5,n6⟩:=h.ne;exact ⟨h.below.trans (hk.below h.below.size fun q hq e=>by have:q=bT:=e;have:=h.bT1;omega),h.evs.kept hk n4,hm,⟨Ln,hL.kept hk (fun e=>n6 (Eq.symm e)),h2⟩,(hk.block _ (kad h.head) n2).trans h.head,kci h.own fun q hq=>hk.block q (h.own.lt q hq).2 (h.own_ne hq).2.2.1,h.bj1,h.bE1,h.bT1,h.bN1,h.ne⟩
theorem Jg.setN (h:Jg c pt Ee Tt Dd f v bj bE bT bN w1 w) (hk:ka7 (Licit.One bN) w w') (hm:∃Ln,kbi Tryz.prog 9 kS w' bN Ln∧∀s,(kb2 Ln s).getD (dcV false false false)=f' s):Jg c pt Ee Tt Dd f' v bj bE bT bN w1 w':=by
 obtain ⟨n1,n2,n3,n4,n5,n6⟩:=h.ne;exact ⟨h.below.trans (hk.below h.below.size fun q hq e=>by have:q=bN:=e;have:=h.bN1;omega),h.evs.kept hk n5,h.trn.kept hk n6,hm,(hk.block _ (kad h.head) n3).trans h.head,kci h.own fun q hq=>hk.block q (h.own.lt q hq).2 (h.own_ne hq).2.2.2,h.bj1,h.bE1,h.bT1,h.bN1,h.ne⟩
theorem Jg.congr (h:Jg c pt Ee Tt Dd f v bj bE bT bN w1 w) (hf:∀s,f s=f' s):Jg c pt Ee Tt Dd f' v bj bE bT bN w1 w:=by
 obtain ⟨Ln,hL,h2⟩:=h.ended;exact ⟨h.below,h.evs,h.trn,⟨Ln,hL,fun s=>(h2 s).trans (hf s)⟩,h.head,h.own,h.bj1,h.bE1,h.bT1,h.bN1,h.ne⟩
theorem Jg.drew (h:Jg c pt Ee Tt Dd f v bj bE bT bN w1 w):Jg c pt Ee Tt Dd f v bj bE bT bN w1 w.drew:=h.grow (Below.refl _ _).drew
theorem Jg.setD {D':List Nat} {v':Value} (h:Jg c pt Ee Tt Dd f v bj bE bT bN w1 w) (hb:Below w1.heap.size w1 w') (hk:∀q,q<w.heap.size→v.ownBlock≠some q→q≠bj→w'.heap[q]? = w.heap[q]?)
 (hh:w'.heap[bj]? = some (.cells #[.map (some bE),.map (some bT),v',.map (some bN)] 138 (0,0))) (ho:w'.ownsRow w1.heap.size 91 1 v' D'.length (D'.map fun i=>ptr (pt i))):Jg c pt Ee Tt D' f v' bj bE bT bN w1 w':=by
 obtain ⟨Ln,hL,h2⟩:=h.ended;obtain ⟨n1,n2,n3,n4,n5,n6⟩:=h.ne;exact ⟨hb,h.evs.of_block (hk _ h.evs.lt (fun e=>(h.own_ne e).2.1 rfl) (Ne.symm n1)),h.trn.of_block (hk _ h.trn.lt (fun e=>(h.own_ne e).2.2.1 rfl) (Ne.symm n2)),⟨Ln,hL.of_block (hk _ hL.lt (fun e=>(h.own_ne e).2.2.2 rfl) (Ne.symm n3)),h2⟩,hh,ho,h.bj1,h.bE1,h.bT1,h.bN1,h.ne⟩
end
def fK (c:Rv.Cx) (A:List Nat) (i k:Nat) (s:Bs):Value:=dcV (c.wd (A++[i]) s) (c.ov (A++[i]) s) (c.rp A s || ((kde c A).take k).any fun d=>c.rpl i d && decide (c.id d=s))
theorem kyh (c:Rv.Cx) (A:List Nat) (i k:Nat) (s:Bs) (h:k<(kde c A).length):fK c A i (k+1) s=dcV (c.wd (A++[i]) s) (c.ov (A++[i]) s) ((c.rp A s || ((kde c A).take k).any fun d=>c.rpl i d && decide (c.id d=s)) || (c.rpl i (kde c A)[k] && decide (c.id (kde c A)[k]=s))):=by
 unfold fK;rw [List.take_succ_eq_append_getElem h,List.any_append,Bool.or_assoc];simp
theorem kzs {c:Rv.Cx} {A:List Nat} {i d:Nat} (h:(c.ev i).kind=3) (hd:d∈kde c A):c.rpl i d=(c.past i d && Rv.asked (c.ev d) (c.ev i)):=by
 unfold Rv.Cx.rpl
 have:=(List.mem_filter.1 hd).2
 simp only [decide_eq_true_eq] at this;simp [h,this]
theorem kzm (c:Rv.Cx) (A:List Nat) (i:Nat) (s:Bs):((kde c A).any fun d=>c.rpl i d && decide (c.id d=s))=A.any fun d=>c.rpl i d && decide (c.id d=s):=by
 unfold kde;rw [List.any_filter]
 congr 1
 funext d
 by_cases h:(c.ev d).kind=3
 ·simp [h]
 ·simp [h,Rv.Cx.rpl]
theorem ktt {c:Rv.Cx} {A:List Nat} {i:Nat} (h:c.entry A i=0) (hv:Rv.validB (c.ev i)=true):c.turn A (c.ev i).author (c.ev i).number=none:=by
 unfold Rv.Cx.entry at h
 by_cases h1:(c.ev i).kind=1
 ·rw [if_pos h1] at h
  have hn:(c.ev i).number=0:=by
   unfold Rv.validB Rv.kindB at hv;rw [if_pos h1] at hv;simp only [Bool.and_eq_true,decide_eq_true_eq] at hv;exact hv.1.1.2.1.1
  rw [hn]
  cases ht:c.turn A (c.ev i).author 0 with
  |none=>rfl
  |some j=>rw [ht] at h;simp at h
 ·rw [if_neg h1] at h
  cases ht:c.turn A (c.ev i).author (c.ev i).number with
  |none=>rfl
  |some j =>
   rw [ht] at h;split at h
   ·cases h
   ·split at h
    ·cases h
    ·split at h
     ·cases h
     ·split at h
      ·cases h
      ·split at h
       ·cases h
       ·simp at h
def kja (c:Rv.Cx) (pt:Nat→Nat) (A:List Nat) (i bj bE bT bN:Nat) (w1:World) (en:Ending) (w':World):Prop:=en = .returned (.int .i64 (c.apply A i))∧Below w1.heap.size w1 w'∧(c.apply A i=0→Jr c pt (A++[i]) bj bE bT bN w1 w')
theorem kmp (c:Rv.Cx) (A:List Nat) (i:Nat):kde c (A++[i])=if (c.ev i).kind=3 then kde c A++[i] else kde c A:=by
 unfold kde;rw [List.filter_append]
 by_cases h:(c.ev i).kind=3
 ·simp [h]
 ·simp [h]
theorem krb (c:Rv.Cx) (pt pb:Nat→Nat) (A:List Nat) (bj bE bT bN:Nat) (w0 w1 w:World) (hN:Nds c pt pb w0 w1) (hJ:Jr c pt A bj bE bT bN w1 w) (i:Nat) (hi:i<c.l.length) (hiA:i ∉ A) (hA:∀k∈A,c.past k i=false) (hii:c.past i i=false) (hlen:A.length≤1024) :
 Calls Tryz.prog 114 #[ptr bj,ptr (pt i)] w (kja c pt A i bj bE bT bN w1):=by
 have HEn:=hdd (ksh c pt pb A bj bE bT bN w0 w1 w hN hJ i hi);have HTg:=hdd (fun (W:World) (hb:Below w.heap.size w W)=>kna c pt pb A bj bE bT bN w0 w1 W hN (hJ.grow hb) i hi hA hii);have hvb:=hN.ok.valid i hi;have HVb:=hdd (show Rv.validB (c.ev i)=true from hvb);have HBd:=hdd (show 0≤(c.ev i).number∧(c.ev i).number≤63∧0≤(c.ev i).height∧(c.ev i).height≤20∧(c.ev i).author.length≤32 from kda hvb);have HN:=hdd hN;have HJ:=hdd hJ;have HiA:=hdd hiA;have HA:=hdd hA;have HI:=hdd hii;clear hN hJ hvb hiA hA hii
 by_cases he:c.entry A i=0
 ·have hap:c.apply A i=c.targets A i:=by unfold Rv.Cx.apply;rw [if_pos he]
  have HAp:=hdd hap;have HE0:=hdd he;rw [he] at HEn;clear hap he
  by_cases ht:c.targets A i=0
  ·have HT0:=hdd ht
   clear ht
   go_enter Tryz.func114,Tryz.ntmps114
   go_upto_region 7 with (first
    |(go_at_call 183;refine HEn.out.mono ?_;rintro en w2 ⟨rfl,hb2⟩;have HB2:=hdd hb2;clear hb2)
    |(go_at_call 184;refine (HTg.out _ HB2.out).mono ?_;intro en w3 hpost;unfold kc7 at hpost;rw [HT0.out] at hpost;obtain ⟨rfl,hk3,hn3⟩:=hpost;have HK3:=hdd hk3;have HN3:=hdd (hn3 rfl);clear hk3 hn3)
    |fail)
   obtain ⟨v,hg0⟩:=HJ.out.g;have hg3:Jg c pt A A (kde c A) (fun s=>dcV (c.wd (A++[i]) s) (c.ov (A++[i]) s) (c.rp A s)) v bj bE bT bN w1 w3:=(hg0.grow HB2.out).setN HK3.out HN3.out
   have hfind:A.find? (fun k=>decide (c.id k=c.id i))=none:=List.find?_eq_none.2 fun k hk=>by
    intro e;have e2:c.id k=c.id i:=by simpa using e
    have:=HN.out.ok.inj k i (HJ.out.mem k hk) hi e2
    subst this;exact HiA.out hk
   have HFd:=hdd hfind;have HFt:=hdd (show A.find? (fun k=>decide (((c.ev k).author,(c.ev k).number)=((c.ev i).author,(c.ev i).number)))=none by rw [Rv.turn_find];exact ktt HE0.out HVb.out);have HG3:=hdd hg3;obtain ⟨⟨r,na,nc,ta,tc,sa,sc,ha,hc,ra,rc,-,hni⟩,hpt,L,hL,hLm⟩:=HN.out.at hg3.below hi;have HLm:=hdd hLm;have HL3:=hdd hL;have HNi:=hdd hni;have HPt:=hdd hpt;have cj0:w3.cell? ⟨bj,0,none⟩=some (.map (some bE)):=by rw [kaa hg3.head];rfl
   have ci0:w3.cell? ⟨pt i,0,none⟩=some (.string (B (c.id i))):=by rw [kaa hni];rfl
   clear hg0 hg3 hfind hLm hL hni hpt;refine wp_region_still_tail 9 (by kernel_rfl) (by kernel_rfl) ?_;simp only [List.take_succ_cons,List.take_zero,List.drop_succ_cons,List.drop_zero]
   repeat still_step
   try refine wpStill_nil ?_
   rw [show (⟨w3.heap,w3.tape,w3.drawn+1,w3.os,w3.output⟩:World)=w3.drew from rfl];refine kbb _ rfl _ _ _ 134 rfl 9 91 kS kcx Tryz.underlying134 bE _ rfl (show kbi Tryz.prog 9 kS w3.drew bE _ from HG3.out.evs) (c.id i) rfl (ptr (pt i)) rfl (kbp (HN.out.idl i)) ?_;intro w4 hm4 hk4 hs4;rw [Rv.setL_find A c.id (fun i=>ptr (pt i)) i HFd.out] at hm4;have hg4:=HG3.out.setE (kbk hk4) hm4;have hbE:=HG3.out.bE1;have hpt:=HPt.out;have hni4:=(hk4.block _ (kad HNi.out) (fun e=>by have:pt i=bE:=e;omega)).trans (show w3.drew.heap[pt i]? = _ from HNi.out);have cj1:w4.cell? ⟨bj,1,none⟩=some (.map (some bT)):=by rw [kaa hg4.head];rfl
   have ci4:w4.cell? ⟨pt i,4,none⟩=some (.string (B (c.ev i).author)):=by rw [kaa hni4];rfl
   have ci5:w4.cell? ⟨pt i,5,none⟩=some (.int .i64 (c.ev i).number):=by rw [kaa hni4];rfl
   have HG4:=hdd hg4;have HNi4:=hdd hni4;have HRd:=hdd (ky1 ((c.ev i).author,(c.ev i).number) (Nat.le_trans HBd.out.2.2.2.2 (by decide)) (by have:=HBd.out;show (-9223372036854775808:Int)≤(c.ev i).number;omega) (by have:=HBd.out;show (c.ev i).number≤(9223372036854775807:Int);omega));clear hm4 hk4 hs4 hg4 hni4 cj0 ci0 hbE hpt
   go_upto_region 8 with fail
   refine wp_region_still_tail 16 (by kernel_rfl) (by kernel_rfl) ?_;simp only [List.take_succ_cons,List.take_zero,List.drop_succ_cons,List.drop_zero]
   repeat still_step
   try refine wpStill_nil ?_
   rw [show (⟨w4.heap,w4.tape,w4.drawn+1,w4.os,w4.output⟩:World)=w4.drew from rfl];refine kbb _ rfl _ _ _ 135 rfl 140 91 kT kj2 Tryz.underlying135 bT _ rfl (show kbi Tryz.prog 140 kT w4.drew bT _ from HG4.out.trn) ((c.ev i).author,(c.ev i).number) rfl (ptr (pt i)) rfl HRd.out ?_;intro w5 hm5 hk5 hs5;rw [Rv.setL_find A (fun i=>((c.ev i).author,(c.ev i).number)) (fun i=>ptr (pt i)) i HFt.out] at hm5;have hg5:=HG4.out.setT (kbk hk5) hm5;have hbT:=HG4.out.bT1;have hpt:=HPt.out;have hni5:=(hk5.block _ (kad HNi4.out) (fun e=>by have:pt i=bT:=e;omega)).trans (show w4.drew.heap[pt i]? = _ from HNi4.out);have ci3:w5.cell? ⟨pt i,3,none⟩=some (.int .i64 (c.ev i).kind):=by rw [kaa hni5];rfl
   have HG5:=hdd hg5;have HNi5:=hdd hni5;clear hm5 hk5 hs5 hg5 hni5 cj1 ci4 ci5 hbT hpt
   go_upto_region 9 with fail
   by_cases h3:(c.ev i).kind=3
   ·rw [h3] at ci3
    have hvf:=kag HG5.out.own;obtain ⟨va,vc,rfl⟩:=hvf;have cj2:w5.cell? ⟨bj,2,none⟩=some (.slice va (kde c A).length vc):=by rw [kaa HG5.out.head];rfl
    have hdl:(kde c A).length≤1024:=Nat.le_trans (List.length_filter_le _ _) hlen;have HG5':=hdd (HG5.out.congr (f':=fK c A i 0) fun s=>by unfold fK;simp);have H3:=hdd h3;clear h3
    go_wp2
    go_loopw [8,9,58] (fun _ _ n wr=>∃k:Nat,k≤(kde c A).length∧n = .int .i64 k∧Jg c pt (A++[i]) (A++[i]) (kde c A) (fK c A i k) (.slice va (kde c A).length vc) bj bE bT bN w1 wr) (fun _ _ n _=>(kde c A).length - (intOf n).toNat)
    case atStart=>exact ⟨0,Nat.zero_le _,rfl,HG5'.out⟩
    case round =>
     obtain ⟨k,hk,rfl,hg⟩:=hrel;have HG:=hdd hg;clear hg
     by_cases hlt:k<(kde c A).length
     ·obtain ⟨g0,cv,hve,-,-,-⟩:=kax HG.out.own (by omega)
      simp only [Value.slice.injEq,true_and] at hve;obtain ⟨rfl,rfl⟩:=hve;obtain ⟨d,hd⟩:∃d,(kde c A)[k]=d:=⟨_,rfl⟩;have hdm:d∈kde c A:=by rw [←hd];exact List.getElem_mem hlt
      have hdl2:d<c.l.length:=HJ.out.mem d (List.mem_filter.1 hdm).1
      have cd:wr.cell? ⟨g0,k,none⟩=some (ptr (pt d)):=by
       rw [kce HG.out.own (by rw [List.length_map];exact hlt),List.getElem?_map,List.getElem?_eq_getElem hlt,hd];rfl
      have cd':wr.cell? ⟨g0,0+k,none⟩=some (ptr (pt d)):=by rw [Nat.zero_add];exact cd
      obtain ⟨⟨r2,na2,nc2,ta2,tc2,sa2,sc2,ha2,hc2,ra2,rc2,-,hnd⟩,-,-⟩:=HN.out.at HG.out.below hdl2;obtain ⟨⟨r3,na3,nc3,ta3,tc3,sa3,sc3,ha3,hc3,ra3,rc3,-,hni⟩,-,-⟩:=HN.out.at HG.out.below hi
      have hLr:kes wr (pb i) L:=by
       have hlt0:pb i<w1.heap.size:=by obtain ⟨row,-,hn⟩:=HN.out.node i hi;exact hn.lt.2
       exact kbi.of_block HL3.out ((HG.out.below.block _ hlt0).trans (HG3.out.below.block _ hlt0).symm)
      have HLr:=hdd hLr;have cd0:wr.cell? ⟨pt d,0,none⟩=some (.string (B (c.id d))):=by rw [kaa hnd];rfl
      have cd12:wr.cell? ⟨pt d,12,none⟩=some (.string (B (c.ev d).question)):=by rw [kaa hnd];rfl
      have cd13:wr.cell? ⟨pt d,13,none⟩=some (.string (B (c.ev d).scope)):=by rw [kaa hnd];rfl
      have ci21:wr.cell? ⟨pt i,21,none⟩=some (.map (some (pb i))):=by rw [kaa hni];rfl
      have ci12:wr.cell? ⟨pt i,12,none⟩=some (.string (B (c.ev i).question)):=by rw [kaa hni];rfl
      have ci13:wr.cell? ⟨pt i,13,none⟩=some (.string (B (c.ev i).scope)):=by rw [kaa hni];rfl
      have HNd:=hdd hnd;have hrpl:c.rpl i d=(c.past i d && Rv.asked (c.ev d) (c.ev i)):=kzs H3.out hdm;have HRp:=hdd hrpl;have HP:=hdd (show (kb2 (L.map fun s=>(s,Value.bool true)) (c.id d)).getD (.bool false) = .bool (c.past i d) by rw [kdv,HLm.out d hdl2]);have HFs:=hdd (fun s=>kyh c A i k s hlt);have HDk:=hdd hd;clear hnd hni hLr hdm hrpl hd
      by_cases hyes:c.rpl i d=true
      ·have hyes2:=hyes
       rw [HRp.out,Bool.and_eq_true] at hyes2;obtain ⟨hp,hask⟩:=hyes2;unfold Rv.asked at hask;rw [Bool.and_eq_true,decide_eq_true_eq,decide_eq_true_eq] at hask;obtain ⟨hq,hs⟩:=hask;have hq1:((B (c.ev d).question).toList == (B (c.ev i).question).toList)=true:=by rw [hq];exact kbx _
       have hs1:((B (c.ev d).scope).toList == (B (c.ev i).scope).toList)=true:=by rw [hs];exact kbx _
       have HP0:=hdd (HP.out.trans (show _=Value.bool true by rw [hp]));have HYes:=hdd hyes;clear hyes hp hq hs
       go_upto_region 13 with fail
       refine kaj (S:=fun W:World=>(W.cell? ⟨pt i,21,none⟩=some (.map (some (pb i)))∧W.cell? ⟨pt d,0,none⟩=some (.string (B (c.id d)))∧W.cell? ⟨pt d,12,none⟩=some (.string (B (c.ev d).question))∧W.cell? ⟨pt i,12,none⟩=some (.string (B (c.ev i).question))∧W.cell? ⟨pt d,13,none⟩=some (.string (B (c.ev d).scope))∧W.cell? ⟨pt i,13,none⟩=some (.string (B (c.ev i).scope)))∧kes W (pb i) L) (by kernel_rfl) ⟨⟨ci21,cd0,cd12,ci12,cd13,ci13⟩,HLr.out⟩ (fun hHeld=>?_);simp only [List.toList_toArray,len,kat]
       iterate 8 (refine tz 0 ?_;simp only [Act.put,s1,s2,s3])
       refine tkx 8 (.bool true) rfl rfl (by kernel_rfl) (fun _ _ _ h=>h) (by assumption) ?_ ?_
       ·intro W hW;exact ka4 rfl kcx Tryz.underlying92 kev hW.2 rfl rfl (kbp (HN.out.idl d)) HP0.out
       simp only [Act.put,s1,s2,s3]
       (refine tz 9 ?_;simp only [Act.put,s1,s2,s3])
       iterate 25 (refine tz 10 ?_;simp only [Act.put,s1,s2,s3])
       refine wpAnyH_done (by kernel_rfl) ?_ _;simp only [Exit.then];obtain ⟨Ln,hLn,hfn⟩:=HG.out.ended;obtain ⟨qa,hqa⟩:∃q,q=c.wd (A++[i]) (c.id d):=⟨_,rfl⟩;obtain ⟨qb,hqb⟩:∃q,q=c.ov (A++[i]) (c.id d):=⟨_,rfl⟩;obtain ⟨qc,hqc⟩:∃q,q=(c.rp A (c.id d) || ((kde c A).take k).any fun e=>c.rpl i e && decide (c.id e=c.id d)):=⟨_,rfl⟩;have HEd:=hdd (show (kb2 Ln (c.id d)).getD (dcV false false false)=dcV qa qb qc by rw [hfn,hqa,hqb,hqc];rfl);have hg4:=HG.out.drew;have HLd:=hdd (show kbi Tryz.prog 9 kS wr.drew bN Ln from hLn);have cj3:wr.drew.cell? ⟨bj,3,none⟩=some (.map (some bN)):=by rw [kaa hg4.head];rfl
       have cd0':wr.drew.cell? ⟨pt d,0,none⟩=some (.string (B (c.id d))):=cd0;clear cd cd' cd0 cd12 cd13 ci21 ci12 ci13 hLn;have HQ:=hdd (And.intro hqa (And.intro hqb hqc));have HFn:=hdd hfn;clear hqa hqb hqc hfn
       revert hg4 HLd cj3 cd0'
       generalize wr.drew=w4;intro hg4 HLn4 cj3 cd0;have HG4:=hdd hg4;clear hg4
       go_upto_region 14 with fail
       have hSB:∀W:World,Below w4.heap.size w4 W→(W.cell? ⟨bj,3,none⟩=some (.map (some bN))∧W.cell? ⟨pt d,0,none⟩=some (.string (B (c.id d))))∧kbi Tryz.prog 9 kS W bN Ln:=fun W hb =>
        ⟨⟨(hb.cell (p:=⟨bj,3,none⟩) (World.block_lt_of_cell? _ _ cj3)).trans cj3,(hb.cell (p:=⟨pt d,0,none⟩) (World.block_lt_of_cell? _ _ cd0)).trans cd0⟩,HLn4.out.below hb HLn4.out.lt⟩
       have HSB:=hdd hSB;clear hSB;refine kaj (S:=fun W:World=>(W.cell? ⟨bj,3,none⟩=some (.map (some bN))∧W.cell? ⟨pt d,0,none⟩=some (.string (B (c.id d))))∧kbi Tryz.prog 9 kS W bN Ln) (by kernel_rfl) (HSB.out _ (Below.refl _ _).drew) (fun hHeld=>?_);simp only [List.toList_toArray,len,kat]
       iterate 8 (refine tz 0 ?_;simp only [Act.put,s1,s2,s3])
       refine tkx 8 (dcV qa qb qc) rfl rfl (by kernel_rfl) (fun _ _ _ h=>h) (by assumption) ?_ ?_
       ·intro W hW;exact ka4 rfl kcx Tryz.underlying136 kuv hW.2 rfl rfl (kbp (HN.out.idl d)) HEd.out
       simp only [Act.put,s1,s2,s3];refine ar2 9 (by kernel_rfl) rfl (fun K hK=>?_);go_simp
       refine hK.out _ _ (HSB.out _ (show Below w4.heap.size w4 (w4.drew.alloc (.cells (dcC false false false) 56)) from (Below.refl w4.heap.size w4).drew.alloc (Nat.le_refl _) _)) (fun hHeld=>?_);clear hK K
       try simp only [Act.put,s1,s2,s3]
       refine ar2 10 (by kernel_rfl) rfl (fun K hK=>?_);refine kam rfl 56 _ _ rfl w4.heap.size rfl (dcC qa qb qc) rfl 56 (dcC false false false) (kak rfl rfl) (by kernel_rfl) rfl (kjj _ _ _) ?_;intro w5 hw5 hk5;have HW5:=hdd hw5;have HB5:=hdd (show Below w4.heap.size w4 w5 from ((Below.refl w4.heap.size w4).drew.alloc (Nat.le_refl _) _).trans (hk5.below (B:=w4.heap.size) (by simp) (fun q hq e=>by have:q=w4.heap.size:=e;omega)));refine hK.out _ _ (HSB.out _ HB5.out) (fun hHeld=>?_);clear hw5 hk5 hK K
       try simp only [Act.put,s1,s2,s3]
       refine wpAnyH_done (by kernel_rfl) ?_ _;simp only [Exit.then];clear hHeld
       go_upto_region 16 with (first
        |(refine kae rfl _ _ _ rfl w4.heap.size 9 rfl (.bool true) rfl rfl rfl _ 56 HW5.out (by simp) (by kernel_rfl) ?_
          intro w6 hw6 hk6;have HW6:=hdd (show w6.heap[w4.heap.size]? = some (.cells (dcC qa qb true) 56 (0,0)) from hw6);have HB6:=hdd (show Below w4.heap.size w4 w6 from HB5.out.trans (hk6.below (B:=w4.heap.size) HB5.out.size (fun q hq e=>by have:q=w4.heap.size:=e;omega)));clear hw6 hk6)
        |fail)
       have k3:w6.cell? ⟨bj,3,none⟩=some (.map (some bN)):=(HB6.out.cell (p:=⟨bj,3,none⟩) (World.block_lt_of_cell? _ _ (show w4.cell? ⟨bj,3,none⟩=some (.map (some bN)) by rw [kaa HG4.out.head];rfl))).trans (by rw [kaa HG4.out.head];rfl);have k0:w6.cell? ⟨pt d,0,none⟩=some (.string (B (c.id d))):=(HB6.out.cell (p:=⟨pt d,0,none⟩) (World.block_lt_of_cell? _ _ cd0)).trans cd0;refine wp_region_still_tail 9 (by kernel_rfl) (by kernel_rfl) ?_;simp only [List.take_succ_cons,List.take_zero,List.drop_succ_cons,List.drop_zero]
       repeat (first|(refine kdd rfl 56 _ rfl w4.heap.size 0 rfl (dcC qa qb true).toList _ (kap HW6.out) rfl rfl (by kernel_rfl) ?_)|still_step)
       try refine wpStill_nil ?_
       rw [show (⟨w6.heap,w6.tape,w6.drawn+1,w6.os,w6.output⟩:World)=w6.drew from rfl];refine kbb _ rfl _ _ _ 136 rfl 9 56 kS kcx Tryz.underlying136 bN Ln rfl (show kbi Tryz.prog 9 kS w6.drew bN Ln from HLn4.out.below HB6.out.drew HLn4.out.lt) (c.id d) rfl (.agg (dcC qa qb true)) rfl (kbp (HN.out.idl d)) ?_;intro w7 hm7 hk7 hs7;have HM7:=hdd hm7;have HK7:=hdd (kbk hk7);clear hm7 hk7 hs7
       have hg7:=(HG4.out.grow HB6.out).setN (f':=fK c A i (k+1)) HK7.out ⟨_,HM7.out,fun s=>by
        rw [kfa,HFs.out,HDk.out,HYes.out];obtain ⟨hqa,hqb,hqc⟩:=HQ.out
        by_cases hs:c.id d=s
        ·subst hs;simp [hqa,hqb]
        ·rw [if_neg hs,HFn.out];simp [hs,fK]⟩
       have HG7:=hdd hg7;clear hg7
       go_wp2
       go_roundw
       case rel=>exact ⟨k+1,by omega,by go_num,HG7.out⟩
       case measure=>simp [intOf];omega
      ·have hno:c.rpl i d=false:=by simpa using hyes
       have HNo:=hdd (HG.out.congr (f':=fK c A i (k+1)) fun s=>by rw [HFs.out,HDk.out,hno];simp [fK]);clear hyes
       cases hp:c.past i d with
       |false =>
        have HP0:=hdd (HP.out.trans (show _=Value.bool false by rw [hp]));clear hp hno
        go_upto_region 13 with fail
        refine kaj (S:=fun W:World=>(W.cell? ⟨pt i,21,none⟩=some (.map (some (pb i)))∧W.cell? ⟨pt d,0,none⟩=some (.string (B (c.id d)))∧W.cell? ⟨pt d,12,none⟩=some (.string (B (c.ev d).question))∧W.cell? ⟨pt i,12,none⟩=some (.string (B (c.ev i).question))∧W.cell? ⟨pt d,13,none⟩=some (.string (B (c.ev d).scope))∧W.cell? ⟨pt i,13,none⟩=some (.string (B (c.ev i).scope)))∧kes W (pb i) L) (by kernel_rfl) ⟨⟨ci21,cd0,cd12,ci12,cd13,ci13⟩,HLr.out⟩ (fun hHeld=>?_);simp only [List.toList_toArray,len,kat]
        iterate 8 (refine tz 0 ?_;simp only [Act.put,s1,s2,s3])
        refine tkx 8 (.bool false) rfl rfl (by kernel_rfl) (fun _ _ _ h=>h) (by assumption) ?_ ?_
        ·intro W hW;exact ka4 rfl kcx Tryz.underlying92 kev hW.2 rfl rfl (kbp (HN.out.idl d)) HP0.out
        simp only [Act.put,s1,s2,s3]
        (refine tz 9 ?_;simp only [Act.put,s1,s2,s3])
        iterate 11 (refine ps 10 rfl rfl rfl (by kernel_rfl) (fun _ _ _ h=>h) (by assumption) ?_;simp only [Act.put,s1,s2,s3])
        iterate 2 (refine tz 21 ?_;simp only [Act.put,s1,s2,s3])
        iterate 11 (refine ps 23 rfl rfl rfl (by kernel_rfl) (fun _ _ _ h=>h) (by assumption) ?_;simp only [Act.put,s1,s2,s3])
        (refine tz 34 ?_;simp only [Act.put,s1,s2,s3])
        refine wpAnyH_done (by kernel_rfl) ?_ _;simp only [Exit.then]
        go_wp2
        go_roundw
        case rel=>exact ⟨k+1,by omega,by go_num,HNo.out.drew⟩
        case measure=>simp [intOf];omega
       |true =>
        have HP0:=hdd (HP.out.trans (show _=Value.bool true by rw [hp]));rw [HRp.out,hp,Bool.true_and] at hno;unfold Rv.asked at hno
        by_cases hq:(c.ev d).question=(c.ev i).question
        ·have hs:(c.ev d).scope≠(c.ev i).scope:=fun e=>by rw [hq,e] at hno;simp at hno
         have hq1:((B (c.ev d).question).toList == (B (c.ev i).question).toList)=true:=by rw [hq];exact kbx _
         have hs1:=kby hs;clear hp hno hq hs
         go_upto_region 13 with fail
         refine kaj (S:=fun W:World=>(W.cell? ⟨pt i,21,none⟩=some (.map (some (pb i)))∧W.cell? ⟨pt d,0,none⟩=some (.string (B (c.id d)))∧W.cell? ⟨pt d,12,none⟩=some (.string (B (c.ev d).question))∧W.cell? ⟨pt i,12,none⟩=some (.string (B (c.ev i).question))∧W.cell? ⟨pt d,13,none⟩=some (.string (B (c.ev d).scope))∧W.cell? ⟨pt i,13,none⟩=some (.string (B (c.ev i).scope)))∧kes W (pb i) L) (by kernel_rfl) ⟨⟨ci21,cd0,cd12,ci12,cd13,ci13⟩,HLr.out⟩ (fun hHeld=>?_);simp only [List.toList_toArray,len,kat]
         iterate 8 (refine tz 0 ?_;simp only [Act.put,s1,s2,s3])
         refine tkx 8 (.bool true) rfl rfl (by kernel_rfl) (fun _ _ _ h=>h) (by assumption) ?_ ?_
         ·intro W hW;exact ka4 rfl kcx Tryz.underlying92 kev hW.2 rfl rfl (kbp (HN.out.idl d)) HP0.out
         simp only [Act.put,s1,s2,s3]
         (refine tz 9 ?_;simp only [Act.put,s1,s2,s3])
         iterate 25 (refine tz 10 ?_;simp only [Act.put,s1,s2,s3])
         refine wpAnyH_done (by kernel_rfl) ?_ _;simp only [Exit.then]
         go_wp2
         go_roundw
         case rel=>exact ⟨k+1,by omega,by go_num,HNo.out.drew⟩
         case measure=>simp [intOf];omega
        ·have hq1:=kby hq
         clear hp hno hq
         go_upto_region 13 with fail
         refine kaj (S:=fun W:World=>(W.cell? ⟨pt i,21,none⟩=some (.map (some (pb i)))∧W.cell? ⟨pt d,0,none⟩=some (.string (B (c.id d)))∧W.cell? ⟨pt d,12,none⟩=some (.string (B (c.ev d).question))∧W.cell? ⟨pt i,12,none⟩=some (.string (B (c.ev i).question))∧W.cell? ⟨pt d,13,none⟩=some (.string (B (c.ev d).scope))∧W.cell? ⟨pt i,13,none⟩=some (.string (B (c.ev i).scope)))∧kes W (pb i) L) (by kernel_rfl) ⟨⟨ci21,cd0,cd12,ci12,cd13,ci13⟩,HLr.out⟩ (fun hHeld=>?_);simp only [List.toList_toArray,len,kat]
         iterate 8 (refine tz 0 ?_;simp only [Act.put,s1,s2,s3])
         refine tkx 8 (.bool true) rfl rfl (by kernel_rfl) (fun _ _ _ h=>h) (by assumption) ?_ ?_
         ·intro W hW;exact ka4 rfl kcx Tryz.underlying92 kev hW.2 rfl rfl (kbp (HN.out.idl d)) HP0.out
         simp only [Act.put,s1,s2,s3]
         (refine tz 9 ?_;simp only [Act.put,s1,s2,s3])
         iterate 13 (refine tz 10 ?_;simp only [Act.put,s1,s2,s3])
         iterate 11 (refine ps 23 rfl rfl rfl (by kernel_rfl) (fun _ _ _ h=>h) (by assumption) ?_;simp only [Act.put,s1,s2,s3])
         (refine tz 34 ?_;simp only [Act.put,s1,s2,s3])
         refine wpAnyH_done (by kernel_rfl) ?_ _;simp only [Exit.then]
         go_wp2
         go_roundw
         case rel=>exact ⟨k+1,by omega,by go_num,HNo.out.drew⟩
         case measure=>simp [intOf];omega
     ·have hkl:k=(kde c A).length:=by omega
      have hend:=HG.out.congr (f':=fun s=>dcV (c.wd (A++[i]) s) (c.ov (A++[i]) s) (c.rp (A++[i]) s)) fun s=>by
       unfold fK;rw [hkl,List.take_length,kzm,Rv.rp_snoc c A i s HA.out HI.out]
      have HE:=hdd hend;have cj2:wr.cell? ⟨bj,2,none⟩=some (.slice va (kde c A).length vc):=by rw [kaa HG.out.head];rfl
      obtain ⟨i0,hi0,hz0,hz1,hz2⟩:∃i,Tryz.prog.info? 91=some i∧i.zero=some (.pointer none)∧i.size=1∧i.bytes=8:=⟨_,rfl,rfl,rfl,rfl⟩;have Hi:=hdd hi0;have Hz0:=hdd hz0;have Hz1:=hdd hz1;have Hz2:=hdd hz2;clear hi0 hz0 hz1 hz2 hend
      go_wp2_with (first
       |(at_builtin
         refine wpList_append_own _ rfl _ _ 86 rfl w1.heap.size 91 i0 (.pointer none) 1 8 Tryz.underlying86 Hi.out Hz0.out Hz1.out Hz2.out rfl (by decide) _ (kde c A).length ((kde c A).map fun i=>ptr (pt i)) rfl (HE.out.own.alloc _) ⟨wr.heap.size,0,none⟩ 1 1 [ptr (pt i)] rfl rfl (kbj (kai _ _)) (by simp [Value.oneCell']) (by unfold maxLen;omega) (by omega) (by have:=HE.out.below.size;simp;omega) ?_;intro v8 w8 ho8 hg8 _;obtain ⟨a8,c8,rfl⟩:=kag ho8;have HO8:=hdd ho8;have HG8:=hdd hg8;have HH8:=hdd ((hg8.block bj (by have:=kad HE.out.head;simp;omega) (fun e=>(HE.out.own_ne (Eq.symm e)).1 rfl)).trans (kah HE.out.head));clear ho8 hg8)
       |(refine kae rfl 86 _ _ rfl bj 2 rfl (.slice a8 ((kde c A).length+1) c8) rfl rfl rfl _ 138 HH8.out (by simp) (by kernel_rfl) ?_
         intro w9 hw9 hk9;have HW9:=hdd hw9;have HK9:=hdd hk9;clear hw9 hk9)
       |fail)
      have hJr:Jr c pt (A++[i]) bj bE bT bN w1 w9:=by
       have hb9:Below w1.heap.size w1 w9:=((HE.out.below.alloc (HE.out.below.size) _).grown HG8.out (by have:=HE.out.below.size;simp;omega) (fun q hq=>(HE.out.own.lt q hq).1)).trans (HK9.out.below (by have:=HE.out.below.size;have:=HG8.out.size;simp at this;omega) (fun q hq e=>by have:q=bj:=e;have:=HE.out.bj1;omega))
       have hset:=HE.out.setD (D':=kde c (A++[i])) (v':=.slice a8 ((kde c A).length+1) c8) (w':=w9) hb9 (fun q hq hne hqj=>by
        refine (HK9.out.block q (Nat.lt_of_lt_of_le (by simp;omega) HG8.out.size) hqj).trans ((HG8.out.block q (by simp;omega) (fun e=>hne (Eq.symm e))).trans (Below.heap_alloc wr _ q hq))) HW9.out (by
        rw [kmp,if_pos H3.out,List.length_append,List.map_append];refine kci HO8.out fun q hq=>HK9.out.block q (HO8.out.lt q hq).2 fun e=>?_
        have:q=bj:=e
        subst this;obtain ⟨cs,h1⟩:=kik HO8.out hq;rw [HH8.out] at h1
        cases h1)
       exact hset.r (fun s=>rfl) (fun q hq=>by
        rcases List.mem_append.1 hq with hq|hq
        ·exact HJ.out.mem q hq
        ·simp at hq;subst hq;exact hi)
      have HJr:=hdd hJr;have HZ:=hdd (show c.apply A i=0 by rw [HAp.out];exact HT0.out);clear hJr
      go_wp2
      go_ret
      unfold kja;exact ⟨by rw [HZ.out];first|done|rfl,HJr.out.below,fun _=>HJr.out⟩
   ·have d3:((c.ev i).kind == 3)=false:=beq_eq_false_iff_ne.2 h3
    have HZ:=hdd (show c.apply A i=0 by rw [HAp.out];exact HT0.out);have hdI:kde c (A++[i])=kde c A:=by rw [kmp,if_neg h3]
    have HJr:=hdd (show Jr c pt (A++[i]) bj bE bT bN w1 w5 from Jg.r (f:=fun s=>dcV (c.wd (A++[i]) s) (c.ov (A++[i]) s) (c.rp A s)) (v:=v) (by rw [hdI];exact HG5.out) (fun s=>by
     rw [Rv.rp_snoc c A i s HA.out HI.out]
     have:(A.any fun d=>c.rpl i d && decide (c.id d=s))=false:=List.any_eq_false.2 fun d _=>by unfold Rv.Cx.rpl;simp [h3]
     rw [this,Bool.or_false]) (fun q hq=>by
     rcases List.mem_append.1 hq with hq|hq
     ·exact HJ.out.mem q hq
     ·simp at hq;subst hq;exact hi))
    clear h3 hdI
    go_wp2
    go_ret
    unfold kja;exact ⟨by rw [HZ.out];first|done|rfl,HJr.out.below,fun _=>HJr.out⟩
  ·have d1:(c.targets A i == 0)=false:=beq_eq_false_iff_ne.2 ht
   have d2:(c.targets A i != 0)=true:=by rw [bne,d1];rfl
   have HAp2:=hdd (show c.apply A i≠0 by rw [HAp.out];exact ht);clear ht
   go_enter Tryz.func114,Tryz.ntmps114
   go_wp2_with (first
    |(go_at_call 183;refine HEn.out.mono ?_;rintro en w2 ⟨rfl,hb2⟩;have HB2:=hdd hb2;clear hb2)
    |(go_at_call 184;refine (HTg.out _ HB2.out).mono ?_;intro en w3 hpost;unfold kc7 at hpost;obtain ⟨rfl,hk3,-⟩:=hpost;have HK3:=hdd hk3;clear hk3)
    |fail)
   go_ret
   unfold kja;refine ⟨by rw [HAp.out];first|done|rfl,?_,fun h=>absurd h HAp2.out⟩;have hbN:=HJ.out.bN1;exact (HJ.out.below.trans (HB2.out.mono HJ.out.below.size)).trans (HK3.out.below (Nat.le_trans HJ.out.below.size HB2.out.size) fun q hq e=>by have:q=bN:=e;omega)
 ·have d1:(c.entry A i == 0)=false:=beq_eq_false_iff_ne.2 he
  have d2:(c.entry A i != 0)=true:=by rw [bne,d1];rfl
  have HAp:=hdd (show c.apply A i=c.entry A i by unfold Rv.Cx.apply;rw [if_neg he]);have HAp2:=hdd (show c.apply A i≠0 by unfold Rv.Cx.apply;rw [if_neg he];exact he);clear he
  go_enter Tryz.func114,Tryz.ntmps114
  go_wp2_with (first|(go_at_call 183;refine HEn.out.mono ?_;rintro en w2 ⟨rfl,hb2⟩;have HB2:=hdd hb2;clear hb2)|fail)
  go_ret
  unfold kja;exact ⟨by rw [HAp.out];first|done|rfl,HJ.out.below.trans (HB2.out.mono HJ.out.below.size),fun h=>absurd h HAp2.out⟩
end Go.Proofs.YtknpbekoenbphaaGreatDoor
