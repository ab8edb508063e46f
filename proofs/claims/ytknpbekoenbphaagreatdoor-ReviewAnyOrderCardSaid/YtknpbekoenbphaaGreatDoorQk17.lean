/- Parts of the proofs: WkRvD. No condition beyond those at each theorem. -/
import Derived.Test.YtknpbekoenbphaaGreatDoorQk16
set_option linter.unusedVariables false
set_option linter.unusedSimpArgs false
set_option maxHeartbeats 16000000
set_option maxRecDepth 100000
namespace Go.Proofs.YtknpbekoenbphaaGreatDoor
open Go Go.RowKit Licit
theorem kj1 {c:Rv.Cx} {A:List Nat} {i:Nat} (h1:(c.ev i).kind=1):c.entry A i=if (c.turn A (c.ev i).author 0).isSome then 6 else 0:=by unfold Rv.Cx.entry;rw [if_pos h1]
theorem kda {e:Rv.Ev} (h:Rv.validB e=true):0≤e.number∧e.number≤63∧0≤e.height∧e.height≤20∧e.author.length≤32:=by
 unfold Rv.validB at h;simp only [Bool.and_eq_true,decide_eq_true_eq,Bool.or_eq_true] at h;obtain ⟨⟨⟨⟨⟨⟨h1,h2⟩,h3⟩,h4⟩,h5⟩,h6⟩,h7⟩:=h
 have ha:e.author.length≤32:=by
  unfold Rv.nameB at h1;simp only [Bool.and_eq_true,decide_eq_true_eq] at h1;exact h1.1.1.1.2
 unfold Rv.restB at h7;simp only [Bool.and_eq_true,decide_eq_true_eq,Bool.or_eq_true] at h7;rcases h7.1.1.1.1 with hk|hk
 ·unfold Rv.kindB at h5
  rw [if_pos hk] at h5;simp only [Bool.and_eq_true,decide_eq_true_eq] at h5;have hq:=h5.2;unfold ket at hq;simp only [decide_eq_true_eq] at hq;exact ⟨h2,h3,by omega,by omega,ha⟩
 ·exact ⟨h2,h3,by omega,by omega,ha⟩
theorem kaw {P:Program} {ops:Array Oper} {w:World} {Q:Act→Prop} {a:Act} {o:Oper} {rest:List Oper} (hw:Region.wanted o (yielded ops a.tmps)=false) (h:wpStill P ops w Q rest (a.put o.dst undef)):wpStill P ops w Q (o :: rest) a :=
 wpStill_step fun K hK=>by rw [if_neg (by rw [hw];exact Bool.false_ne_true)];exact hK _ h
theorem kav {P:Program} {ops:Array Oper} {w:World} {Q:Act→Prop} {a:Act} {o:Oper} {rest:List Oper} (hw:Region.wanted o (yielded ops a.tmps)=true) (h:∀K:Act→Prop,(∀a,wpStill P ops w Q rest a→K a)→o.still P a w K):wpStill P ops w Q (o :: rest) a :=
 wpStill_step fun K hK=>by rw [if_pos hw];exact h K hK
structure EnF (c:Rv.Cx) (pt pb:Nat→Nat) (A:List Nat) (L:List Bs) (bj bT i:Nat) (w W:World):Prop where
 e0:W.cell? ⟨w.heap.size,0,none⟩=some (.int .i64 (c.ev i).kind)
 e1:W.cell? ⟨w.heap.size,1,none⟩=some (.string (B (c.ev i).author))
 e2:W.cell? ⟨w.heap.size,2,none⟩=some (.int .i64 (c.ev i).number)
 cj1:W.cell? ⟨bj,1,none⟩=some (.map (some bT))
 ci21:W.cell? ⟨pt i,21,none⟩=some (.map (some (pb i)))
 nd:∀k,k<c.l.length→W.cell? ⟨pt k,0,none⟩=some (.string (B (c.id k)))∧W.cell? ⟨pt k,9,none⟩=some (.int .i64 (c.ev k).height)
 trn:kbi Tryz.prog 140 kT W bT (A.map fun i=>(((c.ev i).author,(c.ev i).number),ptr (pt i)))
 pst:kes W (pb i) L
 below:Below w.heap.size w W
theorem EnF.drew {c:Rv.Cx} {pt pb:Nat→Nat} {A:List Nat} {L:List Bs} {bj bT i:Nat} {w W:World} (h:EnF c pt pb A L bj bT i w W):EnF c pt pb A L bj bT i w W.drew:=⟨h.e0,h.e1,h.e2,h.cj1,h.ci21,h.nd,h.trn,h.pst,h.below.drew⟩
theorem ksh (c:Rv.Cx) (pt pb:Nat→Nat) (A:List Nat) (bj bE bT bN:Nat) (w0 w1 w:World) (hN:Nds c pt pb w0 w1) (hJ:Jr c pt A bj bE bT bN w1 w) (i:Nat) (hi:i<c.l.length) :
 Calls Tryz.prog 183 #[ptr bj,ptr (pt i)] w fun en w'=>en = .returned (.int .i64 (c.entry A i))∧Below w.heap.size w w':=by
 obtain ⟨⟨r,na,nc,ta,tc,sa,sc,ha,hc,ra,rc,hev,hnd⟩,hpt,L,hL,hLm⟩:=hN.at hJ.below hi;obtain ⟨v,hv,ho⟩:=hJ.head;have hvb:=kda (hN.ok.valid i hi);rw [show c.l.getD i Rv.ev0=c.ev i from rfl] at hvb;have HR:=hdd (keh hnd);have HOi:=hdd (evS1 (c.ev i) na nc ta tc sa sc ha hc ra rc);have HV:=hdd hv;have HNd:=hdd hnd;have HVb:=hdd hvb;have HN:=hdd hN;have HJ:=hdd hJ;have HL:=hdd hL;have HLm:=hdd hLm;clear hev ho hL hLm hN hJ hv hnd hvb
 go_enter Tryz.func183,Tryz.ntmps183
 go_upto_region 2 with (first
  |(refine wpList_load_mid rfl 45 _ rfl (pt i) _ rfl (evS (c.ev i) na nc ta tc sa sc ha hc ra rc).toList _ HR.out rfl rfl (by kernel_rfl) ?_)
  |(refine kac rfl 45 _ _ rfl w.heap.size rfl (evS (c.ev i) na nc ta tc sa sc ha hc ra rc) rfl 45 evZ (kak rfl rfl) (by kernel_rfl) rfl HOi.out ?_
    intro w2 hw2 hk2;have HW2:=hdd hw2;have HB2:=hdd (((Below.refl w.heap.size w).alloc (Nat.le_refl _) _).trans (hk2.below (B:=w.heap.size) (by simp) (fun q hq e=>by have:q=w.heap.size:=e;omega)));clear hw2 hk2)
  |fail)
 have HJ2:=hdd (HJ.out.grow HB2.out);have hgT:=fun n=>HJ2.out.getT (c.ev i).author n
 have HGT:=hdd hgT;have HT2:=hdd HJ2.out.trn;have HL2:=hdd (show kes w2 (pb i) L from kbi.of_block HL.out (HB2.out.block _ HL.out.lt));obtain ⟨e0,e1,e2,-⟩:=ka3 HW2.out;have cj1:w2.cell? ⟨bj,1,none⟩=some (.map (some bT)):=by rw [kaa (kab HB2.out (kad HV.out) HV.out)];rfl
 have ci21:w2.cell? ⟨pt i,21,none⟩=some (.map (some (pb i))):=by rw [kaa (kab HB2.out (kad HNd.out) HNd.out)];rfl
 have hF:EnF c pt pb A L bj bT i w w2:=⟨e0,e1,e2,cj1,ci21,fun k hk=>by
  obtain ⟨⟨rk,na2,nc2,ta2,tc2,sa2,sc2,ha2,hc2,ra2,rc2,-,hnk⟩,-,-⟩:=HN.out.at (HJ2.out.below) hk;exact ⟨by rw [kaa hnk];rfl,by rw [kaa hnk];rfl⟩,HT2.out,HL2.out,HB2.out⟩
 have HF:=hdd hF;clear hgT hF HT2 HL2;have ha32:(c.ev i).author.length≤maxLen:=Nat.le_trans HVb.out.2.2.2.2 (by decide);have HRd:=hdd (fun (n:Int) (h1:-1≤n) (h2:n≤63)=>ky1 ((c.ev i).author,n) ha32 (by show (-9223372036854775808:Int)≤n;omega) (by show n≤(9223372036854775807:Int);omega));obtain ⟨hn0,hn63,hh0,-,-⟩:=HVb.out;have HWr:=hdd (show IntKind.i64.wrap ((c.ev i).number - 1)=(c.ev i).number - 1 from IntWalk.i64_in _ (by omega));have HRw:=hdd (show ∃l,keyOf Tryz.prog 140 (kT ((c.ev i).author,IntKind.i64.wrap ((c.ev i).number - 1)))=some l by rw [HWr.out];exact HRd.out _ (by omega) (by omega));clear ha32
 by_cases h1:(c.ev i).kind=1
 ·cases hj:c.turn A (c.ev i).author 0 with
  |none =>
   have HAns:=hdd (show c.entry A i=0 by rw [kj1 h1,hj];rfl);have HG0:=hdd (show (kb2 (A.map fun i=>(((c.ev i).author,(c.ev i).number),ptr (pt i))) ((c.ev i).author,(0:Int))).getD (.pointer none) = .pointer none by rw [HGT.out 0,hj];rfl);clear hj;refine wp_region_still_lit (by kernel_rfl) (by kernel_rfl) ?_
   repeat (first|(refine ka0 (by kernel_rfl) _ _ 135 rfl kj2 Tryz.underlying135 kcr HF.out.trn ((c.ev i).author,(0:Int)) rfl rfl (HRd.out 0 (by omega) (by omega)) HG0.out ?_)|(refine kav (by kernel_rfl) (fun K hK=>?_);go_simp;refine hK _ ?_;clear hK K)|(refine kaw (by kernel_rfl) ?_;simp only [Act.put,s1,s2,s3]))
   refine wpStill_nil ?_;rw [show (⟨w2.heap,w2.tape,w2.drawn+1,w2.os,w2.output⟩:World)=w2.drew from rfl];have HF9:=HF.out.drew;clear e0 e1 e2 cj1 ci21 HF
   try clear cj0 cj9
   revert HF9
   generalize w2.drew=w2;intro HF9;have HF:=hdd HF9;have e0:=HF9.e0;have e1:=HF9.e1;have e2:=HF9.e2;have cj1:=HF9.cj1;have ci21:=HF9.ci21;clear HF9;rw [h1] at e0;clear h1
   go_wp2
   go_ret
   exact ⟨by rw [HAns.out];first|done|rfl,HF.out.below⟩
  |some j =>
   have HAns:=hdd (show c.entry A i=6 by rw [kj1 h1,hj];rfl);have HG0:=hdd (show (kb2 (A.map fun i=>(((c.ev i).author,(c.ev i).number),ptr (pt i))) ((c.ev i).author,(0:Int))).getD (.pointer none)=ptr (pt j) by rw [HGT.out 0,hj];rfl);clear hj;refine wp_region_still_lit (by kernel_rfl) (by kernel_rfl) ?_
   repeat (first|(refine ka0 (by kernel_rfl) _ _ 135 rfl kj2 Tryz.underlying135 kcr HF.out.trn ((c.ev i).author,(0:Int)) rfl rfl (HRd.out 0 (by omega) (by omega)) HG0.out ?_)|(refine kav (by kernel_rfl) (fun K hK=>?_);go_simp;refine hK _ ?_;clear hK K)|(refine kaw (by kernel_rfl) ?_;simp only [Act.put,s1,s2,s3]))
   refine wpStill_nil ?_;rw [show (⟨w2.heap,w2.tape,w2.drawn+1,w2.os,w2.output⟩:World)=w2.drew from rfl];have HF9:=HF.out.drew;clear e0 e1 e2 cj1 ci21 HF
   try clear cj0 cj9
   revert HF9
   generalize w2.drew=w2;intro HF9;have HF:=hdd HF9;have e0:=HF9.e0;have e1:=HF9.e1;have e2:=HF9.e2;have cj1:=HF9.cj1;have ci21:=HF9.ci21;clear HF9;rw [h1] at e0;clear h1
   go_wp2
   go_ret
   exact ⟨by rw [HAns.out];first|done|rfl,HF.out.below⟩
 ·have d1:((c.ev i).kind == 1)=false:=beq_eq_false_iff_ne.2 h1
  have hent:c.entry A i=match c.turn A (c.ev i).author 0 with
   |none=>7
   |some j=>if c.past i j=false then 7 else if (2:Int) ^ (c.ev j).height.toNat≤(c.ev i).number then 15 else
    match c.turn A (c.ev i).author ((c.ev i).number - 1) with
    |none=>5
    |some b=>if c.past i b=false then 5 else if (c.turn A (c.ev i).author (c.ev i).number).isSome then 6 else 0:=by
   unfold Rv.Cx.entry;rw [if_neg h1];rfl
  obtain ⟨rb,hrb⟩:∃rb,(kb2 (A.map fun i=>(((c.ev i).author,(c.ev i).number),ptr (pt i))) ((c.ev i).author,IntKind.i64.wrap ((c.ev i).number - 1))).getD (.pointer none)=rb:=⟨_,rfl⟩;have HEnt:=hdd hent;clear hent h1
  cases hj:c.turn A (c.ev i).author 0 with
  |none =>
   have HAns:=hdd (show c.entry A i=7 by rw [HEnt.out,hj]);have HG0:=hdd (show (kb2 (A.map fun i=>(((c.ev i).author,(c.ev i).number),ptr (pt i))) ((c.ev i).author,(0:Int))).getD (.pointer none) = .pointer none by rw [HGT.out 0,hj];rfl);have HG1:=hdd hrb;clear hj hrb;refine wp_region_still_lit (by kernel_rfl) (by kernel_rfl) ?_
   repeat (first|(refine ka0 (by kernel_rfl) _ _ 135 rfl kj2 Tryz.underlying135 kcr HF.out.trn ((c.ev i).author,(0:Int)) rfl rfl (HRd.out 0 (by omega) (by omega)) HG0.out ?_)|(refine kav (by kernel_rfl) (fun K hK=>?_);go_simp;refine hK _ ?_;clear hK K)|(refine kaw (by kernel_rfl) ?_;simp only [Act.put,s1,s2,s3]))
   refine wpStill_nil ?_;rw [show (⟨w2.heap,w2.tape,w2.drawn+1,w2.os,w2.output⟩:World)=w2.drew from rfl];have HF9:=HF.out.drew;clear e0 e1 e2 cj1 ci21 HF
   try clear cj0 cj9
   revert HF9
   generalize w2.drew=w2;intro HF9;have HF:=hdd HF9;have e0:=HF9.e0;have e1:=HF9.e1;have e2:=HF9.e2;have cj1:=HF9.cj1;have ci21:=HF9.ci21;clear HF9
   go_upto_region 7 with fail
   refine wp_region_still_lit (by kernel_rfl) (by kernel_rfl) ?_
   repeat (first|(refine ka0 (by kernel_rfl) _ _ 135 rfl kj2 Tryz.underlying135 kcr HF.out.trn ((c.ev i).author,IntKind.i64.wrap ((c.ev i).number - 1)) rfl rfl HRw.out HG1.out ?_)|(refine kav (by kernel_rfl) (fun K hK=>?_);go_simp;refine hK _ ?_;clear hK K)|(refine kaw (by kernel_rfl) ?_;simp only [Act.put,s1,s2,s3]))
   refine wpStill_nil ?_;rw [show (⟨w2.heap,w2.tape,w2.drawn+1,w2.os,w2.output⟩:World)=w2.drew from rfl];have HF9:=HF.out.drew;clear e0 e1 e2 cj1 ci21 HF
   try clear cj0 cj9
   revert HF9
   generalize w2.drew=w2;intro HF9;have HF:=hdd HF9;have e0:=HF9.e0;have e1:=HF9.e1;have e2:=HF9.e2;have cj1:=HF9.cj1;have ci21:=HF9.ci21;clear HF9
   go_upto_region 8 with fail
   refine kaj (S:=fun W:World=>W.cell? ⟨pt i,21,none⟩=some (.map (some (pb i)))) (by kernel_rfl) ci21 (fun hHeld=>?_);simp only [List.toList_toArray,len,kat]
   iterate 3 (refine tz 0 ?_;simp only [Act.put,s1,s2,s3])
   iterate 10 (refine ps 3 rfl rfl rfl (by kernel_rfl) (fun _ _ _ h=>h) (by assumption) ?_;simp only [Act.put,s1,s2,s3])
   (refine tz 13 ?_;simp only [Act.put,s1,s2,s3])
   (refine tz 14 ?_;simp only [Act.put,s1,s2,s3])
   refine wpAnyH_done (by kernel_rfl) ?_ _;simp only [Exit.then];have HF9:=HF.out.drew;clear e0 e1 e2 cj1 ci21 HF
   try clear cj0 cj9
   revert HF9
   generalize w2.drew=w2;intro HF9;have HF:=hdd HF9;have e0:=HF9.e0;have e1:=HF9.e1;have e2:=HF9.e2;have cj1:=HF9.cj1;have ci21:=HF9.ci21;clear HF9
   go_wp2
   go_ret
   exact ⟨by rw [HAns.out];first|done|rfl,HF.out.below⟩
  |some j =>
   have HG0:=hdd (show (kb2 (A.map fun i=>(((c.ev i).author,(c.ev i).number),ptr (pt i))) ((c.ev i).author,(0:Int))).getD (.pointer none)=ptr (pt j) by rw [HGT.out 0,hj];rfl);have hjl:j<c.l.length:=HJ.out.mem j (List.mem_of_find?_eq_some hj);have HP:=hdd (show (kb2 (L.map fun s=>(s,Value.bool true)) (c.id j)).getD (.bool false) = .bool (c.past i j) by rw [kdv,HLm.out j hjl]);have hbj:=kda (HN.out.ok.valid j hjl);rw [show c.l.getD j Rv.ev0=c.ev j from rfl] at hbj;obtain ⟨-,-,hj0,hj20,-⟩:=hbj;have HJj:=hdd hj;have Hjl:=hdd hjl;clear hj hjl
   cases hp:c.past i j with
   |false =>
    have HAns:=hdd (show c.entry A i=7 by rw [HEnt.out,HJj.out];simp [hp]);have HP0:=hdd (HP.out.trans (by rw [hp]));have HG1:=hdd hrb;clear hp hrb;refine wp_region_still_lit (by kernel_rfl) (by kernel_rfl) ?_
    repeat (first|(refine ka0 (by kernel_rfl) _ _ 135 rfl kj2 Tryz.underlying135 kcr HF.out.trn ((c.ev i).author,(0:Int)) rfl rfl (HRd.out 0 (by omega) (by omega)) HG0.out ?_)|(refine kav (by kernel_rfl) (fun K hK=>?_);go_simp;refine hK _ ?_;clear hK K)|(refine kaw (by kernel_rfl) ?_;simp only [Act.put,s1,s2,s3]))
    refine wpStill_nil ?_;rw [show (⟨w2.heap,w2.tape,w2.drawn+1,w2.os,w2.output⟩:World)=w2.drew from rfl];have HF9:=HF.out.drew;clear e0 e1 e2 cj1 ci21 HF
    try clear cj0 cj9
    revert HF9
    generalize w2.drew=w2;intro HF9;have HF:=hdd HF9;have e0:=HF9.e0;have e1:=HF9.e1;have e2:=HF9.e2;have cj1:=HF9.cj1;have ci21:=HF9.ci21;clear HF9
    go_upto_region 7 with fail
    refine wp_region_still_lit (by kernel_rfl) (by kernel_rfl) ?_
    repeat (first|(refine ka0 (by kernel_rfl) _ _ 135 rfl kj2 Tryz.underlying135 kcr HF.out.trn ((c.ev i).author,IntKind.i64.wrap ((c.ev i).number - 1)) rfl rfl HRw.out HG1.out ?_)|(refine kav (by kernel_rfl) (fun K hK=>?_);go_simp;refine hK _ ?_;clear hK K)|(refine kaw (by kernel_rfl) ?_;simp only [Act.put,s1,s2,s3]))
    refine wpStill_nil ?_;rw [show (⟨w2.heap,w2.tape,w2.drawn+1,w2.os,w2.output⟩:World)=w2.drew from rfl];have HF9:=HF.out.drew;clear e0 e1 e2 cj1 ci21 HF
    try clear cj0 cj9
    revert HF9
    generalize w2.drew=w2;intro HF9;have HF:=hdd HF9;have e0:=HF9.e0;have e1:=HF9.e1;have e2:=HF9.e2;have cj1:=HF9.cj1;have ci21:=HF9.ci21;clear HF9
    go_upto_region 8 with fail
    obtain ⟨cj0,cj9⟩:=HF.out.nd j Hjl.out;refine kaj (S:=fun W:World=>(W.cell? ⟨pt i,21,none⟩=some (.map (some (pb i)))∧W.cell? ⟨pt j,0,none⟩=some (.string (B (c.id j))))∧kes W (pb i) L) (by kernel_rfl) ⟨⟨ci21,cj0⟩,HF.out.pst⟩ (fun hHeld=>?_);simp only [List.toList_toArray,len,kat]
    iterate 3 (refine tz 0 ?_;simp only [Act.put,s1,s2,s3])
    iterate 8 (refine tz 3 ?_;simp only [Act.put,s1,s2,s3])
    refine tkx 11 (.bool false) rfl rfl (by kernel_rfl) (fun _ _ _ h=>h) (by assumption) ?_ ?_
    ·intro W hW;exact ka4 rfl kcx Tryz.underlying92 kev hW.2 rfl rfl (kbp (HN.out.idl j)) HP0.out
    simp only [Act.put,s1,s2,s3]
    iterate 2 (refine tz 12 ?_;simp only [Act.put,s1,s2,s3])
    (refine tz 14 ?_;simp only [Act.put,s1,s2,s3])
    refine wpAnyH_done (by kernel_rfl) ?_ _;simp only [Exit.then];have HF9:=HF.out.drew;clear e0 e1 e2 cj1 ci21 HF
    try clear cj0 cj9
    revert HF9
    generalize w2.drew=w2;intro HF9;have HF:=hdd HF9;have e0:=HF9.e0;have e1:=HF9.e1;have e2:=HF9.e2;have cj1:=HF9.cj1;have ci21:=HF9.ci21;clear HF9
    go_wp2
    go_ret
    exact ⟨by rw [HAns.out];first|done|rfl,HF.out.below⟩
   |true =>
    have HP0:=hdd (HP.out.trans (show _=Value.bool true by rw [hp]));obtain ⟨hh,ehh⟩:∃hh:Nat,(c.ev j).height=(hh:Int):=⟨(c.ev j).height.toNat,by omega⟩;have Hhh:=hdd ehh;have hh20:hh≤20:=by omega
    have hpw:=(by decide:∀h,h<21→(2:Int) ^ h≤1048576∧0<(2:Int) ^ h) hh (by omega);have Hwr:=hdd (show IntKind.i64.wrap ((2:Int) ^ hh)=(2:Int) ^ hh from IntWalk.i64_in _ (by omega));clear hj0 hj20 hpw
    by_cases hfull:(2:Int) ^ hh≤(c.ev i).number
    ·have HAns:=hdd (show c.entry A i=15 by rw [HEnt.out,HJj.out];simp [hp,ehh,hfull])
     have HG1:=hdd hrb;have Hfl:=hdd (decide_eq_true hfull);clear hp hrb ehh hfull;refine wp_region_still_lit (by kernel_rfl) (by kernel_rfl) ?_
     repeat (first|(refine ka0 (by kernel_rfl) _ _ 135 rfl kj2 Tryz.underlying135 kcr HF.out.trn ((c.ev i).author,(0:Int)) rfl rfl (HRd.out 0 (by omega) (by omega)) HG0.out ?_)|(refine kav (by kernel_rfl) (fun K hK=>?_);go_simp;refine hK _ ?_;clear hK K)|(refine kaw (by kernel_rfl) ?_;simp only [Act.put,s1,s2,s3]))
     refine wpStill_nil ?_;rw [show (⟨w2.heap,w2.tape,w2.drawn+1,w2.os,w2.output⟩:World)=w2.drew from rfl];have HF9:=HF.out.drew;clear e0 e1 e2 cj1 ci21 HF
     try clear cj0 cj9
     revert HF9
     generalize w2.drew=w2;intro HF9;have HF:=hdd HF9;have e0:=HF9.e0;have e1:=HF9.e1;have e2:=HF9.e2;have cj1:=HF9.cj1;have ci21:=HF9.ci21;clear HF9
     go_upto_region 7 with fail
     refine wp_region_still_lit (by kernel_rfl) (by kernel_rfl) ?_
     repeat (first|(refine ka0 (by kernel_rfl) _ _ 135 rfl kj2 Tryz.underlying135 kcr HF.out.trn ((c.ev i).author,IntKind.i64.wrap ((c.ev i).number - 1)) rfl rfl HRw.out HG1.out ?_)|(refine kav (by kernel_rfl) (fun K hK=>?_);go_simp;refine hK _ ?_;clear hK K)|(refine kaw (by kernel_rfl) ?_;simp only [Act.put,s1,s2,s3]))
     refine wpStill_nil ?_;rw [show (⟨w2.heap,w2.tape,w2.drawn+1,w2.os,w2.output⟩:World)=w2.drew from rfl];have HF9:=HF.out.drew;clear e0 e1 e2 cj1 ci21 HF
     try clear cj0 cj9
     revert HF9
     generalize w2.drew=w2;intro HF9;have HF:=hdd HF9;have e0:=HF9.e0;have e1:=HF9.e1;have e2:=HF9.e2;have cj1:=HF9.cj1;have ci21:=HF9.ci21;clear HF9
     go_upto_region 8 with fail
     obtain ⟨cj0,cj9⟩:=HF.out.nd j Hjl.out;refine kaj (S:=fun W:World=>(W.cell? ⟨pt i,21,none⟩=some (.map (some (pb i)))∧W.cell? ⟨pt j,0,none⟩=some (.string (B (c.id j))))∧kes W (pb i) L) (by kernel_rfl) ⟨⟨ci21,cj0⟩,HF.out.pst⟩ (fun hHeld=>?_);simp only [List.toList_toArray,len,kat]
     iterate 3 (refine tz 0 ?_;simp only [Act.put,s1,s2,s3])
     iterate 8 (refine tz 3 ?_;simp only [Act.put,s1,s2,s3])
     refine tkx 11 (.bool true) rfl rfl (by kernel_rfl) (fun _ _ _ h=>h) (by assumption) ?_ ?_
     ·intro W hW;exact ka4 rfl kcx Tryz.underlying92 kev hW.2 rfl rfl (kbp (HN.out.idl j)) HP0.out
     simp only [Act.put,s1,s2,s3]
     iterate 2 (refine tz 12 ?_;simp only [Act.put,s1,s2,s3])
     (refine tz 14 ?_;simp only [Act.put,s1,s2,s3])
     refine wpAnyH_done (by kernel_rfl) ?_ _;simp only [Exit.then];have HF9:=HF.out.drew;clear e0 e1 e2 cj1 ci21 HF
     try clear cj0 cj9
     revert HF9
     generalize w2.drew=w2;intro HF9;have HF:=hdd HF9;have e0:=HF9.e0;have e1:=HF9.e1;have e2:=HF9.e2;have cj1:=HF9.cj1;have ci21:=HF9.ci21;clear HF9
     go_upto_region 10 with fail
     obtain ⟨cj0,cj9⟩:=HF.out.nd j Hjl.out;rw [Hhh.out] at cj9;refine wp_region_still_lit (by kernel_rfl) (by kernel_rfl) ?_
     repeat (first|(refine kav (by kernel_rfl) (fun K hK=>?_);go_simp;refine hK _ ?_;clear hK K)|(refine kaw (by kernel_rfl) ?_;simp only [Act.put,s1,s2,s3]))
     refine wpStill_nil ?_;rw [show (⟨w2.heap,w2.tape,w2.drawn+1,w2.os,w2.output⟩:World)=w2.drew from rfl];have HF9:=HF.out.drew;clear e0 e1 e2 cj1 ci21 HF
     try clear cj0 cj9
     revert HF9
     generalize w2.drew=w2;intro HF9;have HF:=hdd HF9;have e0:=HF9.e0;have e1:=HF9.e1;have e2:=HF9.e2;have cj1:=HF9.cj1;have ci21:=HF9.ci21;clear HF9;rw [Hwr.out,Hfl.out]
     go_wp2
     go_ret
     exact ⟨by rw [HAns.out];first|done|rfl,HF.out.below⟩
    ·have HEn2:=hdd (show c.entry A i=match c.turn A (c.ev i).author ((c.ev i).number - 1) with
      |none=>5
      |some b=>if c.past i b=false then 5 else if (c.turn A (c.ev i).author (c.ev i).number).isSome then 6 else 0 by
       rw [HEnt.out,HJj.out];dsimp only;rw [hp,ehh,if_neg (by simp),if_neg (by simpa using hfull)];first|done|rfl)
     have Hfl:=hdd (decide_eq_false hfull);clear hp ehh hfull
     cases hb:c.turn A (c.ev i).author ((c.ev i).number - 1) with
     |none =>
      have HAns:=hdd (show c.entry A i=5 by rw [HEn2.out,hb]);obtain rfl:rb = .pointer none:=by rw [←hrb,HWr.out,HGT.out,hb];rfl
      have HG1:=hdd hrb;clear hb hrb;refine wp_region_still_lit (by kernel_rfl) (by kernel_rfl) ?_
      repeat (first|(refine ka0 (by kernel_rfl) _ _ 135 rfl kj2 Tryz.underlying135 kcr HF.out.trn ((c.ev i).author,(0:Int)) rfl rfl (HRd.out 0 (by omega) (by omega)) HG0.out ?_)|(refine kav (by kernel_rfl) (fun K hK=>?_);go_simp;refine hK _ ?_;clear hK K)|(refine kaw (by kernel_rfl) ?_;simp only [Act.put,s1,s2,s3]))
      refine wpStill_nil ?_;rw [show (⟨w2.heap,w2.tape,w2.drawn+1,w2.os,w2.output⟩:World)=w2.drew from rfl];have HF9:=HF.out.drew;clear e0 e1 e2 cj1 ci21 HF
      try clear cj0 cj9
      revert HF9
      generalize w2.drew=w2;intro HF9;have HF:=hdd HF9;have e0:=HF9.e0;have e1:=HF9.e1;have e2:=HF9.e2;have cj1:=HF9.cj1;have ci21:=HF9.ci21;clear HF9
      go_upto_region 7 with fail
      refine wp_region_still_lit (by kernel_rfl) (by kernel_rfl) ?_
      repeat (first|(refine ka0 (by kernel_rfl) _ _ 135 rfl kj2 Tryz.underlying135 kcr HF.out.trn ((c.ev i).author,IntKind.i64.wrap ((c.ev i).number - 1)) rfl rfl HRw.out HG1.out ?_)|(refine kav (by kernel_rfl) (fun K hK=>?_);go_simp;refine hK _ ?_;clear hK K)|(refine kaw (by kernel_rfl) ?_;simp only [Act.put,s1,s2,s3]))
      refine wpStill_nil ?_;rw [show (⟨w2.heap,w2.tape,w2.drawn+1,w2.os,w2.output⟩:World)=w2.drew from rfl];have HF9:=HF.out.drew;clear e0 e1 e2 cj1 ci21 HF
      try clear cj0 cj9
      revert HF9
      generalize w2.drew=w2;intro HF9;have HF:=hdd HF9;have e0:=HF9.e0;have e1:=HF9.e1;have e2:=HF9.e2;have cj1:=HF9.cj1;have ci21:=HF9.ci21;clear HF9
      go_upto_region 8 with fail
      obtain ⟨cj0,cj9⟩:=HF.out.nd j Hjl.out;refine kaj (S:=fun W:World=>(W.cell? ⟨pt i,21,none⟩=some (.map (some (pb i)))∧W.cell? ⟨pt j,0,none⟩=some (.string (B (c.id j))))∧kes W (pb i) L) (by kernel_rfl) ⟨⟨ci21,cj0⟩,HF.out.pst⟩ (fun hHeld=>?_);simp only [List.toList_toArray,len,kat]
      iterate 3 (refine tz 0 ?_;simp only [Act.put,s1,s2,s3])
      iterate 8 (refine tz 3 ?_;simp only [Act.put,s1,s2,s3])
      refine tkx 11 (.bool true) rfl rfl (by kernel_rfl) (fun _ _ _ h=>h) (by assumption) ?_ ?_
      ·intro W hW;exact ka4 rfl kcx Tryz.underlying92 kev hW.2 rfl rfl (kbp (HN.out.idl j)) HP0.out
      simp only [Act.put,s1,s2,s3]
      iterate 2 (refine tz 12 ?_;simp only [Act.put,s1,s2,s3])
      (refine tz 14 ?_;simp only [Act.put,s1,s2,s3])
      refine wpAnyH_done (by kernel_rfl) ?_ _;simp only [Exit.then];have HF9:=HF.out.drew;clear e0 e1 e2 cj1 ci21 HF
      try clear cj0 cj9
      revert HF9
      generalize w2.drew=w2;intro HF9;have HF:=hdd HF9;have e0:=HF9.e0;have e1:=HF9.e1;have e2:=HF9.e2;have cj1:=HF9.cj1;have ci21:=HF9.ci21;clear HF9
      go_upto_region 10 with fail
      obtain ⟨cj0,cj9⟩:=HF.out.nd j Hjl.out;rw [Hhh.out] at cj9;refine wp_region_still_lit (by kernel_rfl) (by kernel_rfl) ?_
      repeat (first|(refine kav (by kernel_rfl) (fun K hK=>?_);go_simp;refine hK _ ?_;clear hK K)|(refine kaw (by kernel_rfl) ?_;simp only [Act.put,s1,s2,s3]))
      refine wpStill_nil ?_;rw [show (⟨w2.heap,w2.tape,w2.drawn+1,w2.os,w2.output⟩:World)=w2.drew from rfl];have HF9:=HF.out.drew;clear e0 e1 e2 cj1 ci21 HF
      try clear cj0 cj9
      revert HF9
      generalize w2.drew=w2;intro HF9;have HF:=hdd HF9;have e0:=HF9.e0;have e1:=HF9.e1;have e2:=HF9.e2;have cj1:=HF9.cj1;have ci21:=HF9.ci21;clear HF9;rw [Hwr.out,Hfl.out]
      go_upto_region 12 with fail
      refine kaj (S:=fun W:World=>W.cell? ⟨pt i,21,none⟩=some (.map (some (pb i)))) (by kernel_rfl) ci21 (fun hHeld=>?_);simp only [List.toList_toArray,len,kat]
      iterate 3 (refine tz 0 ?_;simp only [Act.put,s1,s2,s3])
      iterate 10 (refine ps 3 rfl rfl rfl (by kernel_rfl) (fun _ _ _ h=>h) (by assumption) ?_;simp only [Act.put,s1,s2,s3])
      (refine tz 13 ?_;simp only [Act.put,s1,s2,s3])
      (refine tz 14 ?_;simp only [Act.put,s1,s2,s3])
      refine wpAnyH_done (by kernel_rfl) ?_ _;simp only [Exit.then];have HF9:=HF.out.drew;clear e0 e1 e2 cj1 ci21 HF
      try clear cj0 cj9
      revert HF9
      generalize w2.drew=w2;intro HF9;have HF:=hdd HF9;have e0:=HF9.e0;have e1:=HF9.e1;have e2:=HF9.e2;have cj1:=HF9.cj1;have ci21:=HF9.ci21;clear HF9
      go_wp2
      go_ret
      exact ⟨by rw [HAns.out];first|done|rfl,HF.out.below⟩
     |some b =>
      obtain rfl:rb=ptr (pt b):=by rw [←hrb,HWr.out,HGT.out,hb];rfl
      have HG1:=hdd hrb;have hbl:b<c.l.length:=HJ.out.mem b (List.mem_of_find?_eq_some hb);have HPb:=hdd (show (kb2 (L.map fun s=>(s,Value.bool true)) (c.id b)).getD (.bool false) = .bool (c.past i b) by rw [kdv,HLm.out b hbl]);have Hbl:=hdd hbl;have HBb:=hdd hb;clear hb hrb hbl
      cases hp2:c.past i b with
      |false =>
       have HAns:=hdd (show c.entry A i=5 by rw [HEn2.out,HBb.out];simp [hp2]);have HP1:=hdd (HPb.out.trans (show _=Value.bool false by rw [hp2]));clear hp2;refine wp_region_still_lit (by kernel_rfl) (by kernel_rfl) ?_
       repeat (first|(refine ka0 (by kernel_rfl) _ _ 135 rfl kj2 Tryz.underlying135 kcr HF.out.trn ((c.ev i).author,(0:Int)) rfl rfl (HRd.out 0 (by omega) (by omega)) HG0.out ?_)|(refine kav (by kernel_rfl) (fun K hK=>?_);go_simp;refine hK _ ?_;clear hK K)|(refine kaw (by kernel_rfl) ?_;simp only [Act.put,s1,s2,s3]))
       refine wpStill_nil ?_;rw [show (⟨w2.heap,w2.tape,w2.drawn+1,w2.os,w2.output⟩:World)=w2.drew from rfl];have HF9:=HF.out.drew;clear e0 e1 e2 cj1 ci21 HF
       try clear cj0 cj9
       revert HF9
       generalize w2.drew=w2;intro HF9;have HF:=hdd HF9;have e0:=HF9.e0;have e1:=HF9.e1;have e2:=HF9.e2;have cj1:=HF9.cj1;have ci21:=HF9.ci21;clear HF9
       go_upto_region 7 with fail
       refine wp_region_still_lit (by kernel_rfl) (by kernel_rfl) ?_
       repeat (first|(refine ka0 (by kernel_rfl) _ _ 135 rfl kj2 Tryz.underlying135 kcr HF.out.trn ((c.ev i).author,IntKind.i64.wrap ((c.ev i).number - 1)) rfl rfl HRw.out HG1.out ?_)|(refine kav (by kernel_rfl) (fun K hK=>?_);go_simp;refine hK _ ?_;clear hK K)|(refine kaw (by kernel_rfl) ?_;simp only [Act.put,s1,s2,s3]))
       refine wpStill_nil ?_;rw [show (⟨w2.heap,w2.tape,w2.drawn+1,w2.os,w2.output⟩:World)=w2.drew from rfl];have HF9:=HF.out.drew;clear e0 e1 e2 cj1 ci21 HF
       try clear cj0 cj9
       revert HF9
       generalize w2.drew=w2;intro HF9;have HF:=hdd HF9;have e0:=HF9.e0;have e1:=HF9.e1;have e2:=HF9.e2;have cj1:=HF9.cj1;have ci21:=HF9.ci21;clear HF9
       go_upto_region 8 with fail
       obtain ⟨cj0,cj9⟩:=HF.out.nd j Hjl.out;refine kaj (S:=fun W:World=>(W.cell? ⟨pt i,21,none⟩=some (.map (some (pb i)))∧W.cell? ⟨pt j,0,none⟩=some (.string (B (c.id j))))∧kes W (pb i) L) (by kernel_rfl) ⟨⟨ci21,cj0⟩,HF.out.pst⟩ (fun hHeld=>?_);simp only [List.toList_toArray,len,kat]
       iterate 3 (refine tz 0 ?_;simp only [Act.put,s1,s2,s3])
       iterate 8 (refine tz 3 ?_;simp only [Act.put,s1,s2,s3])
       refine tkx 11 (.bool true) rfl rfl (by kernel_rfl) (fun _ _ _ h=>h) (by assumption) ?_ ?_
       ·intro W hW;exact ka4 rfl kcx Tryz.underlying92 kev hW.2 rfl rfl (kbp (HN.out.idl j)) HP0.out
       simp only [Act.put,s1,s2,s3]
       iterate 2 (refine tz 12 ?_;simp only [Act.put,s1,s2,s3])
       (refine tz 14 ?_;simp only [Act.put,s1,s2,s3])
       refine wpAnyH_done (by kernel_rfl) ?_ _;simp only [Exit.then];have HF9:=HF.out.drew;clear e0 e1 e2 cj1 ci21 HF
       try clear cj0 cj9
       revert HF9
       generalize w2.drew=w2;intro HF9;have HF:=hdd HF9;have e0:=HF9.e0;have e1:=HF9.e1;have e2:=HF9.e2;have cj1:=HF9.cj1;have ci21:=HF9.ci21;clear HF9
       go_upto_region 10 with fail
       obtain ⟨cj0,cj9⟩:=HF.out.nd j Hjl.out;rw [Hhh.out] at cj9;refine wp_region_still_lit (by kernel_rfl) (by kernel_rfl) ?_
       repeat (first|(refine kav (by kernel_rfl) (fun K hK=>?_);go_simp;refine hK _ ?_;clear hK K)|(refine kaw (by kernel_rfl) ?_;simp only [Act.put,s1,s2,s3]))
       refine wpStill_nil ?_;rw [show (⟨w2.heap,w2.tape,w2.drawn+1,w2.os,w2.output⟩:World)=w2.drew from rfl];have HF9:=HF.out.drew;clear e0 e1 e2 cj1 ci21 HF
       try clear cj0 cj9
       revert HF9
       generalize w2.drew=w2;intro HF9;have HF:=hdd HF9;have e0:=HF9.e0;have e1:=HF9.e1;have e2:=HF9.e2;have cj1:=HF9.cj1;have ci21:=HF9.ci21;clear HF9;rw [Hwr.out,Hfl.out]
       go_upto_region 12 with fail
       obtain ⟨cb0,cb9⟩:=HF.out.nd b Hbl.out;refine kaj (S:=fun W:World=>(W.cell? ⟨pt i,21,none⟩=some (.map (some (pb i)))∧W.cell? ⟨pt b,0,none⟩=some (.string (B (c.id b))))∧kes W (pb i) L) (by kernel_rfl) ⟨⟨ci21,cb0⟩,HF.out.pst⟩ (fun hHeld=>?_);simp only [List.toList_toArray,len,kat]
       iterate 3 (refine tz 0 ?_;simp only [Act.put,s1,s2,s3])
       iterate 8 (refine tz 3 ?_;simp only [Act.put,s1,s2,s3])
       refine tkx 11 (.bool false) rfl rfl (by kernel_rfl) (fun _ _ _ h=>h) (by assumption) ?_ ?_
       ·intro W hW;exact ka4 rfl kcx Tryz.underlying92 kev hW.2 rfl rfl (kbp (HN.out.idl b)) HP1.out
       simp only [Act.put,s1,s2,s3]
       iterate 2 (refine tz 12 ?_;simp only [Act.put,s1,s2,s3])
       (refine tz 14 ?_;simp only [Act.put,s1,s2,s3])
       refine wpAnyH_done (by kernel_rfl) ?_ _;simp only [Exit.then];have HF9:=HF.out.drew;clear e0 e1 e2 cj1 ci21 HF
       try clear cj0 cj9
       revert HF9
       generalize w2.drew=w2;intro HF9;have HF:=hdd HF9;have e0:=HF9.e0;have e1:=HF9.e1;have e2:=HF9.e2;have cj1:=HF9.cj1;have ci21:=HF9.ci21;clear HF9
       go_wp2
       go_ret
       exact ⟨by rw [HAns.out];first|done|rfl,HF.out.below⟩
      |true =>
       have HP1:=hdd (HPb.out.trans (show _=Value.bool true by rw [hp2]))
       cases ht:c.turn A (c.ev i).author (c.ev i).number with
       |none =>
        have HAns:=hdd (show c.entry A i=0 by rw [HEn2.out,HBb.out];simp [hp2,ht]);have HG2:=hdd (show (kb2 (A.map fun i=>(((c.ev i).author,(c.ev i).number),ptr (pt i))) ((c.ev i).author,(c.ev i).number)).getD (.pointer none) = .pointer none by rw [HGT.out,ht];rfl);clear hp2 ht;refine wp_region_still_lit (by kernel_rfl) (by kernel_rfl) ?_
        repeat (first|(refine ka0 (by kernel_rfl) _ _ 135 rfl kj2 Tryz.underlying135 kcr HF.out.trn ((c.ev i).author,(0:Int)) rfl rfl (HRd.out 0 (by omega) (by omega)) HG0.out ?_)|(refine kav (by kernel_rfl) (fun K hK=>?_);go_simp;refine hK _ ?_;clear hK K)|(refine kaw (by kernel_rfl) ?_;simp only [Act.put,s1,s2,s3]))
        refine wpStill_nil ?_;rw [show (⟨w2.heap,w2.tape,w2.drawn+1,w2.os,w2.output⟩:World)=w2.drew from rfl];have HF9:=HF.out.drew;clear e0 e1 e2 cj1 ci21 HF
        try clear cj0 cj9
        revert HF9
        generalize w2.drew=w2;intro HF9;have HF:=hdd HF9;have e0:=HF9.e0;have e1:=HF9.e1;have e2:=HF9.e2;have cj1:=HF9.cj1;have ci21:=HF9.ci21;clear HF9
        go_upto_region 7 with fail
        refine wp_region_still_lit (by kernel_rfl) (by kernel_rfl) ?_
        repeat (first|(refine ka0 (by kernel_rfl) _ _ 135 rfl kj2 Tryz.underlying135 kcr HF.out.trn ((c.ev i).author,IntKind.i64.wrap ((c.ev i).number - 1)) rfl rfl HRw.out HG1.out ?_)|(refine kav (by kernel_rfl) (fun K hK=>?_);go_simp;refine hK _ ?_;clear hK K)|(refine kaw (by kernel_rfl) ?_;simp only [Act.put,s1,s2,s3]))
        refine wpStill_nil ?_;rw [show (⟨w2.heap,w2.tape,w2.drawn+1,w2.os,w2.output⟩:World)=w2.drew from rfl];have HF9:=HF.out.drew;clear e0 e1 e2 cj1 ci21 HF
        try clear cj0 cj9
        revert HF9
        generalize w2.drew=w2;intro HF9;have HF:=hdd HF9;have e0:=HF9.e0;have e1:=HF9.e1;have e2:=HF9.e2;have cj1:=HF9.cj1;have ci21:=HF9.ci21;clear HF9
        go_upto_region 8 with fail
        obtain ⟨cj0,cj9⟩:=HF.out.nd j Hjl.out;refine kaj (S:=fun W:World=>(W.cell? ⟨pt i,21,none⟩=some (.map (some (pb i)))∧W.cell? ⟨pt j,0,none⟩=some (.string (B (c.id j))))∧kes W (pb i) L) (by kernel_rfl) ⟨⟨ci21,cj0⟩,HF.out.pst⟩ (fun hHeld=>?_);simp only [List.toList_toArray,len,kat]
        iterate 3 (refine tz 0 ?_;simp only [Act.put,s1,s2,s3])
        iterate 8 (refine tz 3 ?_;simp only [Act.put,s1,s2,s3])
        refine tkx 11 (.bool true) rfl rfl (by kernel_rfl) (fun _ _ _ h=>h) (by assumption) ?_ ?_
        ·intro W hW;exact ka4 rfl kcx Tryz.underlying92 kev hW.2 rfl rfl (kbp (HN.out.idl j)) HP0.out
        simp only [Act.put,s1,s2,s3]
        iterate 2 (refine tz 12 ?_;simp only [Act.put,s1,s2,s3])
        (refine tz 14 ?_;simp only [Act.put,s1,s2,s3])
        refine wpAnyH_done (by kernel_rfl) ?_ _;simp only [Exit.then];have HF9:=HF.out.drew;clear e0 e1 e2 cj1 ci21 HF
        try clear cj0 cj9
        revert HF9
        generalize w2.drew=w2;intro HF9;have HF:=hdd HF9;have e0:=HF9.e0;have e1:=HF9.e1;have e2:=HF9.e2;have cj1:=HF9.cj1;have ci21:=HF9.ci21;clear HF9
        go_upto_region 10 with fail
        obtain ⟨cj0,cj9⟩:=HF.out.nd j Hjl.out;rw [Hhh.out] at cj9;refine wp_region_still_lit (by kernel_rfl) (by kernel_rfl) ?_
        repeat (first|(refine kav (by kernel_rfl) (fun K hK=>?_);go_simp;refine hK _ ?_;clear hK K)|(refine kaw (by kernel_rfl) ?_;simp only [Act.put,s1,s2,s3]))
        refine wpStill_nil ?_;rw [show (⟨w2.heap,w2.tape,w2.drawn+1,w2.os,w2.output⟩:World)=w2.drew from rfl];have HF9:=HF.out.drew;clear e0 e1 e2 cj1 ci21 HF
        try clear cj0 cj9
        revert HF9
        generalize w2.drew=w2;intro HF9;have HF:=hdd HF9;have e0:=HF9.e0;have e1:=HF9.e1;have e2:=HF9.e2;have cj1:=HF9.cj1;have ci21:=HF9.ci21;clear HF9;rw [Hwr.out,Hfl.out]
        go_upto_region 12 with fail
        obtain ⟨cb0,cb9⟩:=HF.out.nd b Hbl.out;refine kaj (S:=fun W:World=>(W.cell? ⟨pt i,21,none⟩=some (.map (some (pb i)))∧W.cell? ⟨pt b,0,none⟩=some (.string (B (c.id b))))∧kes W (pb i) L) (by kernel_rfl) ⟨⟨ci21,cb0⟩,HF.out.pst⟩ (fun hHeld=>?_);simp only [List.toList_toArray,len,kat]
        iterate 3 (refine tz 0 ?_;simp only [Act.put,s1,s2,s3])
        iterate 8 (refine tz 3 ?_;simp only [Act.put,s1,s2,s3])
        refine tkx 11 (.bool true) rfl rfl (by kernel_rfl) (fun _ _ _ h=>h) (by assumption) ?_ ?_
        ·intro W hW;exact ka4 rfl kcx Tryz.underlying92 kev hW.2 rfl rfl (kbp (HN.out.idl b)) HP1.out
        simp only [Act.put,s1,s2,s3]
        iterate 2 (refine tz 12 ?_;simp only [Act.put,s1,s2,s3])
        (refine tz 14 ?_;simp only [Act.put,s1,s2,s3])
        refine wpAnyH_done (by kernel_rfl) ?_ _;simp only [Exit.then];have HF9:=HF.out.drew;clear e0 e1 e2 cj1 ci21 HF
        try clear cj0 cj9
        revert HF9
        generalize w2.drew=w2;intro HF9;have HF:=hdd HF9;have e0:=HF9.e0;have e1:=HF9.e1;have e2:=HF9.e2;have cj1:=HF9.cj1;have ci21:=HF9.ci21;clear HF9
        go_upto_region 14 with fail
        refine wp_region_still_lit (by kernel_rfl) (by kernel_rfl) ?_
        repeat (first|(refine ka0 (by kernel_rfl) _ _ 135 rfl kj2 Tryz.underlying135 kcr HF.out.trn ((c.ev i).author,(c.ev i).number) rfl rfl (HRd.out _ (by omega) (by omega)) HG2.out ?_)|(refine kav (by kernel_rfl) (fun K hK=>?_);go_simp;refine hK _ ?_;clear hK K)|(refine kaw (by kernel_rfl) ?_;simp only [Act.put,s1,s2,s3]))
        refine wpStill_nil ?_;rw [show (⟨w2.heap,w2.tape,w2.drawn+1,w2.os,w2.output⟩:World)=w2.drew from rfl];have HF9:=HF.out.drew;clear e0 e1 e2 cj1 ci21 HF
        try clear cj0 cj9
        revert HF9
        generalize w2.drew=w2;intro HF9;have HF:=hdd HF9;have e0:=HF9.e0;have e1:=HF9.e1;have e2:=HF9.e2;have cj1:=HF9.cj1;have ci21:=HF9.ci21;clear HF9
        go_wp2
        go_ret
        exact ⟨by rw [HAns.out];first|done|rfl,HF.out.below⟩
       |some q =>
        have HAns:=hdd (show c.entry A i=6 by rw [HEn2.out,HBb.out];simp [hp2,ht]);have HG2:=hdd (show (kb2 (A.map fun i=>(((c.ev i).author,(c.ev i).number),ptr (pt i))) ((c.ev i).author,(c.ev i).number)).getD (.pointer none)=ptr (pt q) by rw [HGT.out,ht];rfl);clear hp2 ht;refine wp_region_still_lit (by kernel_rfl) (by kernel_rfl) ?_
        repeat (first|(refine ka0 (by kernel_rfl) _ _ 135 rfl kj2 Tryz.underlying135 kcr HF.out.trn ((c.ev i).author,(0:Int)) rfl rfl (HRd.out 0 (by omega) (by omega)) HG0.out ?_)|(refine kav (by kernel_rfl) (fun K hK=>?_);go_simp;refine hK _ ?_;clear hK K)|(refine kaw (by kernel_rfl) ?_;simp only [Act.put,s1,s2,s3]))
        refine wpStill_nil ?_;rw [show (⟨w2.heap,w2.tape,w2.drawn+1,w2.os,w2.output⟩:World)=w2.drew from rfl];have HF9:=HF.out.drew;clear e0 e1 e2 cj1 ci21 HF
        try clear cj0 cj9
        revert HF9
        generalize w2.drew=w2;intro HF9;have HF:=hdd HF9;have e0:=HF9.e0;have e1:=HF9.e1;have e2:=HF9.e2;have cj1:=HF9.cj1;have ci21:=HF9.ci21;clear HF9
        go_upto_region 7 with fail
        refine wp_region_still_lit (by kernel_rfl) (by kernel_rfl) ?_
        repeat (first|(refine ka0 (by kernel_rfl) _ _ 135 rfl kj2 Tryz.underlying135 kcr HF.out.trn ((c.ev i).author,IntKind.i64.wrap ((c.ev i).number - 1)) rfl rfl HRw.out HG1.out ?_)|(refine kav (by kernel_rfl) (fun K hK=>?_);go_simp;refine hK _ ?_;clear hK K)|(refine kaw (by kernel_rfl) ?_;simp only [Act.put,s1,s2,s3]))
        refine wpStill_nil ?_;rw [show (⟨w2.heap,w2.tape,w2.drawn+1,w2.os,w2.output⟩:World)=w2.drew from rfl];have HF9:=HF.out.drew;clear e0 e1 e2 cj1 ci21 HF
        try clear cj0 cj9
        revert HF9
        generalize w2.drew=w2;intro HF9;have HF:=hdd HF9;have e0:=HF9.e0;have e1:=HF9.e1;have e2:=HF9.e2;have cj1:=HF9.cj1;have ci21:=HF9.ci21;clear HF9
        go_upto_region 8 with fail
        obtain ⟨cj0,cj9⟩:=HF.out.nd j Hjl.out;refine kaj (S:=fun W:World=>(W.cell? ⟨pt i,21,none⟩=some (.map (some (pb i)))∧W.cell? ⟨pt j,0,none⟩=some (.string (B (c.id j))))∧kes W (pb i) L) (by kernel_rfl) ⟨⟨ci21,cj0⟩,HF.out.pst⟩ (fun hHeld=>?_);simp only [List.toList_toArray,len,kat]
        iterate 3 (refine tz 0 ?_;simp only [Act.put,s1,s2,s3])
        iterate 8 (refine tz 3 ?_;simp only [Act.put,s1,s2,s3])
        refine tkx 11 (.bool true) rfl rfl (by kernel_rfl) (fun _ _ _ h=>h) (by assumption) ?_ ?_
        ·intro W hW;exact ka4 rfl kcx Tryz.underlying92 kev hW.2 rfl rfl (kbp (HN.out.idl j)) HP0.out
        simp only [Act.put,s1,s2,s3]
        iterate 2 (refine tz 12 ?_;simp only [Act.put,s1,s2,s3])
        (refine tz 14 ?_;simp only [Act.put,s1,s2,s3])
        refine wpAnyH_done (by kernel_rfl) ?_ _;simp only [Exit.then];have HF9:=HF.out.drew;clear e0 e1 e2 cj1 ci21 HF
        try clear cj0 cj9
        revert HF9
        generalize w2.drew=w2;intro HF9;have HF:=hdd HF9;have e0:=HF9.e0;have e1:=HF9.e1;have e2:=HF9.e2;have cj1:=HF9.cj1;have ci21:=HF9.ci21;clear HF9
        go_upto_region 10 with fail
        obtain ⟨cj0,cj9⟩:=HF.out.nd j Hjl.out;rw [Hhh.out] at cj9;refine wp_region_still_lit (by kernel_rfl) (by kernel_rfl) ?_
        repeat (first|(refine kav (by kernel_rfl) (fun K hK=>?_);go_simp;refine hK _ ?_;clear hK K)|(refine kaw (by kernel_rfl) ?_;simp only [Act.put,s1,s2,s3]))
        refine wpStill_nil ?_;rw [show (⟨w2.heap,w2.tape,w2.drawn+1,w2.os,w2.output⟩:World)=w2.drew from rfl];have HF9:=HF.out.drew;clear e0 e1 e2 cj1 ci21 HF
        try clear cj0 cj9
        revert HF9
        generalize w2.drew=w2;intro HF9;have HF:=hdd HF9;have e0:=HF9.e0;have e1:=HF9.e1;have e2:=HF9.e2;have cj1:=HF9.cj1;have ci21:=HF9.ci21;clear HF9;rw [Hwr.out,Hfl.out]
        go_upto_region 12 with fail
        obtain ⟨cb0,cb9⟩:=HF.out.nd b Hbl.out;refine kaj (S:=fun W:World=>(W.cell? ⟨pt i,21,none⟩=some (.map (some (pb i)))∧W.cell? ⟨pt b,0,none⟩=some (.string (B (c.id b))))∧kes W (pb i) L) (by kernel_rfl) ⟨⟨ci21,cb0⟩,HF.out.pst⟩ (fun hHeld=>?_);simp only [List.toList_toArray,len,kat]
        iterate 3 (refine tz 0 ?_;simp only [Act.put,s1,s2,s3])
        iterate 8 (refine tz 3 ?_;simp only [Act.put,s1,s2,s3])
        refine tkx 11 (.bool true) rfl rfl (by kernel_rfl) (fun _ _ _ h=>h) (by assumption) ?_ ?_
        ·intro W hW;exact ka4 rfl kcx Tryz.underlying92 kev hW.2 rfl rfl (kbp (HN.out.idl b)) HP1.out
        simp only [Act.put,s1,s2,s3]
        iterate 2 (refine tz 12 ?_;simp only [Act.put,s1,s2,s3])
        (refine tz 14 ?_;simp only [Act.put,s1,s2,s3])
        refine wpAnyH_done (by kernel_rfl) ?_ _;simp only [Exit.then];have HF9:=HF.out.drew;clear e0 e1 e2 cj1 ci21 HF
        try clear cj0 cj9
        revert HF9
        generalize w2.drew=w2;intro HF9;have HF:=hdd HF9;have e0:=HF9.e0;have e1:=HF9.e1;have e2:=HF9.e2;have cj1:=HF9.cj1;have ci21:=HF9.ci21;clear HF9
        go_upto_region 14 with fail
        refine wp_region_still_lit (by kernel_rfl) (by kernel_rfl) ?_
        repeat (first|(refine ka0 (by kernel_rfl) _ _ 135 rfl kj2 Tryz.underlying135 kcr HF.out.trn ((c.ev i).author,(c.ev i).number) rfl rfl (HRd.out _ (by omega) (by omega)) HG2.out ?_)|(refine kav (by kernel_rfl) (fun K hK=>?_);go_simp;refine hK _ ?_;clear hK K)|(refine kaw (by kernel_rfl) ?_;simp only [Act.put,s1,s2,s3]))
        refine wpStill_nil ?_;rw [show (⟨w2.heap,w2.tape,w2.drawn+1,w2.os,w2.output⟩:World)=w2.drew from rfl];have HF9:=HF.out.drew;clear e0 e1 e2 cj1 ci21 HF
        try clear cj0 cj9
        revert HF9
        generalize w2.drew=w2;intro HF9;have HF:=hdd HF9;have e0:=HF9.e0;have e1:=HF9.e1;have e2:=HF9.e2;have cj1:=HF9.cj1;have ci21:=HF9.ci21;clear HF9
        go_wp2
        go_ret
        exact ⟨by rw [HAns.out];first|done|rfl,HF.out.below⟩
end Go.Proofs.YtknpbekoenbphaaGreatDoor
