/- Parts of the proofs: WkRvE. No condition beyond those at each theorem. -/
import Derived.Test.YtknpbekoenbphaaGreatDoorQk16
set_option linter.unusedVariables false
set_option linter.unusedSimpArgs false
set_option maxHeartbeats 16000000
set_option maxRecDepth 100000
namespace Go.Proofs.YtknpbekoenbphaaGreatDoor
open Go Go.RowKit Licit
theorem kcw.targetsIs {e:Rv.Ev} {na ta sa ha ra:Option Addr} {nc tc sc hc rc:Nat} {w:World} (h:kcw (evW e na nc ta tc sa sc ha hc ra rc) e w):IsSl (.slice ta e.targets.length tc) (e.targets.map vS) w:=by
 obtain ⟨-,na',nc',ta',tc',sa',sc',ha',hc',ra',rc',he,h1,h2,-⟩:=h;simp only [evW,evS,evV,evC,Value.agg.injEq,Array.mk.injEq,List.cons.injEq,Value.slice.injEq,true_and,and_true] at he;obtain ⟨-,⟨rfl,rfl⟩,-⟩:=he;exact h2
theorem kjj (a b c:Bool):(dcC a b c).all (·.oneCell')=true:=by simp [dcC,Value.oneCell']
def kc7 (c:Rv.Cx) (A:List Nat) (i bN:Nat) (w:World) (en:Ending) (w':World):Prop:=en = .returned (.int .i64 (c.targets A i))∧ka7 (Licit.One bN) w w' ∧
 (c.targets A i=0→∃Ln,kbi Tryz.prog 9 kS w' bN Ln∧∀s,(kb2 Ln s).getD (dcV false false false)=dcV (c.wd (A++[i]) s) (c.ov (A++[i]) s) (c.rp A s))
theorem kqo {e:Rv.Ev} (h:Rv.validB e=true) (hk:e.kind=4):∃t0,e.targets=[t0]∧t0.length=32:=by
 unfold Rv.validB Rv.kindB at h;rw [if_neg (by omega),if_neg (by omega),if_neg (by omega),if_pos hk] at h;simp only [Bool.and_eq_true,decide_eq_true_eq,Rv.digB] at h;obtain ⟨t0,ht⟩:=List.length_eq_one_iff.1 h.1.1.2.1;refine ⟨t0,ht,?_⟩
 have:=h.1.1.2.2
 rw [ht] at this;exact this
theorem kqx {e:Rv.Ev} (h:Rv.validB e=true) (hk:e.kind=5):∃t0 t1,e.targets=[t0,t1]∧t0.length=32∧t1.length=32:=by
 unfold Rv.validB Rv.kindB at h;rw [if_neg (by omega),if_neg (by omega),if_neg (by omega),if_neg (by omega),if_pos hk] at h;simp only [Bool.and_eq_true,decide_eq_true_eq,Rv.digB] at h
 obtain ⟨t0,t1,ht⟩:∃t0 t1,e.targets=[t0,t1]:=by
  have hl:=h.1.1.2.1.1.1
  match ht:e.targets,hl with
  | [a,b],_=>exact ⟨a,b,rfl⟩
 have h2:=h.1.1.2.1.1.2;have h3:=h.1.1.2.1.2;rw [ht] at h2 h3;exact ⟨t0,t1,ht,h2,h3⟩
theorem ks7 {x:Value} {a:Option Addr} {n cap:Nat} {w:World} (h:IsSl (.slice a n cap) [x] w):∃b o,a=some ⟨b,o,none⟩∧n=1∧w.cell? ⟨b,o,none⟩=some x:=by
 rcases h.2 with ⟨_,_,_,h0⟩|⟨b,o,cap',hv,h0,hc⟩
 ·cases h0
 ·cases hv
  exact ⟨b,o,rfl,rfl,hc 0 (by simp)⟩
theorem kr7 {x y:Value} {a:Option Addr} {n cap:Nat} {w:World} (h:IsSl (.slice a n cap) [x,y] w):∃b o,a=some ⟨b,o,none⟩∧n=2∧w.cell? ⟨b,o,none⟩=some x∧w.cell? ⟨b,o+1,none⟩=some y:=by
 rcases h.2 with ⟨_,_,_,h0⟩|⟨b,o,cap',hv,h0,hc⟩
 ·cases h0
 ·cases hv
  exact ⟨b,o,rfl,rfl,hc 0 (by simp),hc 1 (by simp)⟩
theorem kap {w:World} {b:Nat} {cs:Array Value} {T:TypeId} {fr:Nat × Nat} (h:w.heap[b]? = some (.cells cs T fr)):w.rangeAt b 0 cs.toList:=fun j v hj=>by
 rw [kaa h,Nat.zero_add,←Array.getElem?_toList];exact hj
theorem kna (c:Rv.Cx) (pt pb:Nat→Nat) (A:List Nat) (bj bE bT bN:Nat) (w0 w1 w:World) (hN:Nds c pt pb w0 w1) (hJ:Jr c pt A bj bE bT bN w1 w) (i:Nat) (hi:i<c.l.length) (hA:∀k∈A,c.past k i=false) (hii:c.past i i=false) :
 Calls Tryz.prog 184 #[ptr bj,ptr (pt i)] w (kc7 c A i bN w):=by
 obtain ⟨⟨r,na,nc,ta,tc,sa,sc,ha,hc,ra,rc,hev,hnd⟩,hpt,L,hL,hLm⟩:=hN.at hJ.below hi;obtain ⟨v,hv,ho⟩:=hJ.head;obtain ⟨Ln,hLn,hEn⟩:=hJ.ended;have hTi:=hev.targetsIs.below (hN.below.trans (hJ.below.mono hN.below.size));have hvd:=hN.ok.valid i hi;have HR:=hdd (keh hnd);have HOi:=hdd (evS1 (c.ev i) na nc ta tc sa sc ha hc ra rc);have HV:=hdd hv;have HNd:=hdd hnd;have HTi:=hdd hTi;have HVd:=hdd (show Rv.validB (c.ev i)=true from hvd);have HN:=hdd hN;have HJ:=hdd hJ;have HLn:=hdd hLn;have HEn:=hdd hEn;have HA:=hdd hA;have HI:=hdd hii;clear hev ho hL hLm hN hJ hv hnd hvd hTi hLn hEn hA hii
 go_enter Tryz.func184,Tryz.ntmps184
 go_upto_region 2 with (first
  |(refine wpList_load_mid rfl 45 _ rfl (pt i) _ rfl (evS (c.ev i) na nc ta tc sa sc ha hc ra rc).toList _ HR.out rfl rfl (by kernel_rfl) ?_)
  |(refine kac rfl 45 _ _ rfl w.heap.size rfl (evS (c.ev i) na nc ta tc sa sc ha hc ra rc) rfl 45 evZ (kak rfl rfl) (by kernel_rfl) rfl HOi.out ?_
    intro w2 hw2 hk2;have HW2:=hdd hw2;have HB2:=hdd (((Below.refl w.heap.size w).alloc (Nat.le_refl _) _).trans (hk2.below (B:=w.heap.size) (by simp) (fun q hq e=>by have:q=w.heap.size:=e;omega)));clear hw2 hk2)
  |fail)
 have HJ2:=hdd (HJ.out.grow HB2.out);obtain ⟨e0,e1,-,-,-,-,-,-,-,-,-,-,-,e13,-⟩:=ka3 HW2.out
 by_cases h4:(c.ev i).kind=4
 ·obtain ⟨t0,ht0,hl0⟩:=kqo HVd.out h4
  have hsl:=HTi.out;rw [ht0] at hsl;obtain ⟨tb,to,rfl,hn1,hc0⟩:=ks7 (x:=vS t0) hsl;rw [ht0] at e13;rw [h4] at e0;have ct0:w2.cell? ⟨tb,to,none⟩=some (.string (B t0)):=(HB2.out.cell (p:=⟨tb,to,none⟩) (World.block_lt_of_cell? _ _ hc0)).trans hc0;have hm0:t0.length≤maxLen:=by rw [hl0];decide
  have HTg:=hdd (kho c pt pb A bj bE bT bN w0 w1 w2 HN.out HJ2.out i hi t0 hm0)
  have htg:c.targets A i=match c.dec A i t0 with
   |none=>7
   |some k=>if (c.ev k).author=(c.ev i).author then 0 else 20:=by
   unfold Rv.Cx.targets;rw [if_pos h4,ht0];rfl
  have HT:=hdd htg;clear hsl htg
  cases hd:c.dec A i t0 with
  |none =>
   have HZ:=hdd (show c.targets A i=7 by rw [HT.out,hd]);have HDk:=hdd hd;clear hd h4 hl0 hm0 hn1 hc0 ht0
   go_upto_region 5 with (first
    |(go_at_call 212;refine HTg.out.mono ?_;intro en w3 hpost;unfold kdx at hpost;obtain ⟨hb3,e',ok,vn,vt,vs,vh,vr,rfl,ho3,hok,hke⟩:=hpost;have HB3:=hdd hb3;have HO3:=hdd ho3;have HOk3:=hdd hok;have HKe3:=hdd hke;clear hb3 ho3 hok hke)
    |(refine kac rfl 45 _ _ rfl w3.heap.size rfl (evC e' vn vt vs vh vr) rfl 45 evZ (kak rfl rfl) (by kernel_rfl) rfl HO3.out ?_
      intro w4 hw4 hk4;have HW4:=hdd hw4;have HB4:=hdd (((HB3.out.next ((Below.refl w3.heap.size w3).alloc (Nat.le_refl _) _))).trans (hk4.below (B:=w2.heap.size) (by have:=HB3.out.size;simp;omega) (fun q hq e=>by have:q=w3.heap.size:=e;have:=HB3.out.size;omega)));clear hw4 hk4)
    |fail)
   obtain rfl:ok=false:=by rw [HOk3.out,HDk.out];rfl
   go_wp2
   go_ret
   unfold kc7;exact ⟨by rw [HZ.out];first|done|rfl,ka7.of_below (HB2.out.next HB4.out),fun h=>by rw [HZ.out] at h;cases h⟩
  |some k =>
   have HDk:=hdd hd
   by_cases hau:(c.ev k).author=(c.ev i).author
   ·have HZ:=hdd (show c.targets A i=0 by rw [HT.out,hd];simp [hau])
    have HH4:=hdd h4;have HT0:=hdd ht0;clear hd h4 hl0 hn1 ht0
    go_upto_region 5 with (first
     |(go_at_call 212;refine HTg.out.mono ?_;intro en w3 hpost;unfold kdx at hpost;obtain ⟨hb3,e',ok,vn,vt,vs,vh,vr,rfl,ho3,hok,hke⟩:=hpost;have HB3:=hdd hb3;have HO3:=hdd ho3;have HOk3:=hdd hok;have HKe3:=hdd hke;clear hb3 ho3 hok hke)
     |(refine kac rfl 45 _ _ rfl w3.heap.size rfl (evC e' vn vt vs vh vr) rfl 45 evZ (kak rfl rfl) (by kernel_rfl) rfl HO3.out ?_
       intro w4 hw4 hk4;have HW4:=hdd hw4;have HB4:=hdd (((HB3.out.next ((Below.refl w3.heap.size w3).alloc (Nat.le_refl _) _))).trans (hk4.below (B:=w2.heap.size) (by have:=HB3.out.size;simp;omega) (fun q hq e=>by have:q=w3.heap.size:=e;have:=HB3.out.size;omega)));clear hw4 hk4)
     |fail)
    obtain rfl:ok=true:=by rw [HOk3.out,HDk.out];rfl
    have hau':e'.author=(c.ev i).author:=by rw [HKe3.out k HDk.out];exact hau
    have hq:=kbx (c.ev i).author;obtain ⟨-,f1,-⟩:=ka3 HW4.out;rw [hau'] at f1;have g1:=(HB4.out.cell (p:=⟨w.heap.size,1,none⟩) (kad HW2.out)).trans e1;have g13:=(HB4.out.cell (p:=⟨w.heap.size,13,none⟩) (kad HW2.out)).trans e13;have g0:=(HB4.out.cell (p:=⟨tb,to,none⟩) (World.block_lt_of_cell? _ _ ct0)).trans ct0;have HJ4:=hdd (HJ2.out.grow HB4.out);obtain ⟨v4,hv4,-⟩:=HJ4.out.head;have cj3:w4.cell? ⟨bj,3,none⟩=some (.map (some bN)):=by rw [kaa hv4];rfl
    have HLn4:=hdd (show kbi Tryz.prog 9 kS w4 bN Ln from HLn.out.below (HB2.out.next HB4.out) HLn.out.lt);have HV4:=hdd hv4;have G1:=hdd g13;have G2:=hdd g0;clear hau hau' hv4 hc0 e0 e1 e13 ct0
    go_upto_region 9 with fail
    have hSB:∀W:World,Below w4.heap.size w4 W→(W.cell? ⟨bj,3,none⟩=some (.map (some bN))∧W.cell? ⟨w.heap.size,13,none⟩=some (.slice (some ⟨tb,to,none⟩) [t0].length tc)∧W.cell? ⟨tb,to,none⟩=some (.string (B t0))∧W.cell? ⟨tb,to+0,none⟩=some (.string (B t0)))∧kbi Tryz.prog 9 kS W bN Ln:=fun W hb =>
     ⟨⟨(hb.cell (p:=⟨bj,3,none⟩) (World.block_lt_of_cell? _ _ cj3)).trans cj3,(hb.cell (p:=⟨w.heap.size,13,none⟩) (World.block_lt_of_cell? _ _ g13)).trans g13,(hb.cell (p:=⟨tb,to,none⟩) (World.block_lt_of_cell? _ _ g0)).trans g0,(hb.cell (p:=⟨tb,to,none⟩) (World.block_lt_of_cell? _ _ g0)).trans g0⟩,HLn4.out.below hb HLn4.out.lt⟩
    have HSB:=hdd hSB;clear hSB;refine kaj (S:=fun W:World=>(W.cell? ⟨bj,3,none⟩=some (.map (some bN))∧W.cell? ⟨w.heap.size,13,none⟩=some (.slice (some ⟨tb,to,none⟩) [t0].length tc)∧W.cell? ⟨tb,to,none⟩=some (.string (B t0))∧W.cell? ⟨tb,to+0,none⟩=some (.string (B t0)))∧kbi Tryz.prog 9 kS W bN Ln) (by kernel_rfl) (HSB.out _ (Below.refl _ _).drew) (fun hHeld=>?_);simp only [List.toList_toArray,len,kat]
    iterate 8 (refine tz 0 ?_;simp only [Act.put,s1,s2,s3])
    refine tkx 8 (dcV (c.wd A t0) (c.ov A t0) (c.rp A t0)) rfl rfl (by kernel_rfl) (fun _ _ _ h=>h) (by assumption) ?_ ?_
    ·intro W hW;exact ka4 rfl kcx Tryz.underlying136 kuv hW.2 rfl rfl (kbp hm0) (HEn.out t0)
    simp only [Act.put,s1,s2,s3];refine ar2 9 (by kernel_rfl) rfl (fun K hK=>?_);go_simp
    refine hK.out _ _ (HSB.out _ (show Below w4.heap.size w4 (w4.drew.alloc (.cells (dcC false false false) 56)) from (Below.refl w4.heap.size w4).drew.alloc (Nat.le_refl _) _)) (fun hHeld=>?_);clear hK K
    try simp only [Act.put,s1,s2,s3]
    refine ar2 10 (by kernel_rfl) rfl (fun K hK=>?_);refine kam rfl 56 _ _ rfl w4.heap.size rfl (dcC (c.wd A t0) (c.ov A t0) (c.rp A t0)) rfl 56 (dcC false false false) (kak rfl rfl) (by kernel_rfl) rfl (kjj _ _ _) ?_;intro w5 hw5 hk5;have HW5:=hdd hw5;have HB5:=hdd (show Below w4.heap.size w4 w5 from ((Below.refl w4.heap.size w4).drew.alloc (Nat.le_refl _) _).trans (hk5.below (B:=w4.heap.size) (by simp) (fun q hq e=>by have:q=w4.heap.size:=e;omega)));refine hK.out _ _ (HSB.out _ HB5.out) (fun hHeld=>?_);clear hw5 hk5 hK K
    try simp only [Act.put,s1,s2,s3]
    refine wpAnyH_done (by kernel_rfl) ?_ _;simp only [Exit.then];clear hHeld
    go_upto_region 11 with (first
     |(refine kae rfl _ _ _ rfl w4.heap.size 7 rfl (.bool true) rfl rfl rfl _ 56 HW5.out (by simp) (by kernel_rfl) ?_
       intro w6 hw6 hk6;have HW6:=hdd (show w6.heap[w4.heap.size]? = some (.cells (dcC true (c.ov A t0) (c.rp A t0)) 56 (0,0)) from hw6);have HB6:=hdd (show Below w4.heap.size w4 w6 from HB5.out.trans (hk6.below (B:=w4.heap.size) HB5.out.size (fun q hq e=>by have:q=w4.heap.size:=e;omega)));clear hw6 hk6)
     |fail)
    have k13:=(HB6.out.cell (p:=⟨w.heap.size,13,none⟩) (World.block_lt_of_cell? _ _ G1.out)).trans G1.out;have k0:=(HB6.out.cell (p:=⟨tb,to,none⟩) (World.block_lt_of_cell? _ _ G2.out)).trans G2.out;have k3:w6.cell? ⟨bj,3,none⟩=some (.map (some bN)):=by rw [kaa (kab HB6.out (kad HV4.out) HV4.out)];rfl
    refine wp_region_still_tail 9 (by kernel_rfl) (by kernel_rfl) ?_;simp only [List.take_succ_cons,List.take_zero,List.drop_succ_cons,List.drop_zero]
    repeat (first|(refine kdd rfl 56 _ rfl w4.heap.size 0 rfl (dcC true (c.ov A t0) (c.rp A t0)).toList _ (kap HW6.out) rfl rfl (by kernel_rfl) ?_)|still_step)
    try refine wpStill_nil ?_
    rw [show (⟨w6.heap,w6.tape,w6.drawn+1,w6.os,w6.output⟩:World)=w6.drew from rfl];refine kbb _ rfl _ _ _ 136 rfl 9 56 kS kcx Tryz.underlying136 bN Ln rfl (show kbi Tryz.prog 9 kS w6.drew bN Ln from HLn4.out.below HB6.out.drew HLn4.out.lt) t0 rfl (.agg (dcC true (c.ov A t0) (c.rp A t0))) rfl (kbp hm0) ?_;intro w7 hm7 hk7 hs7;have HM7:=hdd hm7;have HK7:=hdd (kbk hk7);clear hm7 hk7 hs7
    go_wp2
    go_ret
    unfold kc7;refine ⟨by rw [HZ.out];first|done|rfl,(ka7.of_below ((HB2.out.next HB4.out).next HB6.out)).trans HK7.out,fun _=>⟨_,HM7.out,fun s=>?_⟩⟩;rw [kfa,Rv.wd_snoc,Rv.ov_snoc,HH4.out,HT0.out]
    by_cases hs:t0=s
    ·subst hs;simp
    ·rw [if_neg hs,HEn.out];simp [hs]
   ·have HZ:=hdd (show c.targets A i=20 by rw [HT.out,hd];simp [hau])
    clear hd h4 hl0 hm0 hn1 hc0 ht0
    go_upto_region 5 with (first
     |(go_at_call 212;refine HTg.out.mono ?_;intro en w3 hpost;unfold kdx at hpost;obtain ⟨hb3,e',ok,vn,vt,vs,vh,vr,rfl,ho3,hok,hke⟩:=hpost;have HB3:=hdd hb3;have HO3:=hdd ho3;have HOk3:=hdd hok;have HKe3:=hdd hke;clear hb3 ho3 hok hke)
     |(refine kac rfl 45 _ _ rfl w3.heap.size rfl (evC e' vn vt vs vh vr) rfl 45 evZ (kak rfl rfl) (by kernel_rfl) rfl HO3.out ?_
       intro w4 hw4 hk4;have HW4:=hdd hw4;have HB4:=hdd (((HB3.out.next ((Below.refl w3.heap.size w3).alloc (Nat.le_refl _) _))).trans (hk4.below (B:=w2.heap.size) (by have:=HB3.out.size;simp;omega) (fun q hq e=>by have:q=w3.heap.size:=e;have:=HB3.out.size;omega)));clear hw4 hk4)
     |fail)
    obtain rfl:ok=true:=by rw [HOk3.out,HDk.out];rfl
    have hau':e'.author≠(c.ev i).author:=by rw [HKe3.out k HDk.out];exact hau
    have hq:=kby hau';obtain ⟨-,f1,-⟩:=ka3 HW4.out;have g1:=(HB4.out.cell (p:=⟨w.heap.size,1,none⟩) (kad HW2.out)).trans e1;clear hau hau' e0 e1 e13 ct0
    go_wp2
    go_ret
    unfold kc7;exact ⟨by rw [HZ.out];first|done|rfl,ka7.of_below (HB2.out.next HB4.out),fun h=>by rw [HZ.out] at h;cases h⟩
 by_cases h5:(c.ev i).kind=5
 ·obtain ⟨t0,t1,ht0,hl0,hl1⟩:=kqx HVd.out h5
  have hsl:=HTi.out;rw [ht0] at hsl;obtain ⟨tb,to,rfl,hn1,hc0,hc1⟩:=kr7 (x:=vS t0) (y:=vS t1) hsl;rw [ht0] at e13;rw [h5] at e0;have ct0:w2.cell? ⟨tb,to,none⟩=some (.string (B t0)):=(HB2.out.cell (p:=⟨tb,to,none⟩) (World.block_lt_of_cell? _ _ hc0)).trans hc0;have ct1:w2.cell? ⟨tb,to+1,none⟩=some (.string (B t1)):=(HB2.out.cell (p:=⟨tb,to+1,none⟩) (World.block_lt_of_cell? _ _ hc1)).trans hc1;have hm0:t0.length≤maxLen:=by rw [hl0];decide
  have hm1:t1.length≤maxLen:=by rw [hl1];decide
  have HTg:=hdd (kho c pt pb A bj bE bT bN w0 w1 w2 HN.out HJ2.out i hi t0 hm0);have HTh:=hdd (fun (W:World) (hb:Below w2.heap.size w2 W)=>kho c pt pb A bj bE bT bN w0 w1 W HN.out (HJ2.out.grow hb) i hi t1 hm1)
  have htg:c.targets A i=match c.dec A i t0,c.dec A i t1 with
   |some a,some b=>if (c.ev a).question=(c.ev b).question∧(c.ev a).scope=(c.ev b).scope then (if (c.ev a).answer=(c.ev b).answer then 14 else 0) else 9
   |_,_=>7:=by
   unfold Rv.Cx.targets;rw [if_neg h4,if_pos h5,ht0];rfl
  have HT:=hdd htg;have HT0:=hdd ht0;have HH5:=hdd h5;have d4:((5:Int) == 4)=false:=rfl;clear hsl htg hl0 hl1 hc0 hc1 hn1 ht0 h4 h5
  go_upto_region 14 with (first
   |(go_at_call 212;refine HTg.out.mono ?_;intro en x3 hpost;unfold kdx at hpost;obtain ⟨hb3,d',okd,xn,xt,xs,xh,xr,rfl,ho3,hok,hke⟩:=hpost;have HX3:=hdd hb3;have HXO3:=hdd ho3;have HXk3:=hdd hok;have HXe3:=hdd hke;clear hb3 ho3 hok hke)
   |(refine kac rfl 45 _ _ rfl x3.heap.size rfl (evC d' xn xt xs xh xr) rfl 45 evZ (kak rfl rfl) (by kernel_rfl) rfl HXO3.out ?_
     intro x4 hw4 hk4;have HXW4:=hdd hw4;have HX4:=hdd (((HX3.out.next ((Below.refl x3.heap.size x3).alloc (Nat.le_refl _) _))).trans (hk4.below (B:=w2.heap.size) (by have:=HX3.out.size;simp;omega) (fun q hq e=>by have:q=x3.heap.size:=e;have:=HX3.out.size;omega)));clear hw4 hk4)
   |fail)
  have ct0':=ct0;have x13:=(HX4.out.cell (p:=⟨w.heap.size,13,none⟩) (kad HW2.out)).trans e13;have xt0:=(HX4.out.cell (p:=⟨tb,to,none⟩) (World.block_lt_of_cell? _ _ ct0)).trans ct0;have xt1:=(HX4.out.cell (p:=⟨tb,to+1,none⟩) (World.block_lt_of_cell? _ _ ct1)).trans ct1;have HTk:=hdd (HTh.out x4 HX4.out);clear e0 e1 e13 ct0 ct1 ct0'
  go_upto_region 15 with (first
   |(go_at_call 212;refine HTk.out.mono ?_;intro en w3 hpost;unfold kdx at hpost;obtain ⟨hb3,e',ok,vn,vt,vs,vh,vr,rfl,ho3,hok,hke⟩:=hpost;have HB3:=hdd hb3;have HO3:=hdd ho3;have HOk3:=hdd hok;have HKe3:=hdd hke;clear hb3 ho3 hok hke)
   |(refine kac rfl 45 _ _ rfl w3.heap.size rfl (evC e' vn vt vs vh vr) rfl 45 evZ (kak rfl rfl) (by kernel_rfl) rfl HO3.out ?_
     intro w4 hw4 hk4;have HW4:=hdd hw4;have HB4:=hdd (((HB3.out.next ((Below.refl w3.heap.size w3).alloc (Nat.le_refl _) _))).trans (hk4.below (B:=x4.heap.size) (by have:=HB3.out.size;simp;omega) (fun q hq e=>by have:q=w3.heap.size:=e;have:=HB3.out.size;omega)));clear hw4 hk4)
   |fail)
  have HB24:=hdd (HX4.out.next HB4.out)
  cases hd0:c.dec A i t0 with
  |none =>
   have HZ:=hdd (show c.targets A i=7 by rw [HT.out,hd0]);obtain rfl:okd=false:=by rw [HXk3.out,hd0];rfl
   clear hd0 xt0 xt1 x13
   go_wp2
   go_ret
   unfold kc7;exact ⟨by rw [HZ.out];first|done|rfl,ka7.of_below (HB2.out.next HB24.out),fun h=>by rw [HZ.out] at h;cases h⟩
  |some a =>
   cases hd1:c.dec A i t1 with
   |none =>
    have HZ:=hdd (show c.targets A i=7 by rw [HT.out,hd0,hd1]);obtain rfl:okd=true:=by rw [HXk3.out,hd0];rfl
    obtain rfl:ok=false:=by rw [HOk3.out,hd1];rfl
    clear hd0 hd1 xt0 xt1 x13
    go_wp2
    go_ret
    unfold kc7;exact ⟨by rw [HZ.out];first|done|rfl,ka7.of_below (HB2.out.next HB24.out),fun h=>by rw [HZ.out] at h;cases h⟩
   |some b =>
    obtain rfl:okd=true:=by rw [HXk3.out,hd0];rfl
    obtain rfl:ok=true:=by rw [HOk3.out,hd1];rfl
    have hda:d'=c.ev a:=HXe3.out a hd0;have heb:e'=c.ev b:=HKe3.out b hd1;have hT2:c.targets A i=if d'.question=e'.question∧d'.scope=e'.scope then (if d'.answer=e'.answer then 14 else 0) else 9:=by rw [HT.out,hd0,hd1,hda,heb]
    obtain ⟨-,-,-,-,-,-,-,-,-,f9,f10,f11,-⟩:=ka3 HW4.out;obtain ⟨-,-,-,-,-,-,-,-,-,g9,g10,g11,-⟩:=ka3 (kab HB4.out (kad HXW4.out) HXW4.out);have HT2:=hdd hT2;clear hd0 hd1 hda heb hT2
    by_cases hq:d'.question=e'.question
    ·have hq1:((B d'.question).toList == (B e'.question).toList)=true:=by rw [hq];exact kbx _
     by_cases hs:d'.scope=e'.scope
     ·have hs1:((B d'.scope).toList == (B e'.scope).toList)=true:=by rw [hs];exact kbx _
      by_cases ha2:d'.answer=e'.answer
      ·have ha1:((B d'.answer).toList == (B e'.answer).toList)=true:=by rw [ha2];exact kbx _
       have HZ:=hdd (show c.targets A i=14 by rw [HT2.out,if_pos ⟨hq,hs⟩,if_pos ha2]);clear hq hs ha2 xt0 xt1 x13
       go_wp2
       go_ret
       unfold kc7;exact ⟨by rw [HZ.out];first|done|rfl,ka7.of_below (HB2.out.next HB24.out),fun h=>by rw [HZ.out] at h;cases h⟩
      ·have ha1:=kby ha2
       have HZ:=hdd (show c.targets A i=0 by rw [HT2.out,if_pos ⟨hq,hs⟩,if_neg ha2]);have g13:=(HB4.out.cell (p:=⟨w.heap.size,13,none⟩) (World.block_lt_of_cell? _ _ x13)).trans x13;have g0:=(HB4.out.cell (p:=⟨tb,to+1,none⟩) (World.block_lt_of_cell? _ _ xt1)).trans xt1;have HJ4:=hdd (HJ2.out.grow HB24.out);obtain ⟨v4,hv4,-⟩:=HJ4.out.head;have cj3:w4.cell? ⟨bj,3,none⟩=some (.map (some bN)):=by rw [kaa hv4];rfl
       have HLn4:=hdd (show kbi Tryz.prog 9 kS w4 bN Ln from HLn.out.below (HB2.out.next HB24.out) HLn.out.lt);have HV4:=hdd hv4;have G1:=hdd g13;have G2:=hdd g0;clear hq hs ha2 xt0 xt1 x13 hv4
       go_upto_region 21 with fail
       have hSB:∀W:World,Below w4.heap.size w4 W→(W.cell? ⟨bj,3,none⟩=some (.map (some bN))∧W.cell? ⟨w.heap.size,13,none⟩=some (.slice (some ⟨tb,to,none⟩) [t0,t1].length tc)∧W.cell? ⟨tb,to+1,none⟩=some (.string (B t1))∧W.cell? ⟨tb,to+1,none⟩=some (.string (B t1)))∧kbi Tryz.prog 9 kS W bN Ln:=fun W hb =>
        ⟨⟨(hb.cell (p:=⟨bj,3,none⟩) (World.block_lt_of_cell? _ _ cj3)).trans cj3,(hb.cell (p:=⟨w.heap.size,13,none⟩) (World.block_lt_of_cell? _ _ g13)).trans g13,(hb.cell (p:=⟨tb,to+1,none⟩) (World.block_lt_of_cell? _ _ g0)).trans g0,(hb.cell (p:=⟨tb,to+1,none⟩) (World.block_lt_of_cell? _ _ g0)).trans g0⟩,HLn4.out.below hb HLn4.out.lt⟩
       have HSB:=hdd hSB;clear hSB;refine kaj (S:=fun W:World=>(W.cell? ⟨bj,3,none⟩=some (.map (some bN))∧W.cell? ⟨w.heap.size,13,none⟩=some (.slice (some ⟨tb,to,none⟩) [t0,t1].length tc)∧W.cell? ⟨tb,to+1,none⟩=some (.string (B t1))∧W.cell? ⟨tb,to+1,none⟩=some (.string (B t1)))∧kbi Tryz.prog 9 kS W bN Ln) (by kernel_rfl) (HSB.out _ (Below.refl _ _).drew) (fun hHeld=>?_);simp only [List.toList_toArray,len,kat]
       iterate 8 (refine tz 0 ?_;simp only [Act.put,s1,s2,s3])
       refine tkx 8 (dcV (c.wd A t1) (c.ov A t1) (c.rp A t1)) rfl rfl (by kernel_rfl) (fun _ _ _ h=>h) (by assumption) ?_ ?_
       ·intro W hW;exact ka4 rfl kcx Tryz.underlying136 kuv hW.2 rfl rfl (kbp hm1) (HEn.out t1)
       simp only [Act.put,s1,s2,s3];refine ar2 9 (by kernel_rfl) rfl (fun K hK=>?_);go_simp
       refine hK.out _ _ (HSB.out _ (show Below w4.heap.size w4 (w4.drew.alloc (.cells (dcC false false false) 56)) from (Below.refl w4.heap.size w4).drew.alloc (Nat.le_refl _) _)) (fun hHeld=>?_);clear hK K
       try simp only [Act.put,s1,s2,s3]
       refine ar2 10 (by kernel_rfl) rfl (fun K hK=>?_);refine kam rfl 56 _ _ rfl w4.heap.size rfl (dcC (c.wd A t1) (c.ov A t1) (c.rp A t1)) rfl 56 (dcC false false false) (kak rfl rfl) (by kernel_rfl) rfl (kjj _ _ _) ?_;intro w5 hw5 hk5;have HW5:=hdd hw5;have HB5:=hdd (show Below w4.heap.size w4 w5 from ((Below.refl w4.heap.size w4).drew.alloc (Nat.le_refl _) _).trans (hk5.below (B:=w4.heap.size) (by simp) (fun q hq e=>by have:q=w4.heap.size:=e;omega)));refine hK.out _ _ (HSB.out _ HB5.out) (fun hHeld=>?_);clear hw5 hk5 hK K
       try simp only [Act.put,s1,s2,s3]
       refine wpAnyH_done (by kernel_rfl) ?_ _;simp only [Exit.then];clear hHeld
       go_upto_region 23 with (first
        |(refine kae rfl _ _ _ rfl w4.heap.size 8 rfl (.bool true) rfl rfl rfl _ 56 HW5.out (by simp) (by kernel_rfl) ?_
          intro w6 hw6 hk6;have HW6:=hdd (show w6.heap[w4.heap.size]? = some (.cells (dcC (c.wd A t1) true (c.rp A t1)) 56 (0,0)) from hw6);have HB6:=hdd (show Below w4.heap.size w4 w6 from HB5.out.trans (hk6.below (B:=w4.heap.size) HB5.out.size (fun q hq e=>by have:q=w4.heap.size:=e;omega)));clear hw6 hk6)
        |fail)
       have k13:=(HB6.out.cell (p:=⟨w.heap.size,13,none⟩) (World.block_lt_of_cell? _ _ G1.out)).trans G1.out;have k0:=(HB6.out.cell (p:=⟨tb,to+1,none⟩) (World.block_lt_of_cell? _ _ G2.out)).trans G2.out;have k3:w6.cell? ⟨bj,3,none⟩=some (.map (some bN)):=by rw [kaa (kab HB6.out (kad HV4.out) HV4.out)];rfl
       refine wp_region_still_tail 9 (by kernel_rfl) (by kernel_rfl) ?_;simp only [List.take_succ_cons,List.take_zero,List.drop_succ_cons,List.drop_zero]
       repeat (first|(refine kdd rfl 56 _ rfl w4.heap.size 0 rfl (dcC (c.wd A t1) true (c.rp A t1)).toList _ (kap HW6.out) rfl rfl (by kernel_rfl) ?_)|still_step)
       try refine wpStill_nil ?_
       rw [show (⟨w6.heap,w6.tape,w6.drawn+1,w6.os,w6.output⟩:World)=w6.drew from rfl];refine kbb _ rfl _ _ _ 136 rfl 9 56 kS kcx Tryz.underlying136 bN Ln rfl (show kbi Tryz.prog 9 kS w6.drew bN Ln from HLn4.out.below HB6.out.drew HLn4.out.lt) t1 rfl (.agg (dcC (c.wd A t1) true (c.rp A t1))) rfl (kbp hm1) ?_;intro w7 hm7 hk7 hs7;have HM7:=hdd hm7;have HK7:=hdd (kbk hk7);clear hm7 hk7 hs7
       go_wp2
       go_ret
       unfold kc7;refine ⟨by rw [HZ.out];first|done|rfl,(ka7.of_below ((HB2.out.next HB24.out).next HB6.out)).trans HK7.out,fun _=>⟨_,HM7.out,fun s=>?_⟩⟩;rw [kfa,Rv.wd_snoc,Rv.ov_snoc,HH5.out,HT0.out]
       by_cases hs:t1=s
       ·subst hs;simp
       ·rw [if_neg hs,HEn.out];simp [hs]
     ·have hs1:=kby hs
      have HZ:=hdd (show c.targets A i=9 by rw [HT2.out,if_neg (fun h=>hs h.2)]);clear hq hs xt0 xt1 x13
      go_wp2
      go_ret
      unfold kc7;exact ⟨by rw [HZ.out];first|done|rfl,ka7.of_below (HB2.out.next HB24.out),fun h=>by rw [HZ.out] at h;cases h⟩
    ·have hq1:=kby hq
     have HZ:=hdd (show c.targets A i=9 by rw [HT2.out,if_neg (fun h=>hq h.1)]);clear hq xt0 xt1 x13
     go_wp2
     go_ret
     unfold kc7;exact ⟨by rw [HZ.out];first|done|rfl,ka7.of_below (HB2.out.next HB24.out),fun h=>by rw [HZ.out] at h;cases h⟩
 have d4:((c.ev i).kind == 4)=false:=beq_eq_false_iff_ne.2 h4;have d5:((c.ev i).kind == 5)=false:=beq_eq_false_iff_ne.2 h5;have hz:c.targets A i=0:=by unfold Rv.Cx.targets;rw [if_neg h4,if_neg h5]
 have HP:=hdd (show ∃Ln,kbi Tryz.prog 9 kS w2 bN Ln∧∀s,(kb2 Ln s).getD (dcV false false false)=dcV (c.wd (A++[i]) s) (c.ov (A++[i]) s) (c.rp A s) from
  ⟨Ln,HLn.out.below HB2.out HLn.out.lt,fun s=>by rw [Rv.wd_snoc,Rv.ov_snoc,HEn.out];simp [h4,h5]⟩)
 have HZ:=hdd hz;clear h4 h5 hz
 go_wp2
 go_ret
 unfold kc7;exact ⟨by rw [HZ.out];first|done|rfl,ka7.of_below HB2.out,fun _=>HP.out⟩
end Go.Proofs.YtknpbekoenbphaaGreatDoor
