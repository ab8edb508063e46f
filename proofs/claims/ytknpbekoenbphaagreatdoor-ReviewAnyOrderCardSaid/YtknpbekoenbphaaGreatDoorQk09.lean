/- Parts of the proofs: WkRv2d. No condition beyond those at each theorem. -/
import Derived.Test.YtknpbekoenbphaaGreatDoorQk07
set_option linter.unusedVariables false
set_option linter.unusedSimpArgs false
set_option maxHeartbeats 16000000
set_option maxRecDepth 100000
namespace Go.Proofs.YtknpbekoenbphaaGreatDoor
open Go Go.RowKit Licit
theorem kpc (e:Rv.Ev) (na  sa ha ra:Option Addr) (nc tb to tc sc hc rc:Nat) (w:World) (hk:e.kind=4) (c3:e.targets.length=1) (htb:tb<w.heap.size) (hT0:w.cell? ⟨tb,to+0,none⟩=some (.string (B (e.targets.getD 0 [])))) :
 Calls Tryz.prog 90 #[evW e na nc (some ⟨tb,to,none⟩) tc sa sc ha hc ra rc] w (kee w (kb1 e) (.slice na e.names.length nc) (kc5 e.kind (.slice (some ⟨tb,to,none⟩) e.targets.length tc)) (.slice sa e.sg.S.length sc) (.slice ha e.sg.H.length hc) (.slice ra e.sg.R.length rc) (okF e)):=by
 have hre:kb1 e = { e with targets:=[] }:=by unfold kb1;simp [hk]
 have hte:kc5 e.kind (.slice (some ⟨tb,to,none⟩) e.targets.length tc) = .slice none 0 0:=by unfold kc5;rw [hk];rfl
 have ho:okF e=((decide (e.targets.length=1) && Rv.digB (e.targets.getD 0 [])) && (decide (1≤e.number) && decide (0<e.names.length))):=by unfold okF Rv.kindB;simp [hk]
 rw [hre,hte,ho];clear hre hte ho;have d1:(e.kind == 1)=false:=by simp [hk]
 have d2:(e.kind == 2)=false:=by simp [hk]
 have d3:(e.kind == 3)=false:=by simp [hk]
 have d4:(e.kind == 4)=true:=by simp [hk]
 clear hk;have dn:((e.targets.length:Int) == 1)=true:=by simp;omega
 rw [decide_eq_true c3];have hi0:(0:Int)<(e.targets.length:Int):=by omega
 have hi0':0<e.targets.length:=by omega
 have q:=fun W=>kfo (e.targets.getD 0 []) W
 generalize e.targets.getD 0 []=x0 at *;have HT0:=hdd hT0;clear hT0 c3;generalize Rv.digB x0=R1 at *;obtain ⟨N8,d8⟩:∃b,decide (1≤e.number)=b:=⟨_,rfl⟩;obtain ⟨N9,d9⟩:∃b,decide (0<e.names.length)=b:=⟨_,rfl⟩;rw [d8,d9];have hc:(R1=false∧(∃_:Nat,True))∨(R1=true∧N8=false∧(∃_:Nat,True))∨(R1=true∧N8=true):=by cases R1 <;> cases N8 <;> simp
 rcases hc with ⟨rfl,sk3,-⟩|⟨rfl,rfl,sk11,-⟩|⟨rfl,rfl⟩
 all_goals (
  have hb3:Below w.heap.size w (((w.alloc (.cells (evS e na nc (some ⟨tb,to,none⟩) tc sa sc ha hc ra rc) 45)).alloc (.cells evZ 45)).alloc (.cells evZ 45)):=(((Below.refl _ _).alloc (Nat.le_refl _) _).alloc (by simp) _).alloc (by simp;omega) _;have HB3:=hdd hb3;clear hb3;have HE:=hdd (show ((w.alloc (.cells (evS e na nc (some ⟨tb,to,none⟩) tc sa sc ha hc ra rc) 45)).alloc (.cells evZ 45)).heap[w.heap.size]? = _ from kah (kai w (.cells (evS e na nc (some ⟨tb,to,none⟩) tc sa sc ha hc ra rc) 45)));have HO:=hdd (evS1 e na nc (some ⟨tb,to,none⟩) tc sa sc ha hc ra rc)
  go_enter Tryz.func90,Tryz.ntmps90
  go_upto_region 2 with (first
   |(refine wpList_load_row rfl 45 _ rfl w.heap.size rfl 45 (evS e na nc (some ⟨tb,to,none⟩) tc sa sc ha hc ra rc) (0,0) _ HE.out rfl rfl (by kernel_rfl) ?_)
   |(refine kac rfl 45 _ _ rfl (w.heap.size+1+1) rfl (evS e na nc (some ⟨tb,to,none⟩) tc sa sc ha hc ra rc) rfl 45 evZ (kak (by simp) rfl) (by kernel_rfl) rfl HO.out ?_
     intro w1 hw4 hk1;have HB1:=hdd (HB3.out.trans (hk1.below (B:=w.heap.size) (by simp;omega) (fun k hk e=>by have:k=_:=e;omega)));have hw1:w1.heap[w.heap.size]? = some (.cells (evS e na nc (some ⟨tb,to,none⟩) tc sa sc ha hc ra rc) 45 (0,0)):=(hk1.block _ (by simp;omega) (fun e=>by have:w.heap.size=_:=e;omega)).trans (kah HE.out);have hw2:w1.heap[w.heap.size+1]? = some (.cells evZ 45 (0,0)):=(hk1.block _ (by simp) (fun e=>by have:w.heap.size+1=_:=e;omega)).trans (kah (kak (by simp) rfl));obtain ⟨e0,e1,e2,e3,e4,e5,e6,e7,e8,e9,e10,e11,e12,e13,e14,e15,e16,e17⟩:=ka3 hw1;obtain ⟨r0,r1,r2,r3,r4,r5,r6,r7,r8,r9,r10,r11,r12,r13,r14,r15,r16,r17⟩:=ka3 hw4;have rf:=kbm hw4;have HW1:=hdd hw1;have HW2:=hdd hw2;have HW4:=hdd hw4;clear hw1 hw2 hw4 hk1))
  have t0:=(HB1.out.cell (p:=⟨tb,to,none⟩) htb).trans HT0.out;have t0':=(HB1.out.cell (p:=⟨tb,to+0,none⟩) htb).trans HT0.out;have HC:=hdd HW4.out;have HK:=hdd (ka7.refl (Licit.One (w.heap.size+1+1)) w1)
  go_upto_region 18 with (first|(refine kae rfl _ _ _ rfl (w.heap.size+1+1) _ rfl _ rfl rfl rfl _ 45 HC.out (by simp) (by kernel_rfl) ?_;intro wz hwz hkz;have HCn:=hdd hwz;have HKn:=hdd (HK.out.trans hkz);clear hwz hkz HC HK;have HC:=HCn;have HK:=HKn;clear HCn HKn;obtain ⟨e0,-,e2,e3,-⟩:=ka3 ((HK.out.block _ (kad HW1.out) (fun e=>by have:w.heap.size=w.heap.size+1+1:=e;omega)).trans HW1.out))|(go_at_call 160;(with_reducible refine (q _).mono ?_);rintro en w' ⟨rfl,rfl⟩))
  clear e0 e1 e2 e3 e4 e5 e6 e7 e8 e9 e10 e11 e12 e13 e14 e15 e16 e17 r0 r1 r2 r3 r4 r5 r6 r7 r8 r9 r10 r11 r12 r13 r14 r15 r16 r17 rf;have hB1':=HB1.out.trans (HK.out.below (B:=w.heap.size) HB1.out.size (fun k hk e=>by have:k=w.heap.size+1+1:=e;omega));have hX1:=(HK.out.block _ (kad HW1.out) (fun e=>by have:w.heap.size=w.heap.size+1+1:=e;omega)).trans HW1.out;have hR:=HC.out.trans (show _=some (Obj.cells (evC { e with targets:=[] } (.slice na e.names.length nc) (.slice none 0 0) (.slice sa e.sg.S.length sc) (.slice ha e.sg.H.length hc) (.slice ra e.sg.R.length rc)) 45 (0,0)) by kernel_rfl);have hZ:=(HK.out.block _ (kad HW2.out) (fun e=>by have:w.heap.size+1=w.heap.size+1+1:=e;omega)).trans HW2.out;clear HC HK;obtain ⟨e0',-,e2',e3',-⟩:=ka3 hX1;have HOR:=hdd (kbe { e with targets:=[] } (.slice na e.names.length nc) (.slice none 0 0) (.slice sa e.sg.S.length sc) (.slice ha e.sg.H.length hc) (.slice ra e.sg.R.length rc) rfl rfl rfl rfl rfl);have HB1':=hdd hB1';have HS:=hdd (And.intro (And.intro e0' (And.intro e2' e3')) (And.intro hR (kko hZ)));clear hB1' hX1 hR hZ e0' e2' e3';refine kaj (S:=fun W:World=>(W.cell? ⟨w.heap.size,0,none⟩=some (.int .i64 e.kind)∧W.cell? ⟨w.heap.size,2,none⟩=some (.int .i64 e.number)∧W.cell? ⟨w.heap.size,3,none⟩=some (.slice na e.names.length nc))∧W.heap[w.heap.size+1+1]? = some (.cells (evC { e with targets:=[] } (.slice na e.names.length nc) (.slice none 0 0) (.slice sa e.sg.S.length sc) (.slice ha e.sg.H.length hc) (.slice ra e.sg.R.length rc)) 45 (0,0))∧∃old,W.heap[w.heap.size+1]? = some (.cells old 45 (0,0))∧old.size=18) (by kernel_rfl) HS.out (fun hHeld=>?_);simp only [List.toList_toArray,len,kat];refine tkx 0 (.agg (evC { e with targets:=[] } (.slice na e.names.length nc) (.slice none 0 0) (.slice sa e.sg.S.length sc) (.slice ha e.sg.H.length hc) (.slice ra e.sg.R.length rc))) rfl rfl (by kernel_rfl) (fun _ _ _ h=>h) (by assumption) ?_ ?_
  ·intro W hW;exact kbq rfl rfl rfl hW.2.1
  simp only [Act.put,s1,s2,s3]
  (iterate 2 (refine tz 1 ?_;simp only [Act.put,s1,s2,s3]))
  first
   |(clear sk3;(iterate 14 (refine ps 3 rfl rfl rfl (by kernel_rfl) (fun _ _ _ h=>h) (by assumption) ?_;simp only [Act.put,s1,s2,s3])))
   |(clear sk11;(iterate 8 (refine tz 3 ?_;simp only [Act.put,s1,s2,s3]));(iterate 4 (refine ps 11 rfl rfl rfl (by kernel_rfl) (fun _ _ _ h=>h) (by assumption) ?_;simp only [Act.put,s1,s2,s3]));(iterate 2 (refine tz 15 ?_;simp only [Act.put,s1,s2,s3])))
   |(clear sk7;(iterate 4 (refine tz 3 ?_;simp only [Act.put,s1,s2,s3]));(iterate 9 (refine ps 7 rfl rfl rfl (by kernel_rfl) (fun _ _ _ h=>h) (by assumption) ?_;simp only [Act.put,s1,s2,s3]));(refine tz 16 ?_;simp only [Act.put,s1,s2,s3]))
   |((iterate 14 (refine tz 3 ?_;simp only [Act.put,s1,s2,s3])))
  (refine tz 17 ?_;simp only [Act.put,s1,s2,s3])
  refine ar2 18 (by kernel_rfl) rfl (fun K hK=>?_);obtain ⟨⟨q0,q2,q3⟩,q4,old,q5,q6⟩:=hHeld;refine kam rfl 45 _ _ rfl (w.heap.size+1) rfl (evC { e with targets:=[] } (.slice na e.names.length nc) (.slice none 0 0) (.slice sa e.sg.S.length sc) (.slice ha e.sg.H.length hc) (.slice ra e.sg.R.length rc)) rfl 45 old q5 (by kernel_rfl) q6 HOR.out ?_;intro w2 hw2 hk2;have hne1:¬ Licit.One (w.heap.size+1) w.heap.size:=fun e=>by have:w.heap.size=w.heap.size+1:=e;omega
  have hne2:¬ Licit.One (w.heap.size+1) (w.heap.size+1+1):=fun e=>by have:w.heap.size+1+1=w.heap.size+1:=e;omega
  refine hK.out _ _ ⟨⟨(hk2.cell (World.block_lt_of_cell? _ _ q0) hne1).trans q0,(hk2.cell (World.block_lt_of_cell? _ _ q0) hne1).trans q2,(hk2.cell (World.block_lt_of_cell? _ _ q0) hne1).trans q3⟩,(hk2.block _ (kad q4) hne2).trans q4,_,hw2,rfl⟩ (fun hHeld=>?_);have HW:=hdd hw2;have HB:=hdd (HB1'.out.trans ((kbk hk2).below (B:=w.heap.size) HB1'.out.size (fun k hk e=>by have:k=_:=e;omega)));clear hK K hw2 hk2 q0 q2 q3 q4 q5 q6 hne1 hne2
  try simp only [Act.put,s1,s2,s3]
  (refine tz 19 ?_;simp only [Act.put,s1,s2,s3])
  refine wpAnyH_done (by kernel_rfl) ?_ _;simp only [Exit.then]
  go_wp2
  refine kbs rfl (w.heap.size+1) 45 _ (0,0) _ rfl HW.out rfl rfl (by kernel_rfl) rfl ?_;exact ⟨rfl,HB.out⟩
 )
theorem kpu (e:Rv.Ev) (na  sa ha ra:Option Addr) (nc tb to tc sc hc rc:Nat) (w:World) (hk:e.kind=5) (c3:e.targets.length=2) (htb:tb<w.heap.size) (hT0:w.cell? ⟨tb,to+0,none⟩=some (.string (B (e.targets.getD 0 [])))) (hT1:w.cell? ⟨tb,to+1,none⟩=some (.string (B (e.targets.getD 1 [])))) :
 Calls Tryz.prog 90 #[evW e na nc (some ⟨tb,to,none⟩) tc sa sc ha hc ra rc] w (kee w (kb1 e) (.slice na e.names.length nc) (kc5 e.kind (.slice (some ⟨tb,to,none⟩) e.targets.length tc)) (.slice sa e.sg.S.length sc) (.slice ha e.sg.H.length hc) (.slice ra e.sg.R.length rc) (okF e)):=by
 have hre:kb1 e = { e with targets:=[] }:=by unfold kb1;simp [hk]
 have hte:kc5 e.kind (.slice (some ⟨tb,to,none⟩) e.targets.length tc) = .slice none 0 0:=by unfold kc5;rw [hk];rfl
 have ho:okF e=((decide (e.targets.length=2) && Rv.digB (e.targets.getD 0 []) && Rv.digB (e.targets.getD 1 []) && !decide (e.targets.getD 0 []=e.targets.getD 1 [])) && (decide (1≤e.number) && decide (0<e.names.length))):=by unfold okF Rv.kindB;simp [hk]
 rw [hre,hte,ho];clear hre hte ho;have d1:(e.kind == 1)=false:=by simp [hk]
 have d2:(e.kind == 2)=false:=by simp [hk]
 have d3:(e.kind == 3)=false:=by simp [hk]
 have d4:(e.kind == 4)=false:=by simp [hk]
 have d5:(e.kind == 5)=true:=by simp [hk]
 clear hk;have dn:((e.targets.length:Int) == 2)=true:=by simp;omega
 rw [decide_eq_true c3];have hi0:(0:Int)<(e.targets.length:Int):=by omega
 have hi0':0<e.targets.length:=by omega
 have hi1:(1:Int)<(e.targets.length:Int):=by omega
 have hi1':1<e.targets.length:=by omega
 have q0:=fun W=>kbz (e.targets.getD 0 []) W
 have q1:=fun W=>kbz (e.targets.getD 1 []) W
 generalize e.targets.getD 0 []=x0 at *;generalize e.targets.getD 1 []=x1 at *;have HT0:=hdd hT0;have HT1:=hdd hT1;clear hT0 hT1 c3;generalize Rv.digB x0=D0 at *;generalize Rv.digB x1=D1 at *
 have bq:((B x0).toList == (B x1).toList)=decide (x0=x1):=by
  by_cases c:x0=x1
  ·subst c;rw [kbx,decide_eq_true rfl]
  ·rw [kby c,decide_eq_false c]
 generalize decide (x0=x1)=E at *;obtain ⟨N8,d8⟩:∃b,decide (1≤e.number)=b:=⟨_,rfl⟩;obtain ⟨N9,d9⟩:∃b,decide (0<e.names.length)=b:=⟨_,rfl⟩;rw [d8,d9];have hc:(D0=false∧(∃_:Nat,True))∨(D0=true∧D1=false∧(∃_:Nat,True))∨(D0=true∧D1=true∧E=true∧(∃_:Nat,True))∨(D0=true∧D1=true∧E=false∧N8=false∧(∃_:Nat,True))∨(D0=true∧D1=true∧E=false∧N8=true):=by cases D0 <;> cases D1 <;> cases E <;> cases N8 <;> simp
 rcases hc with ⟨rfl,sk3,-⟩|⟨rfl,rfl,sk3,-⟩|⟨rfl,rfl,rfl,sk3,-⟩|⟨rfl,rfl,rfl,rfl,sk11,-⟩|⟨rfl,rfl,rfl,rfl⟩
 all_goals (
  have hb3:Below w.heap.size w (((w.alloc (.cells (evS e na nc (some ⟨tb,to,none⟩) tc sa sc ha hc ra rc) 45)).alloc (.cells evZ 45)).alloc (.cells evZ 45)):=(((Below.refl _ _).alloc (Nat.le_refl _) _).alloc (by simp) _).alloc (by simp;omega) _;have HB3:=hdd hb3;clear hb3;have HE:=hdd (show ((w.alloc (.cells (evS e na nc (some ⟨tb,to,none⟩) tc sa sc ha hc ra rc) 45)).alloc (.cells evZ 45)).heap[w.heap.size]? = _ from kah (kai w (.cells (evS e na nc (some ⟨tb,to,none⟩) tc sa sc ha hc ra rc) 45)));have HO:=hdd (evS1 e na nc (some ⟨tb,to,none⟩) tc sa sc ha hc ra rc)
  go_enter Tryz.func90,Tryz.ntmps90
  go_upto_region 2 with (first
   |(refine wpList_load_row rfl 45 _ rfl w.heap.size rfl 45 (evS e na nc (some ⟨tb,to,none⟩) tc sa sc ha hc ra rc) (0,0) _ HE.out rfl rfl (by kernel_rfl) ?_)
   |(refine kac rfl 45 _ _ rfl (w.heap.size+1+1) rfl (evS e na nc (some ⟨tb,to,none⟩) tc sa sc ha hc ra rc) rfl 45 evZ (kak (by simp) rfl) (by kernel_rfl) rfl HO.out ?_
     intro w1 hw4 hk1;have HB1:=hdd (HB3.out.trans (hk1.below (B:=w.heap.size) (by simp;omega) (fun k hk e=>by have:k=_:=e;omega)));have hw1:w1.heap[w.heap.size]? = some (.cells (evS e na nc (some ⟨tb,to,none⟩) tc sa sc ha hc ra rc) 45 (0,0)):=(hk1.block _ (by simp;omega) (fun e=>by have:w.heap.size=_:=e;omega)).trans (kah HE.out);have hw2:w1.heap[w.heap.size+1]? = some (.cells evZ 45 (0,0)):=(hk1.block _ (by simp) (fun e=>by have:w.heap.size+1=_:=e;omega)).trans (kah (kak (by simp) rfl));obtain ⟨e0,e1,e2,e3,e4,e5,e6,e7,e8,e9,e10,e11,e12,e13,e14,e15,e16,e17⟩:=ka3 hw1;obtain ⟨r0,r1,r2,r3,r4,r5,r6,r7,r8,r9,r10,r11,r12,r13,r14,r15,r16,r17⟩:=ka3 hw4;have rf:=kbm hw4;have HW1:=hdd hw1;have HW2:=hdd hw2;have HW4:=hdd hw4;clear hw1 hw2 hw4 hk1))
  have t0:=(HB1.out.cell (p:=⟨tb,to,none⟩) htb).trans HT0.out;have t0':=(HB1.out.cell (p:=⟨tb,to+0,none⟩) htb).trans HT0.out;have t1:=(HB1.out.cell (p:=⟨tb,to+1,none⟩) htb).trans HT1.out
  go_upto_region 16 with fail
  go_quiet ((first|(go_at_call 160;exact Calls.quiet_of_same (q0 _))|(go_at_call 160;exact Calls.quiet_of_same (q1 _))))
  have HC:=hdd (fun n=>(show (World.drewN w1 n).heap[w.heap.size+1+1]? = _ from HW4.out))
  go_upto_region 18 with (first|(refine kae rfl _ _ _ rfl (w.heap.size+1+1) _ rfl _ rfl rfl rfl _ 45 (HC.out _) (by simp) (by kernel_rfl) ?_;intro wz hwz hkz;have HCn:=hdd hwz;have HKn:=hdd (kto hkz);clear hwz hkz HC;have HC:=HCn;have HK:=HKn;clear HCn HKn;obtain ⟨e0,-,e2,e3,-⟩:=ka3 ((HK.out.block _ (kad HW1.out) (fun e=>by have:w.heap.size=w.heap.size+1+1:=e;omega)).trans HW1.out))|fail)
  clear e0 e1 e2 e3 e4 e5 e6 e7 e8 e9 e10 e11 e12 e13 e14 e15 e16 e17 r0 r1 r2 r3 r4 r5 r6 r7 r8 r9 r10 r11 r12 r13 r14 r15 r16 r17 rf;have hB1':=HB1.out.trans (HK.out.below (B:=w.heap.size) HB1.out.size (fun k hk e=>by have:k=w.heap.size+1+1:=e;omega));have hX1:=(HK.out.block _ (kad HW1.out) (fun e=>by have:w.heap.size=w.heap.size+1+1:=e;omega)).trans HW1.out;have hR:=HC.out.trans (show _=some (Obj.cells (evC { e with targets:=[] } (.slice na e.names.length nc) (.slice none 0 0) (.slice sa e.sg.S.length sc) (.slice ha e.sg.H.length hc) (.slice ra e.sg.R.length rc)) 45 (0,0)) by kernel_rfl);have hZ:=(HK.out.block _ (kad HW2.out) (fun e=>by have:w.heap.size+1=w.heap.size+1+1:=e;omega)).trans HW2.out;clear HC HK;obtain ⟨e0',-,e2',e3',-⟩:=ka3 hX1;have HOR:=hdd (kbe { e with targets:=[] } (.slice na e.names.length nc) (.slice none 0 0) (.slice sa e.sg.S.length sc) (.slice ha e.sg.H.length hc) (.slice ra e.sg.R.length rc) rfl rfl rfl rfl rfl);have HB1':=hdd hB1';have HS:=hdd (And.intro (And.intro e0' (And.intro e2' e3')) (And.intro hR (kko hZ)));clear hB1' hX1 hR hZ e0' e2' e3';refine kaj (S:=fun W:World=>(W.cell? ⟨w.heap.size,0,none⟩=some (.int .i64 e.kind)∧W.cell? ⟨w.heap.size,2,none⟩=some (.int .i64 e.number)∧W.cell? ⟨w.heap.size,3,none⟩=some (.slice na e.names.length nc))∧W.heap[w.heap.size+1+1]? = some (.cells (evC { e with targets:=[] } (.slice na e.names.length nc) (.slice none 0 0) (.slice sa e.sg.S.length sc) (.slice ha e.sg.H.length hc) (.slice ra e.sg.R.length rc)) 45 (0,0))∧∃old,W.heap[w.heap.size+1]? = some (.cells old 45 (0,0))∧old.size=18) (by kernel_rfl) HS.out (fun hHeld=>?_);simp only [List.toList_toArray,len,kat];refine tkx 0 (.agg (evC { e with targets:=[] } (.slice na e.names.length nc) (.slice none 0 0) (.slice sa e.sg.S.length sc) (.slice ha e.sg.H.length hc) (.slice ra e.sg.R.length rc))) rfl rfl (by kernel_rfl) (fun _ _ _ h=>h) (by assumption) ?_ ?_
  ·intro W hW;exact kbq rfl rfl rfl hW.2.1
  simp only [Act.put,s1,s2,s3]
  (iterate 2 (refine tz 1 ?_;simp only [Act.put,s1,s2,s3]))
  first
   |(clear sk3;(iterate 14 (refine ps 3 rfl rfl rfl (by kernel_rfl) (fun _ _ _ h=>h) (by assumption) ?_;simp only [Act.put,s1,s2,s3])))
   |(clear sk11;(iterate 8 (refine tz 3 ?_;simp only [Act.put,s1,s2,s3]));(iterate 4 (refine ps 11 rfl rfl rfl (by kernel_rfl) (fun _ _ _ h=>h) (by assumption) ?_;simp only [Act.put,s1,s2,s3]));(iterate 2 (refine tz 15 ?_;simp only [Act.put,s1,s2,s3])))
   |(clear sk7;(iterate 4 (refine tz 3 ?_;simp only [Act.put,s1,s2,s3]));(iterate 9 (refine ps 7 rfl rfl rfl (by kernel_rfl) (fun _ _ _ h=>h) (by assumption) ?_;simp only [Act.put,s1,s2,s3]));(refine tz 16 ?_;simp only [Act.put,s1,s2,s3]))
   |((iterate 14 (refine tz 3 ?_;simp only [Act.put,s1,s2,s3])))
  (refine tz 17 ?_;simp only [Act.put,s1,s2,s3])
  refine ar2 18 (by kernel_rfl) rfl (fun K hK=>?_);obtain ⟨⟨q0,q2,q3⟩,q4,old,q5,q6⟩:=hHeld;refine kam rfl 45 _ _ rfl (w.heap.size+1) rfl (evC { e with targets:=[] } (.slice na e.names.length nc) (.slice none 0 0) (.slice sa e.sg.S.length sc) (.slice ha e.sg.H.length hc) (.slice ra e.sg.R.length rc)) rfl 45 old q5 (by kernel_rfl) q6 HOR.out ?_;intro w2 hw2 hk2;have hne1:¬ Licit.One (w.heap.size+1) w.heap.size:=fun e=>by have:w.heap.size=w.heap.size+1:=e;omega
  have hne2:¬ Licit.One (w.heap.size+1) (w.heap.size+1+1):=fun e=>by have:w.heap.size+1+1=w.heap.size+1:=e;omega
  refine hK.out _ _ ⟨⟨(hk2.cell (World.block_lt_of_cell? _ _ q0) hne1).trans q0,(hk2.cell (World.block_lt_of_cell? _ _ q0) hne1).trans q2,(hk2.cell (World.block_lt_of_cell? _ _ q0) hne1).trans q3⟩,(hk2.block _ (kad q4) hne2).trans q4,_,hw2,rfl⟩ (fun hHeld=>?_);have HW:=hdd hw2;have HB:=hdd (HB1'.out.trans ((kbk hk2).below (B:=w.heap.size) HB1'.out.size (fun k hk e=>by have:k=_:=e;omega)));clear hK K hw2 hk2 q0 q2 q3 q4 q5 q6 hne1 hne2
  try simp only [Act.put,s1,s2,s3]
  (refine tz 19 ?_;simp only [Act.put,s1,s2,s3])
  refine wpAnyH_done (by kernel_rfl) ?_ _;simp only [Exit.then]
  go_wp2
  refine kbs rfl (w.heap.size+1) 45 _ (0,0) _ rfl HW.out rfl rfl (by kernel_rfl) rfl ?_;exact ⟨rfl,HB.out⟩
 )
end Go.Proofs.YtknpbekoenbphaaGreatDoor
