/- Parts of the proofs: WkRefSig, WkRefSig2, WkRr4, WkROrd. No condition beyond those at each theorem. -/
import Derived.Test.YtknpbekoenbphaaGreatDoorQk35
import Derived.Test.YtknpbekoenbphaaGreatDoorQk39
set_option linter.unusedVariables false
set_option linter.unusedSimpArgs false
set_option maxHeartbeats 16000000
set_option maxRecDepth 100000
namespace Go.Proofs.YtknpbekoenbphaaGreatDoor
open Go Go.RowKit Licit
theorem kxa {xs ys:List Bs} {k:Nat} (_:k<xs.length) (hk2:k<ys.length) (h:xs.getD k []≠ys.getD k []):xs≠ys:=by
 rintro rfl;exact h rfl
theorem kr6 {xs ys:List Bs} {k:Nat} (hk:k<xs.length) (hk2:k<ys.length) (h:xs.take k=ys.take k) (hx:xs.getD k []=ys.getD k []):xs.take (k+1)=ys.take (k+1):=by
 rw [List.getD_eq_getElem?_getD,List.getElem?_eq_getElem hk,List.getD_eq_getElem?_getD,List.getElem?_eq_getElem hk2] at hx;simp only [Option.getD_some] at hx;rw [List.take_add_one,List.take_add_one,h,List.getElem?_eq_getElem hk,List.getElem?_eq_getElem hk2,hx]
theorem kd8 (v u:Value) (xs ys:List Bs) (w:World) (h:IsSl v (xs.map vS) w) (h':IsSl u (ys.map vS) w):Calls Tryz.prog 64 #[v,u] w fun e w'=>e = .returned (.bool (decide (xs=ys)))∧Below w.heap.size w w':=by
 obtain ⟨a,cap,rfl⟩:=h.formMap;obtain ⟨a',cap',rfl⟩:=h'.formMap;have hmx:=h.1;have hmy:=h'.1;rw [List.length_map] at hmx hmy;unfold maxLen at hmx hmy;have H:=hdd h;have H':=hdd h';clear h h'
 by_cases hl:xs.length=ys.length
 ·have hle:((xs.length:Int) == (ys.length:Int))=true:=by simp;omega
  go_enter Tryz.func64,Tryz.ntmps64
  go_wp2
  go_loopw [5] (fun n wr=>Below w.heap.size w wr∧∃k:Nat,k≤xs.length∧n = .int .i64 k∧xs.take k=ys.take k) (fun n _=>xs.length - (intOf n).toNat)
  case atStart=>exact ⟨Below.refl _ _,0,by omega,rfl,rfl⟩
  case round =>
   obtain ⟨hB,k,hk,rfl,hA⟩:=hrel;have HA:=hdd hA;have HB:=hdd hB;clear hA hB
   by_cases hlt:k<xs.length
   ·have hlt2:k<ys.length:=by omega
    obtain ⟨b,off,c1,hv,hb,hc⟩:=(H.out.below HB.out).text rfl hlt;simp only [Value.slice.injEq,true_and] at hv;obtain ⟨rfl,rfl⟩:=hv;obtain ⟨b',off',c2,hv,hb',hc'⟩:=(H'.out.below HB.out).text rfl hlt2;simp only [Value.slice.injEq,true_and] at hv;obtain ⟨rfl,rfl⟩:=hv;obtain ⟨x,hx⟩:∃x,xs.getD k []=x:=⟨_,rfl⟩;obtain ⟨y,hy⟩:∃y,ys.getD k []=y:=⟨_,rfl⟩;rw [hx] at hc;rw [hy] at hc';have Hx:=hdd hx;have Hy:=hdd hy;have hi1:(k:Int)<(xs.length:Int):=by omega
    have hi2:(k:Int)<(ys.length:Int):=by omega
    clear hx hy
    by_cases hxy:x=y
    ·have hq:((B x).toList == (B y).toList)=true:=by rw [hxy];simp
     go_wp2
     go_region
     go_wp2
     go_roundw
     case rel=>exact ⟨dr HB.out,k+1,by omega,by go_num,kr6 hlt hlt2 HA.out (by rw [Hx.out,Hy.out];exact hxy)⟩
     case measure=>simp [intOf];omega
    ·have hq:((B x).toList == (B y).toList)=false:=by
      rw [ByteArray.toList_eq,ByteArray.toList_eq,B_list,B_list];simpa using hxy
     go_wp2
     go_region
     go_wp2
     go_ret
     refine ⟨?_,dr HB.out⟩;rw [decide_eq_false (kxa hlt hlt2 (by rw [Hx.out,Hy.out];exact hxy))];rfl
   ·obtain rfl:k=xs.length:=by omega
    have hA:=HA.out;rw [List.take_length,hl,List.take_length] at hA;have HA:=hdd hA;clear hA
    go_wp2
    go_ret
    refine ⟨?_,HB.out⟩;rw [decide_eq_true HA.out];rfl
 ·have hle:((xs.length:Int) == (ys.length:Int))=false:=by simp;omega
  go_enter Tryz.func64,Tryz.ntmps64
  go_wp2
  go_ret
  refine ⟨?_,Below.refl _ _⟩;rw [decide_eq_false (fun e=>hl (by rw [e]))];rfl
def kk2 (i:Int) (S H R:List Bs) (j:Int) (S' H' R':List Bs):Bool:=decide (i=j) && decide (S=S') && decide (H=H') && decide (R=R')
theorem ktj (v u:Value) (i j:Int) (S H R S' H' R':List Bs) (w:World) (h:kp1 v i S H R w) (h':kp1 u j S' H' R' w) :
 Calls Tryz.prog 65 #[v,u] w fun e w'=>e = .returned (.bool (kk2 i S H R j S' H' R'))∧Below w.heap.size w w':=by
 obtain ⟨vs,vh,vr,rfl,hS,hH,hR⟩:=h;obtain ⟨us,uh,ur,rfl,hS',hH',hR'⟩:=h';obtain ⟨W,hW⟩:∃W,(w.alloc (.cells #[.int .i64 i,vs,vh,vr] 43)).alloc (.cells #[.int .i64 j,us,uh,ur] 43)=W:=⟨_,rfl⟩;have hB:Below w.heap.size w W:=by rw [←hW];exact ((Below.refl _ _).alloc (Nat.le_refl _) _).alloc (by simp) _
 have e1:W.heap[w.heap.size]? = some (.cells #[.int .i64 i,vs,vh,vr] 43):=by rw [←hW];exact kah (kai _ _)
 have e2:W.heap[w.heap.size+1]? = some (.cells #[.int .i64 j,us,uh,ur] 43):=by rw [←hW];exact kak (by simp) rfl
 have hTS:=fun W' (hb:Below w.heap.size w W')=>kd8 _ _ _ _ W' (hS.below hb) (hS'.below hb)
 have hTH:=fun W' (hb:Below w.heap.size w W')=>kd8 _ _ _ _ W' (hH.below hb) (hH'.below hb)
 have hTR:=fun W' (hb:Below w.heap.size w W')=>kd8 _ _ _ _ W' (hR.below hb) (hR'.below hb)
 have HB:=hdd hB;have HTS:=hdd hTS;have HTH:=hdd hTH;have HTR:=hdd hTR;have HE1:=hdd e1;have HE2:=hdd e2;have c10:=kaa e1 0;have c11:=kaa e1 1;have c20:=kaa e2 0;have c21:=kaa e2 1;clear hS hH hR hS' hH' hR' hTS hTH hTR hB e1 e2;unfold kk2
 by_cases c:i=j
 ·subst c
  cases h1:decide (S=S') with
  |false =>
   rw [h1] at HTS;clear h1
   go_enter Tryz.func65,Tryz.ntmps65
   go_wp2_with (go_at_call 64;refine (HTS.out _ HB.out).mono ?_;rintro e w1 ⟨rfl,hb1⟩;have HB1:=hdd (HB.out.next hb1);clear hb1)
   go_ret
   exact ⟨by simp,HB1.out⟩
  |true =>
   cases h2:decide (H=H') with
   |false =>
    rw [h1] at HTS;rw [h2] at HTH;clear h1 h2
    go_enter Tryz.func65,Tryz.ntmps65
    go_wp2_with fail
    refine (HTS.out _ HB.out).mono ?_;rintro e w1 ⟨rfl,hb1⟩;have HB1:=hdd (HB.out.next hb1);have g1:=(hb1.block _ (kad HE1.out)).trans HE1.out;have g2:=(hb1.block _ (kad HE2.out)).trans HE2.out;have c12:=kaa g1 2;have c22:=kaa g2 2;clear hb1 g1 g2
    go_wp2_with fail
    refine (HTH.out _ HB1.out).mono ?_;rintro e w2 ⟨rfl,hb2⟩;have HB2:=hdd (HB1.out.next hb2);clear hb2
    go_wp2
    go_ret
    exact ⟨by simp,HB2.out⟩
   |true =>
    rw [h1] at HTS;rw [h2] at HTH;clear h1 h2
    go_enter Tryz.func65,Tryz.ntmps65
    go_wp2_with fail
    refine (HTS.out _ HB.out).mono ?_;rintro e w1 ⟨rfl,hb1⟩;have HB1:=hdd (HB.out.next hb1);have g1:=(hb1.block _ (kad HE1.out)).trans HE1.out;have g2:=(hb1.block _ (kad HE2.out)).trans HE2.out;have c12:=kaa g1 2;have c22:=kaa g2 2;have HG1:=hdd g1;have HG2:=hdd g2;clear hb1 g1 g2
    go_wp2_with fail
    refine (HTH.out _ HB1.out).mono ?_;rintro e w2 ⟨rfl,hb2⟩;have HB2:=hdd (HB1.out.next hb2);have g1:=(hb2.block _ (kad HG1.out)).trans HG1.out;have g2:=(hb2.block _ (kad HG2.out)).trans HG2.out;have c13:=kaa g1 3;have c23:=kaa g2 3;clear hb2 g1 g2
    go_wp2_with fail
    refine (HTR.out _ HB2.out).mono ?_;rintro e w3 ⟨rfl,hb3⟩;have HB3:=hdd (HB2.out.next hb3);clear hb3
    go_wp2
    go_ret
    exact ⟨by simp,HB3.out⟩
 ·go_enter Tryz.func65,Tryz.ntmps65
  go_wp2
  go_ret
  exact ⟨by simp [c],HB.out⟩
theorem kiv (v u:Value) (e:Rv.Ev) (w:World) (h:kcw v e w) (h':kcw u e w):Calls Tryz.prog 20 #[v,u] w fun en w'=>en = .returned (.bool true)∧Below w.heap.size w w':=by
 obtain ⟨ho,na,nc,ta,tc,sa,sc,ha,hc,ra,rc,rfl,hN,hT,hS,hH,hR⟩:=h;obtain ⟨-,na',nc',ta',tc',sa',sc',ha',hc',ra',rc',rfl,hN',hT',hS',hH',hR'⟩:=h';have hb0:Below w.heap.size w ((w.alloc (.cells (evS e na nc ta tc sa sc ha hc ra rc) 45)).alloc (.cells (evS e na' nc' ta' tc' sa' sc' ha' hc' ra' rc') 45)):=((Below.refl _ _).alloc (Nat.le_refl _) _).alloc (by simp) _;have hA:((w.alloc (.cells (evS e na nc ta tc sa sc ha hc ra rc) 45)).alloc (.cells (evS e na' nc' ta' tc' sa' sc' ha' hc' ra' rc') 45)).heap[w.heap.size]? = some (.cells (evS e na nc ta tc sa sc ha hc ra rc) 45 (0,0)):=kah (kai _ _);have hB:((w.alloc (.cells (evS e na nc ta tc sa sc ha hc ra rc) 45)).alloc (.cells (evS e na' nc' ta' tc' sa' sc' ha' hc' ra' rc') 45)).heap[w.heap.size+1]? = some (.cells (evS e na' nc' ta' tc' sa' sc' ha' hc' ra' rc') 45 (0,0)):=kak (by simp) rfl;have HTn:=hdd (kd8 _ _ e.names e.names _ (hN.below hb0) (hN'.below hb0));have HB0:=hdd hb0;have HA:=hdd hA;have HBb:=hdd hB;have HN1:=hdd (fun (W:World) (hb:Below w.heap.size w W)=>kd8 _ _ e.targets e.targets W (hT.below hb) (hT'.below hb));have HS1:=hdd (fun (W:World) (hb:Below w.heap.size w W)=>ktj _ _ e.sg.i e.sg.i e.sg.S e.sg.H e.sg.R e.sg.S e.sg.H e.sg.R W ⟨_,_,_,rfl,hS.below hb,hH.below hb,hR.below hb⟩ ⟨_,_,_,rfl,hS'.below hb,hH'.below hb,hR'.below hb⟩);have hss:kk2 e.sg.i e.sg.S e.sg.H e.sg.R e.sg.i e.sg.S e.sg.H e.sg.R=true:=by simp [kk2]
 have HSS:=hdd hss;clear hN hT hS hH hR hN' hT' hS' hH' hR' ho hb0 hA hB hss
 go_enter Tryz.func20,Tryz.ntmps20
 go_wp2_with fail
 refine (HTn.out).mono ?_;rintro en w1 ⟨rfl,hb1⟩
 try simp only [decide_true]
 have hA1:=kab hb1 (kad HA.out) HA.out;have hB1:=kab hb1 (kad HBb.out) HBb.out;obtain ⟨-,-,-,-,e4,e5,e6,e7,e8,e9,e10,e11,e12,e13,-⟩:=ka3 hA1;obtain ⟨-,-,-,-,g4,g5,g6,g7,g8,g9,g10,g11,g12,g13,-⟩:=ka3 hB1;have HA1:=hdd hA1;have HB1:=hdd hB1;have HBw:=hdd (HB0.out.next hb1);clear hA1 hB1 hb1 HA HBb HTn HB0
 go_wp2_with fail
 refine (HN1.out w1 HBw.out).mono ?_;rintro en w2 ⟨rfl,hb2⟩
 try simp only [decide_true]
 have HA2:=bhh hb2 HA1;have HB2:=bhh hb2 HB1;have HBx:=hdd (HBw.out.next hb2);clear hb2 HA1 HB1 HN1 HBw e4 e5 e6 e7 e8 e9 e10 e11 e12 e13 g4 g5 g6 g7 g8 g9 g10 g11 g12 g13;obtain ⟨-,-,-,-,-,-,-,-,-,-,-,-,-,-,e14,e15,e16,e17⟩:=ka3 HA2.out;obtain ⟨-,-,-,-,-,-,-,-,-,-,-,-,-,-,g14,g15,g16,g17⟩:=ka3 HB2.out
 go_wp2_with fail
 refine (HS1.out w2 HBx.out).mono ?_;rintro en w3 ⟨rfl,hb3⟩;rw [HSS.out];have HB3:=hdd (HBx.out.next hb3);clear hb3
 go_wp2_with fail
 go_ret
 exact ⟨rfl,HB3.out⟩
theorem kyx {a:Option Addr} {n c:Nat} {O:List Nat} {w:World} (h:IsSl (.slice a n c) (O.map vNt) w) {i:Nat} (hi:i<O.length):∃b off,a=some ⟨b,off,none⟩∧w.cell? ⟨b,off+i,none⟩=some (vNt (O.getD i 0)):=by
 rcases h.2 with ⟨_,_,_,e⟩|⟨b,off,cap,e,h0,hc⟩
 ·have:=congrArg List.length e
  rw [List.length_map] at this;simp at this;subst this;simp at hi
 ·simp only [Value.slice.injEq] at e
  refine ⟨b,off,e.1,?_⟩
  have:=hc i (by rw [List.length_map];exact hi)
  rw [this];simp [List.getD_eq_getElem?_getD,List.getElem?_eq_getElem hi]
theorem kkd (v:Value) (l:List Rv.Ev) (w:World) (h:kbt v l w):Calls Tryz.prog 19 #[v] w (kdy l w):=by
 obtain ⟨a,c,rfl⟩:=h.form;have hm:=h.1;have HN:=hdd (kjz _ l w h);have HV:=hdd (fun (W:World) (hb:Below w.heap.size w W)=>h.below hb);clear h
 by_cases hE:(Rv.setE l (Rv.idsOf l)).2=0
 rotate_left
 ·have d1:((Rv.setE l (Rv.idsOf l)).2 == 0)=false:=beq_eq_false_iff_ne.2 hE
  have d2:((Rv.setE l (Rv.idsOf l)).2 != 0)=true:=by rw [bne,d1];rfl
  have HE:=hdd hE;clear hE
  go_enter Tryz.func19,Tryz.ntmps19
  go_wp2_with (first
   |(go_at_call 59
     refine HN.out.mono ?_;rintro en w1 ⟨hb1,sv,rfl,hz,-⟩;obtain rfl:=hz HE.out;have HB1:=hdd hb1;clear hb1 hz)
   |fail)
  have hP:∀w2,Below w.heap.size w w2→kdy l w (.returned (.tuple #[.slice none 0 0,.int .i64 (Rv.setE l (Rv.idsOf l)).1,.int .i64 (Rv.setE l (Rv.idsOf l)).2])) w2:=by
   intro w2 hb2;unfold kdy;have hne:(Rv.orderE l).2.2≠0:=by rw [kgh];exact HE.out
   refine ⟨_,by rw [kgh],?_,kjq.none,hb2⟩;rw [Rv.orderE_nil hne];exact ⟨by simp,.inl ⟨none,0,rfl,rfl⟩⟩
  refine bodyPost_ret (v:=.tuple #[.slice none 0 0,.int .i64 (Rv.setE l (Rv.idsOf l)).1,.int .i64 (Rv.setE l (Rv.idsOf l)).2]) (by simp [results,Tryz.results19,go_sem]) rfl (hP _ (HB1.out.alloc HB1.out.size _))
 have HE:=hdd hE;have hO1:=Rv.set_ok.1 hE
 go_enter Tryz.func19,Tryz.ntmps19
 go_upto_region 4 with (first
  |(go_at_call 59
    refine HN.out.mono ?_;rintro en w1 ⟨hb1,sv,rfl,-,hz⟩;rw [hE];obtain ⟨S,vI,vR,vP,vO,pv,hS,hSl,rfl,hV⟩:=hz HE.out;obtain ⟨aI,cI,rfl⟩:=hV.ids.form;obtain ⟨aR,cR,rfl⟩:=hV.ranks.form;obtain ⟨aP,cP,rfl⟩:=hV.pasts.form;obtain ⟨aO,cO,rfl⟩:=hV.ord.formMap;have HS:=hdd (And.intro hS hSl);have HSv:=hdd hV;have HB1:=hdd hb1;clear hb1 hz hS hSl hV)
  |fail)
 obtain ⟨hS,hSl⟩:=HS.out;have hord:=HSv.out.ord;generalize (Rv.setE l (Rv.idsOf l)).1=e1 at *;obtain ⟨O,hO⟩:∃O,Rv.ordI S (Rv.idsOf l)=O:=⟨_,rfl⟩;have hOl:O.length=l.length:=by rw [←hO,(Rv.ordI_perm S _).length_eq,List.length_range,hSl]
 have hOm:∀i∈O,i<l.length:=fun i hi=>by rw [←hO] at hi;have:=List.mem_range.1 ((Rv.ordI_perm S _).mem_iff.1 hi);omega
 have hRes:Rv.orderE l=(O.map (fun i=>l.getD i Rv.ev0),-1,0):=by
  have h1:=(Rv.set_ok.1 HE.out).1;rw [Rv.orderE_ok h1 hS];unfold Rv.sorted;rw [hO]
 rw [hO] at hord ⊢;rw [hOl] at hord ⊢
 have hF:∀W,W=w1.alloc (.cells (kew (.slice a l.length c) (.slice aI (Rv.idsOf l).length cI) (.slice aR S.length cR) (.slice aP l.length cP) (.slice aO l.length cO)) 107)→Below w1.heap.size w1 W∧W.cell? ⟨w1.heap.size,4,none⟩=some (.slice aO l.length cO):=by
  rintro _ rfl;exact ⟨(Below.refl _ _).alloc (Nat.le_refl _) _,by rw [kaa (kai _ _)];rfl⟩
 obtain ⟨t,ht⟩:∃t,w1.heap.size=t:=⟨_,rfl⟩;show Code.wp _ _ _ _ (w1.alloc (.cells (kew (.slice a l.length c) (.slice aI (Rv.idsOf l).length cI) (.slice aR S.length cR) (.slice aP l.length cP) (.slice aO l.length cO)) 107));generalize hw2:w1.alloc (.cells (kew (.slice a l.length c) (.slice aI (Rv.idsOf l).length cI) (.slice aR S.length cR) (.slice aP l.length cP) (.slice aO l.length cO)) 107)=w2;obtain ⟨hb2,hc2⟩:=hF w2 hw2.symm;rw [ht] at hc2 ⊢;have HC2:=hdd (fun (W:World) (hb:Below w2.heap.size w2 W)=>(hb.cell (p:=⟨t,4,none⟩) (World.block_lt_of_cell? _ _ hc2)).trans hc2);have HB2:=hdd (HB1.out.next hb2);have HOrd:=hdd (fun (W:World) (hb:Below w2.heap.size w2 W)=>hord.below (hb2.next hb));have HRes:=hdd hRes;have HOl:=hdd hOl;have HOm:=hdd hOm;clear hS hSl hO hOl hOm hRes hF hw2 hb2 hc2 hord HS HSv HN ht hO1
 go_wp2_with fail
 go_loopw [8,9] (fun s8 n wr=>∃(k:Nat) (L:List EvX),k≤l.length∧n = .int .i64 k∧L.length=k∧ka2 L=(O.take k).map (fun i=>l.getD i Rv.ev0)∧Below w2.heap.size w2 wr∧ka1 w2.heap.size (Fr s8 NoB) s8 L wr) (fun _ n _=>l.length - (intOf n).toNat)
 case atStart=>exact ⟨0,[],Nat.zero_le _,rfl,rfl,rfl,Below.refl _ _,ka1.nil _ _ _⟩
 case round =>
  obtain ⟨k,L,hk,rfl,hLk,hLe,hb,ho⟩:=hrel;have HB:=hdd hb;have HO:=hdd ho;have HLk:=hdd hLk;obtain ⟨a8,c8,rfl⟩:=kag ho.row;have HL:=hdd hLe;have c4:=HC2.out wr hb;clear hb ho hLk hLe
  by_cases hlt:k<l.length
  ·have hltI:(k:Int)<(l.length:Int):=by omega
   have hltO:k<O.length:=by rw [HOl.out];exact hlt
   obtain ⟨bo,oo,rfl,hco⟩:=kyx (HOrd.out wr HB.out) hltO;obtain ⟨i,hi⟩:∃i,O.getD k 0=i:=⟨_,rfl⟩;have hgi:O[k]=i:=by rw [←hi,List.getD_eq_getElem?_getD,List.getElem?_eq_getElem hltO];rfl
   have hil:i<l.length:=HOm.out i (by rw [←hgi];exact List.getElem_mem hltO);rw [hi] at hco;obtain ⟨b,off,rfl,hbl,hat⟩:=(HV.out w2 HB2.out).at hil;obtain ⟨e,he⟩:∃e,l.getD i Rv.ev0=e:=⟨_,rfl⟩;rw [he] at hat;obtain ⟨na,nc,ta,tc,sa,sc,ha,hc,ra,rc,hE1,hR1⟩:=hat;have HRg:=hdd (kbo hR1 HB.out hbl);obtain ⟨X,hX⟩:∃X:EvX,X=⟨e,.slice na e.names.length nc,.slice ta e.targets.length tc,.slice sa e.sg.S.length sc,.slice ha e.sg.H.length hc,.slice ra e.sg.R.length rc⟩:=⟨_,rfl⟩;have hXa:X.arr=evS e na nc ta tc sa sc ha hc ra rc:=by subst hX;rfl
   have hXe:X.e=e:=by subst hX;rfl
   have HXe:=hdd hXe;have HEe:=hdd he;have HTk:=hdd (show O.take (k+1)=O.take k++[i] by rw [List.take_succ_eq_append_getElem hltO,hgi]);have hba:=(Below.refl wr.heap.size wr).alloc (Nat.le_refl _) (.cells X.arr 45)
   have HXs:=hdd (show kba (Fr (.slice a8 L.length c8) NoB) X.val X.e (wr.alloc (.cells X.arr 45)) from by
    have h0:kcw X.val X.e w2:=by subst hX;exact hE1
    exact h0.safe (HB.out.alloc HB.out.size _) (fun q hq=>by
     rcases hq with hq|hq
     ·exact (HO.out.row.lt q hq).1
     ·exact hq.elim))
   have HOa:=hdd (HO.out.grow hba);have HBa:=hdd (HB.out.alloc HB.out.size (.cells X.arr 45));have HXa:=hdd hXa;have hz2:=HB.out.size;clear hE1 hR1 hX hXe he hgi hi hltO hbl hba hXa
   go_wp2_with (first
    |(refine wpList_load_mid rfl 45 _ rfl b _ rfl (evS e na nc ta tc sa sc ha hc ra rc).toList _ HRg.out rfl rfl (by kernel_rfl) ?_)
    |(at_builtin
      go_loud (
      show wpList _ _ _ _ _ (wr.alloc (.cells (evS e na nc ta tc sa sc ha hc ra rc) 45));rw [←HXa.out];refine kcj rfl _ _ rfl (base:=w2.heap.size) (b:=wr.heap.size) (G:=NoB) (L:=L) (X:=X) rfl rfl HOa.out (kai wr (.cells X.arr 45)) HXs.out (by have:=HLk.out;omega) (by simp;omega) ?_;intro v8 w8 ho8 hg8 hq8;have HO8:=hdd ho8;have HB8:=hdd (HBa.out.grown hg8 (by simp;omega) (fun q hq=>(HO.out.row.lt q hq).1));clear ho8 hg8 hq8))
    |fail)
   refine ⟨⟨k+1,L++[X],by omega,by go_num,by have:=HLk.out;simp;omega,by rw [khd,HL.out,HTk.out,List.map_append,HXe.out,←HEe.out];rfl,HB8.out,HO8.out⟩,?_⟩;simp [intOf];omega
  ·obtain rfl:k=l.length:=by omega
   have HP:=hdd (show kdy l w (.returned (.tuple #[.slice a8 L.length c8,.int .i64 (-1),.int .i64 0])) wr from by
    unfold kdy;have hol:=HOl.out;rw [HRes.out];refine ⟨_,rfl,?_,kjq.own HO.out.row,HB2.out.next HB.out⟩;have hx:=HO.out.is (by have:=HLk.out;omega);rw [HL.out,List.take_of_length_le (by omega)] at hx;exact hx)
   go_wp2
   refine bodyPost_ret (v:=.tuple #[.slice a8 L.length c8,.int .i64 (-1),.int .i64 0]) (by simp [results,Tryz.results19,go_sem]) rfl HP.out
end Go.Proofs.YtknpbekoenbphaaGreatDoor
