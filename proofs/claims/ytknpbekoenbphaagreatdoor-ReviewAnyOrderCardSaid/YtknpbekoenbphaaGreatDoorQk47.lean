/- Parts of the proofs: WkAO. No condition beyond those at each theorem. -/
import Derived.Test.YtknpbekoenbphaaGreatDoorQk46
set_option linter.unusedVariables false
set_option linter.unusedSimpArgs false
set_option maxHeartbeats 16000000
set_option maxRecDepth 100000
namespace Go.Proofs.YtknpbekoenbphaaGreatDoor
open Go Go.RowKit Licit
theorem kp4 (L:List EvX) {i k:Nat} (hi:i<L.length) (hk:k<L.length):ka2 ((L.set i L[k]).set k L[i])=Rv.swapL (ka2 L) i k:=by
 have h1:(ka2 L).getD k Rv.ev0=L[k].e:=by simp [ka2,List.getD_eq_getElem?_getD,List.getElem?_eq_getElem hk]
 have h2:(ka2 L).getD i Rv.ev0=L[i].e:=by simp [ka2,List.getD_eq_getElem?_getD,List.getElem?_eq_getElem hi]
 unfold Rv.swapL;rw [h1,h2];simp [ka2,List.map_set]
theorem kuz (haw:kgw) (vd ve vp:Value) (D:List Dd) (Pr:List (Nat × Nat)) (b a:Nat) (X:List Rv.Ev) (w:World) (hD:kfs vd D w) (hE:kc0 ve X w) (hn:khn ve) (hb:b<256) (ha:a<256) (hpr:kjx vp Pr w) (ht:Tab w) :
 Calls Tryz.prog 4 #[.agg #[vd,.int .u8 (b:Int),.int .u8 (a:Int),ve],vp] w fun en w'=>en = .returned (.bool true)∧Below w.heap.size w w':=by
 obtain ⟨ad,cd,rfl⟩:=hD.form;obtain ⟨ae,ce,rfl⟩:=hE.form;obtain ⟨aq,cq,rfl⟩:=hpr.form;have HPr:=hdd (fun (W:World) (h:Below w.heap.size w W)=>hpr.below h);have hpm:=hpr.1;have HPm:=hdd hpr.2.1;have HAw:=hdd haw;have HTb:=hdd (fun (W:World) (h:Below w.heap.size w W)=>ht.same h)
 have hF:∀W,W=w.alloc (.cells #[.slice ad D.length cd,.int .u8 (b:Int),.int .u8 (a:Int),.slice ae X.length ce] 25)→Below w.heap.size w W∧W.heap[w.heap.size]? = some (.cells #[.slice ad D.length cd,.int .u8 (b:Int),.int .u8 (a:Int),.slice ae X.length ce] 25 (0,0)):=by
  rintro _ rfl;exact ⟨(Below.refl _ _).alloc (Nat.le_refl _) _,kai _ _⟩
 have HHis:=hdd (fun (W:World) (h:Below w.heap.size w W)=>klj _ _ D b a X W (hD.below h) (hE.below h) hn hb ha);obtain ⟨t,htt⟩:∃t,w.heap.size=t:=⟨_,rfl⟩;have HTt:=hdd htt;clear hD hE hn htt ht haw hpr;unfold maxLen at hpm
 go_enter Tryz.func4,Tryz.ntmps4
 go_upto_region 1 with fail
 generalize hw1:w.alloc (.cells #[.slice ad D.length cd,.int .u8 (b:Int),.int .u8 (a:Int),.slice ae X.length ce] 25)=w1;obtain ⟨hb1,hT1⟩:=hF w1 hw1.symm;rw [HTt.out] at hT1 ⊢;have HB1:=hdd hb1;have HT1:=hdd hT1;clear hF hw1 hb1 hT1
 go_upto_region 2 with (first
  |(refine wpList_load_row rfl 25 _ rfl t rfl 25 #[.slice ad D.length cd,.int .u8 (b:Int),.int .u8 (a:Int),.slice ae X.length ce] (0,0) _ HT1.out rfl rfl (by kernel_rfl) ?_)
  |(go_at_call 13
    go_loud (
    refine (HHis.out _ HB1.out).mono ?_;rintro en w2 ⟨v2,ok,rfl,hb2,hok⟩;have HB2:=hdd (HB1.out.next hb2);have HOk:=hdd hok;clear hb2 hok))
  |fail)
 cases ok with
 |false =>
  go_wp2_with (first
   |(go_at_call 14
     refine (HAw.out _ (HTb.out _ HB3.out)).mono ?_;rintro en w4 ⟨rfl,hb4⟩;have HB4:=hdd (HB3.out.next hb4);clear hb4)
   |(go_at_call 14
     refine (HAw.out _ (HTb.out _ HB2.out)).mono ?_;rintro en w3 ⟨rfl,hb3⟩;have HB3:=hdd (HB2.out.next hb3);clear hb3)
   |fail)
  go_ret
  exact ⟨rfl,HB4.out⟩
 |true =>
  by_cases h20:20<Pr.length
  ·have d20:(20:Int)<(Pr.length:Int):=by omega
   go_wp2_with (first
    |(go_at_call 14
      refine (HAw.out _ (HTb.out _ HB3.out)).mono ?_;rintro en w4 ⟨rfl,hb4⟩;have HB4:=hdd (HB3.out.next hb4);clear hb4)
    |(go_at_call 14
      refine (HAw.out _ (HTb.out _ HB2.out)).mono ?_;rintro en w3 ⟨rfl,hb3⟩;have HB3:=hdd (HB2.out.next hb3);clear hb3)
    |fail)
   go_ret
   exact ⟨rfl,HB4.out⟩
  have d20:¬ ((20:Int)<(Pr.length:Int)):=by omega
  obtain ⟨L,L0,l1,hO,hLl,hLt,-⟩:=HOk.out rfl;obtain ⟨l,hl⟩:∃l,ka2 L=l:=⟨_,rfl⟩;have hll:l.length=L.length:=by rw [←hl,kbd]
  have hl17:l.length≤17:=by omega
  have hI:kbt v2 l w2:=hl ▸ hO.is (by omega);have HI:=hdd (fun (W:World) (hb:Below w2.heap.size w2 W)=>hI.below hb);have HNc:=hdd hO.nilC
  have HLn:=hdd (show ∀i,i<l.length→km9 (l.getD i Rv.ev0) from fun i hi=>by
   have hi':i<L.length:=by omega
   have h1:=(hLt L[i] (List.getElem_mem hi')).len (by omega);have h2:l.getD i Rv.ev0=L[i].e:=by rw [←hl];simp [ka2,List.getD_eq_getElem?_getD,List.getElem?_eq_getElem hi']
   rw [h2];exact h1)
  obtain ⟨a2,c2,rfl⟩:=hI.form;clear hO hLl hLt hl hll hI HOk
  go_upto_region 5 with (first
   |(go_at_call 19
     go_loud (
     refine (kkd _ l w3 (HI.out _ HB23.out)).mono ?_;rintro en w4 ⟨v4,rfl,h4,-,hb4⟩;obtain ⟨a4,c4,rfl⟩:=h4.form;have HB4:=hdd (HB3.out.next hb4);have HB24:=hdd (HB23.out.next hb4);clear h4 hb4))
   |(go_at_call 14
     go_loud (
     refine (HAw.out _ (HTb.out _ HB2.out)).mono ?_;rintro en w3 ⟨rfl,hb3⟩;have HB3:=hdd (HB2.out.next hb3);have HB23:=hdd hb3;clear hb3))
   |fail)
  clear d20
  by_cases h0:(Rv.orderE l).2.2=0
  rotate_left
  ·have d1:((Rv.orderE l).2.2 != 0)=true:=by rw [bne_iff_ne];exact h0
   have d2:((Rv.orderE l).2.2 == 0)=false:=beq_eq_false_iff_ne.2 h0
   go_wp2_with fail
   go_ret
   exact ⟨rfl,HB4.out⟩
  have HOr:=hdd (show (Rv.setE l (Rv.idsOf l)).2=0 by rw [←Rv.orderE_err];exact h0);rw [h0];clear h0;generalize (Rv.orderE l).2.1=e1;generalize (Rv.orderE l).1.length=e2
  by_cases hne:l.length=0
  ·have d1:(l.length:Int)=0:=by omega
   rw [d1] at *
   go_wp2_with fail
   go_ret
   exact ⟨rfl,HB4.out⟩
  have d1:((l.length:Int) == 0)=false:=beq_eq_false_iff_ne.2 (by omega);have d1':¬ ((l.length:Int)=0):=by omega
  go_upto_region 9 with (first
   |(go_at_call 16
     go_loud (
     refine (kcq _ l w4 (HI.out _ HB24.out) HNc.out).mono ?_;rintro en w5 ⟨v5,M0,rfl,ho5,hM5,hb5⟩;have hMl:M0.length=l.length:=by rw [←hM5,kbd]
     obtain ⟨g,cg,rfl,hgb,hgl,-⟩:=kax ho5.row (by omega);rw [hMl];rw [hMl] at ho5;have HO5:=hdd ho5;have HMe:=hdd hM5;have HMl:=hdd hMl;have HB45:=hdd hb5;clear ho5 hM5 hMl hb5 hgb hgl))
   |fail)
  clear d1 d1';have hlpos:0<l.length:=by omega
  go_loopw [12,13,14,55] (fun _ _ _ n wr=>∃(j:Nat) (M:List EvX),j≤Pr.length∧n = .int .i64 j∧M.length=l.length∧Rv.Shuf (ka2 M) l∧Below w4.heap.size w4 wr∧ka1 w4.heap.size (Fr (.slice (some ⟨g,0,none⟩) l.length cg) NoB) (.slice (some ⟨g,0,none⟩) l.length cg) M wr) (fun _ _ _ n _=>Pr.length - (intOf n).toNat)
  case atStart=>exact ⟨0,M0,Nat.zero_le _,rfl,HMl.out,by rw [HMe.out];exact Rv.Shuf.refl l,HB45.out,HO5.out⟩
  case round =>
   obtain ⟨j,M,hj,rfl,hMl,hsh,hb,hO⟩:=hrel;have HB:=hdd hb;have HO:=hdd hO;have HSh:=hdd hsh;have HMl2:=hdd hMl;have HBw:=hdd (HB4.out.next hb);clear hb hO hsh hMl
   by_cases hlt:j<Pr.length
   ·have hltI:(j:Int)<(Pr.length:Int):=by omega
    obtain ⟨bP,oP,rfl,hblP,hrow⟩:=(HPr.out wr HBw.out).at hlt;obtain ⟨h256a,h256b⟩:=HPm.out Pr[j] (List.getElem_mem hlt);obtain ⟨⟨p1,p2⟩,hpj⟩:∃p,Pr[j]=p:=⟨_,rfl⟩;rw [hpj] at hrow h256a h256b;dsimp only at h256a h256b;have HRow:=hdd hrow;clear hrow hpj;obtain ⟨i,hii⟩:∃i,p1 % l.length=i:=⟨_,rfl⟩;obtain ⟨k,hkk⟩:∃k,p2 % l.length=k:=⟨_,rfl⟩;have hil:i<l.length:=hii ▸ Nat.mod_lt _ hlpos;have hkl:k<l.length:=hkk ▸ Nat.mod_lt _ hlpos;have t1:(p1:Int).tmod (l.length:Int)=(i:Int):=by rw [Int.tmod_eq_emod_of_nonneg (by omega),←hii];exact (Int.natCast_emod p1 l.length).symm
    have t2:(p2:Int).tmod (l.length:Int)=(k:Int):=by rw [Int.tmod_eq_emod_of_nonneg (by omega),←hkk];exact (Int.natCast_emod p2 l.length).symm
    have w1':IntKind.i64.wrap (p1:Int)=(p1:Int):=by rw [IntKind.wrap_i64];omega
    have w2':IntKind.i64.wrap (p2:Int)=(p2:Int):=by rw [IntKind.wrap_i64];omega
    have w3':IntKind.i64.wrap (i:Int)=(i:Int):=by rw [IntKind.wrap_i64];omega
    have w4':IntKind.i64.wrap (k:Int)=(k:Int):=by rw [IntKind.wrap_i64];omega
    have hl0:¬ ((l.length:Int)=0):=by omega
    obtain ⟨q,hq⟩:∃q,wr.heap.size=q:=⟨_,rfl⟩;have HQ:=hdd hq
    have hF:∀W,W=wr.alloc (.cells #[.int .u8 (p1:Int),.int .u8 (p2:Int)] 51)→Below wr.heap.size wr W∧W.heap[q]? = some (.cells #[.int .u8 (p1:Int),.int .u8 (p2:Int)] 51 (0,0)):=by
     rintro _ rfl;exact ⟨(Below.refl _ _).alloc (Nat.le_refl _) _,hq ▸ kai _ _⟩
    clear hii hkk hq hblP
    go_upto_region 11 with (first
     |(refine wpList_load_mid rfl 51 _ rfl bP _ rfl [.int .u8 (p1:Int),.int .u8 (p2:Int)] _ HRow.out rfl rfl (by kernel_rfl) ?_)
     |fail)
    rw [HQ.out];generalize hwA:wr.alloc (.cells #[.int .u8 (p1:Int),.int .u8 (p2:Int)] 51)=wA;obtain ⟨hbA,hqA⟩:=hF wA hwA.symm;have HBA:=hdd (HB.out.next hbA);have HOA:=hdd (HO.out.grow hbA)
    have HS1:=hdd (fun (W:World) (hb:Below wA.heap.size wA W)=>show W.cell? ⟨q,0,none⟩=some (.int .u8 (p1:Int))∧W.cell? ⟨q,1,none⟩=some (.int .u8 (p2:Int)) by
     have h1:=kab hb (kad hqA) hqA;exact ⟨by rw [kaa h1];rfl,by rw [kaa h1];rfl⟩)
    clear hF hwA hbA hqA;refine kaj (S:=fun W=>W.cell? ⟨q,0,none⟩=some (.int .u8 (p1:Int))∧W.cell? ⟨q,1,none⟩=some (.int .u8 (p2:Int))) (by kernel_rfl) (HS1.out wA.drew (Below.refl _ _).drew) (fun hHeld=>?_);have hbz:Below wA.heap.size wA wA.drew:=(Below.refl _ _).drew;generalize wA.drew=wz at hbz hHeld ⊢;simp only [List.toList_toArray,len,kat]
    iterate 14 (refine tz 0 ?_;simp only [Act.put,s1,s2,s3])
    refine wpAnyH_done (by kernel_rfl) ?_ _
    try simp only [Exit.then]
    have HBz:=hdd (HBA.out.next hbz);have HOz:=hdd (HOA.out.grow hbz);clear hHeld hbz t1 t2 w1' w2' w3' w4'
    go_upto_region 12 with fail
    have hiM:i<M.length:=by have:=HMl2.out;omega
    have hkM:k<M.length:=by have:=HMl2.out;omega
    obtain ⟨xi,hxi⟩:∃x,M[i]=x:=⟨_,rfl⟩;obtain ⟨xk,hxk⟩:∃x,M[k]=x:=⟨_,rfl⟩;have HRi:=hdd (fun (W:World) (hb:Below wz.heap.size wz W)=>And.intro (show W.rangeAt g (i*18) xi.cells from hxi ▸ (HOz.out.grow hb).at hiM) (show W.rangeAt g (k*18) xk.cells from hxk ▸ (HOz.out.grow hb).at hkM));have HXi:=hdd (fun (W:World) (hb:Below wz.heap.size wz W)=>And.intro (show kba (Fr (.slice (some ⟨g,0,none⟩) l.length cg) NoB) xi.val xi.e W from (HOz.out.grow hb).safe xi (hxi ▸ List.getElem_mem hiM)) (show kba (Fr (.slice (some ⟨g,0,none⟩) l.length cg) NoB) xk.val xk.e W from (HOz.out.grow hb).safe xk (hxk ▸ List.getElem_mem hkM)));have HSw:=hdd (show ka2 ((M.set i xk).set k xi)=Rv.swapL (ka2 M) i k by rw [←hxi,←hxk];exact kp4 M hiM hkM);have hil':(i:Int)<(l.length:Int):=by omega
    have hkl':(k:Int)<(l.length:Int):=by omega
    clear hxi hxk;refine kdb [2,3,8,9,10,13,14,15] (S:=fun W=>W.rangeAt g (i*18) xi.cells∧W.rangeAt g (k*18) xk.cells) (by kernel_rfl) (HRi.out wz.drew (Below.refl _ _).drew) (fun hHeld=>?_);have hby:Below wz.heap.size wz wz.drew:=(Below.refl _ _).drew;generalize wz.drew=wy at hby hHeld ⊢;simp only [List.toList_toArray,len,kat]
    iterate 2 (refine tuT 2 rfl rfl rfl (by kernel_rfl) (fun _ _ _ h=>h) (by intro W;go_simp <;> with_reducible rfl) ?_;simp only [Act.put,s1,s2,s3])
    iterate 3 (refine tuT 8 rfl rfl rfl (by kernel_rfl) (fun _ _ _ h=>h) (by intro W;go_simp <;> with_reducible rfl) ?_;simp only [Act.put,s1,s2,s3])
    iterate 5 (refine tkT 0 rfl rfl rfl (by kernel_rfl) (fun _ _ _ h=>h) (by intro W hW;(try dsimp only at hW);go_simp <;> with_reducible rfl) (by assumption) ?_;simp only [Act.put,s1,s2,s3])
    (refine tkT (v:=.agg xk.arr) 7 rfl rfl rfl (by kernel_rfl) (fun _ _ _ h=>h) (fun W hW=>ka6 (cs:=xk.cells) rfl rfl rfl hW.2) (by assumption) ?_;simp only [Act.put,s1,s2,s3])
    (refine tkT (v:=.agg xi.arr) 11 rfl rfl rfl (by kernel_rfl) (fun _ _ _ h=>h) (fun W hW=>ka6 (cs:=xi.cells) rfl rfl rfl hW.1) (by assumption) ?_;simp only [Act.put,s1,s2,s3])
    (refine tkT 12 rfl rfl rfl (by kernel_rfl) (fun _ _ _ h=>h) (by intro W hW;(try dsimp only at hW);go_simp <;> with_reducible rfl) (by assumption) ?_;simp only [Act.put,s1,s2,s3])
    have hOy:=HOz.out.grow hby;obtain ⟨hXi,hXk⟩:=HXi.out wy hby;obtain ⟨cur,hcur,hcz,-⟩:=hOy.block;have hMl3:=HMl2.out;refine kau (rs:=[13]) (by kernel_rfl) (by simp) ?_;refine kao.last rfl rfl (fun K hK=>?_);refine kdm rfl 45 _ _ rfl g (i*18) xk.arr (by first|rfl|(simp;done)) rfl cur 45 hcur (by show i*18+18≤cur.size;omega) (by kernel_rfl) (EvX.flat hXk.is) ?_;intro w8 hw8 hk8;have hO8:=hOy.set (.inl rfl) (i:=i) hiM hXk hcur hw8 hk8;have hXi8:kba (Fr (.slice (some ⟨g,0,none⟩) l.length cg) NoB) xi.val xi.e w8:=hXi.step hk8.size (fun q hq hn=>hk8.block q hq (fun e=>hn (.inl (by have:q=g:=e;rw [this];rfl)))) (fun _ h=>.inl h);refine hK.out _ _ ?_;clear hHeld;clear hK K
    try simp only [Act.put,s1,s2,s3,s4,s5,s6]
    (refine tuT 14 rfl rfl rfl (by kernel_rfl) (fun _ _ _ h=>h) (by intro W;go_simp <;> with_reducible rfl) ?_;simp only [Act.put,s1,s2,s3])
    refine kau (rs:=[15]) (by kernel_rfl) (by simp) ?_;refine kao.last rfl rfl (fun K hK=>?_);obtain ⟨cur8,hcur8,hcz8,-⟩:=hO8.block;refine kdm rfl 45 _ _ rfl g (k*18) xi.arr (by first|rfl|(simp;done)) rfl cur8 45 hcur8 (by show k*18+18≤cur8.size;rw [List.length_set] at hcz8;omega) (by kernel_rfl) (EvX.flat hXi8.is) ?_;intro w9 hw9 hk9;have hO9:=hO8.set (.inl rfl) (i:=k) (by rw [List.length_set];exact hkM) hXi8 hcur8 hw9 hk9;have hg4:w4.heap.size≤g:=(HO.out.row.lt g rfl).1;have hb8:Below w4.heap.size w4 w8:=(HBz.out.next hby).trans (hk8.below ((HBz.out.next hby).size) (fun q hq e=>by have:q=g:=e;omega));have hb9:Below w4.heap.size w4 w9:=hb8.trans (hk9.below hb8.size (fun q hq e=>by have:q=g:=e;omega));have HO9:=hdd hO9;have HB9:=hdd hb9;refine hK.out _ _ ?_;clear hK K
    try simp only [Act.put,s1,s2,s3,s4,s5,s6]
    clear hO9 hb9 hb8 hO8 hXi8 hw8 hk8 hw9 hk9 hcur hcz hcur8 hcz8 hOy hXi hXk hby hMl3;refine kb6 (by kernel_rfl) ?_ _
    try simp only [Exit.then]
    go_wp2_with fail
    have hF:∃(j2:Nat) (M2:List EvX),j2≤Pr.length∧(Value.int .i64 ((j+1:Nat):Int)) = .int .i64 j2∧M2.length=l.length∧Rv.Shuf (ka2 M2) l∧Below w4.heap.size w4 w9∧ka1 w4.heap.size (Fr (.slice (some ⟨g,0,none⟩) l.length cg) NoB) (.slice (some ⟨g,0,none⟩) l.length cg) M2 w9:=⟨j+1,(M.set i xk).set k xi,by omega,rfl,by rw [List.length_set,List.length_set];exact HMl2.out,by rw [HSw.out];exact HSh.out.swap hil hkl,HB9.out,HO9.out⟩;refine ⟨?_,?_⟩
    ·first|exact hF|((repeat apply Exists.intro);exact ⟨hF,rfl⟩)
    ·simp [intOf];omega
   ·have d0:¬ ((j:Int)<(Pr.length:Int)):=by omega
    obtain ⟨m,hm⟩:∃m,ka2 M=m:=⟨_,rfl⟩;have hml:m.length=l.length:=by rw [←hm,kbd];exact HMl2.out
    have hmI:kbt (.slice (some ⟨g,0,none⟩) l.length cg) m wr:=by rw [←hm];exact HO.out.is (by have:=HMl2.out;omega)
    have HMI:=hdd (fun (W:World) (hb:Below wr.heap.size wr W)=>hmI.below hb);have hao:=Rv.any_order (hm ▸ HSh.out) HOr.out;have HAo:=hdd hao;have HLI:=hdd (fun (W:World) (hb:Below wr.heap.size wr W)=>HI.out W (HB24.out.next (HB.out.next hb)));have HNm:Hid (khn (.slice (some ⟨g,0,none⟩) l.length cg)):=hdd (fun n c e=>by cases e);have HMl4:=hdd hml;clear hm hml hmI hao;obtain ⟨hs1,hs2,-⟩:=HAo.out
    go_upto_region 15 with (first
     |(go_at_call 15
       go_loud (
       refine (kfm _ l w5 H5.out (HTb.out _ HB5.out)).mono ?_;rintro en w6x ⟨hb6,vp,vk,vdc,vq,rfl,hst⟩;obtain ⟨ap,cp,rfl⟩:=kag hst.1;obtain ⟨ak,ck,rfl⟩:=kag hst.2.1;obtain ⟨ac,cc,rfl⟩:=kag hst.2.2.1;obtain ⟨aq',cq',rfl⟩:=kag hst.2.2.2;have HSt:=hdd hst.rd;have HB6x:=hdd (HB5.out.next hb6);have HBr6x:=hdd (HBr5.out.next hb6);clear hst hb6))
     |(go_at_call 16
       go_loud (
       refine (kcq _ l wr (HLI.out wr (Below.refl _ _)) HNc.out).mono ?_;rintro en w5 ⟨v5,M5,rfl,h5,hM5,hb5⟩;have hM:M5.length≤100000:=by rw [←kbd,hM5];omega
       have h5':kbt v5 l w5:=hM5 ▸ h5.is hM;obtain ⟨a5,c5,rfl⟩:=h5'.form;have H5:=hdd h5';have HB5:=hdd (HBw.out.next hb5);have HBr5:=hdd hb5;clear h5 hM5 hb5 h5' hM))
     |fail)
    have hF:∀W,W=w6x.alloc (.cells #[.slice ap (Rv.foldE l).1.people.length cp,.slice ak (Rv.foldE l).1.packs.length ck,.slice ac (Rv.foldE l).1.decs.length cc,.slice aq' (Rv.foldE l).1.disps.length cq'] 34)→Below w6x.heap.size w6x W∧W.heap[w6x.heap.size]? = some (.cells #[.slice ap (Rv.foldE l).1.people.length cp,.slice ak (Rv.foldE l).1.packs.length ck,.slice ac (Rv.foldE l).1.decs.length cc,.slice aq' (Rv.foldE l).1.disps.length cq'] 34 (0,0)):=by
     rintro _ rfl;exact ⟨(Below.refl _ _).alloc (Nat.le_refl _) _,kai _ _⟩
    obtain ⟨t6,ht6⟩:∃t,w6x.heap.size=t:=⟨_,rfl⟩;generalize hw6:w6x.alloc (.cells #[.slice ap (Rv.foldE l).1.people.length cp,.slice ak (Rv.foldE l).1.packs.length ck,.slice ac (Rv.foldE l).1.decs.length cc,.slice aq' (Rv.foldE l).1.disps.length cq'] 34)=w6;obtain ⟨hb6,hT6⟩:=hF w6 hw6.symm;rw [ht6] at hT6 ⊢;have HT6:=hdd (fun (W:World) (hb:Below w6.heap.size w6 W)=>kab hb (kad hT6) hT6);have HB6:=hdd (HB6x.out.next hb6);have HBr6:=hdd (HBr6x.out.next hb6);have HSt6:=hdd (HSt.out.below hb6);have HS1:=hdd hs1;have HS2:=hdd hs2;clear hF ht6 hw6 hb6 hT6 HSt hs1 hs2
    go_upto_region 16 with (first
     |(go_at_call 15
       go_loud (
       refine (kfm _ m w7 H7.out (HTb.out _ HB7.out)).mono ?_;rintro en w8x ⟨hb8,yp,yk,yd,yq,rfl,hst⟩;rw [HS1.out] at hst;rw [HS2.out];obtain ⟨ap8,cp8,rfl⟩:=kag hst.1;obtain ⟨ak8,ck8,rfl⟩:=kag hst.2.1;obtain ⟨ac8,cc8,rfl⟩:=kag hst.2.2.1;obtain ⟨aq8,cq8,rfl⟩:=kag hst.2.2.2;have HSt:=hdd hst.rd;have HB8x:=hdd (HB7.out.next hb8);have HB68x:=hdd (HB67.out.next hb8);clear hst hb8))
     |(go_at_call 16
       go_loud (
       refine (kcq _ m w6 (HMI.out w6 HBr6.out) HNm.out).mono ?_;rintro en w7 ⟨v7,M7,rfl,h7,hM7,hb7⟩;have hM:M7.length≤100000:=by rw [←kbd,hM7,HMl4.out];omega
       have h7':kbt v7 m w7:=hM7 ▸ h7.is hM;obtain ⟨a7,c7,rfl⟩:=h7'.form;have H7:=hdd h7';have HB7:=hdd (HB6.out.next hb7);have HB67:=hdd hb7;clear h7 hM7 hb7 h7' hM))
     |fail)
    have hF:∀W,W=w8x.alloc (.cells #[.slice ap8 (Rv.foldE l).1.people.length cp8,.slice ak8 (Rv.foldE l).1.packs.length ck8,.slice ac8 (Rv.foldE l).1.decs.length cc8,.slice aq8 (Rv.foldE l).1.disps.length cq8] 34)→Below w8x.heap.size w8x W∧W.heap[w8x.heap.size]? = some (.cells #[.slice ap8 (Rv.foldE l).1.people.length cp8,.slice ak8 (Rv.foldE l).1.packs.length ck8,.slice ac8 (Rv.foldE l).1.decs.length cc8,.slice aq8 (Rv.foldE l).1.disps.length cq8] 34 (0,0)):=by
     rintro _ rfl;exact ⟨(Below.refl _ _).alloc (Nat.le_refl _) _,kai _ _⟩
    obtain ⟨t8,ht8⟩:∃t,w8x.heap.size=t:=⟨_,rfl⟩;generalize hw8:w8x.alloc (.cells #[.slice ap8 (Rv.foldE l).1.people.length cp8,.slice ak8 (Rv.foldE l).1.packs.length ck8,.slice ac8 (Rv.foldE l).1.decs.length cc8,.slice aq8 (Rv.foldE l).1.disps.length cq8] 34)=w8;obtain ⟨hb8,hT8⟩:=hF w8 hw8.symm;rw [ht8] at hT8 ⊢;have HB8:=hdd (HB8x.out.next hb8);have HBr8:=hdd (HBr6.out.next (HB68x.out.next hb8));have HT8:=hdd hT8;have HT68:=hdd (HT6.out w8 (HB68x.out.next hb8));have HSs:=hdd (kpa (Rv.foldE l).1 _ _ _ _ _ _ _ _ w8 (HSt6.out.below (HB68x.out.next hb8)) (HSt.out.below hb8));clear hF ht8 hw8 hb8 hT8;obtain ⟨-,-,hfin⟩:=HAo.out
    go_upto_region 18 with (first
     |(refine kbn rfl 34 _ rfl t6 0 rfl [.slice ap (Rv.foldE l).1.people.length cp,.slice ak (Rv.foldE l).1.packs.length ck,.slice ac (Rv.foldE l).1.decs.length cc,.slice aq' (Rv.foldE l).1.disps.length cq'] _ (kap HT68.out) rfl rfl (by kernel_rfl) ?_)
     |(refine kbn rfl 34 _ rfl t8 0 rfl [.slice ap8 (Rv.foldE l).1.people.length cp8,.slice ak8 (Rv.foldE l).1.packs.length ck8,.slice ac8 (Rv.foldE l).1.decs.length cc8,.slice aq8 (Rv.foldE l).1.disps.length cq8] _ (kap HT8.out) rfl rfl (by kernel_rfl) ?_)
     |(go_at_call 18
       go_loud (
       refine HSs.out.mono ?_;rintro en w9 ⟨rfl,hb9⟩;have HB9:=hdd (HB8.out.next hb9);have HBr9:=hdd (HBr8.out.next hb9);clear hb9))
     |fail)
    rcases hfin with ⟨f1,f2,f3⟩|⟨f1,i,k,hil,hkl,f2,f3,f4⟩
    ·rw [f1,f2,f3]
     clear f1 f2 f3
     go_wp2_with fail
     go_ret
     exact ⟨rfl,HB9.out⟩
    rw [f2,f3];have q0:((Rv.foldE l).2.2 == 0)=false:=beq_eq_false_iff_ne.2 f1
    go_upto_region 20 with fail
    clear q0 f1 f2 f3;obtain ⟨b,off,rfl,hbl,na,nc,ta,tc,sa,sc,ha,hc,ra,rc,hE,hA⟩:=(HLI.out w9 HBr9.out).at hil;obtain ⟨b',off',e',hbl',na',nc',ta',tc',sa',sc',ha',hc',ra',rc',hE',hA'⟩:=(HMI.out w9 HBr9.out).at (i:=k) (by rw [HMl4.out];exact hkl)
    cases e';rw [f4] at hE' hA';obtain ⟨e,he⟩:∃e,l.getD i Rv.ev0=e:=⟨_,rfl⟩;rw [he] at hE hA hE' hA';rw [Nat.zero_add] at hA';have hil':(i:Int)<(l.length:Int):=by omega
    have hkl':(k:Int)<(l.length:Int):=by omega
    have hi0:(0:Int)≤(i:Int):=by omega
    have hk0:(0:Int)≤(k:Int):=by omega
    have HEE:=hdd (fun (W:World) (hB:Below w9.heap.size w9 W)=>And.intro (hE.below hB) (hE'.below hB));have HRR:=hdd (fun (W:World) (hB:Below w9.heap.size w9 W)=>And.intro (kbo hA hB hbl) (kbo hA' hB hbl'));clear hE hE' hA hA' he f4;refine kaj (S:=fun W=>W.rangeAt b (off+i*18) (evS e na nc ta tc sa sc ha hc ra rc).toList∧W.rangeAt g (k*18) (evS e na' nc' ta' tc' sa' sc' ha' hc' ra' rc').toList) (by kernel_rfl) (HRR.out w9.drew (Below.refl _ _).drew) (fun hHeld=>?_);have hbz:Below w9.heap.size w9 w9.drew:=(Below.refl _ _).drew;generalize w9.drew=wz at hbz hHeld ⊢;simp only [List.toList_toArray,len,kat]
    iterate 22 (refine tz 0 ?_;simp only [Act.put,s1,s2,s3])
    (refine tkx 22 (.agg (evS e na nc ta tc sa sc ha hc ra rc)) rfl rfl (by kernel_rfl) (fun _ _ _ h=>h) (by assumption) (fun W hW=>ka6 rfl rfl rfl hW.1) ?_;simp only [Act.put,s1,s2,s3])
    iterate 3 (refine tz 23 ?_;simp only [Act.put,s1,s2,s3])
    (refine tkx 26 (.agg (evS e na' nc' ta' tc' sa' sc' ha' hc' ra' rc')) rfl rfl (by kernel_rfl) (fun _ _ _ h=>h) (by assumption) (fun W hW=>ka6 rfl rfl rfl hW.2) ?_;simp only [Act.put,s1,s2,s3])
    refine ar2 27 (by kernel_rfl) rfl (fun K hK=>?_);go_simp
    refine (kiv _ _ e wz (HEE.out _ hbz).1 (HEE.out _ hbz).2).mono ?_;rintro en w10 ⟨rfl,hb10⟩;have hbz10:=hbz.next hb10;have HB10:=hdd (HB9.out.next hbz10);clear hHeld;refine hK.out _ _ (HRR.out _ hbz10) (fun hHeld=>?_);clear hK K
    try simp only [Act.put,s1,s2,s3,s4,s5,s6]
    clear hbz hb10 hbz10
    iterate 2 (refine tz 28 ?_;simp only [Act.put,s1,s2,s3])
    refine wpAnyH_done (by kernel_rfl) ?_ _
    try simp only [Exit.then]
    clear hHeld
    go_wp2_with fail
    go_ret
    exact ⟨rfl,HB10.out⟩
end Go.Proofs.YtknpbekoenbphaaGreatDoor
