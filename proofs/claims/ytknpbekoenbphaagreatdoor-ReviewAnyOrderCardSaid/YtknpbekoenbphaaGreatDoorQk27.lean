/- Parts of the proofs: WkRs2, WkRs3, WkRvR. No condition beyond those at each theorem. -/
import Derived.Test.YtknpbekoenbphaaGreatDoorQk26
set_option linter.unusedVariables false
set_option linter.unusedSimpArgs false
set_option maxHeartbeats 16000000
set_option maxRecDepth 100000
namespace Go.Proofs.YtknpbekoenbphaaGreatDoor
open Go Go.RowKit Licit
def khn (p:Value):Prop:=∀n c,p = .slice none n c→c=0
theorem khn.own {w:World} {base:Nat} {e:TypeId} {size:Nat} {v:Value} {n:Nat} {xs:List Value} (h:w.ownsRow base e size v n xs):khn v:=by
 rcases h.2 with ⟨rfl,_⟩|⟨g,cap,cur,rfl,_⟩
 ·intro n c e;cases e;rfl
 ·intro n c e;cases e
def kjt (xs:List Bs) (s:Bs):List Bs:=if Rv.posR id s xs<xs.length∧xs.getD (Rv.posR id s xs) []=s then xs else xs.take (Rv.posR id s xs)++s :: xs.drop (Rv.posR id s xs)
theorem kxx {xs:List Bs} {s:Bs} {k:Nat} (hk:k<xs.length) (h1:∀j,j<k→Rv.ltB (xs.getD j []) s=true) (h2:xs.getD k []=s):kjt xs s=xs:=by
 have hp:Rv.posR id s xs=k:=Rv.posR_is (Nat.le_of_lt hk) (fun j hj hjk=>by have:=h1 j hjk;rw [List.getD_eq_getElem?_getD,List.getElem?_eq_getElem hj] at this;exact this) (fun h=>by
  rw [List.getD_eq_getElem?_getD,List.getElem?_eq_getElem hk] at h2;have h3:xs[k]=s:=h2;show Rv.ltB xs[k] s=false;rw [h3,Rv.ltB_irr])
 unfold kjt;rw [hp,if_pos ⟨hk,h2⟩]
theorem kon {xs:List Bs} {s:Bs} {k:Nat} (hk:k≤xs.length) (h1:∀j,j<k→Rv.ltB (xs.getD j []) s=true) (h2:k<xs.length→Rv.ltB (xs.getD k []) s=false∧xs.getD k []≠s):kjt xs s=xs.take k++s :: xs.drop k:=by
 have hp:Rv.posR id s xs=k:=Rv.posR_is hk (fun j hj hjk=>by have:=h1 j hjk;rw [List.getD_eq_getElem?_getD,List.getElem?_eq_getElem hj] at this;exact this) (fun h=>by
  have h3:=(h2 h).1;rw [List.getD_eq_getElem?_getD,List.getElem?_eq_getElem h] at h3;exact h3)
 unfold kjt;rw [hp,if_neg (fun h=>(h2 h.1).2 h.2)]
theorem kd7 {base g:Nat} (W:World) (T:TypeId) (hg:g=W.heap.size) (h:base≤g):(W.alloc (.cells #[] T)).ownsRow base T 1 (.slice (some ⟨g,0,none⟩) 0 0) 0 [] :=
 ⟨rfl,.inr ⟨_,0,#[],rfl,h,kak hg rfl,Nat.le_refl _,by unfold maxLen;omega,rfl,rfl⟩⟩
theorem kc3 {P:Program} {w:World} {K:Act→World→Prop} {Q:Exit→Act→World→Prop} {ops:Array Oper} {o:Oper} {a:Act} {E:Prop} (hgd:o.guard=none) (s x:Operand) (t:TypeId)
 (ho:o.op = .call { callee:=.builtin .append,args:=#[s,x],argTypes:=#[t,t] })
 (base:Nat) (e:TypeId) (i:TypeInfo) (size:Nat) (ht:P.underlying t=some (.slice e)) (hi:P.info? e=some i)
 (v:Value) (n:Nat) (xs:List Value) (hs:a.eval s=v) (hown:w.ownsRow base e size v n xs) (hx:a.eval x = .slice none 0 0)
 (h:K (a.put o.dst v) w):if Region.wanted o (yielded ops a.tmps)=true then Oper.wp P o a w K Q else E:=by
 rw [if_pos (by simp [Region.wanted,hgd])];have hrun:=run_append_owned_none (P:=P) (w:=w) base t o.type e i size ht hi v n xs hown;unfold Oper.wp;simp [execOp,ho,resolve,invoke,builtin,hs,hx,hrun,Result.andThen];exact h
theorem koz (b o k j:Nat):(Addr.mk b (o+k) none).add j=(Addr.mk b o none).add (k+j):=by
 rw [Addr.add_lit,Addr.add_lit,Nat.add_assoc]
theorem kc2 (xs:List Bs):∀u∈xs.map vS,u.oneCell'=true:=by
 intro u hu;obtain ⟨x,_,rfl⟩:=List.mem_map.1 hu;rfl
theorem kfq {xs:List Bs} {k j:Nat} {u:Value} (h:((xs.take k).map vS)[j]? = some u):(xs.map vS)[j]? = some u:=by
 rw [List.map_take] at h;rcases Nat.lt_or_ge j k with c|c
 ·rwa [List.getElem?_take_of_lt c] at h
 ·rw [List.getElem?_take_eq_none c] at h;cases h
def kno (v:Value) (xs R:List Bs) (w:World) (en:Ending) (w':World):Prop:=∃v',en = .returned v'∧((v'=v∧R=xs)∨w'.ownsRow w.heap.size 9 1 v' R.length (R.map vS))∧R.length≤xs.length+1∧Below w.heap.size w w'
theorem kf7 {w w':World} {u:Value} {xs R:List Bs} {s:Bs} {k n:Nat} {v:Value} (hR:xs.take k++s :: xs.drop k=R) (ho:w'.ownsRow w.heap.size 9 1 v n ([]++(xs.take k).map vS++[vS s]++(xs.drop k).map vS)) (hb:Below w.heap.size w w') (hk:k≤xs.length) :
 kno u xs R w (.returned v) w':=by
 have e:([]++(xs.take k).map vS++[vS s]++(xs.drop k).map vS)=R.map vS:=by rw [←hR];simp
 rw [e] at ho;have hl:R.length=xs.length+1:=by rw [←hR];simp;omega
 have hn:n=R.length:=by have:=ho.1;rw [List.length_map] at this;omega
 subst hn;exact ⟨_,rfl,.inr ho,by omega,hb⟩
theorem kkz {w w':World} {u:Value} {R:List Bs} {s:Bs} {n:Nat} {v:Value} (hR:[s]=R) (ho:w'.ownsRow w.heap.size 9 1 v n ([]++[vS s])) (hb:Below w.heap.size w w'):kno u [] R w (.returned v) w' :=
 kf7 (xs:=[]) (k:=0) (by rw [←hR];rfl) ho hb (Nat.le_refl _)
theorem kfp (v:Value) (xs:List Bs) (s:Bs) (w:World) (h:IsSl v (xs.map vS) w) (hcp:∀a n c,v = .slice a n c→n≤c) (hnil:khn v) (hm:xs.length≤100000) :
 Calls Tryz.prog 69 #[v,.string (B s)] w (kno v xs (kjt xs s) w):=by
 obtain ⟨i0,hi,hz0,hz1,hz2⟩:=info_parts Tryz.infoStr;have Hi:=hdd hi;have Hz0:=hdd hz0;have Hz1:=hdd hz1;have Hz2:=hdd hz2;clear hi hz0 hz1 hz2;obtain ⟨a,cap,rfl⟩:=h.formMap;have hcl:xs.length≤cap:=hcp _ _ _ rfl
 have hcase:(∃ad,a=some ad∧Hid (∀W,Below w.heap.size w W→∀j u,(xs.map vS)[j]? = some u→W.cell? (ad.add j)=some u))∨(a=none∧xs=[]∧cap=0):=by
  rcases h.2 with ⟨a',cap',e,hx⟩|⟨b,off,cap',e,h0,hc⟩
  ·obtain rfl:xs=[]:=by simpa using hx
   cases a with
   |none=>exact .inr ⟨rfl,rfl,hnil _ _ rfl⟩
   |some ad=>exact .inl ⟨ad,rfl,hdd fun W _ j u hu=>by simp at hu⟩
  ·simp only [Value.slice.injEq] at e
   obtain ⟨rfl,_,rfl⟩:=e;exact .inl ⟨_,rfl,hdd fun W hb=>krw (h.below hb) rfl (by rw [List.length_map])⟩
 have HC:=hdd hcase;have HNil:=hdd hnil;have H:=hdd h;obtain ⟨R,hR⟩:∃R,kjt xs s=R:=⟨_,rfl⟩;rw [hR];have HR:=hdd hR;clear h hR hcase hnil hcp
 go_enter Tryz.func69,Tryz.ntmps69
 go_wp2
 go_loopw [5] (fun n wr=>wr=w∧∃k:Nat,k≤xs.length∧n = .int .i64 k∧∀j,j<k→Rv.ltB (xs.getD j []) s=true) (fun n _=>xs.length - (intOf n).toNat)
 case atStart=>exact ⟨rfl,0,by omega,rfl,fun j hj=>by omega⟩
 case round =>
  obtain ⟨rfl,k,hk,rfl,hA⟩:=hrel;have HA:=hdd hA;clear hA
  by_cases hlt:k<xs.length
  ·have h2:=H.out
   obtain ⟨b,off,cap',hv,hb,hc⟩:=h2.text rfl hlt;simp only [Value.slice.injEq,true_and] at hv;obtain ⟨rfl,rfl⟩:=hv;obtain ⟨x,hx⟩:∃x,xs.getD k []=x:=⟨_,rfl⟩;rw [hx] at hc;have HX:=hdd hx;clear hx h2
   by_cases c2:Rv.ltB x s=true
   ·have hl:Op.bytesLess (B x).toList (B s).toList=true:=(kcc x s).trans c2
    have HE:=hdd c2;clear c2
    go_wp2
    go_roundw
    case rel=>exact ⟨trivial,k+1,by omega,by go_num,fun j hj=>by
     rcases Nat.lt_or_ge j k with c|c
     ·exact HA.out j c
     ·obtain rfl:j=k:=by omega
      rw [HX.out];exact HE.out⟩
    case measure=>simp [intOf];omega
   ·have c3:Rv.ltB x s=false:=by simpa using c2
    have hl:Op.bytesLess (B x).toList (B s).toList=false:=(kcc x s).trans c3;have HE:=hdd c3;clear c2 c3
    by_cases he:x=s
    ·have q:((B x).toList == (B s).toList)=true:=by rw [he];exact kbx s
     have HE2:=hdd he;clear he
     go_wp2
     go_ret
     have e:R=xs:=by rw [←HR.out,kxx hlt HA.out (HX.out.trans HE2.out)]
     exact ⟨_,rfl,.inl ⟨rfl,e⟩,by rw [e];omega,Below.refl _ _⟩
    ·have q:=kby he
     have HI:=hdd (show xs.take k++s :: xs.drop k=R by rw [←HR.out,kon hk HA.out (fun _=>by rw [HX.out];exact ⟨HE.out,he⟩)]);clear he;obtain ⟨ad,hae,HN⟩:=HC.out.resolve_right (by simp);obtain rfl:=Option.some.inj hae;clear hae
     go_wp2_with fail
     obtain ⟨ad3,h3⟩:∃ad3,(if cap=k then some (Addr.mk b off none) else some (Addr.mk b (off+k) none))=some ad3:=by split <;> exact ⟨_,rfl⟩
     have HN3:=hdd (fun W (hb:Below wr.heap.size wr W) j u (hu:((xs.drop k).map vS)[j]? = some u)=>show W.cell? (ad3.add j)=some u by
      rw [List.map_drop,List.getElem?_drop] at hu;have hjl:k+j<xs.length:=by have:=(List.getElem?_eq_some_iff.1 hu).1;simpa using this
      rw [if_neg (by omega)] at h3;rw [←Option.some.inj h3];first|rw [Addr.add_add]|rw [koz]
      exact HN.out W hb _ _ hu)
     have hkc:k≤cap:=by omega
     have H3:=hdd h3;clear h3;refine kaj (S:=fun _=>True) (by kernel_rfl) trivial (fun hHeld=>?_);have hb0:Below wr.heap.size wr wr.drew:=dr (Below.refl _ _);generalize wr.drew=w0 at hb0 ⊢;have hz0:=hb0.size;simp only [List.toList_toArray,len,kat]
     iterate 3 (refine tz 1 ?_;simp only [Act.put,s1,s2,s3])
     (refine tz 5 ?_;simp only [Act.put,s1,s2,s3])
     iterate 3 (refine tz 8 ?_;simp only [Act.put,s1,s2,s3])
     refine wpAnyH_ready (rs:=[0,6]) (by kernel_rfl) (by simp) ?_;refine AllReadyH.cons rfl (fun K hK=>?_) (ar1 rfl (fun K hK=>?_))
     ·go_simp
      have ho1:=kd7 (base:=wr.heap.size) (g:=w0.heap.size) (w0) 9 (by first|rfl|simp) (by omega);have hb1:=(hb0).alloc (hb0).size (.cells #[] 9);refine hK.out _ _ trivial (fun _=>?_);clear hK K
      try simp only [Act.put,s1,s2,s3,s4,s5,s6]
      refine wpAnyH_ready (rs:=[4,6]) (by kernel_rfl) (by simp) ?_;refine AllReadyH.cons rfl (fun K hK=>?_) (ar1 rfl (fun K hK=>?_))
      ·refine kaq rfl _ _ 39 rfl wr.heap.size 9 i0 (.string ⟨#[]⟩) 1 16 Tryz.underlying39 Hi.out Hz0.out Hz1.out Hz2.out rfl (by decide) _ 0 [] rfl (ho1) (Addr.mk b off none) k cap ((xs.take k).map vS) rfl (by rw [List.length_map,List.length_take,Nat.min_eq_left hk,Nat.mul_one]) (fun j u hu=>HN.out _ (hb1) j u (kfq hu)) (kc2 _) (by unfold maxLen;omega) (by omega) (hb1).size ?_
       intro v2 w2 ho2 hg2 _;have hb2:=(hb1).grown hg2 (hb1).size (fun q hq=>(World.ownsRow.lt ho1 q hq).1);refine hK.out _ _ trivial (fun _=>?_);clear hK K
       try simp only [Act.put,s1,s2,s3,s4,s5,s6]
       refine ar2 6 (by kernel_rfl) rfl (fun K hK=>?_)
       ·go_simp
        have hB3:=kak (w:=w2) (o:=.cells #[.string (B s)] 9) (k:=w2.heap.size) (by first|rfl|simp) rfl;have hb3:=(hb2).alloc (hb2).size (.cells #[.string (B s)] 9);have ho3:=(ho2).alloc (.cells #[.string (B s)] 9);refine hK.out _ _ trivial (fun _=>?_);clear hK K
        try simp only [Act.put,s1,s2,s3,s4,s5,s6]
        refine ar2 7 (by kernel_rfl) rfl (fun K hK=>?_)
        ·refine kaq rfl _ _ 39 rfl wr.heap.size 9 i0 (.string ⟨#[]⟩) 1 16 Tryz.underlying39 Hi.out Hz0.out Hz1.out Hz2.out rfl (by decide) _ (0+k) ([]++(xs.take k).map vS) rfl (ho3) ⟨w2.heap.size,0,none⟩ 1 1 [vS s] rfl rfl (kbj hB3) (by simp [vS,Value.oneCell']) (by unfold maxLen;omega) (by omega) (hb3).size ?_
         intro v4 w4 ho4 hg4 _;have hb4:=(hb3).grown hg4 (hb3).size (fun q hq=>(World.ownsRow.lt ho3 q hq).1);refine hK.out _ _ trivial (fun _=>?_);clear hK K
         try simp only [Act.put,s1,s2,s3,s4,s5,s6]
         refine ar2 11 (by kernel_rfl) rfl (fun K hK=>?_)
         ·refine kaq rfl _ _ 39 rfl wr.heap.size 9 i0 (.string ⟨#[]⟩) 1 16 Tryz.underlying39 Hi.out Hz0.out Hz1.out Hz2.out rfl (by decide) _ (0+k+1) ([]++(xs.take k).map vS++[vS s]) rfl (ho4) ad3 (xs.length - k) (cap - k) ((xs.drop k).map vS) (congrArg (fun z=>Value.slice z (xs.length - k) (cap - k)) H3.out) (by rw [List.length_map,List.length_drop,Nat.mul_one]) (fun j u hu=>HN3.out _ (hb4) j u hu) (kc2 _) (by unfold maxLen;omega) (by omega) (hb4).size ?_
          intro v5 w5 ho5 hg5 _;have hb5:=(hb4).grown hg5 (hb4).size (fun q hq=>(World.ownsRow.lt ho4 q hq).1);refine hK.out _ _ trivial (fun _=>?_);clear hK K
          try simp only [Act.put,s1,s2,s3,s4,s5,s6]
          (refine tk 12 rfl rfl rfl (by kernel_rfl) (fun _ _ _ h=>h) (by intro W hW;go_simp <;> with_reducible rfl) trivial ?_;simp only [Act.put,s1,s2,s3])
          refine wpAnyH_done (by kernel_rfl) ?_ _;simp only [Exit.then]
          go_wp2_with fail
          all_goals (go_ret;exact kf7 HI.out (ho5) (hb5) hk)
      ·go_simp
       have hB6:=kak (w:=(w0).alloc (.cells #[] 9)) (o:=.cells #[.string (B s)] 9) (k:=w0.heap.size+1) (by first|rfl|simp) rfl;have hb6:=(hb1).alloc (hb1).size (.cells #[.string (B s)] 9);have ho6:=(ho1).alloc (.cells #[.string (B s)] 9);have hne6:(w0.heap.size+1)≠w0.heap.size:=by omega
       refine hK.out _ _ trivial (fun _=>?_);clear hK K
       try simp only [Act.put,s1,s2,s3,s4,s5,s6]
       refine ar2 4 (by kernel_rfl) rfl (fun K hK=>?_)
       ·refine kaq rfl _ _ 39 rfl wr.heap.size 9 i0 (.string ⟨#[]⟩) 1 16 Tryz.underlying39 Hi.out Hz0.out Hz1.out Hz2.out rfl (by decide) _ 0 [] rfl (ho6) (Addr.mk b off none) k cap ((xs.take k).map vS) rfl (by rw [List.length_map,List.length_take,Nat.min_eq_left hk,Nat.mul_one]) (fun j u hu=>HN.out _ (hb6) j u (kfq hu)) (kc2 _) (by unfold maxLen;omega) (by omega) (hb6).size ?_
        intro v7 w7 ho7 hg7 _;have hb7:=(hb6).grown hg7 (hb6).size (fun q hq=>(World.ownsRow.lt ho6 q hq).1);have hB7:=(hg7.block (w0.heap.size+1) (kad hB6) (fun e=>hne6 (Option.some.inj e))).trans hB6;refine hK.out _ _ trivial (fun _=>?_);clear hK K
        try simp only [Act.put,s1,s2,s3,s4,s5,s6]
        refine ar2 7 (by kernel_rfl) rfl (fun K hK=>?_)
        ·refine kaq rfl _ _ 39 rfl wr.heap.size 9 i0 (.string ⟨#[]⟩) 1 16 Tryz.underlying39 Hi.out Hz0.out Hz1.out Hz2.out rfl (by decide) _ (0+k) ([]++(xs.take k).map vS) rfl (ho7) ⟨w0.heap.size+1,0,none⟩ 1 1 [vS s] rfl rfl (kbj hB7) (by simp [vS,Value.oneCell']) (by unfold maxLen;omega) (by omega) (hb7).size ?_
         intro v8 w8 ho8 hg8 _;have hb8:=(hb7).grown hg8 (hb7).size (fun q hq=>(World.ownsRow.lt ho7 q hq).1);refine hK.out _ _ trivial (fun _=>?_);clear hK K
         try simp only [Act.put,s1,s2,s3,s4,s5,s6]
         refine ar2 11 (by kernel_rfl) rfl (fun K hK=>?_)
         ·refine kaq rfl _ _ 39 rfl wr.heap.size 9 i0 (.string ⟨#[]⟩) 1 16 Tryz.underlying39 Hi.out Hz0.out Hz1.out Hz2.out rfl (by decide) _ (0+k+1) ([]++(xs.take k).map vS++[vS s]) rfl (ho8) ad3 (xs.length - k) (cap - k) ((xs.drop k).map vS) (congrArg (fun z=>Value.slice z (xs.length - k) (cap - k)) H3.out) (by rw [List.length_map,List.length_drop,Nat.mul_one]) (fun j u hu=>HN3.out _ (hb8) j u hu) (kc2 _) (by unfold maxLen;omega) (by omega) (hb8).size ?_
          intro v9 w9 ho9 hg9 _;have hb9:=(hb8).grown hg9 (hb8).size (fun q hq=>(World.ownsRow.lt ho8 q hq).1);refine hK.out _ _ trivial (fun _=>?_);clear hK K
          try simp only [Act.put,s1,s2,s3,s4,s5,s6]
          (refine tk 12 rfl rfl rfl (by kernel_rfl) (fun _ _ _ h=>h) (by intro W hW;go_simp <;> with_reducible rfl) trivial ?_;simp only [Act.put,s1,s2,s3])
          refine wpAnyH_done (by kernel_rfl) ?_ _;simp only [Exit.then]
          go_wp2_with fail
          all_goals (go_ret;exact kf7 HI.out (ho9) (hb9) hk)
     ·go_simp
      have hB10:=kak (w:=w0) (o:=.cells #[.string (B s)] 9) (k:=w0.heap.size) (by first|rfl|simp) rfl;have hb10:=(hb0).alloc (hb0).size (.cells #[.string (B s)] 9);refine hK.out _ _ trivial (fun _=>?_);clear hK K
      try simp only [Act.put,s1,s2,s3,s4,s5,s6]
      refine ar2 0 (by kernel_rfl) rfl (fun K hK=>?_)
      ·go_simp
       have ho11:=kd7 (base:=wr.heap.size) (g:=w0.heap.size+1) ((w0).alloc (.cells #[.string (B s)] 9)) 9 (by first|rfl|simp) (by omega);have hb11:=(hb10).alloc (hb10).size (.cells #[] 9);have hB11:=kah (o':=.cells #[] 9) (hB10);have hne11:(w0.heap.size)≠w0.heap.size+1:=by omega
       refine hK.out _ _ trivial (fun _=>?_);clear hK K
       try simp only [Act.put,s1,s2,s3,s4,s5,s6]
       refine ar2 4 (by kernel_rfl) rfl (fun K hK=>?_)
       ·refine kaq rfl _ _ 39 rfl wr.heap.size 9 i0 (.string ⟨#[]⟩) 1 16 Tryz.underlying39 Hi.out Hz0.out Hz1.out Hz2.out rfl (by decide) _ 0 [] rfl (ho11) (Addr.mk b off none) k cap ((xs.take k).map vS) rfl (by rw [List.length_map,List.length_take,Nat.min_eq_left hk,Nat.mul_one]) (fun j u hu=>HN.out _ (hb11) j u (kfq hu)) (kc2 _) (by unfold maxLen;omega) (by omega) (hb11).size ?_
        intro v12 w12 ho12 hg12 _;have hb12:=(hb11).grown hg12 (hb11).size (fun q hq=>(World.ownsRow.lt ho11 q hq).1);have hB12:=(hg12.block (w0.heap.size) (kad hB11) (fun e=>hne11 (Option.some.inj e))).trans hB11;refine hK.out _ _ trivial (fun _=>?_);clear hK K
        try simp only [Act.put,s1,s2,s3,s4,s5,s6]
        refine ar2 7 (by kernel_rfl) rfl (fun K hK=>?_)
        ·refine kaq rfl _ _ 39 rfl wr.heap.size 9 i0 (.string ⟨#[]⟩) 1 16 Tryz.underlying39 Hi.out Hz0.out Hz1.out Hz2.out rfl (by decide) _ (0+k) ([]++(xs.take k).map vS) rfl (ho12) ⟨w0.heap.size,0,none⟩ 1 1 [vS s] rfl rfl (kbj hB12) (by simp [vS,Value.oneCell']) (by unfold maxLen;omega) (by omega) (hb12).size ?_
         intro v13 w13 ho13 hg13 _;have hb13:=(hb12).grown hg13 (hb12).size (fun q hq=>(World.ownsRow.lt ho12 q hq).1);refine hK.out _ _ trivial (fun _=>?_);clear hK K
         try simp only [Act.put,s1,s2,s3,s4,s5,s6]
         refine ar2 11 (by kernel_rfl) rfl (fun K hK=>?_)
         ·refine kaq rfl _ _ 39 rfl wr.heap.size 9 i0 (.string ⟨#[]⟩) 1 16 Tryz.underlying39 Hi.out Hz0.out Hz1.out Hz2.out rfl (by decide) _ (0+k+1) ([]++(xs.take k).map vS++[vS s]) rfl (ho13) ad3 (xs.length - k) (cap - k) ((xs.drop k).map vS) (congrArg (fun z=>Value.slice z (xs.length - k) (cap - k)) H3.out) (by rw [List.length_map,List.length_drop,Nat.mul_one]) (fun j u hu=>HN3.out _ (hb13) j u hu) (kc2 _) (by unfold maxLen;omega) (by omega) (hb13).size ?_
          intro v14 w14 ho14 hg14 _;have hb14:=(hb13).grown hg14 (hb13).size (fun q hq=>(World.ownsRow.lt ho13 q hq).1);refine hK.out _ _ trivial (fun _=>?_);clear hK K
          try simp only [Act.put,s1,s2,s3,s4,s5,s6]
          (refine tk 12 rfl rfl rfl (by kernel_rfl) (fun _ _ _ h=>h) (by intro W hW;go_simp <;> with_reducible rfl) trivial ?_;simp only [Act.put,s1,s2,s3])
          refine wpAnyH_done (by kernel_rfl) ?_ _;simp only [Exit.then]
          go_wp2_with fail
          all_goals (go_ret;exact kf7 HI.out (ho14) (hb14) hk)
  ·have hke:k=xs.length:=by omega
   have HI:=hdd (show xs.take k++s :: xs.drop k=R by rw [←HR.out,kon hk HA.out (fun h=>absurd h hlt)]);clear hke
   go_wp2_with fail
   rcases HC.out with ⟨ad,rfl,HN⟩|⟨rfl,rfl,rfl⟩
   ·skip
    obtain ⟨ad3,h3⟩:∃ad3,(if cap=k then some ad else some (ad.add k))=some ad3:=by split <;> exact ⟨_,rfl⟩
    have HN3:=hdd (fun W (hb:Below wr.heap.size wr W) j u (hu:((xs.drop k).map vS)[j]? = some u)=>show W.cell? (ad3.add j)=some u by
     rw [List.map_drop,List.getElem?_drop] at hu;have hjl:k+j<xs.length:=by have:=(List.getElem?_eq_some_iff.1 hu).1;simpa using this
     rw [if_neg (by omega)] at h3;rw [←Option.some.inj h3];first|rw [Addr.add_add]|rw [koz]
     exact HN.out W hb _ _ hu)
    have hkc:k≤cap:=by omega
    have H3:=hdd h3;clear h3;refine kaj (S:=fun _=>True) (by kernel_rfl) trivial (fun hHeld=>?_);have hb0:Below wr.heap.size wr wr.drew:=dr (Below.refl _ _);generalize wr.drew=w0 at hb0 ⊢;have hz0:=hb0.size;simp only [List.toList_toArray,len,kat]
    iterate 3 (refine tz 1 ?_;simp only [Act.put,s1,s2,s3])
    (refine tz 5 ?_;simp only [Act.put,s1,s2,s3])
    iterate 3 (refine tz 8 ?_;simp only [Act.put,s1,s2,s3])
    refine wpAnyH_ready (rs:=[0,6]) (by kernel_rfl) (by simp) ?_;refine AllReadyH.cons rfl (fun K hK=>?_) (ar1 rfl (fun K hK=>?_))
    ·go_simp
     have ho15:=kd7 (base:=wr.heap.size) (g:=w0.heap.size) (w0) 9 (by first|rfl|simp) (by omega);have hb15:=(hb0).alloc (hb0).size (.cells #[] 9);refine hK.out _ _ trivial (fun _=>?_);clear hK K
     try simp only [Act.put,s1,s2,s3,s4,s5,s6]
     refine wpAnyH_ready (rs:=[4,6]) (by kernel_rfl) (by simp) ?_;refine AllReadyH.cons rfl (fun K hK=>?_) (ar1 rfl (fun K hK=>?_))
     ·refine kaq rfl _ _ 39 rfl wr.heap.size 9 i0 (.string ⟨#[]⟩) 1 16 Tryz.underlying39 Hi.out Hz0.out Hz1.out Hz2.out rfl (by decide) _ 0 [] rfl (ho15) ad k cap ((xs.take k).map vS) rfl (by rw [List.length_map,List.length_take,Nat.min_eq_left hk,Nat.mul_one]) (fun j u hu=>HN.out _ (hb15) j u (kfq hu)) (kc2 _) (by unfold maxLen;omega) (by omega) (hb15).size ?_
      intro v16 w16 ho16 hg16 _;have hb16:=(hb15).grown hg16 (hb15).size (fun q hq=>(World.ownsRow.lt ho15 q hq).1);refine hK.out _ _ trivial (fun _=>?_);clear hK K
      try simp only [Act.put,s1,s2,s3,s4,s5,s6]
      refine ar2 6 (by kernel_rfl) rfl (fun K hK=>?_)
      ·go_simp
       have hB17:=kak (w:=w16) (o:=.cells #[.string (B s)] 9) (k:=w16.heap.size) (by first|rfl|simp) rfl;have hb17:=(hb16).alloc (hb16).size (.cells #[.string (B s)] 9);have ho17:=(ho16).alloc (.cells #[.string (B s)] 9);refine hK.out _ _ trivial (fun _=>?_);clear hK K
       try simp only [Act.put,s1,s2,s3,s4,s5,s6]
       refine ar2 7 (by kernel_rfl) rfl (fun K hK=>?_)
       ·refine kaq rfl _ _ 39 rfl wr.heap.size 9 i0 (.string ⟨#[]⟩) 1 16 Tryz.underlying39 Hi.out Hz0.out Hz1.out Hz2.out rfl (by decide) _ (0+k) ([]++(xs.take k).map vS) rfl (ho17) ⟨w16.heap.size,0,none⟩ 1 1 [vS s] rfl rfl (kbj hB17) (by simp [vS,Value.oneCell']) (by unfold maxLen;omega) (by omega) (hb17).size ?_
        intro v18 w18 ho18 hg18 _;have hb18:=(hb17).grown hg18 (hb17).size (fun q hq=>(World.ownsRow.lt ho17 q hq).1);refine hK.out _ _ trivial (fun _=>?_);clear hK K
        try simp only [Act.put,s1,s2,s3,s4,s5,s6]
        refine ar2 11 (by kernel_rfl) rfl (fun K hK=>?_)
        ·refine kaq rfl _ _ 39 rfl wr.heap.size 9 i0 (.string ⟨#[]⟩) 1 16 Tryz.underlying39 Hi.out Hz0.out Hz1.out Hz2.out rfl (by decide) _ (0+k+1) ([]++(xs.take k).map vS++[vS s]) rfl (ho18) ad3 (xs.length - k) (cap - k) ((xs.drop k).map vS) (congrArg (fun z=>Value.slice z (xs.length - k) (cap - k)) H3.out) (by rw [List.length_map,List.length_drop,Nat.mul_one]) (fun j u hu=>HN3.out _ (hb18) j u hu) (kc2 _) (by unfold maxLen;omega) (by omega) (hb18).size ?_
         intro v19 w19 ho19 hg19 _;have hb19:=(hb18).grown hg19 (hb18).size (fun q hq=>(World.ownsRow.lt ho18 q hq).1);refine hK.out _ _ trivial (fun _=>?_);clear hK K
         try simp only [Act.put,s1,s2,s3,s4,s5,s6]
         (refine tk 12 rfl rfl rfl (by kernel_rfl) (fun _ _ _ h=>h) (by intro W hW;go_simp <;> with_reducible rfl) trivial ?_;simp only [Act.put,s1,s2,s3])
         refine wpAnyH_done (by kernel_rfl) ?_ _;simp only [Exit.then]
         go_wp2_with fail
         all_goals (go_ret;exact kf7 HI.out (ho19) (hb19) hk)
     ·go_simp
      have hB20:=kak (w:=(w0).alloc (.cells #[] 9)) (o:=.cells #[.string (B s)] 9) (k:=w0.heap.size+1) (by first|rfl|simp) rfl;have hb20:=(hb15).alloc (hb15).size (.cells #[.string (B s)] 9);have ho20:=(ho15).alloc (.cells #[.string (B s)] 9);have hne20:(w0.heap.size+1)≠w0.heap.size:=by omega
      refine hK.out _ _ trivial (fun _=>?_);clear hK K
      try simp only [Act.put,s1,s2,s3,s4,s5,s6]
      refine ar2 4 (by kernel_rfl) rfl (fun K hK=>?_)
      ·refine kaq rfl _ _ 39 rfl wr.heap.size 9 i0 (.string ⟨#[]⟩) 1 16 Tryz.underlying39 Hi.out Hz0.out Hz1.out Hz2.out rfl (by decide) _ 0 [] rfl (ho20) ad k cap ((xs.take k).map vS) rfl (by rw [List.length_map,List.length_take,Nat.min_eq_left hk,Nat.mul_one]) (fun j u hu=>HN.out _ (hb20) j u (kfq hu)) (kc2 _) (by unfold maxLen;omega) (by omega) (hb20).size ?_
       intro v21 w21 ho21 hg21 _;have hb21:=(hb20).grown hg21 (hb20).size (fun q hq=>(World.ownsRow.lt ho20 q hq).1);have hB21:=(hg21.block (w0.heap.size+1) (kad hB20) (fun e=>hne20 (Option.some.inj e))).trans hB20;refine hK.out _ _ trivial (fun _=>?_);clear hK K
       try simp only [Act.put,s1,s2,s3,s4,s5,s6]
       refine ar2 7 (by kernel_rfl) rfl (fun K hK=>?_)
       ·refine kaq rfl _ _ 39 rfl wr.heap.size 9 i0 (.string ⟨#[]⟩) 1 16 Tryz.underlying39 Hi.out Hz0.out Hz1.out Hz2.out rfl (by decide) _ (0+k) ([]++(xs.take k).map vS) rfl (ho21) ⟨w0.heap.size+1,0,none⟩ 1 1 [vS s] rfl rfl (kbj hB21) (by simp [vS,Value.oneCell']) (by unfold maxLen;omega) (by omega) (hb21).size ?_
        intro v22 w22 ho22 hg22 _;have hb22:=(hb21).grown hg22 (hb21).size (fun q hq=>(World.ownsRow.lt ho21 q hq).1);refine hK.out _ _ trivial (fun _=>?_);clear hK K
        try simp only [Act.put,s1,s2,s3,s4,s5,s6]
        refine ar2 11 (by kernel_rfl) rfl (fun K hK=>?_)
        ·refine kaq rfl _ _ 39 rfl wr.heap.size 9 i0 (.string ⟨#[]⟩) 1 16 Tryz.underlying39 Hi.out Hz0.out Hz1.out Hz2.out rfl (by decide) _ (0+k+1) ([]++(xs.take k).map vS++[vS s]) rfl (ho22) ad3 (xs.length - k) (cap - k) ((xs.drop k).map vS) (congrArg (fun z=>Value.slice z (xs.length - k) (cap - k)) H3.out) (by rw [List.length_map,List.length_drop,Nat.mul_one]) (fun j u hu=>HN3.out _ (hb22) j u hu) (kc2 _) (by unfold maxLen;omega) (by omega) (hb22).size ?_
         intro v23 w23 ho23 hg23 _;have hb23:=(hb22).grown hg23 (hb22).size (fun q hq=>(World.ownsRow.lt ho22 q hq).1);refine hK.out _ _ trivial (fun _=>?_);clear hK K
         try simp only [Act.put,s1,s2,s3,s4,s5,s6]
         (refine tk 12 rfl rfl rfl (by kernel_rfl) (fun _ _ _ h=>h) (by intro W hW;go_simp <;> with_reducible rfl) trivial ?_;simp only [Act.put,s1,s2,s3])
         refine wpAnyH_done (by kernel_rfl) ?_ _;simp only [Exit.then]
         go_wp2_with fail
         all_goals (go_ret;exact kf7 HI.out (ho23) (hb23) hk)
    ·go_simp
     have hB24:=kak (w:=w0) (o:=.cells #[.string (B s)] 9) (k:=w0.heap.size) (by first|rfl|simp) rfl;have hb24:=(hb0).alloc (hb0).size (.cells #[.string (B s)] 9);refine hK.out _ _ trivial (fun _=>?_);clear hK K
     try simp only [Act.put,s1,s2,s3,s4,s5,s6]
     refine ar2 0 (by kernel_rfl) rfl (fun K hK=>?_)
     ·go_simp
      have ho25:=kd7 (base:=wr.heap.size) (g:=w0.heap.size+1) ((w0).alloc (.cells #[.string (B s)] 9)) 9 (by first|rfl|simp) (by omega);have hb25:=(hb24).alloc (hb24).size (.cells #[] 9);have hB25:=kah (o':=.cells #[] 9) (hB24);have hne25:(w0.heap.size)≠w0.heap.size+1:=by omega
      refine hK.out _ _ trivial (fun _=>?_);clear hK K
      try simp only [Act.put,s1,s2,s3,s4,s5,s6]
      refine ar2 4 (by kernel_rfl) rfl (fun K hK=>?_)
      ·refine kaq rfl _ _ 39 rfl wr.heap.size 9 i0 (.string ⟨#[]⟩) 1 16 Tryz.underlying39 Hi.out Hz0.out Hz1.out Hz2.out rfl (by decide) _ 0 [] rfl (ho25) ad k cap ((xs.take k).map vS) rfl (by rw [List.length_map,List.length_take,Nat.min_eq_left hk,Nat.mul_one]) (fun j u hu=>HN.out _ (hb25) j u (kfq hu)) (kc2 _) (by unfold maxLen;omega) (by omega) (hb25).size ?_
       intro v26 w26 ho26 hg26 _;have hb26:=(hb25).grown hg26 (hb25).size (fun q hq=>(World.ownsRow.lt ho25 q hq).1);have hB26:=(hg26.block (w0.heap.size) (kad hB25) (fun e=>hne25 (Option.some.inj e))).trans hB25;refine hK.out _ _ trivial (fun _=>?_);clear hK K
       try simp only [Act.put,s1,s2,s3,s4,s5,s6]
       refine ar2 7 (by kernel_rfl) rfl (fun K hK=>?_)
       ·refine kaq rfl _ _ 39 rfl wr.heap.size 9 i0 (.string ⟨#[]⟩) 1 16 Tryz.underlying39 Hi.out Hz0.out Hz1.out Hz2.out rfl (by decide) _ (0+k) ([]++(xs.take k).map vS) rfl (ho26) ⟨w0.heap.size,0,none⟩ 1 1 [vS s] rfl rfl (kbj hB26) (by simp [vS,Value.oneCell']) (by unfold maxLen;omega) (by omega) (hb26).size ?_
        intro v27 w27 ho27 hg27 _;have hb27:=(hb26).grown hg27 (hb26).size (fun q hq=>(World.ownsRow.lt ho26 q hq).1);refine hK.out _ _ trivial (fun _=>?_);clear hK K
        try simp only [Act.put,s1,s2,s3,s4,s5,s6]
        refine ar2 11 (by kernel_rfl) rfl (fun K hK=>?_)
        ·refine kaq rfl _ _ 39 rfl wr.heap.size 9 i0 (.string ⟨#[]⟩) 1 16 Tryz.underlying39 Hi.out Hz0.out Hz1.out Hz2.out rfl (by decide) _ (0+k+1) ([]++(xs.take k).map vS++[vS s]) rfl (ho27) ad3 (xs.length - k) (cap - k) ((xs.drop k).map vS) (congrArg (fun z=>Value.slice z (xs.length - k) (cap - k)) H3.out) (by rw [List.length_map,List.length_drop,Nat.mul_one]) (fun j u hu=>HN3.out _ (hb27) j u hu) (kc2 _) (by unfold maxLen;omega) (by omega) (hb27).size ?_
         intro v28 w28 ho28 hg28 _;have hb28:=(hb27).grown hg28 (hb27).size (fun q hq=>(World.ownsRow.lt ho27 q hq).1);refine hK.out _ _ trivial (fun _=>?_);clear hK K
         try simp only [Act.put,s1,s2,s3,s4,s5,s6]
         (refine tk 12 rfl rfl rfl (by kernel_rfl) (fun _ _ _ h=>h) (by intro W hW;go_simp <;> with_reducible rfl) trivial ?_;simp only [Act.put,s1,s2,s3])
         refine wpAnyH_done (by kernel_rfl) ?_ _;simp only [Exit.then]
         go_wp2_with fail
         all_goals (go_ret;exact kf7 HI.out (ho28) (hb28) hk)
   ·skip
    obtain rfl:k=0:=by simpa using hk
    refine kaj (S:=fun _=>True) (by kernel_rfl) trivial (fun hHeld=>?_);have hb0:Below wr.heap.size wr wr.drew:=dr (Below.refl _ _);generalize wr.drew=w0 at hb0 ⊢;have hz0:=hb0.size;simp only [List.toList_toArray,len,kat]
    iterate 3 (refine tz 1 ?_;simp only [Act.put,s1,s2,s3])
    (refine tz 5 ?_;simp only [Act.put,s1,s2,s3])
    iterate 3 (refine tz 8 ?_;simp only [Act.put,s1,s2,s3])
    refine wpAnyH_ready (rs:=[0,6]) (by kernel_rfl) (by simp) ?_;refine AllReadyH.cons rfl (fun K hK=>?_) (ar1 rfl (fun K hK=>?_))
    ·go_simp
     have ho29:=kd7 (base:=wr.heap.size) (g:=w0.heap.size) (w0) 9 (by first|rfl|simp) (by omega);have hb29:=(hb0).alloc (hb0).size (.cells #[] 9);refine hK.out _ _ trivial (fun _=>?_);clear hK K
     try simp only [Act.put,s1,s2,s3,s4,s5,s6]
     refine wpAnyH_ready (rs:=[4,6]) (by kernel_rfl) (by simp) ?_;refine AllReadyH.cons rfl (fun K hK=>?_) (ar1 rfl (fun K hK=>?_))
     ·refine kc3 rfl _ _ 39 rfl wr.heap.size 9 i0 1 Tryz.underlying39 Hi.out _ 0 [] rfl (ho29) rfl ?_
      refine hK.out _ _ trivial (fun _=>?_);clear hK K
      try simp only [Act.put,s1,s2,s3,s4,s5,s6]
      refine ar2 6 (by kernel_rfl) rfl (fun K hK=>?_)
      ·go_simp
       have hB31:=kak (w:=(w0).alloc (.cells #[] 9)) (o:=.cells #[.string (B s)] 9) (k:=w0.heap.size+1) (by first|rfl|simp) rfl;have hb31:=(hb29).alloc (hb29).size (.cells #[.string (B s)] 9);have ho31:=(ho29).alloc (.cells #[.string (B s)] 9);have hne31:(w0.heap.size+1)≠w0.heap.size:=by omega
       refine hK.out _ _ trivial (fun _=>?_);clear hK K
       try simp only [Act.put,s1,s2,s3,s4,s5,s6]
       refine ar2 7 (by kernel_rfl) rfl (fun K hK=>?_)
       ·refine kaq rfl _ _ 39 rfl wr.heap.size 9 i0 (.string ⟨#[]⟩) 1 16 Tryz.underlying39 Hi.out Hz0.out Hz1.out Hz2.out rfl (by decide) _ 0 [] rfl (ho31) ⟨w0.heap.size+1,0,none⟩ 1 1 [vS s] rfl rfl (kbj hB31) (by simp [vS,Value.oneCell']) (by unfold maxLen;omega) (by omega) (hb31).size ?_
        intro v32 w32 ho32 hg32 _;have hb32:=(hb31).grown hg32 (hb31).size (fun q hq=>(World.ownsRow.lt ho31 q hq).1);refine hK.out _ _ trivial (fun _=>?_);clear hK K
        try simp only [Act.put,s1,s2,s3,s4,s5,s6]
        refine ar2 11 (by kernel_rfl) rfl (fun K hK=>?_)
        ·refine kc3 rfl _ _ 39 rfl wr.heap.size 9 i0 1 Tryz.underlying39 Hi.out _ (0+1) ([]++[vS s]) rfl (ho32) rfl ?_
         refine hK.out _ _ trivial (fun _=>?_);clear hK K
         try simp only [Act.put,s1,s2,s3,s4,s5,s6]
         (refine tk 12 rfl rfl rfl (by kernel_rfl) (fun _ _ _ h=>h) (by intro W hW;go_simp <;> with_reducible rfl) trivial ?_;simp only [Act.put,s1,s2,s3])
         refine wpAnyH_done (by kernel_rfl) ?_ _;simp only [Exit.then]
         go_wp2_with fail
         all_goals (go_ret;exact kkz HI.out (ho32) (hb32))
     ·go_simp
      have hB34:=kak (w:=(w0).alloc (.cells #[] 9)) (o:=.cells #[.string (B s)] 9) (k:=w0.heap.size+1) (by first|rfl|simp) rfl;have hb34:=(hb29).alloc (hb29).size (.cells #[.string (B s)] 9);have ho34:=(ho29).alloc (.cells #[.string (B s)] 9);have hne34:(w0.heap.size+1)≠w0.heap.size:=by omega
      refine hK.out _ _ trivial (fun _=>?_);clear hK K
      try simp only [Act.put,s1,s2,s3,s4,s5,s6]
      refine ar2 4 (by kernel_rfl) rfl (fun K hK=>?_)
      ·refine kc3 rfl _ _ 39 rfl wr.heap.size 9 i0 1 Tryz.underlying39 Hi.out _ 0 [] rfl (ho34) rfl ?_
       refine hK.out _ _ trivial (fun _=>?_);clear hK K
       try simp only [Act.put,s1,s2,s3,s4,s5,s6]
       refine ar2 7 (by kernel_rfl) rfl (fun K hK=>?_)
       ·refine kaq rfl _ _ 39 rfl wr.heap.size 9 i0 (.string ⟨#[]⟩) 1 16 Tryz.underlying39 Hi.out Hz0.out Hz1.out Hz2.out rfl (by decide) _ 0 [] rfl (ho34) ⟨w0.heap.size+1,0,none⟩ 1 1 [vS s] rfl rfl (kbj hB34) (by simp [vS,Value.oneCell']) (by unfold maxLen;omega) (by omega) (hb34).size ?_
        intro v36 w36 ho36 hg36 _;have hb36:=(hb34).grown hg36 (hb34).size (fun q hq=>(World.ownsRow.lt ho34 q hq).1);refine hK.out _ _ trivial (fun _=>?_);clear hK K
        try simp only [Act.put,s1,s2,s3,s4,s5,s6]
        refine ar2 11 (by kernel_rfl) rfl (fun K hK=>?_)
        ·refine kc3 rfl _ _ 39 rfl wr.heap.size 9 i0 1 Tryz.underlying39 Hi.out _ (0+1) ([]++[vS s]) rfl (ho36) rfl ?_
         refine hK.out _ _ trivial (fun _=>?_);clear hK K
         try simp only [Act.put,s1,s2,s3,s4,s5,s6]
         (refine tk 12 rfl rfl rfl (by kernel_rfl) (fun _ _ _ h=>h) (by intro W hW;go_simp <;> with_reducible rfl) trivial ?_;simp only [Act.put,s1,s2,s3])
         refine wpAnyH_done (by kernel_rfl) ?_ _;simp only [Exit.then]
         go_wp2_with fail
         all_goals (go_ret;exact kkz HI.out (ho36) (hb36))
    ·go_simp
     have hB38:=kak (w:=w0) (o:=.cells #[.string (B s)] 9) (k:=w0.heap.size) (by first|rfl|simp) rfl;have hb38:=(hb0).alloc (hb0).size (.cells #[.string (B s)] 9);refine hK.out _ _ trivial (fun _=>?_);clear hK K
     try simp only [Act.put,s1,s2,s3,s4,s5,s6]
     refine ar2 0 (by kernel_rfl) rfl (fun K hK=>?_)
     ·go_simp
      have ho39:=kd7 (base:=wr.heap.size) (g:=w0.heap.size+1) ((w0).alloc (.cells #[.string (B s)] 9)) 9 (by first|rfl|simp) (by omega);have hb39:=(hb38).alloc (hb38).size (.cells #[] 9);have hB39:=kah (o':=.cells #[] 9) (hB38);have hne39:(w0.heap.size)≠w0.heap.size+1:=by omega
      refine hK.out _ _ trivial (fun _=>?_);clear hK K
      try simp only [Act.put,s1,s2,s3,s4,s5,s6]
      refine ar2 4 (by kernel_rfl) rfl (fun K hK=>?_)
      ·refine kc3 rfl _ _ 39 rfl wr.heap.size 9 i0 1 Tryz.underlying39 Hi.out _ 0 [] rfl (ho39) rfl ?_
       refine hK.out _ _ trivial (fun _=>?_);clear hK K
       try simp only [Act.put,s1,s2,s3,s4,s5,s6]
       refine ar2 7 (by kernel_rfl) rfl (fun K hK=>?_)
       ·refine kaq rfl _ _ 39 rfl wr.heap.size 9 i0 (.string ⟨#[]⟩) 1 16 Tryz.underlying39 Hi.out Hz0.out Hz1.out Hz2.out rfl (by decide) _ 0 [] rfl (ho39) ⟨w0.heap.size,0,none⟩ 1 1 [vS s] rfl rfl (kbj hB39) (by simp [vS,Value.oneCell']) (by unfold maxLen;omega) (by omega) (hb39).size ?_
        intro v41 w41 ho41 hg41 _;have hb41:=(hb39).grown hg41 (hb39).size (fun q hq=>(World.ownsRow.lt ho39 q hq).1);refine hK.out _ _ trivial (fun _=>?_);clear hK K
        try simp only [Act.put,s1,s2,s3,s4,s5,s6]
        refine ar2 11 (by kernel_rfl) rfl (fun K hK=>?_)
        ·refine kc3 rfl _ _ 39 rfl wr.heap.size 9 i0 1 Tryz.underlying39 Hi.out _ (0+1) ([]++[vS s]) rfl (ho41) rfl ?_
         refine hK.out _ _ trivial (fun _=>?_);clear hK K
         try simp only [Act.put,s1,s2,s3,s4,s5,s6]
         (refine tk 12 rfl rfl rfl (by kernel_rfl) (fun _ _ _ h=>h) (by intro W hW;go_simp <;> with_reducible rfl) trivial ?_;simp only [Act.put,s1,s2,s3])
         refine wpAnyH_done (by kernel_rfl) ?_ _;simp only [Exit.then]
         go_wp2_with fail
         all_goals (go_ret;exact kkz HI.out (ho41) (hb41))
theorem kj9 (n:Nat) (hn:n<256) (w:World):Calls Tryz.prog 73 #[.int .u8 n] w fun en w'=>∃s:Bs,en = .returned (.string (B s))∧s.length=3∧Below w.heap.size w w':=by
 obtain ⟨r,hr⟩:∃r,n % 3=r:=⟨_,rfl⟩;have hr3:r<3:=by omega
 have hm:(n:Int).tmod 3=(r:Int):=by rw [Int.tmod_eq_emod_of_nonneg (by omega)];omega
 have hb:=(Below.refl w.heap.size w).alloc (Nat.le_refl _) (.cells #[.string ⟨#[97,110,110]⟩,.string ⟨#[98,101,110]⟩,.string ⟨#[99,97,116]⟩] 9);have HB:=hdd hb;clear hb;rcases (show r=0∨r=1∨r=2 by omega) with rfl|rfl|rfl
 all_goals
  go_enter Tryz.func73,Tryz.ntmps73
  go_wp2_with fail
  go_ret
  first
   |exact ⟨[97,110,110],rfl,rfl,HB.out⟩
   |exact ⟨[98,101,110],rfl,rfl,HB.out⟩
   |exact ⟨[99,97,116],rfl,rfl,HB.out⟩
def kpf (b o:Nat) (e:Rv.Ev) (w:World):Prop:=∃na nc ta tc sa sc ha hc ra rc,klp (evW e na nc ta tc sa sc ha hc ra rc) e w∧w.rangeAt b o (evS e na nc ta tc sa sc ha hc ra rc).toList
def kc0 (v:Value) (l:List Rv.Ev) (w:World):Prop:=l.length≤maxLen∧((∃a cap,v = .slice a 0 cap∧l=[]) ∨
 ∃b off cap,v = .slice (some ⟨b,off,none⟩) l.length cap∧0<l.length∧b<w.heap.size∧∀i,i<l.length→kpf b (off+i*18) (l.getD i Rv.ev0) w)
theorem klp.below {v:Value} {e:Rv.Ev} {w w':World} (h:klp v e w) (hb:Below w.heap.size w w'):klp v e w':=by
 obtain ⟨na,nc,ta,tc,sa,sc,ha,hc,ra,rc,rfl,h1,h2,h3,h4,h5⟩:=h;exact ⟨na,nc,ta,tc,sa,sc,ha,hc,ra,rc,rfl,h1.below hb,h2.below hb,h3.below hb,h4.below hb,h5.below hb⟩
theorem kpf.below {b o:Nat} {e:Rv.Ev} {w w':World} (h:kpf b o e w) (hb:Below w.heap.size w w') (hlt:b<w.heap.size):kpf b o e w':=by
 obtain ⟨na,nc,ta,tc,sa,sc,ha,hc,ra,rc,h1,h2⟩:=h;exact ⟨na,nc,ta,tc,sa,sc,ha,hc,ra,rc,h1.below hb,kbo h2 hb hlt⟩
theorem kc0.below {v:Value} {l:List Rv.Ev} {w w':World} (h:kc0 v l w) (hb:Below w.heap.size w w'):kc0 v l w':=by
 refine ⟨h.1,?_⟩;rcases h.2 with h|⟨b,off,cap,rfl,h0,hlt,hc⟩
 ·exact .inl h
 ·exact .inr ⟨b,off,cap,rfl,h0,Nat.lt_of_lt_of_le hlt hb.size,fun i hi=>(hc i hi).below hb hlt⟩
theorem kc0.form {v:Value} {l:List Rv.Ev} {w:World} (h:kc0 v l w):∃a cap,v = .slice a l.length cap:=by
 rcases h.2 with ⟨a,cap,rfl,rfl⟩|⟨b,off,cap,rfl,_⟩
 ·exact ⟨a,cap,rfl⟩
 ·exact ⟨_,cap,rfl⟩
theorem kc0.at {a:Option Addr} {n cap:Nat} {l:List Rv.Ev} {w:World} (h:kc0 (.slice a n cap) l w) {i:Nat} (hi:i<l.length):∃b off,a=some ⟨b,off,none⟩∧b<w.heap.size∧kpf b (off+i*18) (l.getD i Rv.ev0) w:=by
 rcases h.2 with ⟨a,cap,e,rfl⟩|⟨b,off,cap,e,h0,hlt,hc⟩
 ·simp at hi
 ·simp only [Value.slice.injEq] at e
  obtain ⟨rfl,-,-⟩:=e;exact ⟨b,off,rfl,hlt,hc i hi⟩
theorem kc0.is {v:Value} {l:List Rv.Ev} {w:World} (h:kc0 v l w) (hn:l.length≤100000) (hs:∀i,i<l.length→kdn (l.getD i Rv.ev0)=true):kbt v l w:=by
 refine ⟨hn,?_⟩;rcases h.2 with h|⟨b,off,cap,rfl,h0,hlt,hc⟩
 ·exact .inl h
 ·refine .inr ⟨b,off,cap,rfl,h0,hlt,fun i hi=>?_⟩
  obtain ⟨na,nc,ta,tc,sa,sc,ha,hc,ra,rc,h1,h2⟩:=hc i hi;exact ⟨na,nc,ta,tc,sa,sc,ha,hc,ra,rc,h1.is (kvt (hs i hi)),h2⟩
def kxl (l:List Rv.Ev) (m:Nat) (w:World) (en:Ending) (w':World):Prop:=∃ok:Bool,en = .returned (.bool ok)∧(ok=true→l.length≤m∧∀i,i<l.length→kdn (l.getD i Rv.ev0)=true)∧Below w.heap.size w w'
theorem kul (v:Value) (l:List Rv.Ev) (m:Nat) (w:World) (h:kc0 v l w) (hm:m≤1000):Calls Tryz.prog 47 #[v,.int .i64 (m:Int)] w (kxl l m w):=by
 obtain ⟨a,cap,rfl⟩:=h.form;have hl:=h.1;unfold maxLen at hl;have HL:=hdd h;clear h
 by_cases c0:m<l.length
 ·have d0:decide ((m:Int)<(l.length:Int))=true:=decide_eq_true (by omega)
  go_enter Tryz.func47,Tryz.ntmps47
  go_wp2
  go_ret
  exact ⟨false,rfl,(fun x=>nomatch x),Below.refl _ _⟩
 have d0:decide ((m:Int)<(l.length:Int))=false:=decide_eq_false (by omega)
 go_enter Tryz.func47,Tryz.ntmps47
 go_wp2_with fail
 go_loopw [5] (fun n wr=>∃k:Nat,k≤l.length∧n = .int .i64 k∧(∀i,i<k→kdn (l.getD i Rv.ev0)=true)∧Below w.heap.size w wr) (fun n _=>l.length - (intOf n).toNat)
 case atStart=>exact ⟨0,by omega,rfl,fun i hi=>by omega,Below.refl _ _⟩
 case round =>
  obtain ⟨k,hk,rfl,hv,hB⟩:=hrel;have HV:=hdd hv;have HB:=hdd hB;clear hv hB
  by_cases hlt:k<l.length
  ·obtain ⟨b,off,rfl,hbw,na,nc,ta,tc,sa,sc,ha,hc,ra,rc,hE,hA⟩:=(HL.out.below HB.out).at hlt
   have QS:=hdd (kq1 _ _ _ hE);have HA:=hdd hA
   have HVT:=hdd (fun (hx:kdn (l.getD k Rv.ev0)=true)=>(show ∀i,i<k+1→kdn (l.getD i Rv.ev0)=true from fun i hi=>by
    rcases Nat.lt_succ_iff_lt_or_eq.1 hi with h2|rfl
    ·exact HV.out i h2
    ·exact hx))
   generalize l.getD k Rv.ev0=e at *;clear hE hA;obtain ⟨sm,hsm⟩:∃sm,kdn e=sm:=⟨_,rfl⟩;rw [hsm] at QS HVT;clear hsm
   cases sm
   all_goals
    go_wp2_with (first
     |(refine wpList_load_mid rfl 45 _ rfl b _ rfl (evS e na nc ta tc sa sc ha hc ra rc).toList _ HA.out rfl rfl (by kernel_rfl) ?_)
     |(go_at_call 31;refine (QS.out).mono ?_;rintro en w2 ⟨rfl,hb2⟩;have HB2:=hdd (HB.out.next hb2);clear hb2)
     |fail)
   ·go_wp2
    go_ret
    exact ⟨false,rfl,(fun x=>nomatch x),HB2.out⟩
   ·go_wp2
    go_roundw
    case rel=>exact ⟨k+1,by omega,by go_num,HVT.out trivial,HB2.out⟩
    case measure=>simp [intOf];omega
  ·obtain rfl:k=l.length:=by omega
   go_wp2
   go_ret
   exact ⟨true,rfl,fun _=>⟨by omega,HV.out⟩,HB.out⟩
structure km9 (e:Rv.Ev):Prop where
 names:e.names.length≤100000
 targets:e.targets.length≤100000
 S:e.sg.S.length≤100000
 H:e.sg.H.length≤100000
 R:e.sg.R.length≤100000
theorem kdr {lo:Nat} {w:World} {v:Value} {xs:List Bs} (h:w.ownsRow lo 9 1 v xs.length (xs.map vS)) (hl:xs.length≤100000):IsSl v (xs.map vS) w:=IsSl.of_owns (by rw [List.length_map];exact h) (by rw [List.length_map];unfold maxLen;omega)
end Go.Proofs.YtknpbekoenbphaaGreatDoor
