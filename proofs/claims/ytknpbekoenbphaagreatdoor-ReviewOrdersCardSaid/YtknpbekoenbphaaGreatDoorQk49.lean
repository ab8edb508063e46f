/- Parts of the proofs: WkSame, WkLO. No condition beyond those at each theorem. -/
import Derived.Test.YtknpbekoenbphaaGreatDoorQk42
import Derived.Test.YtknpbekoenbphaaGreatDoorQk43
import Derived.Test.YtknpbekoenbphaaGreatDoorQk45
set_option linter.unusedVariables false
set_option linter.unusedSimpArgs false
set_option maxHeartbeats 16000000
set_option maxRecDepth 100000
namespace Go.Proofs.YtknpbekoenbphaaGreatDoor
open Go Go.RowKit Licit
theorem kqg (v u:Value) (l:List Rv.Ev) (w:World) (h:kbt v l w) (h':kbt u l w):Calls Tryz.prog 22 #[v,u] w fun en w'=>en = .returned (.bool true)∧Below w.heap.size w w':=by
 obtain ⟨a,c,rfl⟩:=h.form;obtain ⟨a',c',rfl⟩:=h'.form;have hm:=h.1;have H1:=hdd (fun (W:World) (hb:Below w.heap.size w W)=>h.below hb);have H2:=hdd (fun (W:World) (hb:Below w.heap.size w W)=>h'.below hb);clear h h'
 go_enter Tryz.func22,Tryz.ntmps22
 go_wp2_with fail
 go_loopw [5] (fun s5 wr=>∃i:Nat,i≤l.length∧s5 = .int .i64 i∧Below w.heap.size w wr) (fun s5 _=>l.length - (intOf s5).toNat)
 case atStart=>exact ⟨0,Nat.zero_le _,rfl,Below.refl _ _⟩
 case round =>
  obtain ⟨i,hi,rfl,hb⟩:=hrel;have HB:=hdd hb;clear hb
  by_cases hlt:i<l.length
  rotate_left
  ·have d0:decide ((i:Int)<(l.length:Int))=false:=decide_eq_false (by omega)
   go_wp2_with fail
   go_ret
   exact ⟨rfl,HB.out⟩
  have d0:decide ((i:Int)<(l.length:Int))=true:=decide_eq_true (by omega);obtain ⟨b,off,rfl,hbl,hat⟩:=(H1.out wr HB.out).at hlt;obtain ⟨b',off',rfl,hbl',hat'⟩:=(H2.out wr HB.out).at hlt;obtain ⟨e,he⟩:∃e,l.getD i Rv.ev0=e:=⟨_,rfl⟩;rw [he] at hat hat';obtain ⟨na,nc,ta,tc,sa,sc,ha,hc,ra,rc,hE,hR⟩:=hat;obtain ⟨na',nc',ta',tc',sa',sc',ha',hc',ra',rc',hE',hR'⟩:=hat';have HE:=hdd (fun (W:World) (hB:Below wr.heap.size wr W)=>And.intro (hE.below hB) (hE'.below hB));have HR:=hdd (fun (W:World) (hB:Below wr.heap.size wr W)=>And.intro (kbo hR hB hbl) (kbo hR' hB hbl'));clear hE hE' hR hR' he hbl hbl'
  go_upto_region 6 with fail
  refine kaj (S:=fun W=>W.rangeAt b (off+i*18) (evS e na nc ta tc sa sc ha hc ra rc).toList∧W.rangeAt b' (off'+i*18) (evS e na' nc' ta' tc' sa' sc' ha' hc' ra' rc').toList) (by kernel_rfl) (HR.out wr.drew (Below.refl _ _).drew) (fun hHeld=>?_);have hbz:Below wr.heap.size wr wr.drew:=(Below.refl _ _).drew;generalize wr.drew=wz at hbz hHeld ⊢;simp only [List.toList_toArray,len,kat]
  iterate 3 (refine tz 0 ?_;simp only [Act.put,s1,s2,s3])
  refine tkx 3 (.agg (evS e na nc ta tc sa sc ha hc ra rc)) rfl rfl (by kernel_rfl) (fun _ _ _ h=>h) (by assumption) ?_ ?_
  ·intro W hW;exact ka6 rfl rfl rfl hW.1
  simp only [Act.put,s1,s2,s3]
  iterate 3 (refine tz 4 ?_;simp only [Act.put,s1,s2,s3])
  refine tkx 7 (.agg (evS e na' nc' ta' tc' sa' sc' ha' hc' ra' rc')) rfl rfl (by kernel_rfl) (fun _ _ _ h=>h) (by assumption) ?_ ?_
  ·intro W hW;exact ka6 rfl rfl rfl hW.2
  simp only [Act.put,s1,s2,s3];refine ar2 8 (by kernel_rfl) rfl (fun K hK=>?_);go_simp
  refine (kiv _ _ e wz (HE.out _ hbz).1 (HE.out _ hbz).2).mono ?_;rintro en w3 ⟨rfl,hb3⟩;have hbz3:=hbz.next hb3;have HB3:=hdd (HB.out.next hbz3);clear hHeld;refine hK.out _ _ (HR.out _ hbz3) (fun hHeld=>?_);clear hK K
  try simp only [Act.put,s1,s2,s3,s4,s5,s6]
  clear hbz hb3 hbz3
  (refine tz 9 ?_;simp only [Act.put,s1,s2,s3])
  refine wpAnyH_done (by kernel_rfl) ?_ _
  try simp only [Exit.then]
  go_wp2_with fail
  have hF:∃k:Nat,k≤l.length∧(Value.int .i64 ((i+1:Nat):Int)) = .int .i64 k∧Below w.heap.size w w3:=⟨i+1,by omega,rfl,HB3.out⟩;refine ⟨?_,?_⟩
  ·first|exact hF|((repeat apply Exists.intro);exact ⟨hF,rfl⟩)
  ·simp [intOf];omega
theorem knf (haw:kgw) (vd ve:Value) (D:List Dd) (b a:Nat) (X:List Rv.Ev) (w:World) (hD:kfs vd D w) (hE:kc0 ve X w) (hn:khn ve) (hb:b<256) (ha:a<256) (ht:Tab w) :
 Calls Tryz.prog 5 #[.agg #[vd,.int .u8 (b:Int),.int .u8 (a:Int),ve]] w fun en w'=>en = .returned (.bool true)∧Below w.heap.size w w':=by
 obtain ⟨ad,cd,rfl⟩:=hD.form;obtain ⟨ae,ce,rfl⟩:=hE.form;have HAw:=hdd haw;have HTb:=hdd (fun (W:World) (h:Below w.heap.size w W)=>ht.same h)
 have hF:∀W,W=w.alloc (.cells #[.slice ad D.length cd,.int .u8 (b:Int),.int .u8 (a:Int),.slice ae X.length ce] 25)→Below w.heap.size w W∧W.heap[w.heap.size]? = some (.cells #[.slice ad D.length cd,.int .u8 (b:Int),.int .u8 (a:Int),.slice ae X.length ce] 25 (0,0)):=by
  rintro _ rfl;exact ⟨(Below.refl _ _).alloc (Nat.le_refl _) _,kai _ _⟩
 have HHis:=hdd (fun (W:World) (h:Below w.heap.size w W)=>klj _ _ D b a X W (hD.below h) (hE.below h) hn hb ha);obtain ⟨t,htt⟩:∃t,w.heap.size=t:=⟨_,rfl⟩;have HTt:=hdd htt;clear hD hE hn htt ht haw
 go_enter Tryz.func5,Tryz.ntmps5
 go_upto_region 1 with fail
 generalize hw1:w.alloc (.cells #[.slice ad D.length cd,.int .u8 (b:Int),.int .u8 (a:Int),.slice ae X.length ce] 25)=w1;obtain ⟨hb1,hT1⟩:=hF w1 hw1.symm;rw [HTt.out] at hT1 ⊢;have HB1:=hdd hb1;have HT1:=hdd hT1;clear hF hw1 hb1 hT1
 go_upto_region 2 with (first
  |(refine wpList_load_row rfl 25 _ rfl t rfl 25 #[.slice ad D.length cd,.int .u8 (b:Int),.int .u8 (a:Int),.slice ae X.length ce] (0,0) _ HT1.out rfl rfl (by kernel_rfl) ?_)
  |(go_at_call 13
    go_loud (
    refine (HHis.out _ HB1.out).mono ?_;rintro en w2 ⟨v2,ok,rfl,hb2,hok⟩;have HB2:=hdd (HB1.out.next hb2);have HOk:=hdd hok;clear hb2 hok))
  |fail)
 cases ok with
 |false =>
  go_wp2_with (first
   |(go_at_call 14
     refine (HAw.out _ (HTb.out _ HB3.out)).mono ?_;rintro en w4 ⟨rfl,hb4⟩;have HB4:=hdd (HB3.out.next hb4);clear hb4)
   |(go_at_call 14
     refine (HAw.out _ (HTb.out _ HB2.out)).mono ?_;rintro en w3 ⟨rfl,hb3⟩;have HB3:=hdd (HB2.out.next hb3);clear hb3)
   |fail)
  go_ret
  exact ⟨rfl,HB4.out⟩
 |true =>
  obtain ⟨L,L0,l1,hO,hLl,hLt,-⟩:=HOk.out rfl;obtain ⟨l,hl⟩:∃l,ka2 L=l:=⟨_,rfl⟩;have hll:l.length=L.length:=by rw [←hl,kbd]
  have hI:kbt v2 l w2:=hl ▸ hO.is (by omega);have HI:=hdd (fun (W:World) (hb:Below w2.heap.size w2 W)=>hI.below hb);have HNc:=hdd hO.nilC
  have HLn:=hdd (show ∀i,i<l.length→km9 (l.getD i Rv.ev0) from fun i hi=>by
   have hi':i<L.length:=by omega
   have h1:=(hLt L[i] (List.getElem_mem hi')).len (by omega);have h2:l.getD i Rv.ev0=L[i].e:=by rw [←hl];simp [ka2,List.getD_eq_getElem?_getD,List.getElem?_eq_getElem hi']
   rw [h2];exact h1)
  obtain ⟨a2,c2,rfl⟩:=hI.form;clear hO hLl hLt hl hll hI HOk
  go_wp2_with (first
   |(go_at_call 22
     refine (kqg _ _ (Rv.orderE l).1 _ (H5.out.below HB6.out) H6.out).mono ?_;rintro en w7 ⟨rfl,hb7⟩;have HB7:=hdd (HBw6.out.next hb7);clear hb7)
   |(go_at_call 19
     refine (kkd _ l w5 (HI.out _ HB25.out)).mono ?_;rintro en w6 ⟨v6,rfl,h6,-,hb6⟩;obtain ⟨a6,c6,rfl⟩:=h6.form;have H6:=hdd h6;have HB6:=hdd hb6;have HBw6:=hdd (HB5.out.next hb6);clear h6 hb6)
   |(go_at_call 21
     refine (kly _ l w4 H4.out (HTb.out _ HB4.out) HLn.out).mono ?_;rintro en w5 ⟨v5,rfl,h5,-,hb5⟩;obtain ⟨a5,c5,rfl⟩:=h5.form;have H5:=hdd h5;have HB5:=hdd (HB4.out.next hb5);have HB25:=hdd (HB24.out.next hb5);clear h5 hb5)
   |(go_at_call 16
     refine (kcq _ l w3 (HI.out _ HB23.out) HNc.out).mono ?_;rintro en w4 ⟨v4,M,rfl,h4,hM,hb4⟩
     have hM5:M.length≤100000:=by
      have:=(HI.out _ (Below.refl _ _)).1
      rw [←hM,kbd] at this;exact this
     have h4':kbt v4 l w4:=hM ▸ h4.is hM5;obtain ⟨a4,c4,rfl⟩:=h4'.form;have H4:=hdd h4';have HB4:=hdd (HB3.out.next hb4);have HB24:=hdd (HB23.out.next hb4);clear h4 hM hb4 h4' hM5)
   |(go_at_call 14
     refine (HAw.out _ (HTb.out _ HB2.out)).mono ?_;rintro en w3 ⟨rfl,hb3⟩;have HB3:=hdd (HB2.out.next hb3);have HB23:=hdd hb3;clear hb3)
   |fail)
  go_ret
  exact ⟨rfl,HB7.out⟩
end Go.Proofs.YtknpbekoenbphaaGreatDoor
