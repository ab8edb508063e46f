/- Parts of the proofs: WkRv4, WkRv5, FrmMap. No condition beyond those at each theorem. -/
import Derived.Maps.RangeWalk
import Derived.Test.YtknpbekoenbphaaGreatDoorQk10
set_option linter.unusedVariables false
set_option linter.unusedSimpArgs false
set_option maxHeartbeats 16000000
set_option maxRecDepth 100000
namespace Go.Proofs.YtknpbekoenbphaaGreatDoor
open Go Go.RowKit Licit
theorem krc {B:Nat} {w w':World} (h:Below B w w'):Below B w w'.drew:=⟨h.os,h.tape,h.output,h.size,h.block⟩
theorem kfc (n:Int) (w:World) (ht:Tab w):kcy 83 #[.int .i64 n] w (.string (B (num n))):=by
 go_enter Tryz.func83,Tryz.ntmps83
 go_wp2_with (go_at_call 152;refine (kk4 n _ ht).mono ?_;rintro e w1 ⟨rfl,hb⟩)
 go_ret
 exact ⟨rfl,hb⟩
theorem kn1 (x:Bs) (w:World) (hx:x.length≤maxLen) (ht:Tab w):kcy 84 #[.string (B x)] w (.string (B (Rv.tx x))):=by
 go_enter Tryz.func84,Tryz.ntmps84
 go_wp2_with (go_at_call 153;refine (kf1 x _ hx ht).mono ?_;rintro e w1 ⟨rfl,hb⟩)
 go_ret
 exact ⟨rfl,hb⟩
theorem kkr (v:Value) (xs:List Bs) (w:World) (h:IsSl v (xs.map vS) w) (hl:∀x∈xs,x.length≤maxLen) (ht:Tab w):kcy 85 #[v] w (.string (B (Rv.txs xs))):=by
 go_enter Tryz.func85,Tryz.ntmps85
 go_wp2_with (go_at_call 154;refine (klr v xs _ h hl ht).mono ?_;rintro e w1 ⟨rfl,hb⟩)
 go_ret
 exact ⟨rfl,hb⟩
theorem klo {α:Type} (one:α→Bs × Int) (h:∀x,(one x).1.length≤65600):∀(l:List α) (acc:Bs),(kl9 one l acc).1.length≤acc.length+l.length*65600
 | [],acc=>by simp [kl9]
 |x :: l,acc=>by
  unfold kl9;split
  ·simp
  ·have:=klo one h l (acc++(one x).1)
   have:=h x
   rw [List.length_append] at *;simp only [List.length_cons];omega
theorem kj4 (s:Bs):(ka9 s).1.length≤65600:=by
 unfold ka9;split
 ·simp
 ·have hd:=kds (n:=(s.length:Int)) (by omega) (by omega)
  rw [kdf,Int.toNat_natCast] at hd;simp only [List.length_append,List.length_singleton];omega
theorem kd1 (s:Bs):(B (Rv.tx s)).size≤70000000:=by
 have:=kj4 s
 show (ka9 s).1.length≤_;omega
theorem kgb (l:List Bs):(B (Rv.txs l)).size≤70000000:=by
 show (kco ka9 l).1.length≤_;unfold kco;split
 ·simp
 ·have:=klo ka9 kj4 l (Lib.decDigits l.length++[59])
  have hd:=kds (n:=(l.length:Int)) (by omega) (by omega);rw [kdf,Int.toNat_natCast] at hd;rw [List.length_append,List.length_singleton] at this;omega
theorem kb3 (n:Int):(B (num n)).size≤70000000:=by
 show (kl2 n).1.length≤_;unfold kl2;split
 ·simp
 ·have hd:=kds (n:=n) (by omega) (by omega)
  rw [kdf] at hd;simp only [List.length_append,List.length_singleton];omega
theorem koj (e:Rv.Ev):(Rv.encV e).length≤1000000000:=by
 have h1:=fun n=>kb3 n
 have h2:=fun s=>kd1 s
 have h3:=fun l=>kgb l
 simp only [kdf] at h1 h2 h3;unfold Rv.encV;simp only [List.length_append];have a1:=h1 e.kind;have a2:=h1 e.number;have a3:=h1 e.bits;have a4:=h1 e.height;have a5:=h1 e.till;have b1:=h2 e.author;have b2:=h2 e.root;have b3:=h2 e.pkg;have b4:=h2 e.digest;have b5:=h2 e.question;have b6:=h2 e.scope;have b7:=h2 e.answer;have c1:=h3 e.names;have c2:=h3 e.targets;omega
def hdV (e:Rv.Ev):Bs:=num e.kind++Rv.tx e.author++num e.number++Rv.txs e.names++Rv.tx e.root++num e.bits++num e.height
def l5 (e:Rv.Ev):List Bs:=[e.pkg,e.digest,e.question,e.scope,e.answer]
def klb (e:Rv.Ev) (k:Nat):Bs:=hdV e++(((l5 e).take k).map Rv.tx).flatten
theorem klt (e:Rv.Ev) {k:Nat} (hk:k<5):klb e (k+1)=klb e k++Rv.tx ((l5 e).getD k []):=by
 unfold klb;rw [List.take_succ_eq_append_getElem (show k<(l5 e).length from hk),List.map_append,List.flatten_append,List.getD_eq_getElem?_getD,List.getElem?_eq_getElem (show k<(l5 e).length from hk)];simp
theorem klk (e:Rv.Ev) (k:Nat) (hk:k≤5):(B (klb e k)).size≤900000000:=by
 have h0:(hdV e).length≤490000000:=by
  have h1:=fun n=>kb3 n
  have h2:=fun s=>kd1 s
  have h3:=fun l=>kgb l
  simp only [kdf] at h1 h2 h3;unfold hdV;simp only [List.length_append];have a1:=h1 e.kind;have a2:=h1 e.number;have a3:=h1 e.bits;have a4:=h1 e.height;have b1:=h2 e.author;have b2:=h2 e.root;have c1:=h3 e.names;omega
 have:∀j,j≤5→(klb e j).length≤490000000+j*70000000:=by
  intro j
  induction j with
  |zero=>intro _;simpa [klb] using h0
  |succ j ih =>
   intro hj;rw [klt e (by omega),List.length_append]
   have:=ih (by omega)
   have h2:=kd1 ((l5 e).getD j []);rw [kdf] at h2;omega
 rw [kdf]
 have:=this k hk
 omega
theorem kuf (e:Rv.Ev):klb e 5++num e.till++Rv.txs e.targets=Rv.encV e:=by
 unfold klb hdV l5 Rv.encV;simp
theorem kru (e:Rv.Ev) (na ta sa ha ra:Option Addr) (nc tc sc hc rc:Nat) (w:World) (h:kcw (evW e na nc ta tc sa sc ha hc ra rc) e w) (hv:Rv.validB e=false) :
 Calls Tryz.prog 35 #[evW e na nc ta tc sa sc ha hc ra rc] w fun en w'=>en = .returned (.tuple #[.string ⟨#[]⟩,.int .i64 1])∧Below w.heap.size w w':=by
 have hb1:Below w.heap.size w (w.alloc (.cells (evS e na nc ta tc sa sc ha hc ra rc) 45)):=(Below.refl _ _).alloc (Nat.le_refl _) _;have hf:=klq _ e _ (h.below hb1);rw [show Rv.validE e=1 by unfold Rv.validE;rw [hv];rfl] at hf;have QF:=hdd hf;have HB1:=hdd hb1;have HE:=hdd (kai w (.cells (evS e na nc ta tc sa sc ha hc ra rc) 45));clear hf h hv hb1
 go_enter Tryz.func35,Tryz.ntmps35
 go_wp2_with (first|(refine wpList_load_row rfl 45 _ rfl w.heap.size rfl 45 (evS e na nc ta tc sa sc ha hc ra rc) (0,0) _ HE.out rfl rfl (by kernel_rfl) ?_)|fail)
 refine (QF.out).mono ?_;rintro en w1 ⟨rfl,hb⟩;have HB2:=hdd (HB1.out.next hb);clear hb
 go_wp2
 go_ret2
 exact ⟨rfl,HB2.out⟩
theorem krv (e:Rv.Ev) (na ta sa ha ra:Option Addr) (nc tc sc hc rc:Nat) (w:World) (h:kcw (evW e na nc ta tc sa sc ha hc ra rc) e w) (hv:Rv.validB e=true) (ht:Tab w) :
 Calls Tryz.prog 35 #[evW e na nc ta tc sa sc ha hc ra rc] w fun en w'=>en = .returned (.tuple #[.string (B (Rv.encV e)),.int .i64 0])∧Below w.heap.size w w':=by
 have hb1:Below w.heap.size w (w.alloc (.cells (evS e na nc ta tc sa sc ha hc ra rc) 45)):=(Below.refl _ _).alloc (Nat.le_refl _) _;have hf:=klq _ e _ (h.below hb1);rw [show Rv.validE e=0 by unfold Rv.validE;rw [hv];rfl] at hf;have QF:=hdd hf;have HB1:=hdd hb1;have HE:=hdd (kai w (.cells (evS e na nc ta tc sa sc ha hc ra rc) 45));obtain ⟨ho,na',nc',ta',tc',sa',sc',ha',hc',ra',rc',hq,hN,hT,-⟩:=h;simp only [Value.agg.injEq,Array.mk.injEq,List.cons.injEq,Value.slice.injEq,true_and,and_true] at hq;obtain ⟨⟨rfl,rfl⟩,⟨rfl,rfl⟩,-⟩:=hq;have hm:∀n:Nat,n≤1000000000→n≤maxLen:=fun n h=>by unfold maxLen;omega
 have HN:=hdd hN;have HT:=hdd hT;have HNl:=hdd (fun x hx=>hm _ (ho.names x hx));have HTl:=hdd (fun x hx=>hm _ (ho.targets x hx));have hauthor:=hm _ ho.author;have hroot:=hm _ ho.root
 have h5:∀x∈l5 e,x.length≤maxLen:=by
  intro x hx;simp only [l5,List.mem_cons,List.not_mem_nil,or_false] at hx;rcases hx with rfl|rfl|rfl|rfl|rfl
  ·exact hm _ ho.pkg
  ·exact hm _ ho.digest
  ·exact hm _ ho.question
  ·exact hm _ ho.scope
  ·exact hm _ ho.answer
 have H5:=hdd h5;have HTab:=hdd ht;have hsk:=kb3 e.kind;have hsn:=kb3 e.number;have hsb:=kb3 e.bits;have hsh:=kb3 e.height;have hst:=kb3 e.till;have hsa:=kd1 e.author;have hsr:=kd1 e.root;have hsx:=kgb e.names;have hsy:=kgb e.targets;clear hf hv hb1 hN hT ho hm h5 ht
 go_enter Tryz.func35,Tryz.ntmps35
 go_wp2_with (first|(refine wpList_load_row rfl 45 _ rfl w.heap.size rfl 45 (evS e na nc ta tc sa sc ha hc ra rc) (0,0) _ HE.out rfl rfl (by kernel_rfl) ?_)|fail)
 refine (QF.out).mono ?_;rintro en w1 ⟨rfl,hb⟩;have HB2:=hdd (HB1.out.next hb);have HW1:=hdd (kab hb (by simp) HE.out);clear hb QF HE HB1;have hc1:¬ 9223372036854775807<(B (num e.kind)).size+(B (Rv.tx e.author)).size:=by omega
 have hc2:¬ 9223372036854775807<(B (num e.kind)).size+(B (Rv.tx e.author)).size+(B (num e.number)).size:=by omega
 have hc3:¬ 9223372036854775807<(B (num e.kind)).size+(B (Rv.tx e.author)).size+(B (num e.number)).size+(B (Rv.txs e.names)).size:=by omega
 have hc4:¬ 9223372036854775807<(B (num e.kind)).size+(B (Rv.tx e.author)).size+(B (num e.number)).size+(B (Rv.txs e.names)).size+(B (Rv.tx e.root)).size:=by omega
 have hc5:¬ 9223372036854775807<(B (num e.kind)).size+(B (Rv.tx e.author)).size+(B (num e.number)).size+(B (Rv.txs e.names)).size+(B (Rv.tx e.root)).size+(B (num e.bits)).size:=by omega
 have hc6:¬ 9223372036854775807<(B (num e.kind)).size+(B (Rv.tx e.author)).size+(B (num e.number)).size+(B (Rv.txs e.names)).size+(B (Rv.tx e.root)).size+(B (num e.bits)).size+(B (num e.height)).size:=by omega
 go_upto_region 3 with fail
 have HS:=hdd (fun W (hb:Below w1.heap.size w1 W)=>by
  obtain ⟨e0,e1,e2,e3,e4,e5,e6,-⟩:=ka3 (kab hb (kad HW1.out) HW1.out);exact And.intro e0 (And.intro e1 (And.intro e2 (And.intro e3 (And.intro e4 (And.intro e5 e6))))))
 have HF:=hdd (krc (Below.refl w1.heap.size w1));have HBW:=hdd (fun W (hb:Below w1.heap.size w1 W)=>HB2.out.trans (hb.mono HB2.out.size));have HTW:=hdd (fun W (hb:Below w1.heap.size w1 W)=>HTab.out.same (HBW.out W hb));refine kaj (S:=fun W:World=>W.cell? ⟨w.heap.size,0,none⟩=some (.int .i64 e.kind)∧W.cell? ⟨w.heap.size,1,none⟩=some (.string (B e.author))∧W.cell? ⟨w.heap.size,2,none⟩=some (.int .i64 e.number)∧W.cell? ⟨w.heap.size,3,none⟩=some (.slice na e.names.length nc)∧W.cell? ⟨w.heap.size,4,none⟩=some (.string (B e.root))∧W.cell? ⟨w.heap.size,5,none⟩=some (.int .i64 e.bits)∧W.cell? ⟨w.heap.size,6,none⟩=some (.int .i64 e.height)) (by kernel_rfl) (HS.out _ HF.out) (fun hHeld=>?_);simp only [List.toList_toArray,len,kat]
 iterate 2 (refine tz 0 ?_;simp only [Act.put,s1,s2,s3])
 iterate 2 (refine tz 3 ?_;simp only [Act.put,s1,s2,s3])
 iterate 2 (refine tz 7 ?_;simp only [Act.put,s1,s2,s3])
 iterate 2 (refine tz 11 ?_;simp only [Act.put,s1,s2,s3])
 iterate 2 (refine tz 15 ?_;simp only [Act.put,s1,s2,s3])
 iterate 3 (refine tz 19 ?_;simp only [Act.put,s1,s2,s3])
 iterate 3 (refine tz 24 ?_;simp only [Act.put,s1,s2,s3])
 refine ar2 2 (by kernel_rfl) rfl (fun K hK=>?_);go_simp
 refine (kfc e.kind _ (HTW.out _ HF.out)).mono ?_;rintro en u ⟨rfl,hb⟩;have HFn:=hdd (HF.out.trans (hb.mono HF.out.size));refine hK.out _ _ (HS.out _ HFn.out) (fun hHeld=>?_);clear hK K hb HF;have HF:=HFn;clear HFn
 try simp only [Act.put,s1,s2,s3]
 refine ar2 5 (by kernel_rfl) rfl (fun K hK=>?_);go_simp
 refine (kn1 e.author _ hauthor (HTW.out _ HF.out)).mono ?_;rintro en u ⟨rfl,hb⟩;have HFn:=hdd (HF.out.trans (hb.mono HF.out.size));refine hK.out _ _ (HS.out _ HFn.out) (fun hHeld=>?_);clear hK K hb HF;have HF:=HFn;clear HFn
 try simp only [Act.put,s1,s2,s3]
 (refine tz 6 ?_;simp only [Act.put,s1,s2,s3])
 refine ar2 9 (by kernel_rfl) rfl (fun K hK=>?_);go_simp
 refine (kfc e.number _ (HTW.out _ HF.out)).mono ?_;rintro en u ⟨rfl,hb⟩;have HFn:=hdd (HF.out.trans (hb.mono HF.out.size));refine hK.out _ _ (HS.out _ HFn.out) (fun hHeld=>?_);clear hK K hb HF;have HF:=HFn;clear HFn
 try simp only [Act.put,s1,s2,s3]
 (refine tz 10 ?_;simp only [Act.put,s1,s2,s3])
 refine ar2 13 (by kernel_rfl) rfl (fun K hK=>?_);go_simp
 refine (kkr _ e.names _ (HN.out.below (HBW.out _ HF.out)) HNl.out (HTW.out _ HF.out)).mono ?_;rintro en u ⟨rfl,hb⟩;have HFn:=hdd (HF.out.trans (hb.mono HF.out.size));refine hK.out _ _ (HS.out _ HFn.out) (fun hHeld=>?_);clear hK K hb HF;have HF:=HFn;clear HFn
 try simp only [Act.put,s1,s2,s3]
 (refine tz 14 ?_;simp only [Act.put,s1,s2,s3])
 refine ar2 17 (by kernel_rfl) rfl (fun K hK=>?_);go_simp
 refine (kn1 e.root _ hroot (HTW.out _ HF.out)).mono ?_;rintro en u ⟨rfl,hb⟩;have HFn:=hdd (HF.out.trans (hb.mono HF.out.size));refine hK.out _ _ (HS.out _ HFn.out) (fun hHeld=>?_);clear hK K hb HF;have HF:=HFn;clear HFn
 try simp only [Act.put,s1,s2,s3]
 (refine tz 18 ?_;simp only [Act.put,s1,s2,s3])
 refine ar2 22 (by kernel_rfl) rfl (fun K hK=>?_);go_simp
 refine (kfc e.bits _ (HTW.out _ HF.out)).mono ?_;rintro en u ⟨rfl,hb⟩;have HFn:=hdd (HF.out.trans (hb.mono HF.out.size));refine hK.out _ _ (HS.out _ HFn.out) (fun hHeld=>?_);clear hK K hb HF;have HF:=HFn;clear HFn
 try simp only [Act.put,s1,s2,s3]
 (refine tz 23 ?_;simp only [Act.put,s1,s2,s3])
 refine ar2 27 (by kernel_rfl) rfl (fun K hK=>?_);go_simp
 refine (kfc e.height _ (HTW.out _ HF.out)).mono ?_;rintro en u ⟨rfl,hb⟩;have HFn:=hdd (HF.out.trans (hb.mono HF.out.size));refine hK.out _ _ (HS.out _ HFn.out) (fun hHeld=>?_);clear hK K hb HF;have HF:=HFn;clear HFn
 try simp only [Act.put,s1,s2,s3]
 (refine tz 28 ?_;simp only [Act.put,s1,s2,s3])
 (refine tz 29 ?_;simp only [Act.put,s1,s2,s3])
 refine wpAnyH_done (by kernel_rfl) ?_ _;simp only [Exit.then]
 have hh:B (num e.kind)++B (Rv.tx e.author)++B (num e.number)++B (Rv.txs e.names)++B (Rv.tx e.root)++B (num e.bits)++B (num e.height)=B (klb e 0):=by
  simp only [ka5];unfold klb hdV;simp
 rw [hh];obtain ⟨-,-,-,-,-,-,-,e7,e8,e9,e10,e11,-⟩:=ka3 (kab HF.out (kad HW1.out) HW1.out);clear hh hc1 hc2 hc3 hc4 hc5 hc6 hsk hsn hsb hsh hsa hsr hsx hHeld HS;have HF4:=hdd (HF.out.trans (((Below.refl u.heap.size u).alloc (Nat.le_refl _) (.cells #[.string (B e.pkg),.string (B e.digest),.string (B e.question),.string (B e.scope),.string (B e.answer)] 9)).mono HF.out.size));have HA:=hdd (kai u (.cells #[.string (B e.pkg),.string (B e.digest),.string (B e.question),.string (B e.scope),.string (B e.answer)] 9));have HU:=hdd HF.out.size
 go_wp2
 go_loopw [4,6,51] (fun o _ n wr=>∃k:Nat,k≤5∧n = .int .i64 k∧o = .string (B (klb e k))∧Below (u.heap.size+1) (u.alloc (.cells #[.string (B e.pkg),.string (B e.digest),.string (B e.question),.string (B e.scope),.string (B e.answer)] 9)) wr) (fun _ _ n _=>5 - (intOf n).toNat)
 case atStart=>exact ⟨0,by omega,rfl,rfl,Below.refl _ _⟩
 case round =>
  obtain ⟨k,hk,rfl,rfl,hB⟩:=hrel;have HB:=hdd hB;have HFr:=hdd (HF4.out.trans (hB.mono (by have:=HU.out;omega)));have hA:=kab hB (by simp) HA.out;have HAr:=hdd hA;clear hB hA
  by_cases hlt:k<5
  ·have hcell:wr.cell? ⟨u.heap.size,0+k,none⟩=some (.string (B ((l5 e).getD k []))):=by
    rw [kaa HAr.out,Nat.zero_add]
    match k,hlt with
    |0,_=>rfl
    |1,_=>rfl
    |2,_=>rfl
    |3,_=>rfl
    |4,_=>rfl
   have hcell':wr.cell? ⟨u.heap.size,k,none⟩=some (.string (B ((l5 e).getD k []))):=by rw [←hcell,Nat.zero_add]
   have hmx:((l5 e).getD k []).length≤maxLen:=H5.out _ (by
    rw [List.getD_eq_getElem?_getD,List.getElem?_eq_getElem (show k<(l5 e).length from hlt)];exact List.getElem_mem _)
   have HST:=hdd (klt e hlt);have hl1:=klk e k (by omega);have hl2:=kd1 ((l5 e).getD k []);generalize (l5 e).getD k []=x at *
   go_wp2_with (go_at_call 84;refine (kn1 x _ hmx (HTW.out _ HFr.out)).mono ?_;rintro en w3 ⟨rfl,hb⟩)
   have HBn:=hdd (HB.out.trans (hb.mono (by have:=HB.out.size;simpa using this)));clear hb
   go_roundw
   case rel=>exact ⟨k+1,by omega,by go_num,by rw [HST.out,ka5],HBn.out⟩
   case measure=>simp [intOf];omega
  ·obtain rfl:k=5:=by omega
   have hl1:=klk e 5 (by omega);have hc1:¬ 9223372036854775807<(B (klb e 5)).size+(B (num e.till)).size:=by omega
   have hc2:¬ 9223372036854775807<(B (klb e 5)).size+(B (num e.till)).size+(B (Rv.txs e.targets)).size:=by omega
   have HS:=hdd (fun W (hb:Below w1.heap.size w1 W)=>by
    obtain ⟨-,-,-,-,-,-,-,-,-,-,-,-,e12,e13,-⟩:=ka3 (kab hb (kad HW1.out) HW1.out);exact And.intro e12 e13)
   clear HF;have HF:=hdd (krc HFr.out)
   go_upto_region 9 with fail
   refine kaj (S:=fun W:World=>W.cell? ⟨w.heap.size,12,none⟩=some (.int .i64 e.till)∧W.cell? ⟨w.heap.size,13,none⟩=some (.slice ta e.targets.length tc)) (by kernel_rfl) (HS.out _ HF.out) (fun hHeld=>?_);simp only [List.toList_toArray,len,kat]
   iterate 3 (refine tz 0 ?_;simp only [Act.put,s1,s2,s3])
   iterate 2 (refine tz 5 ?_;simp only [Act.put,s1,s2,s3])
   refine ar2 3 (by kernel_rfl) rfl (fun K hK=>?_);go_simp
   refine (kfc e.till _ (HTW.out _ HF.out)).mono ?_;rintro en u ⟨rfl,hb⟩;have HFn:=hdd (HF.out.trans (hb.mono HF.out.size));refine hK.out _ _ (HS.out _ HFn.out) (fun hHeld=>?_);clear hK K hb HF;have HF:=HFn;clear HFn
   try simp only [Act.put,s1,s2,s3]
   (refine tz 4 ?_;simp only [Act.put,s1,s2,s3])
   refine ar2 7 (by kernel_rfl) rfl (fun K hK=>?_);go_simp
   refine (kkr _ e.targets _ (HT.out.below (HBW.out _ HF.out)) HTl.out (HTW.out _ HF.out)).mono ?_;rintro en u ⟨rfl,hb⟩;have HFn:=hdd (HF.out.trans (hb.mono HF.out.size));refine hK.out _ _ (HS.out _ HFn.out) (fun hHeld=>?_);clear hK K hb HF;have HF:=HFn;clear HFn
   try simp only [Act.put,s1,s2,s3]
   (refine tz 8 ?_;simp only [Act.put,s1,s2,s3])
   (refine tz 9 ?_;simp only [Act.put,s1,s2,s3])
   (refine tz 10 ?_;simp only [Act.put,s1,s2,s3])
   refine wpAnyH_done (by kernel_rfl) ?_ _;simp only [Exit.then]
   go_wp2
   go_ret2
   exact ⟨congrArg (fun s=>Ending.returned (.tuple #[.string s,.int .i64 0])) (show B (klb e 5)++B (num e.till)++B (Rv.txs e.targets)=B (Rv.encV e) by rw [ka5,ka5,kuf]),HBW.out _ HF.out⟩
theorem ktc (v:Value) (e:Rv.Ev) (w:World) (h:kcw v e w) (ht:Tab w):Calls Tryz.prog 35 #[v] w fun en w'=>en = .returned (.tuple #[.string (B (Rv.encE e)),.int .i64 (Rv.validE e)])∧Below w.heap.size w w':=by
 obtain ⟨ho,na,nc,ta,tc,sa,sc,ha,hc,ra,rc,rfl,h1,h2,h3,h4,h5⟩:=h;have he:kcw (evW e na nc ta tc sa sc ha hc ra rc) e w:=⟨ho,na,nc,ta,tc,sa,sc,ha,hc,ra,rc,rfl,h1,h2,h3,h4,h5⟩
 cases hv:Rv.validB e
 ·have:=kru e na ta sa ha ra nc tc sc hc rc w he hv
  unfold Rv.encE Rv.validE;rw [hv];exact this
 ·have:=krv e na ta sa ha ra nc tc sc hc rc w he hv ht
  unfold Rv.encE Rv.validE;rw [hv];exact this
theorem krx (v:Value) (e:Rv.Ev) (w:World) (h:kcw v e w) (ht:Tab w):Calls Tryz.prog 37 #[v] w fun en w'=>en = .returned (.tuple #[.string (B (Rv.idE e)),.int .i64 (Rv.validE e)])∧Below w.heap.size w w':=by
 obtain ⟨ho,na,nc,ta,tc,sa,sc,ha,hc,ra,rc,rfl,h1,h2,h3,h4,h5⟩:=h;have he:kcw (evW e na nc ta tc sa sc ha hc ra rc) e w:=⟨ho,na,nc,ta,tc,sa,sc,ha,hc,ra,rc,rfl,h1,h2,h3,h4,h5⟩;have hb1:Below w.heap.size w (w.alloc (.cells (evS e na nc ta tc sa sc ha hc ra rc) 45)):=(Below.refl _ _).alloc (Nat.le_refl _) _;have hq:=ktc _ e _ (he.below hb1) (ht.same hb1);have HB1:=hdd hb1;have HE:=hdd (kai w (.cells (evS e na nc ta tc sa sc ha hc ra rc) 45));have HTab:=hdd ht;clear he h1 h2 h3 h4 h5 ho hb1 ht
 cases hv:Rv.validB e
 ·have e1:Rv.encE e=[]:=by unfold Rv.encE;rw [hv];rfl
  have e2:Rv.idE e=[]:=by unfold Rv.idE;rw [hv];rfl
  have e3:Rv.validE e=1:=by unfold Rv.validE;rw [hv];rfl
  rw [e1,e3] at hq;rw [e2,e3];have QF:=hdd hq;clear e1 e2 e3 hq hv
  go_enter Tryz.func37,Tryz.ntmps37
  go_wp2_with (first|(refine wpList_load_row rfl 45 _ rfl w.heap.size rfl 45 (evS e na nc ta tc sa sc ha hc ra rc) (0,0) _ HE.out rfl rfl (by kernel_rfl) ?_)|fail)
  refine (QF.out).mono ?_;rintro en w1 ⟨rfl,hb⟩;have HB2:=hdd (HB1.out.next hb);clear hb
  go_wp2
  go_ret2
  exact ⟨rfl,HB2.out⟩
 ·have e1:Rv.encE e=Rv.encV e:=by unfold Rv.encE;rw [hv];rfl
  have e2:Rv.idE e=hsh [Rv.kEvent,Rv.encV e]:=by unfold Rv.idE;rw [hv];rfl
  have e3:Rv.validE e=0:=by unfold Rv.validE;rw [hv];rfl
  have hl:=koj e;rw [e1,e3] at hq;rw [e2,e3];have QF:=hdd hq;have hd:hsh [Rv.kEvent,Rv.encV e]=Sha.sha (Rv.txs [Rv.kEvent,Rv.encV e]):=rfl;obtain ⟨R,hR⟩:∃R,Sha.sha (Rv.txs [Rv.kEvent,Rv.encV e])=R:=⟨_,rfl⟩;rw [hd,hR];have hl2:(Rv.txs [Rv.kEvent,Rv.encV e]).length≤1000000000000:=by have:=kgb [Rv.kEvent,Rv.encV e];rw [kdf] at this;omega
  generalize Rv.encV e=D at *;have HR:=hdd hR;clear hR e1 e2 e3 hq hv hd
  go_enter Tryz.func37,Tryz.ntmps37
  go_wp2_with (first|(refine wpList_load_row rfl 45 _ rfl w.heap.size rfl 45 (evS e na nc ta tc sa sc ha hc ra rc) (0,0) _ HE.out rfl rfl (by kernel_rfl) ?_)|fail)
  refine (QF.out).mono ?_;rintro en w1 ⟨rfl,hb⟩;have HB2:=hdd (HB1.out.next hb);clear hb
  go_wp2_with fail
  have hb3:=(Below.refl w1.heap.size w1).alloc (Nat.le_refl _) (.cells #[.string ⟨#[101,118,101,110,116]⟩,.string (B D)] 9)
  have hsl:IsSl (.slice (some ⟨w1.heap.size,0,none⟩) 2 2) ([Rv.kEvent,D].map vS) (w1.alloc (.cells #[.string ⟨#[101,118,101,110,116]⟩,.string (B D)] 9)) :=
   IsSl.of_owns (base:=0) (kd5 (n:=2) (kai w1 (.cells #[.string ⟨#[101,118,101,110,116]⟩,.string (B D)] 9)) (Nat.zero_le _) rfl (by unfold maxLen;omega)) (by simp [maxLen])
  refine (kkr _ [Rv.kEvent,D] _ hsl (by
   intro x hx;simp only [List.mem_cons,List.not_mem_nil,or_false] at hx;unfold maxLen;rcases hx with rfl|rfl
   ·decide
   ·omega) (HTab.out.same ((HB2.out.trans (hb3.mono HB2.out.size))))).mono ?_
  rintro en w2 ⟨rfl,hb⟩;have HB3:=hdd (HB2.out.trans ((hb3.trans (hb.mono (by simp))).mono HB2.out.size));clear hb hb3 hsl;have hDS:=fun W=>kvb (Rv.txs [Rv.kEvent,D]) W hl2
  rw [HR.out] at hDS;generalize Rv.txs [Rv.kEvent,D]=X at *;have HDS:=hdd hDS;clear hDS hl2
  go_wp2_with fail
  refine (HDS.out _).mono ?_;rintro en w3 ⟨rfl,hb⟩;have HB4:=hdd (HB3.out.next hb);clear hb
  go_wp2
  go_ret2
  exact ⟨rfl,HB4.out⟩
end Go.Proofs.YtknpbekoenbphaaGreatDoor
namespace Licit
open Go Go.RowKit Go.MapKept Go.ChangeMaps
section
variable {κ:Type} [DecidableEq κ]
def kb2:List (κ × Value)→κ→Option Value
 | [],_=>none
 |(a,v) :: r,s=>if a=s then some v else kb2 r s
def ki0:List (κ × Value)→κ→Value→List (κ × Value)
 | [],s,v=>[(s,v)]
 |(a,u) :: r,s,v=>if a=s then (a,v) :: r else (a,u) :: ki0 r s v
def kbc (L:List (κ × Value)):List κ:=L.map (·.1)
theorem kfa (L:List (κ × Value)) (s t:κ) (v:Value):kb2 (ki0 L s v) t=if s=t then some v else kb2 L t:=by
 induction L with
 |nil=>simp [ki0,kb2]
 |cons x r ih =>
  obtain ⟨a,u⟩:=x;unfold ki0
  by_cases h:a=s
  ·rw [if_pos h]
   subst h
   by_cases h2:a=t <;> simp [kb2,h2]
  ·rw [if_neg h]
   by_cases h2:a=t
   ·subst h2
    simp [kb2,Ne.symm h]
   ·simp [kb2,h2,ih]
theorem kea {L:List (κ × Value)} {s:κ}:kb2 L s=none ↔ s ∉ kbc L:=by
 induction L with
 |nil=>simp [kb2,kbc]
 |cons x r ih =>
  obtain ⟨a,u⟩:=x
  by_cases h:a=s
  ·subst h;simp [kb2,kbc]
  ·simp [kb2,h,ih,kbc,Ne.symm h]
theorem kwd {L:List (κ × Value)} {s:κ} {v:Value} (h:kb2 L s=some v):(s,v)∈L:=by
 induction L with
 |nil=>simp [kb2] at h
 |cons x r ih =>
  obtain ⟨a,u⟩:=x
  by_cases h2:a=s
  ·subst h2;simp [kb2] at h;simp [h]
  ·simp [kb2,h2] at h;exact List.mem_cons_of_mem _ (ih h)
theorem kf4 {L:List (κ × Value)} (hn:(kbc L).Nodup) {s:κ} {v:Value} (h:(s,v)∈L):kb2 L s=some v:=by
 induction L with
 |nil=>simp at h
 |cons x r ih =>
  obtain ⟨a,u⟩:=x;simp only [kbc,List.map_cons,List.nodup_cons] at hn;rcases List.mem_cons.1 h with e|h
  ·cases e;simp [kb2]
  ·have:a≠s:=fun e=>hn.1 (by rw [e];exact List.mem_map.2 ⟨(s,v),h,rfl⟩)
   simp [kb2,this];exact ih hn.2 h
theorem kim {L:List (κ × Value)} {s:κ} {v:Value} (h:s ∉ kbc L):ki0 L s v=L++[(s,v)]:=by
 induction L with
 |nil=>rfl
 |cons x r ih =>
  obtain ⟨a,u⟩:=x;simp only [kbc,List.map_cons,List.mem_cons,not_or] at h;simp [ki0,Ne.symm h.1,ih h.2]
theorem ksp (L:List (κ × Value)) (s:κ) (v:Value):kbc (ki0 L s v)=if s∈kbc L then kbc L else kbc L++[s]:=by
 induction L with
 |nil=>simp [ki0,kbc]
 |cons x r ih =>
  obtain ⟨a,u⟩:=x
  by_cases h:a=s
  ·subst h;simp [ki0,kbc]
  ·have ih':List.map (fun x=>x.fst) (ki0 r s v)=if s∈List.map (fun x=>x.fst) r then List.map (fun x=>x.fst) r else List.map (fun x=>x.fst) r++[s]:=ih
   simp only [ki0,if_neg h,kbc,List.map_cons,ih',List.mem_cons,Ne.symm h,false_or];split <;> rfl
theorem kcs {L:List (κ × Value)} {s t:κ} {v:Value}:t∈kbc (ki0 L s v) ↔ t=s∨t∈kbc L:=by
 rw [ksp]
 by_cases h:s∈kbc L
 ·rw [if_pos h]
  exact ⟨.inr,fun h2=>by rcases h2 with rfl|h2 <;> assumption⟩
 ·rw [if_neg h];simp [or_comm]
theorem ke9 {α β:Type} (f:α→β):∀{l:List α},(l.map f).Nodup→l.Nodup
 | [],_=>by simp
 |a :: r,h=>by
  simp only [List.map_cons,List.nodup_cons] at h ⊢;exact ⟨fun hm=>h.1 (List.mem_map.2 ⟨a,hm,rfl⟩),ke9 f h.2⟩
end
structure kdu {κ:Type} (P:Program) (k:TypeId) (kv:κ→Value):Prop where
 K:Go.Maps.Keyed P k
 inj:∀a b,kv a=kv b→a=b
def kbi {κ:Type} (P:Program) (k:TypeId) (kv:κ→Value) (w:World) (b:Nat) (L:List (κ × Value)):Prop :=
 ∃es clock,w.heap[b]? = some (.map es clock)∧Stamped es clock∧es.toList.map (fun e=>(e.key,e.val))=L.map (fun x=>(kv x.1,x.2))∧∀x∈L,∃l,keyOf P k (kv x.1)=some l
section
variable {κ:Type} {P:Program} {k t e:TypeId} {kv:κ→Value} {w w':World} {b:Nat} {L:List (κ × Value)}
theorem kbi.lt (h:kbi P k kv w b L):b<w.heap.size:=by
 obtain ⟨es,clock,hb,_⟩:=h;exact (Array.getElem?_eq_some_iff.1 hb).1
theorem kbi.of_block (h:kbi P k kv w b L) (hb:w'.heap[b]? = w.heap[b]?):kbi P k kv w' b L:=by
 obtain ⟨es,clock,h1,r⟩:=h;exact ⟨es,clock,hb.trans h1,r⟩
theorem kbi.kept {S:Nat→Prop} (h:kbi P k kv w b L) (hk:ka7 S w w') (hs:¬ S b):kbi P k kv w' b L:=h.of_block (hk.block b h.lt hs)
theorem kbi.below {B:Nat} (h:kbi P k kv w b L) (hk:Below B w w') (hs:b<B):kbi P k kv w' b L:=h.of_block (hk.block b hs)
theorem kbi.made (w:World):kbi P k kv (w.alloc (.map #[] 0)) w.heap.size [] :=
 ⟨#[],0,(MapKept.heap_alloc w _).1,stamped_empty 0,rfl,by simp⟩
theorem kbi.nodup (K:kdu P k kv) (h:kbi P k kv w b L):(kbc L).Nodup:=by
 obtain ⟨es,clock,hb,hs,hl,_⟩:=h;have h1:=hs.2.2
 have h2:es.toList.map (·.key)=L.map (fun x=>kv x.1):=by
  have:=congrArg (List.map (·.1)) hl
  simpa [List.map_map,Function.comp_def] using this
 rw [h2] at h1;have h3:L.map (fun x=>kv x.1)=(kbc L).map kv:=by simp [kbc,List.map_map,Function.comp_def]
 rw [h3] at h1;exact ke9 _ h1
theorem getL_find [DecidableEq κ] {es:Array MapEntry} (K:kdu P k kv) (hs:es.toList.Pairwise (fun x y=>x.key≠y.key)) (hl:es.toList.map (fun e=>(e.key,e.val))=L.map (fun x=>(kv x.1,x.2))) (s:κ) :
 ((∀e∈es.toList,e.key≠kv s)→kb2 L s=none)∧∀(j:Nat) (e:MapEntry),es.toList[j]? = some e→e.key=kv s→kb2 L s=some e.val∧L[j]? = some (s,e.val):=by
 generalize es.toList=es at *;constructor
 ·intro h
  rw [kea];intro hm;obtain ⟨x,hx,hxs⟩:=List.mem_map.1 hm
  have:(kv x.1,x.2)∈es.map (fun e=>(e.key,e.val)):=by rw [hl];exact List.mem_map.2 ⟨x,hx,rfl⟩
  obtain ⟨e,he,hee⟩:=List.mem_map.1 this;exact h e he (by have:=congrArg Prod.fst hee;simp at this;rw [this,hxs])
 ·induction es generalizing L with
  |nil=>intro j e hj;simp at hj
  |cons x r ih =>
   cases L with
   |nil=>simp at hl
   |cons y q =>
    simp only [List.map_cons,List.cons.injEq] at hl;obtain ⟨hp1,hp2⟩:=List.pairwise_cons.1 hs;obtain ⟨ya,yv⟩:=y;obtain ⟨h1,h2⟩:=Prod.mk.inj hl.1;intro j e hj hk
    cases j with
    |zero =>
     simp only [List.getElem?_cons_zero,Option.some.injEq] at hj;subst hj
     have:ya=s:=K.inj _ _ (h1.symm.trans hk)
     subst this;simp [kb2,h2]
    |succ j =>
     simp only [List.getElem?_cons_succ] at hj;obtain ⟨g1,g2⟩:=ih hp2 hl.2 j e hj hk
     have:ya≠s:=fun e2=>hp1 e (List.mem_of_getElem? hj) (by rw [h1,hk];exact congrArg kv e2)
     simp [kb2,this,g1,g2]
theorem kbi.readable (h:kbi P k kv w b L) {es:Array MapEntry} {clock:Nat} (hb:w.heap[b]? = some (.map es clock)):∀e∈es.toList,∃l,keyOf P k e.key=some l:=by
 obtain ⟨es',clock',hb',hs,hl,hr⟩:=h;rw [hb'] at hb
 cases hb;intro e he
 have:(e.key,e.val)∈L.map (fun x=>(kv x.1,x.2)):=by rw [←hl];exact List.mem_map.2 ⟨e,he,rfl⟩
 obtain ⟨x,hx,hxe⟩:=List.mem_map.1 this;obtain ⟨l,h2⟩:=hr x hx;exact ⟨l,by have:=congrArg Prod.fst hxe;simp at this;rw [←this];exact h2⟩
theorem kbi.look [DecidableEq κ] (h:kbi P k kv w b L) (K:kdu P k kv) (ht:P.underlying t=some (.map k e)) {z:Value} (hz:(zeroValue e).run P w = .ok z w) (s:κ) (hk:∃l,keyOf P k (kv s)=some l) (c:Bool) :
 (Instr.lookup t (.map (some b)) (kv s) c).run P w = .ok (if c then .tuple #[(kb2 L s).getD z,.bool (kb2 L s).isSome] else (kb2 L s).getD z) w:=by
 have hread:=fun es clock hb=>h.readable (es:=es) (clock:=clock) hb
 obtain ⟨es,clock,hb,hs,hl,_⟩:=h;obtain ⟨kl,hkey⟩:=hk;have hp:=((stamped_iff es clock).1 hs).2.2;obtain ⟨g1,g2⟩:=getL_find K hp hl s;rcases K.K.find w hkey es.toList (hread _ _ hb) with ⟨h1,h2⟩|⟨j,e0,h1,h2,h3⟩
 ·rw [g1 h2]
  simp [Instr.lookup,run_underlying ht,MapKept.run_getObj_map hb,K.K.check w _ hkey,h1,hz,Result.andThen]
 ·rw [(g2 j e0 h2 h3).1]
  simp [Instr.lookup,run_underlying ht,MapKept.run_getObj_map hb,K.K.check w _ hkey,h1,Result.andThen]
theorem kr4 [DecidableEq κ] {L:List (κ × Value)} (hn:(kbc L).Nodup) {s:κ} {u v:Value} {j:Nat} (h:L[j]? = some (s,u)):ki0 L s v=L.set j (s,v):=by
 induction L generalizing j with
 |nil=>simp at h
 |cons x r ih =>
  obtain ⟨a,y⟩:=x;simp only [kbc,List.map_cons,List.nodup_cons] at hn
  cases j with
  |zero=>simp at h;simp [ki0,h.1]
  |succ j =>
   simp at h
   have:a≠s:=fun e=>hn.1 (by rw [e];exact List.mem_map.2 ⟨_,List.mem_of_getElem? h,rfl⟩)
   simp [ki0,this,ih hn.2 h]
theorem kbi.store [DecidableEq κ] (h:kbi P k kv w b L) (K:kdu P k kv) (ht:P.underlying t=some (.map k e)) (s:κ) (v:Value) (hk:∃l,keyOf P k (kv s)=some l) :
 ∃w',(Instr.mapUpdate t (.map (some b)) (kv s) v).run P w = .ok () w'∧kbi P k kv w' b (ki0 L s v)∧ka7 (One b) w w'∧w'.heap.size=w.heap.size:=by
 have hread:=fun es clock hb=>h.readable (es:=es) (clock:=clock) hb
 have hnd:=h.nodup K;obtain ⟨es,clock,hb,hs,hl,hr⟩:=h;obtain ⟨kl,hkey⟩:=hk;have hp:=((stamped_iff es clock).1 hs).2.2;obtain ⟨g1,g2⟩:=getL_find K hp hl s;have hkept:∀o,ka7 (One b) w (setBlock w b o):=fun o=>⟨rfl,rfl,rfl,by simp [setBlock],fun i _ hi=>heap_setBlock_other hb _ hi⟩
 have hsz:∀o,(setBlock w b o).heap.size=w.heap.size:=fun o=>by simp [setBlock]
 rcases K.K.find w hkey es.toList (hread _ _ hb) with ⟨h1,h2⟩|⟨j,e0,h1,h2,h3⟩
 ·have hnm:=kea.1 (g1 h2)
  refine ⟨setBlock w b (.map (es.push ⟨kv s,v,clock⟩) (clock+1)),?_,⟨_,_,heap_setBlock_same hb _,stamped_push hs h2,?_,?_⟩,hkept _,hsz _⟩
  ·simp [Instr.mapUpdate,run_underlying ht,MapKept.run_getObj_map hb,K.K.check w false hkey,h1,MapKept.run_setObj_map _ hb,Result.andThen,setBlock]
  ·rw [kim hnm,Array.toList_push,List.map_append,List.map_append,hl]
   rfl
  ·rw [kim hnm]
   intro x hx;rcases List.mem_append.1 hx with hx|hx
   ·exact hr x hx
   ·simp at hx;subst hx;exact ⟨kl,hkey⟩
 ·have hj:es[j]? = some e0:=by simpa using h2
  have hat:=(g2 j e0 h2 h3).2;have hlist:(es.modify j (fun e'=>{ e' with key:=kv s,val:=v })).toList=es.toList.set j { e0 with key:=kv s,val:=v }:=by rw [Array.toList_modify,modify_eq_set _ _ _ _ h2]
  refine ⟨setBlock w b (.map (es.modify j (fun e'=>{ e' with key:=kv s,val:=v })) clock),?_,⟨_,_,heap_setBlock_same hb _,stamped_modify hs _ _ (fun _ _=>rfl) (fun e' _ he'=>by rw [hj] at he';cases he';exact h3.symm),?_,?_⟩,hkept _,hsz _⟩
  ·simp [Instr.mapUpdate,run_underlying ht,MapKept.run_getObj_map hb,K.K.check w false hkey,h1,hj,h3,K.K.stays w hkey,MapKept.run_setObj_map _ hb,Result.andThen,setBlock]
  ·rw [kr4 hnd hat,hlist,List.map_set,List.map_set,hl]
  ·rw [kr4 hnd hat]
   intro x hx;rcases List.mem_or_eq_of_mem_set hx with hx|rfl
   ·exact hr x hx
   ·exact ⟨kl,hkey⟩
theorem kbi.len (h:kbi P k kv w b L) (ht:P.underlying t=some (.map k e)) (ty:TypeId):(Builtin.len_ #[t] ty #[.map (some b)]).run P w = .ok (.int .i64 (L.length:Int)) w:=by
 obtain ⟨es,clock,hb,hs,hl,hr⟩:=h;have hz:es.size=L.length:=by have:=congrArg List.length hl;simpa using this
 simp [Builtin.len_,run_underlying ht,MapKept.run_getObj_map hb,Result.andThen,hz,goInt]
def kcg (P:Program) (k:TypeId) (kv:κ→Value) (w:World) (b r:Nat) (L V:List (κ × Value)):Prop :=
 kbi P k kv w b L∧V.Nodup∧(∀x∈V,x∈L)∧∃es clock since seen c0,w.heap[b]? = some (.map es clock)∧w.heap[r]? = some (.mapIter (some b) since seen c0)∧(∀x∈es.toList,x.born<since)∧since≤c0∧since≤clock ∧
  (∀e∈es.toList,seen.contains e.born=true ↔ ∃x∈V,kv x.1=e.key)
theorem kcg.map {r:Nat} {V:List (κ × Value)} (h:kcg P k kv w b r L V):kbi P k kv w b L:=h.1
theorem kcg.ne {r:Nat} {V:List (κ × Value)} (h:kcg P k kv w b r L V):r≠b:=by
 obtain ⟨_,_,_,es,clock,since,seen,c0,h1,h2,_⟩:=h;intro e;rw [e,h1] at h2;cases h2
theorem kcg.lt {r:Nat} {V:List (κ × Value)} (h:kcg P k kv w b r L V):r<w.heap.size:=by
 obtain ⟨_,_,_,es,clock,since,seen,c0,h1,h2,_⟩:=h;exact (Array.getElem?_eq_some_iff.1 h2).1
theorem kcg.of_blocks {r:Nat} {V:List (κ × Value)} (h:kcg P k kv w b r L V) (hb:w'.heap[b]? = w.heap[b]?) (hr:w'.heap[r]? = w.heap[r]?):kcg P k kv w' b r L V:=by
 obtain ⟨hm,hv,hs,es,clock,since,seen,c0,h1,h2,r⟩:=h;exact ⟨hm.of_block hb,hv,hs,es,clock,since,seen,c0,hb.trans h1,hr.trans h2,r⟩
theorem kcg.kept {S:Nat→Prop} {r:Nat} {V:List (κ × Value)} (h:kcg P k kv w b r L V) (hk:ka7 S w w') (hb:¬ S b) (hr:¬ S r):kcg P k kv w' b r L V :=
 h.of_blocks (hk.block b h.1.lt hb) (hk.block r h.lt hr)
theorem kbi.range (h:kbi P k kv w b L) (ht:P.underlying t=some (.map k e)) :
 ∃o,(Instr.range t (.map (some b))).run P w = .ok (.pointer (some ⟨w.heap.size,0,none⟩)) (w.alloc o)∧kcg P k kv (w.alloc o) b w.heap.size L []:=by
 have hm:=h;obtain ⟨es,clock,hb,hs,hl,hr⟩:=h;refine ⟨_,run_range_map w t k e b es clock ht hb,hm.of_block ((MapKept.heap_alloc w _).2 b hm.lt),by simp,by simp,es,clock,clock,#[],clock,((MapKept.heap_alloc w _).2 b hm.lt).trans hb,(MapKept.heap_alloc w _).1,hs.1,Nat.le_refl _,Nat.le_refl _,fun e _=>by simp⟩
theorem kcg.next [DecidableEq κ] {r:Nat} {V:List (κ × Value)} (h:kcg P k kv w b r L V) (K:kdu P k kv) (ty:TypeId) :
 (V.Perm L∧(Instr.next (.pointer (some ⟨r,0,none⟩)) false ty).run P w = .ok (.tuple #[.bool false]) w) ∨
 ∃(s:κ) (v:Value) (w':World),(s,v)∈L∧(s,v) ∉ V∧(Instr.next (.pointer (some ⟨r,0,none⟩)) false ty).run P w = .ok (.tuple #[.bool true,kv s,v]) w' ∧
  kcg P k kv w' b r L (V++[(s,v)])∧ka7 (One r) w w'∧w'.heap.size=w.heap.size∧(Instr.entry (.pointer (some ⟨r,0,none⟩))).run P w' = .ok (.tuple #[kv s,v]) w'∧w'.rangeLeft b r<w.rangeLeft b r:=by
 have hne:=h.ne;have hnd:=h.1.nodup K;obtain ⟨hm,hvn,hvs,es,clock,since,seen,c0,hb,hr,hold,hsc,hsk,hseen⟩:=h;obtain ⟨es',clock',hb',hst,hl,hrd⟩:=id hm;rw [hb] at hb'
 cases hb';have hst':=(stamped_iff es clock).1 hst;have hLn:L.Nodup:=ke9 (fun x:κ × Value=>x.1) hnd;rcases run_next_at (P:=P) w ty r b since c0 seen es clock hr hb hold hsc with ⟨h0,hrun⟩|⟨e,he,w1,hal,hrun⟩
 ·refine .inl ⟨?_,hrun⟩
  refine (List.perm_ext_iff_of_nodup hvn hLn).2 fun x=>⟨hvs x,fun hx=>?_⟩
  have h1:(kv x.1,x.2)∈es.toList.map (fun e=>(e.key,e.val)):=by rw [hl];exact List.mem_map.2 ⟨x,hx,rfl⟩
  obtain ⟨e,he,hee⟩:=List.mem_map.1 h1;have h2:=all_seen es seen h0 e he;obtain ⟨y,hy,hye⟩:=(hseen e he).1 h2;have h3:y.1=x.1:=K.inj _ _ (hye.trans (congrArg Prod.fst hee));have h4:=kf4 hnd (s:=y.1) (v:=y.2) (hvs y hy);have h5:=kf4 hnd (s:=x.1) (v:=x.2) hx;rw [h3,h5] at h4
  have:x=y:=Prod.ext h3.symm (Option.some.inj h4)
  rw [this];exact hy
 ·obtain ⟨hem,hes⟩:=mem_left he
  have h1:(e.key,e.val)∈L.map (fun x=>(kv x.1,x.2)):=by rw [←hl];exact List.mem_map.2 ⟨e,hem,rfl⟩
  obtain ⟨x,hx,hxe⟩:=List.mem_map.1 h1;obtain ⟨s,v⟩:=x;obtain ⟨ek,ev⟩:=Prod.mk.inj hxe;dsimp only at ek ev
  have hnv:(s,v) ∉ V:=fun hin=>by
   have:=(hseen e hem).2 ⟨_,hin,ek⟩
   rw [hes] at this;cases this
  have hr1:w1.heap[r]? = some (.mapIter (some b) since seen c0):=by rcases hal with rfl|rfl <;> exact hr
  have hb1:w1.heap[b]? = some (.map es clock):=by rcases hal with rfl|rfl <;> exact hb
  have hset:=heap_set (o':=.mapIter (some b) since (seen.push e.born) clock) hr1;have hb':(setBlock w1 r (.mapIter (some b) since (seen.push e.born) clock)).heap[b]? = some (.map es clock):=(hset.2 b (fun e1=>hne e1.symm)).trans hb1;have hbw:w1.heap[b]? = w.heap[b]?:=hb1.trans hb.symm;refine .inr ⟨s,v,_,hx,hnv,by rw [ek,ev];exact hrun,⟨⟨es,clock,hb',hst,hl,hrd⟩,?_,?_,es,clock,since,seen.push e.born,clock,hb',hset.1,hold,hsk,hsk,?_⟩,?_,?_,?_,?_⟩
  ·exact List.nodup_append.2 ⟨hvn,by simp,fun a ha c hc e1=>by simp at hc;subst hc;subst e1;exact hnv ha⟩
  ·intro y hy
   rcases List.mem_append.1 hy with hy|hy
   ·exact hvs y hy
   ·simp at hy;subst hy;exact hx
  ·intro e1 he1
   rw [contains_push,Bool.or_eq_true,hseen e1 he1];constructor
   ·rintro (⟨y,hy,hy2⟩|hy)
    ·exact ⟨y,List.mem_append_left _ hy,hy2⟩
    ·have hbe:e1.born=e.born:=by simpa using hy
     have:e1=e:=born_inj hst'.2.1 he1 hem hbe
     exact ⟨(s,v),by simp,by rw [this];exact ek⟩
   ·rintro ⟨y,hy,hy2⟩
    rcases List.mem_append.1 hy with hy|hy
    ·exact .inl ⟨y,hy,hy2⟩
    ·simp at hy;subst hy
     have:e1=e:=entry_eq_of_key hst'.2.2 he1 hem (hy2.symm.trans ek)
     exact .inr (by simp [this])
  ·rcases hal with rfl|rfl <;> exact ⟨rfl,rfl,rfl,by simp [setBlock],fun i _ hi=>hset.2 i hi⟩
  ·rcases hal with rfl|rfl <;> simp [setBlock]
  ·have:=run_entry_at (P:=P) _ r b since seen es clock e hset.1 hb' hem hst'.2.1
   rw [ek,ev];exact this
  ·have hs1:(setBlock w1 r (.mapIter (some b) since (seen.push e.born) clock)).heap[r]? = some (.mapIter (some b) since (seen.push e.born) clock):=hset.1
   simp only [World.rangeLeft,hs1,hb',hr,hb];exact left_shrinks es seen e he
theorem kfv {w w':World} {b r:Nat} (hb:w'.heap[b]? = w.heap[b]?) (hr:w'.heap[r]? = w.heap[r]?):w'.rangeLeft b r=w.rangeLeft b r:=by simp only [World.rangeLeft,hb,hr]
end
section
variable {κ:Type} [DecidableEq κ] {P:Program} (w:World) {ops:Array Oper} {rest:List Oper} {o:Oper} {a:Act} {Q:Exit→Act→World→Prop}
theorem kbl (hg:o.guard=none) (m x:Operand) (t:TypeId) (c:Bool) (hop:o.op=Op.lookup t m x c) (k e:TypeId) (kv:κ→Value) (K:kdu P k kv) (ht:P.underlying t=some (.map k e)) (z:Value) (hz:∀w,(zeroValue e).run P w = .ok z w)
 (b:Nat) (L:List (κ × Value)) (hm:a.eval m = .map (some b)) (h:kbi P k kv w b L) (s:κ) (hx:a.eval x=kv s) (hk:∃l,keyOf P k (kv s)=some l)
 (hK:wpList P ops Q rest (a.put o.dst (if c then .tuple #[(kb2 L s).getD z,.bool (kb2 L s).isSome] else (kb2 L s).getD z)) w):wpList P ops Q (o :: rest) a w:=by
 refine wpList_plain hg fun K' hK'=>?_
 unfold Oper.wp;simp only [execOp,hop,hm,hx,Sem.run_bind,h.look K ht (hz w) s hk c,Result.andThen,Sem.run_pure];exact hK' _ _ hK
theorem kbb (hg:o.guard=none) (m x v:Operand) (t:TypeId) (hop:o.op=Op.mapUpdate t m x v) (k e:TypeId) (kv:κ→Value) (K:kdu P k kv) (ht:P.underlying t=some (.map k e))
 (b:Nat) (L:List (κ × Value)) (hm:a.eval m = .map (some b)) (h:kbi P k kv w b L) (s:κ) (hx:a.eval x=kv s) (val:Value) (hv:a.eval v=val) (hk:∃l,keyOf P k (kv s)=some l)
 (hK:∀w',kbi P k kv w' b (ki0 L s val)→ka7 (One b) w w'→w'.heap.size=w.heap.size→wpList P ops Q rest (a.put o.dst undef) w'):wpList P ops Q (o :: rest) a w:=by
 refine wpList_plain hg fun K' hK'=>?_
 obtain ⟨w',hrun,h1,h2,h3⟩:=h.store K ht s val hk;unfold Oper.wp;simp [execOp,hop,hm,hx,hv,hrun,Result.andThen];exact hK' _ _ (hK w' h1 h2 h3)
omit [DecidableEq κ] in
theorem kgv (hg:o.guard=none) (m:Operand) (t:TypeId) (hop:o.op=Op.range t m) (k e:TypeId) (kv:κ→Value) (ht:P.underlying t=some (.map k e)) (b:Nat) (L:List (κ × Value)) (hm:a.eval m = .map (some b)) (h:kbi P k kv w b L)
 (hK:∀w',kcg P k kv w' b w.heap.size L []→Below w.heap.size w w'→w'.heap.size=w.heap.size+1→wpList P ops Q rest (a.put o.dst (.pointer (some ⟨w.heap.size,0,none⟩))) w'):wpList P ops Q (o :: rest) a w:=by
 refine wpList_plain hg fun K' hK'=>?_
 obtain ⟨ob,hrun,h1⟩:=h.range ht;unfold Oper.wp;simp [execOp,hop,hm,hrun,Result.andThen];exact hK' _ _ (hK _ h1 ((Below.refl _ _).alloc (Nat.le_refl _) _) (by simp))
theorem khs (hg:o.guard=none) (it:Operand) (hop:o.op=Op.next it false) (k:TypeId) (kv:κ→Value) (K:kdu P k kv) (b r:Nat) (L V:List (κ × Value)) (hit:a.eval it = .pointer (some ⟨r,0,none⟩)) (h:kcg P k kv w b r L V)
 (hDone:V.Perm L→wpList P ops Q rest (a.put o.dst (.tuple #[.bool false])) w)
 (hMore:∀(s:κ) (v:Value) (w':World),(s,v)∈L→(s,v) ∉ V→kcg P k kv w' b r L (V++[(s,v)])→ka7 (One r) w w'→w'.heap.size=w.heap.size→(Instr.entry (.pointer (some ⟨r,0,none⟩))).run P w' = .ok (.tuple #[kv s,v]) w'→w'.rangeLeft b r<w.rangeLeft b r →
   wpList P ops Q rest (a.put o.dst (.tuple #[.bool true,kv s,v])) w'):wpList P ops Q (o :: rest) a w:=by
 refine wpList_plain hg fun K' hK'=>?_
 unfold Oper.wp;rcases h.next K o.type with ⟨h0,hrun⟩|⟨s,v,w',h1,h2,hrun,h3,h4,h5,h6,h7⟩
 ·simp [execOp,hop,hit,hrun,Result.andThen]
  exact hK' _ _ (hDone h0)
 ·simp [execOp,hop,hit,hrun,Result.andThen]
  exact hK' _ _ (hMore s v w' h1 h2 h3 h4 h5 h6 h7)
end
end Licit
