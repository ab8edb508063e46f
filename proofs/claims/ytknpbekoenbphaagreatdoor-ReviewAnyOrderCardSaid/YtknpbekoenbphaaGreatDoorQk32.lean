/- Parts of the proofs: WkEvs. No condition beyond those at each theorem. -/
import Derived.Test.YtknpbekoenbphaaGreatDoorQk29
import Derived.Test.YtknpbekoenbphaaGreatDoorQk30
import Derived.Test.YtknpbekoenbphaaGreatDoorQk31
set_option linter.unusedVariables false
set_option linter.unusedSimpArgs false
set_option maxHeartbeats 16000000
set_option maxRecDepth 100000
namespace Go.Proofs.YtknpbekoenbphaaGreatDoor
open Go Go.RowKit Licit
def kfs (v:Value) (D:List Dd) (w:World):Prop:=D.length≤maxLen∧((∃a cap,v = .slice a 0 cap∧D=[]) ∨
 ∃b off cap,v = .slice (some ⟨b,off,none⟩) D.length cap∧0<D.length∧b<w.heap.size∧∀i (h:i<D.length),w.rangeAt b (off+i*8) (ddC D[i]).toList)
theorem kfs.form {v:Value} {D:List Dd} {w:World} (h:kfs v D w):∃a cap,v = .slice a D.length cap:=by
 rcases h.2 with ⟨a,cap,rfl,rfl⟩|⟨b,off,cap,rfl,_⟩
 ·exact ⟨a,cap,rfl⟩
 ·exact ⟨_,cap,rfl⟩
theorem kfs.below {v:Value} {D:List Dd} {w w':World} (h:kfs v D w) (hb:Below w.heap.size w w'):kfs v D w':=by
 refine ⟨h.1,?_⟩;rcases h.2 with h|⟨b,off,cap,rfl,h0,hlt,hc⟩
 ·exact .inl h
 ·exact .inr ⟨b,off,cap,rfl,h0,Nat.lt_of_lt_of_le hlt hb.size,fun i hi=>kbo (hc i hi) hb hlt⟩
theorem kfs.at {a:Option Addr} {n cap:Nat} {D:List Dd} {w:World} (h:kfs (.slice a n cap) D w) {i:Nat} (hi:i<D.length):∃b off,a=some ⟨b,off,none⟩∧b<w.heap.size∧w.rangeAt b (off+i*8) (ddC D[i]).toList:=by
 rcases h.2 with ⟨a,cap,e,rfl⟩|⟨b,off,cap,e,h0,hlt,hc⟩
 ·simp at hi
 ·simp only [Value.slice.injEq] at e
  obtain ⟨rfl,-,-⟩:=e;exact ⟨b,off,rfl,hlt,hc i hi⟩
structure kfe (L:List EvX):Prop where
 valid:∀x∈L,Rv.validB x.e=true
 sg:∀x∈L,x.e.sg=Rv.sg0
 nodup:(Rv.idsOf (ka2 L)).Nodup
 early:∀i (h:i<L.length),∀s∈L[i].e.names,s∈(Rv.idsOf (ka2 L)).take i
 nice:∀x∈L,x.Nice
theorem kfe.nil:kfe []:=⟨by simp,by simp,by simp [ka2,Rv.idsOf],fun i h=>by simp at h,by simp⟩
theorem klc (L:List EvX) (x:EvX):Rv.idsOf (ka2 (L++[x]))=Rv.idsOf (ka2 L)++[Rv.idE x.e]:=by simp [ka2,Rv.idsOf]
theorem kbg (L:List EvX):(Rv.idsOf (ka2 L)).length=L.length:=by simp [ka2,Rv.idsOf]
theorem kfe.snoc {L:List EvX} {x:EvX} (h:kfe L) (hv:Rv.validB x.e=true) (hs:x.e.sg=Rv.sg0) (hn:Rv.idE x.e ∉ Rv.idsOf (ka2 L)) (he:∀s∈x.e.names,s∈Rv.idsOf (ka2 L)) (hx:x.Nice):kfe (L++[x]):=by
 refine ⟨fun y hy=>?_,fun y hy=>?_,?_,fun i hi s hs=>?_,fun y hy=>?_⟩
 ·rcases List.mem_append.1 hy with hy|hy
  ·exact h.valid y hy
  ·obtain rfl:=List.mem_singleton.1 hy;exact hv
 ·rcases List.mem_append.1 hy with hy|hy
  ·exact h.sg y hy
  ·obtain rfl:=List.mem_singleton.1 hy;exact hs
 ·rw [klc]
  exact List.nodup_append.2 ⟨h.nodup,by simp,fun a ha b hb e=>by simp at hb;subst hb;exact hn (e ▸ ha)⟩
 ·rw [klc]
  rcases Nat.lt_or_ge i L.length with c|c
  ·rw [List.getElem_append_left c] at hs
   rw [List.take_append_of_le_length (by rw [kbg];omega)];exact h.early i c s hs
  ·have hi':i=L.length:=by rw [List.length_append,List.length_singleton] at hi;omega
   subst hi';rw [List.getElem_append_right (Nat.le_refl _)] at hs;simp only [Nat.sub_self,List.getElem_cons_zero] at hs;have h1:=he s hs;rw [List.take_append_of_le_length (by rw [kbg];omega),List.take_of_length_le (by rw [kbg];omega)];exact h1
 ·rcases List.mem_append.1 hy with hy|hy
  ·exact h.nice y hy
  ·obtain rfl:=List.mem_singleton.1 hy;exact hx
def kut (w:World) (en:Ending) (w':World):Prop:=∃(v:Value) (L:List EvX),en = .returned v∧ka1 w.heap.size (Fr v NoB) v L w'∧L.length≤12∧kfe L∧Below w.heap.size w w'
theorem kkn {xs:List Bs} {s z:Bs} (h:z∈kjt xs s):z∈xs∨z=s:=by
 unfold kjt at h;split at h
 ·exact .inl h
 ·rcases List.mem_append.1 h with h|h
  ·exact .inl (List.mem_of_mem_take h)
  ·rcases List.mem_cons.1 h with h|h
   ·exact .inr h
   ·exact .inl (List.mem_of_mem_drop h)
theorem kx1 (e:Rv.Ev):(Rv.idE e).length≤1000:=by
 unfold Rv.idE;split
 ·show (Sha.sha _).length≤_
  rw [Sha.sha_len]
  decide
 ·simp
theorem kit (l:List Rv.Ev):∀x∈Rv.idsOf l,x.length≤1000:=fun x hx=>by
 obtain ⟨e,-,rfl⟩:=List.mem_map.1 hx;exact kx1 e
def EvM (L:List EvX) (t m:Nat) (d:Dd) (a:Bs) (kk num:Nat) (xs:List Bs) (vn:Value) (w0 w:World):Prop :=
 Below w0.heap.size w0 w∧w.heap[t]? = some (.cells (ddC d) 129 (0,0))∧w.heap[m]? = some (.cells (evC (evP kk a num xs) vn kaf kaf kaf kaf) 45 (0,0))∧w.ownsRow w0.heap.size 9 1 vn xs.length (xs.map vS)∧(∀x∈xs,x∈Rv.idsOf (ka2 L))∧xs.length≤100∧num≤100
def kym (L:List EvX) (t m:Nat) (d:Dd) (a:Bs) (kk:Nat) (w0:World) (s8 s9:Value) (wl:World):Prop:=∃(k num:Nat) (last:Int) (xs:List Bs) (vn:Value),k≤L.length∧s9 = .int .i64 k∧s8 = .int .i64 last∧-1≤last∧last<k∧num≤k∧xs.length≤k∧EvM L t m d a kk num xs vn w0 wl
def kz2 (L:List EvX) (t:Nat) (d:Dd) (kk:Nat) (w0:World) (s7:Value) (wx:World):Prop:=∃(mm:Nat) (a:Bs),s7 = .pointer (some ⟨mm,0,none⟩)∧w0.heap.size≤mm∧t≠mm∧a.length=3∧EvM L t mm d a kk 0 [] kaf w0 wx
theorem kkw {W0 W W':World} {vn v':Value} {xs R:List Bs} (h:W.ownsRow W0.heap.size 9 1 vn xs.length (xs.map vS)) (hor:(v'=vn∧R=xs)∨W'.ownsRow W.heap.size 9 1 v' R.length (R.map vS)) (hz:W0.heap.size≤W.heap.size) (hb:Below W.heap.size W W'):W'.ownsRow W0.heap.size 9 1 v' R.length (R.map vS):=by
 rcases hor with ⟨rfl,rfl⟩|h1
 ·exact kal h fun q hq=>hb.block q (h.lt q hq).2
 ·exact kbh h1 hz
def kq6 (D:List Dd) (w:World) (s3 s4 n:Value) (wr:World):Prop:=∃(i:Nat) (L:List EvX),i≤D.length∧i≤12∧n = .int .i64 i∧L.length≤i∧ka1 w.heap.size (Fr s3 (fun q=>s4.ownBlock=some q)) s3 L wr∧wr.ownsRow w.heap.size 9 1 s4 L.length ((Rv.idsOf (ka2 L)).map vS)∧kfe L∧Below w.heap.size w wr
def kzz (L:List EvX) (t m:Nat) (d:Dd) (a:Bs) (kk num:Nat) (w0:World) (wx:World):Prop:=∃(xs:List Bs) (vn:Value),EvM L t m d a kk num xs vn w0 wx
def kwq (L:List EvX) (t m:Nat) (d:Dd) (a:Bs) (num:Nat) (w0:World) (wx:World):Prop:=∃(kk:Nat) (xs:List Bs) (vn:Value),1≤kk∧kk≤5∧EvM L t m d a kk num xs vn w0 wx
theorem EvM.grow {L:List EvX} {t m:Nat} {d:Dd} {a:Bs} {kk num:Nat} {xs:List Bs} {vn:Value} {w0 w w':World} (h:EvM L t m d a kk num xs vn w0 w) (hb:Below w.heap.size w w'):EvM L t m d a kk num xs vn w0 w' :=
 ⟨h.1.next hb,kab hb (kad h.2.1) h.2.1,kab hb (kad h.2.2.1) h.2.2.1,kal h.2.2.2.1 fun q hq=>hb.block q (h.2.2.2.1.lt q hq).2,h.2.2.2.2⟩
theorem kyw (w:World) (x:Bs):IsSl (.slice (some ⟨w.heap.size,0,none⟩) 1 1) ([x].map vS) (w.alloc (.cells #[vS x] 9)) :=
 ⟨by simp [maxLen],.inr ⟨w.heap.size,0,1,rfl,by simp,fun i hi=>by
   have h0:i=0:=by simp at hi;omega
   subst h0;rw [kaa (kai _ _)];simp⟩⟩
theorem kpb (v:Value) (D:List Dd) (w:World) (h:kfs v D w):Calls Tryz.prog 27 #[v] w (kut w):=by
 obtain ⟨a0,c0,rfl⟩:=h.form;have hm:=h.1;unfold maxLen at hm;have HD:=hdd h;obtain ⟨i0,hi0,hz0,hz1,hz2⟩:=info_parts Tryz.infoStr;have Hi:=hdd hi0;have Hz0:=hdd hz0;have Hz1:=hdd hz1;have Hz2:=hdd hz2;clear h hi0 hz0 hz1 hz2
 go_enter Tryz.func27,Tryz.ntmps27
 go_wp2_with fail
 go_loopw [3,4,5,6,7,8,9,10,11] (fun s3 s4 n _ _ _ _ _ _ wr=>kq6 D w s3 s4 n wr) (fun _ _ n _ _ _ _ _ _ _=>D.length - (intOf n).toNat)
 case atStart=>exact ⟨0,[],Nat.zero_le _,Nat.zero_le _,rfl,Nat.le_refl _,ka1.nil _ _ _,World.ownsRow_nil _ _ _ _,kfe.nil,Below.refl _ _⟩
 case round =>
  unfold kq6 at hrel;obtain ⟨i,L,hi,hi12,rfl,hLi,hO,hI,hok,hb⟩:=hrel;have HO:=hdd hO;have HI:=hdd hI;have HOk:=hdd hok;have HB:=hdd hb;obtain ⟨a3,c3,rfl⟩:=kag hO.row;obtain ⟨a4,c4,rfl⟩:=kag hI;clear hO hI hok hb
  by_cases hlt:i<D.length
  rotate_left
  ·have d0:decide ((i:Int)<(D.length:Int))=false:=decide_eq_false (by omega)
   go_wp2_with fail
   go_ret
   exact ⟨_,L,rfl,HO.out.keep (Nat.le_refl _) (fun _ _ _=>rfl) (fun _ _=>rfl) (fun q hq=>by rcases hq with hq|hq;exact .inl (.inl hq);exact hq.elim),by omega,HOk.out,HB.out⟩
  have d0:decide ((i:Int)<(D.length:Int))=true:=decide_eq_true (by omega)
  by_cases hl2:i<12
  rotate_left
  ·have d1:decide ((i:Int)<12)=false:=decide_eq_false (by omega)
   go_wp2_with fail
   go_ret
   exact ⟨_,L,rfl,HO.out.keep (Nat.le_refl _) (fun _ _ _=>rfl) (fun _ _=>rfl) (fun q hq=>by rcases hq with hq|hq;exact .inl (.inl hq);exact hq.elim),by omega,HOk.out,HB.out⟩
  have d1:decide ((i:Int)<12)=true:=decide_eq_true (by omega);obtain ⟨b,off,rfl,hbw,hrg⟩:=(HD.out.below HB.out).at hlt;obtain ⟨d,hd⟩:∃d,D[i]=d:=⟨_,rfl⟩;rw [hd] at hrg;have HRg:=hdd hrg;obtain ⟨t,ht⟩:∃t,wr.heap.size=t:=⟨_,rfl⟩;have HTt:=hdd ht;obtain ⟨wr0,hwr0⟩:∃W,wr=W:=⟨_,rfl⟩;have HW0:=hdd hwr0;clear hrg hd ht hwr0
  go_upto_region 7 with (first
   |(refine wpList_load_mid rfl 129 _ rfl b _ rfl (ddC d).toList _ HRg.out rfl rfl (by kernel_rfl) ?_)
   |fail)
  have hF:∀W,W=wr.alloc (.cells (ddC d) 129)→Below wr.heap.size wr W∧W.heap[t]? = some (.cells (ddC d) 129 (0,0)):=by
   rintro _ rfl;exact ⟨(Below.refl _ _).alloc (Nat.le_refl _) _,by rw [←HTt.out];exact kai _ _⟩
  rw [HTt.out];show Code.wp _ _ _ _ (wr.alloc (.cells (ddC d) 129));generalize hw2:wr.alloc (.cells (ddC d) 129)=w2;obtain ⟨hb2,hT2⟩:=hF w2 hw2.symm;have HB2:=hdd hb2;have HT2:=hdd hT2;clear hF hw2 hb2 hT2 hbw;obtain ⟨r,hr⟩:∃r,d.k % 5=r:=⟨_,rfl⟩;have hr5:r<5:=by omega
  have hrm:(d.k:Int).tmod 5=(r:Int):=by rw [Int.tmod_eq_emod_of_nonneg (by omega)];omega
  obtain ⟨kk,hkk⟩:∃kk,r+1=kk:=⟨_,rfl⟩;have hwr:IntKind.i64.wrap (r:Int)=(r:Int):=by rw [IntKind.wrap_i64];omega
  have hwk:IntKind.i64.wrap ((r:Int)+1)=(kk:Int):=by rw [IntKind.wrap_i64];omega
  have HKk:=hdd (show 1≤kk∧kk≤5 by omega);have HS:=hdd (fun (W:World) (hD:W.heap[t]? = some (.cells (ddC d) 129 (0,0)))=>And.intro ((kaa hD 0).trans rfl:W.cell? ⟨t,0,none⟩=some (.int .u8 (d.k:Int))) ((kaa hD 1).trans rfl:W.cell? ⟨t,1,none⟩=some (.int .u8 (d.a:Int))));clear hr hkk
  go_cut [7] from 26 to 34 (fun s7 wx=>kz2 L t d kk wr s7 wx)
  case first =>
   refine kaj (S:=fun W=>W.cell? ⟨t,0,none⟩=some (.int .u8 (d.k:Int))∧W.cell? ⟨t,1,none⟩=some (.int .u8 (d.a:Int))) (by kernel_rfl) (HS.out w2.drew HT2.out) (fun hHeld=>?_);have hb3:Below wr.heap.size wr w2.drew:=dr HB2.out;have hT3:w2.drew.heap[t]? = some (.cells (ddC d) 129 (0,0)):=HT2.out;generalize w2.drew=wz at hb3 hT3 hHeld ⊢;simp only [List.toList_toArray,len,kat]
   iterate 7 (refine tz 0 ?_;simp only [Act.put,s1,s2,s3])
   refine wpAnyH_ready (rs:=[7,9]) (by kernel_rfl) (by simp) ?_;refine AllReadyH.cons rfl (fun K hK=>?_) (ar1 rfl (fun K hK=>?_))
   ·go_simp
    refine (kj9 d.a d.ha _).mono ?_;rintro en wa ⟨a,rfl,ha3,hba⟩;have hb4:=hb3.next hba;have hT4:=kab hba (kad hT3) hT3;clear hHeld;refine hK.out _ _ (HS.out _ hT4) (fun hHeld=>?_);clear hK K
    try simp only [Act.put,s1,s2,s3,s4,s5,s6]
    (refine tz 8 ?_;simp only [Act.put,s1,s2,s3])
    refine ar2 9 (by kernel_rfl) rfl (fun K hK=>?_);go_simp
    have hb5:=hb4.alloc hb4.size (.cells evZ 45);have hT5:=kah (o':=.cells evZ 45) hT4;have hM5:=kai wa (.cells evZ 45);have hmt:t≠wa.heap.size:=by have:=kad hT4;omega
    have hmz:wr.heap.size≤wa.heap.size:=hb4.size;obtain ⟨mm,hmm⟩:∃m,wa.heap.size=m:=⟨_,rfl⟩;simp only [hmm] at hM5 hmt hmz ⊢;clear hHeld hmm;refine hK.out _ _ (HS.out (wa.alloc (.cells evZ 45)) hT5) (fun _=>?_);clear hK K
    try simp only [Act.put,s1,s2,s3,s4,s5,s6]
    show wpAnyH _ _ _ _ _ _ _ _ (wa.alloc (.cells evZ 45));have hHeld:=HS.out _ hT5;generalize wa.alloc (.cells evZ 45)=wb at hb5 hT5 hM5 hHeld ⊢;refine ar2 10 (by kernel_rfl) rfl (fun K hK=>?_);refine kam rfl 45 _ _ rfl mm rfl (evC (evP kk a (0:Nat) []) kaf kaf kaf kaf kaf) rfl 45 evZ hM5 (by kernel_rfl) rfl (kbe _ _ _ _ _ _ rfl rfl rfl rfl rfl) ?_;intro wc hwc hkc;have hTc:=(hkc.block t (kad hT5) hmt).trans hT5;have hbc:=hb5.trans (hkc.below hb5.size (fun q hq e=>by have:q=mm:=e;omega));refine hK.out _ _ (HS.out _ hTc) (fun hHeld=>?_);clear hK K
    try simp only [Act.put,s1,s2,s3,s4,s5,s6]
    refine wpAnyH_done (by kernel_rfl) ?_ _
    try simp only [Exit.then]
    go_wp2_with fail
    go_meet
    exact ⟨mm,a,rfl,hmz,hmt,ha3,hbc,hTc,hwc,World.ownsRow_nil _ _ _ _,by simp,by simp,by omega⟩
   ·go_simp
    have hb5:=hb3.alloc hb3.size (.cells evZ 45);have hT5:=kah (o':=.cells evZ 45) hT3;have hM5:=kai wz (.cells evZ 45);have hmt:t≠wz.heap.size:=by have:=kad hT3;omega
    have hmz:wr.heap.size≤wz.heap.size:=hb3.size;obtain ⟨mm,hmm⟩:∃m,wz.heap.size=m:=⟨_,rfl⟩;simp only [hmm] at hM5 hmt hmz ⊢;clear hHeld hmm;refine hK.out _ _ (HS.out (wz.alloc (.cells evZ 45)) hT5) (fun _=>?_);clear hK K
    try simp only [Act.put,s1,s2,s3,s4,s5,s6]
    show wpAnyH _ _ _ _ _ _ _ _ (wz.alloc (.cells evZ 45));have hHeld:=HS.out _ hT5;generalize wz.alloc (.cells evZ 45)=wb at hb5 hT5 hM5 hHeld ⊢;refine ar2 7 (by kernel_rfl) rfl (fun K hK=>?_);go_simp
    refine (kj9 d.a d.ha _).mono ?_;rintro en wa ⟨a,rfl,ha3,hba⟩;have hb4:=hb5.next hba;have hT4:=kab hba (kad hT5) hT5;have hM4:=kab hba (kad hM5) hM5;clear hHeld;refine hK.out _ _ (HS.out _ hT4) (fun hHeld=>?_);clear hK K
    try simp only [Act.put,s1,s2,s3,s4,s5,s6]
    (refine tz 8 ?_;simp only [Act.put,s1,s2,s3])
    refine ar2 10 (by kernel_rfl) rfl (fun K hK=>?_);refine kam rfl 45 _ _ rfl mm rfl (evC (evP kk a (0:Nat) []) kaf kaf kaf kaf kaf) rfl 45 evZ hM4 (by kernel_rfl) rfl (kbe _ _ _ _ _ _ rfl rfl rfl rfl rfl) ?_;intro wc hwc hkc;have hTc:=(hkc.block t (kad hT4) hmt).trans hT4;have hbc:=hb4.trans (hkc.below hb4.size (fun q hq e=>by have:q=mm:=e;omega));refine hK.out _ _ (HS.out _ hTc) (fun hHeld=>?_);clear hK K
    try simp only [Act.put,s1,s2,s3,s4,s5,s6]
    refine wpAnyH_done (by kernel_rfl) ?_ _
    try simp only [Exit.then]
    go_wp2_with fail
    go_meet
    exact ⟨mm,a,rfl,hmz,hmt,ha3,hbc,hTc,hwc,World.ownsRow_nil _ _ _ _,by simp,by simp,by omega⟩
  case rest =>
   unfold kz2 at hcut;obtain ⟨m,a,rfl,hmz,hmt,ha3,hEM⟩:=hcut;rw [HW0.out] at hEM hmz;have HEM:=hdd hEM;rw [HW0.out] at HO HI HB;have HMt:=hdd (And.intro hmz hmt);have hLl:L.length≤12:=by omega
   clear hEM hmz hmt hrm hwr hwk hr5 d0 d1
   go_wp2_with fail
   go_loopw [8,9] (fun s8 s9 wl=>kym L t m d a kk wr0 s8 s9 wl) (fun _ s9 _=>L.length - (intOf s9).toNat)
   case atStart=>exact ⟨0,0,-1,[],kaf,Nat.zero_le _,rfl,rfl,by omega,by omega,by omega,by simp,HEM.out⟩
   case round =>
    unfold kym at hrel;obtain ⟨k,num,last,xs,vn,hk,rfl,rfl,hl1,hl2,hnk,hxk,hE⟩:=hrel;have HE:=hdd hE;clear hE
    by_cases hkl:k<L.length
    ·have hkli:(k:Int)<(L.length:Int):=by omega
     have hOg:=HO.out.grow HE.out.1;obtain ⟨g3,cv,hve,-,-,-⟩:=kax hOg.row (by omega);simp only [Value.slice.injEq,true_and] at hve;obtain ⟨rfl,rfl⟩:=hve;obtain ⟨x,hx⟩:∃x,L[k]=x:=⟨_,rfl⟩;have hat:=hOg.at hkl;rw [hx] at hat;obtain ⟨au,hau⟩:∃u,x.e.author=u:=⟨_,rfl⟩;have cx1:wr.cell? ⟨g3,k*18+1,none⟩=some (.string (B au)):=by rw [←hau];exact hat 1 _ rfl
     have cm1:wr.cell? ⟨m,1,none⟩=some (.string (B a)):=by rw [kaa HE.out.2.2.1];rfl
     have cm2:wr.cell? ⟨m,2,none⟩=some (.int .i64 (num:Int)):=by rw [kaa HE.out.2.2.1];rfl
     have ct5:wr.cell? ⟨t,5,none⟩=some (.int .u16 (d.f:Int)):=by rw [kaa HE.out.2.1];rfl
     clear hOg hat hx hau
     by_cases hq:au=a
     ·have q1:((B au).toList == (B a).toList)=true:=by rw [hq];exact kbx a
      clear hq
      go_upto_region 12 with fail
      go_quiet (fail)
      obtain ⟨nn,hnn⟩:∃x,num+1=x:=⟨_,rfl⟩;have hwn:IntKind.i64.wrap ((num:Int)+1)=(nn:Int):=by rw [IntKind.wrap_i64];omega
      have hnnk:nn≤k+1:=by omega
      clear hnn
      go_upto_region 14 with (first
       |(refine kae rfl 3 _ _ rfl m 2 rfl (.int .i64 (nn:Int)) ?hyv rfl rfl _ 45 HE.out.2.2.1 (by simp) (by kernel_rfl) ?_
         go_loud (
         case hyv=>go_simp
         intro w5 hw5 hk5
         have HE5:=hdd (show EvM L t m d a kk nn xs vn wr0 w5 from
          ⟨HE.out.1.trans ((below_drewN (Below.refl _ _) _).trans (hk5.below HE.out.1.size (fun q hq e=>by have:q=m:=e;have:=HMt.out.1;omega))),(hk5.block t (kad HE.out.2.1) HMt.out.2).trans HE.out.2.1,hw5,kal HE.out.2.2.2.1 fun q hq=>hk5.block q (HE.out.2.2.2.1.lt q hq).2 (fun e=>kas HE.out.2.2.2.1 HE.out.2.2.1 (by decide) q hq e),HE.out.2.2.2.2.1,HE.out.2.2.2.2.2.1,by omega⟩)
         clear hw5 hk5))
       |fail)
      clear cm2;have ct55:w5.cell? ⟨t,5,none⟩=some (.int .u16 (d.f:Int)):=by rw [kaa HE5.out.2.1];rfl
      clear cm1 ct5 cx1 q1;have hla1:(-1:Int)≤Int.ofNat k:=by show (-1:Int)≤(k:Int);omega
      have hla2:Int.ofNat k<((k+1:Nat):Int):=by show (k:Int)<((k+1:Nat):Int);omega
      clear hwn hl1 hl2 hnk
      go_wp2_with fail
      ·skip
       obtain ⟨sx,hsx⟩:∃s,(Rv.idsOf (ka2 L)).getD k []=s:=⟨_,rfl⟩
       have hsm:sx∈Rv.idsOf (ka2 L):=by
        have hkl2:k<(Rv.idsOf (ka2 L)).length:=by rw [kbg];omega
        rw [←hsx,List.getD_eq_getElem?_getD,List.getElem?_eq_getElem hkl2];exact List.getElem_mem hkl2
       obtain ⟨g4,c4',hv4,-,-,-⟩:=kax HI.out (by omega);simp only [Value.slice.injEq,true_and] at hv4;obtain ⟨rfl,rfl⟩:=hv4;have hIw:=kal HI.out (w':=w5) fun q hq=>HE5.out.1.block q (HI.out.lt q hq).2
       have hci:w5.cell? ⟨g4,k,none⟩=some (vS sx):=by
        have h1:=kce hIw (i:=k) (by rw [List.length_map,kbg];omega);rw [h1,kb8 (Rv.idsOf (ka2 L)) (i:=k) (by rw [kbg];omega),hsx];rfl
       have hcm:w5.cell? ⟨m,3,none⟩=some vn:=by rw [kaa HE5.out.2.2.1];rfl
       obtain ⟨an,cn,rfl⟩:=kag HE5.out.2.2.2.1;have HSx:=hdd hsm;have HS:=hdd (fun (W:World) (hb:Below w5.heap.size w5 W)=>And.intro ((hb.cell (p:=⟨m,3,none⟩) (World.block_lt_of_cell? _ _ hcm)).trans hcm) ((hb.cell (p:=⟨g4,k,none⟩) (World.block_lt_of_cell? _ _ hci)).trans hci));clear hsx hsm hIw;refine kdb [7,8] (S:=fun W=>W.cell? ⟨m,3,none⟩=some (.slice an xs.length cn)∧W.cell? ⟨g4,k,none⟩=some (vS sx)) (by kernel_rfl) (HS.out (w5).drew (Below.refl _ _).drew) (fun hHeld=>?_);have hbz:Below w5.heap.size w5 (w5).drew:=(Below.refl _ _).drew;clear hci hcm;generalize (w5).drew=wz at hbz hHeld ⊢;simp only [List.toList_toArray,len,kat]
       iterate 6 (refine tkT 0 rfl rfl rfl (by kernel_rfl) (fun _ _ _ h=>h) (by intro W hW;(try dsimp only at hW);go_simp <;> with_reducible rfl) (by assumption) ?_;simp only [Act.put,s1,s2,s3])
       refine kau (rs:=[6]) (by kernel_rfl) (by simp) ?_;refine kao.cons rfl (fun K hK=>?_) kao.nil;go_simp
       have hOz:=kal HE5.out.2.2.2.1 (w':=wz) fun q hq=>hbz.block q (HE5.out.2.2.2.1.lt q hq).2
       have hins:=kfp _ xs sx wz (kdr hOz (by omega)) (kjq.own hOz).cap (kjq.own hOz).nil (by omega);refine hins.mono ?_;rintro en wI ⟨v',rfl,hor,hlen,hbI⟩;have hbY:=hbz.next hbI;clear hHeld hins;refine hK.out _ _ (HS.out _ hbY) (fun hHeld=>?_);clear hK K
       try simp only [Act.put,s1,s2,s3,s4,s5,s6]
       (refine tuT 7 rfl rfl rfl (by kernel_rfl) (fun _ _ _ h=>h) (by intro W;go_simp <;> with_reducible rfl) ?_;simp only [Act.put,s1,s2,s3])
       refine kau (rs:=[8]) (by kernel_rfl) (by simp) ?_;refine kao.last rfl rfl (fun K hK=>?_);have hoI:=kkw (W0:=wr0) hOz hor (Nat.le_trans HE5.out.1.size hbz.size) hbI;obtain ⟨aR,cR,rfl⟩:=kag hoI;have hmI:=kab hbY (kad HE5.out.2.2.1) HE5.out.2.2.1;refine kan rfl 39 _ _ rfl m 3 rfl (.slice aR (kjt xs sx).length cR) rfl rfl rfl _ 45 hmI (by simp) (by kernel_rfl) ?_;intro wS hwS hkS
       have HES:=hdd (show EvM L t m d a kk nn (kjt xs sx) (.slice aR (kjt xs sx).length cR) wr0 wS from by
        have hb1:=HE5.out.1.next hbY;have ht1:=kab hbY (kad HE5.out.2.1) HE5.out.2.1;refine ⟨hb1.trans (hkS.below hb1.size (fun q hq e=>by have:q=m:=e;have:=HMt.out.1;omega)),(hkS.block t (kad ht1) HMt.out.2).trans ht1,hwS,kal hoI fun q hq=>hkS.block q (hoI.lt q hq).2 (fun e=>kas hoI hmI (by decide) q hq e),fun z hz=>?_,by omega,HE5.out.2.2.2.2.2.2⟩;rcases kkn hz with h1|rfl
        ·exact HE5.out.2.2.2.2.1 z h1
        ·exact HSx.out)
       have HXl:=hdd hlen;refine hK.out _ _ ?_;clear hK K
       try simp only [Act.put,s1,s2,s3,s4,s5,s6]
       clear hHeld hoI hmI hwS hkS hbY hbI hbz hOz hor hlen;refine kb6 (by kernel_rfl) ?_ _
       try simp only [Exit.then]
       go_wp2_with fail
       have hF:kym L t m d a kk wr0 (.int .i64 ((Int.ofNat k))) (.int .i64 ((k+1:Nat):Int)) wS:=⟨k+1,nn,(Int.ofNat k),kjt xs sx,_,by omega,rfl,rfl,hla1,hla2,by omega,by have:=HXl.out;omega,HES.out⟩;refine ⟨?_,?_⟩
       ·first|exact hF|((repeat apply Exists.intro);exact ⟨hF,rfl⟩)
       ·simp [intOf];omega
      ·have hF:kym L t m d a kk wr0 (.int .i64 ((Int.ofNat k))) (.int .i64 ((k+1:Nat):Int)) w5:=⟨k+1,nn,(Int.ofNat k),xs,vn,by omega,rfl,rfl,hla1,hla2,by omega,by omega,HE5.out⟩
       refine ⟨?_,?_⟩
       ·first|exact hF|((repeat apply Exists.intro);exact ⟨hF,rfl⟩)
       ·simp [intOf];omega
     ·have q1:=kby hq
      clear hq
      go_upto_region 12 with fail
      go_quiet (fail)
      go_upto_region 14 with fail
      clear cm1 cm2 cx1 q1;have hla1:(-1:Int)≤last:=hl1;have hla2:last<((k+1:Nat):Int):=by omega
      have hwq:=HE.out.grow (below_drewN (Below.refl _ _) nq);generalize wr.drewN nq=wq at hwq ⊢;have HEq:=hdd hwq;clear hl1 hl2 hwq HE ct5;have ct5q:wq.cell? ⟨t,5,none⟩=some (.int .u16 (d.f:Int)):=by rw [kaa HEq.out.2.1];rfl
      go_wp2_with fail
      ·skip
       obtain ⟨sx,hsx⟩:∃s,(Rv.idsOf (ka2 L)).getD k []=s:=⟨_,rfl⟩
       have hsm:sx∈Rv.idsOf (ka2 L):=by
        have hkl2:k<(Rv.idsOf (ka2 L)).length:=by rw [kbg];omega
        rw [←hsx,List.getD_eq_getElem?_getD,List.getElem?_eq_getElem hkl2];exact List.getElem_mem hkl2
       obtain ⟨g4,c4',hv4,-,-,-⟩:=kax HI.out (by omega);simp only [Value.slice.injEq,true_and] at hv4;obtain ⟨rfl,rfl⟩:=hv4;have hIw:=kal HI.out (w':=wq) fun q hq=>HEq.out.1.block q (HI.out.lt q hq).2
       have hci:wq.cell? ⟨g4,k,none⟩=some (vS sx):=by
        have h1:=kce hIw (i:=k) (by rw [List.length_map,kbg];omega);rw [h1,kb8 (Rv.idsOf (ka2 L)) (i:=k) (by rw [kbg];omega),hsx];rfl
       have hcm:wq.cell? ⟨m,3,none⟩=some vn:=by rw [kaa HEq.out.2.2.1];rfl
       obtain ⟨an,cn,rfl⟩:=kag HEq.out.2.2.2.1;have HSx:=hdd hsm;have HS:=hdd (fun (W:World) (hb:Below wq.heap.size wq W)=>And.intro ((hb.cell (p:=⟨m,3,none⟩) (World.block_lt_of_cell? _ _ hcm)).trans hcm) ((hb.cell (p:=⟨g4,k,none⟩) (World.block_lt_of_cell? _ _ hci)).trans hci));clear hsx hsm hIw;refine kdb [7,8] (S:=fun W=>W.cell? ⟨m,3,none⟩=some (.slice an xs.length cn)∧W.cell? ⟨g4,k,none⟩=some (vS sx)) (by kernel_rfl) (HS.out (wq).drew (Below.refl _ _).drew) (fun hHeld=>?_);have hbz:Below wq.heap.size wq (wq).drew:=(Below.refl _ _).drew;clear hci hcm;generalize (wq).drew=wz at hbz hHeld ⊢;simp only [List.toList_toArray,len,kat]
       iterate 6 (refine tkT 0 rfl rfl rfl (by kernel_rfl) (fun _ _ _ h=>h) (by intro W hW;(try dsimp only at hW);go_simp <;> with_reducible rfl) (by assumption) ?_;simp only [Act.put,s1,s2,s3])
       refine kau (rs:=[6]) (by kernel_rfl) (by simp) ?_;refine kao.cons rfl (fun K hK=>?_) kao.nil;go_simp
       have hOz:=kal HEq.out.2.2.2.1 (w':=wz) fun q hq=>hbz.block q (HEq.out.2.2.2.1.lt q hq).2
       have hins:=kfp _ xs sx wz (kdr hOz (by omega)) (kjq.own hOz).cap (kjq.own hOz).nil (by omega);refine hins.mono ?_;rintro en wI ⟨v',rfl,hor,hlen,hbI⟩;have hbY:=hbz.next hbI;clear hHeld hins;refine hK.out _ _ (HS.out _ hbY) (fun hHeld=>?_);clear hK K
       try simp only [Act.put,s1,s2,s3,s4,s5,s6]
       (refine tuT 7 rfl rfl rfl (by kernel_rfl) (fun _ _ _ h=>h) (by intro W;go_simp <;> with_reducible rfl) ?_;simp only [Act.put,s1,s2,s3])
       refine kau (rs:=[8]) (by kernel_rfl) (by simp) ?_;refine kao.last rfl rfl (fun K hK=>?_);have hoI:=kkw (W0:=wr0) hOz hor (Nat.le_trans HEq.out.1.size hbz.size) hbI;obtain ⟨aR,cR,rfl⟩:=kag hoI;have hmI:=kab hbY (kad HEq.out.2.2.1) HEq.out.2.2.1;refine kan rfl 39 _ _ rfl m 3 rfl (.slice aR (kjt xs sx).length cR) rfl rfl rfl _ 45 hmI (by simp) (by kernel_rfl) ?_;intro wS hwS hkS
       have HES:=hdd (show EvM L t m d a kk num (kjt xs sx) (.slice aR (kjt xs sx).length cR) wr0 wS from by
        have hb1:=HEq.out.1.next hbY;have ht1:=kab hbY (kad HEq.out.2.1) HEq.out.2.1;refine ⟨hb1.trans (hkS.below hb1.size (fun q hq e=>by have:q=m:=e;have:=HMt.out.1;omega)),(hkS.block t (kad ht1) HMt.out.2).trans ht1,hwS,kal hoI fun q hq=>hkS.block q (hoI.lt q hq).2 (fun e=>kas hoI hmI (by decide) q hq e),fun z hz=>?_,by omega,HEq.out.2.2.2.2.2.2⟩;rcases kkn hz with h1|rfl
        ·exact HEq.out.2.2.2.2.1 z h1
        ·exact HSx.out)
       have HXl:=hdd hlen;refine hK.out _ _ ?_;clear hK K
       try simp only [Act.put,s1,s2,s3,s4,s5,s6]
       clear hHeld hoI hmI hwS hkS hbY hbI hbz hOz hor hlen;refine kb6 (by kernel_rfl) ?_ _
       try simp only [Exit.then]
       go_wp2_with fail
       have hF:kym L t m d a kk wr0 (.int .i64 (last)) (.int .i64 ((k+1:Nat):Int)) wS:=⟨k+1,num,last,kjt xs sx,_,by omega,rfl,rfl,hla1,hla2,by omega,by have:=HXl.out;omega,HES.out⟩;refine ⟨?_,?_⟩
       ·first|exact hF|((repeat apply Exists.intro);exact ⟨hF,rfl⟩)
       ·simp [intOf];omega
      ·have hF:kym L t m d a kk wr0 (.int .i64 (last)) (.int .i64 ((k+1:Nat):Int)) wq:=⟨k+1,num,last,xs,vn,by omega,rfl,rfl,hla1,hla2,by omega,by omega,HEq.out⟩
       refine ⟨?_,?_⟩
       ·first|exact hF|((repeat apply Exists.intro);exact ⟨hF,rfl⟩)
       ·simp [intOf];omega
    ·have hke:k=L.length:=by omega
     subst hke;have hle1:(-1:Int)≤last:=hl1;clear hl1
     go_upto_if 70 with fail
     go_cut [8] from 71 to 78 (fun _ wx=>kzz L t m d a kk num wr0 wx)
     case first =>
      by_cases hla:0≤last
      ·obtain ⟨la,hla2⟩:∃la:Nat,last=(la:Int):=⟨last.toNat,by omega⟩
       subst hla2;have hlL:la<L.length:=by omega
       have hlLi:(la:Int)<(L.length:Int):=by omega
       go_upto_region 17 with fail
       obtain ⟨sx,hsx⟩:∃s,(Rv.idsOf (ka2 L)).getD la []=s:=⟨_,rfl⟩
       have hsm:sx∈Rv.idsOf (ka2 L):=by
        have hkl2:la<(Rv.idsOf (ka2 L)).length:=by rw [kbg];omega
        rw [←hsx,List.getD_eq_getElem?_getD,List.getElem?_eq_getElem hkl2];exact List.getElem_mem hkl2
       obtain ⟨g4,c4',hv4,-,-,-⟩:=kax HI.out (by omega);simp only [Value.slice.injEq,true_and] at hv4;obtain ⟨rfl,rfl⟩:=hv4;have hIw:=kal HI.out (w':=wr) fun q hq=>HE.out.1.block q (HI.out.lt q hq).2
       have hci:wr.cell? ⟨g4,la,none⟩=some (vS sx):=by
        have h1:=kce hIw (i:=la) (by rw [List.length_map,kbg];omega);rw [h1,kb8 (Rv.idsOf (ka2 L)) (i:=la) (by rw [kbg];omega),hsx];rfl
       have hcm:wr.cell? ⟨m,3,none⟩=some vn:=by rw [kaa HE.out.2.2.1];rfl
       obtain ⟨an,cn,rfl⟩:=kag HE.out.2.2.2.1;have HSx:=hdd hsm;have HS:=hdd (fun (W:World) (hb:Below wr.heap.size wr W)=>And.intro ((hb.cell (p:=⟨m,3,none⟩) (World.block_lt_of_cell? _ _ hcm)).trans hcm) ((hb.cell (p:=⟨g4,la,none⟩) (World.block_lt_of_cell? _ _ hci)).trans hci));clear hsx hsm hIw;refine kdb [7,8] (S:=fun W=>W.cell? ⟨m,3,none⟩=some (.slice an xs.length cn)∧W.cell? ⟨g4,la,none⟩=some (vS sx)) (by kernel_rfl) (HS.out (wr).drew (Below.refl _ _).drew) (fun hHeld=>?_);have hbz:Below wr.heap.size wr (wr).drew:=(Below.refl _ _).drew;clear hci hcm;generalize (wr).drew=wz at hbz hHeld ⊢;simp only [List.toList_toArray,len,kat]
       iterate 6 (refine tkT 0 rfl rfl rfl (by kernel_rfl) (fun _ _ _ h=>h) (by intro W hW;(try dsimp only at hW);go_simp <;> with_reducible rfl) (by assumption) ?_;simp only [Act.put,s1,s2,s3])
       refine kau (rs:=[6]) (by kernel_rfl) (by simp) ?_;refine kao.cons rfl (fun K hK=>?_) kao.nil;go_simp
       have hOz:=kal HE.out.2.2.2.1 (w':=wz) fun q hq=>hbz.block q (HE.out.2.2.2.1.lt q hq).2
       have hins:=kfp _ xs sx wz (kdr hOz (by omega)) (kjq.own hOz).cap (kjq.own hOz).nil (by omega);refine hins.mono ?_;rintro en wI ⟨v',rfl,hor,hlen,hbI⟩;have hbY:=hbz.next hbI;clear hHeld hins;refine hK.out _ _ (HS.out _ hbY) (fun hHeld=>?_);clear hK K
       try simp only [Act.put,s1,s2,s3,s4,s5,s6]
       (refine tuT 7 rfl rfl rfl (by kernel_rfl) (fun _ _ _ h=>h) (by intro W;go_simp <;> with_reducible rfl) ?_;simp only [Act.put,s1,s2,s3])
       refine kau (rs:=[8]) (by kernel_rfl) (by simp) ?_;refine kao.last rfl rfl (fun K hK=>?_);have hoI:=kkw (W0:=wr0) hOz hor (Nat.le_trans HE.out.1.size hbz.size) hbI;obtain ⟨aR,cR,rfl⟩:=kag hoI;have hmI:=kab hbY (kad HE.out.2.2.1) HE.out.2.2.1;refine kan rfl 39 _ _ rfl m 3 rfl (.slice aR (kjt xs sx).length cR) rfl rfl rfl _ 45 hmI (by simp) (by kernel_rfl) ?_;intro wS hwS hkS
       have HES:=hdd (show EvM L t m d a kk num (kjt xs sx) (.slice aR (kjt xs sx).length cR) wr0 wS from by
        have hb1:=HE.out.1.next hbY;have ht1:=kab hbY (kad HE.out.2.1) HE.out.2.1;refine ⟨hb1.trans (hkS.below hb1.size (fun q hq e=>by have:q=m:=e;have:=HMt.out.1;omega)),(hkS.block t (kad ht1) HMt.out.2).trans ht1,hwS,kal hoI fun q hq=>hkS.block q (hoI.lt q hq).2 (fun e=>kas hoI hmI (by decide) q hq e),fun z hz=>?_,by omega,HE.out.2.2.2.2.2.2⟩;rcases kkn hz with h1|rfl
        ·exact HE.out.2.2.2.2.1 z h1
        ·exact HSx.out)
       have HXl:=hdd hlen;refine hK.out _ _ ?_;clear hK K
       try simp only [Act.put,s1,s2,s3,s4,s5,s6]
       clear hHeld hoI hmI hwS hkS hbY hbI hbz hOz hor hlen;refine kb6 (by kernel_rfl) ?_ _
       try simp only [Exit.then]
       go_wp2_with fail
       go_meet
       exact ⟨_,_,HES.out⟩
      ·have hlan:¬ 0≤last:=hla
       go_wp2_with fail
       go_meet
       exact ⟨_,_,HE.out⟩
     case rest =>
      unfold kzz at hcut;obtain ⟨xs,vn,hE⟩:=hcut;have HE:=hdd hE;have cm2:wc.cell? ⟨m,2,none⟩=some (.int .i64 (num:Int)):=by rw [kaa hE.2.2.1];rfl
      have cm0:wc.cell? ⟨m,0,none⟩=some (.int .i64 (kk:Int)):=by rw [kaa hE.2.2.1];rfl
      obtain ⟨b0,hb0⟩:∃b,((num:Int) == 0)=b:=⟨_,rfl⟩;obtain ⟨b1,hb1⟩:∃b,((kk:Int) == 1)=b:=⟨_,rfl⟩;clear hE hle1 hl2
      go_upto_if 85 with fail
      go_cut [8] from 86 to 90 (fun _ wx=>kwq L t m d a num wr0 wx)
      case first =>
       have hk15:=HKk.out
       cases b0 <;> cases b1
       all_goals
        go_wp2_with (first
         |(refine kae rfl 3 _ _ rfl m 0 rfl (.int .i64 3) rfl rfl rfl _ 45 HE.out.2.2.1 (by simp) (by kernel_rfl) ?_
           intro w5 hw5 hk5
           have hE5:EvM L t m d a 3 num xs vn wr0 w5 :=
            ⟨HE.out.1.trans (hk5.below HE.out.1.size (fun q hq e=>by have:q=m:=e;have:=HMt.out.1;omega)),(hk5.block t (kad HE.out.2.1) HMt.out.2).trans HE.out.2.1,hw5,kal HE.out.2.2.2.1 fun q hq=>hk5.block q (HE.out.2.2.2.1.lt q hq).2 (fun e=>kas HE.out.2.2.2.1 HE.out.2.2.1 (by decide) q hq e),HE.out.2.2.2.2⟩
           have cm5:w5.cell? ⟨m,2,none⟩=some (.int .i64 (num:Int)):=by rw [kaa hw5];rfl
           have HE5:=hdd hE5;clear hw5 hk5 hE5 cm0)
         |(refine kae rfl 3 _ _ rfl m 0 rfl (.int .i64 1) rfl rfl rfl _ 45 HE5.out.2.2.1 (by simp) (by kernel_rfl) ?_
           intro w6 hw6 hk6
           have hE6:EvM L t m d a 1 num xs vn wr0 w6 :=
            ⟨HE5.out.1.trans (hk6.below HE5.out.1.size (fun q hq e=>by have:q=m:=e;have:=HMt.out.1;omega)),(hk6.block t (kad HE5.out.2.1) HMt.out.2).trans HE5.out.2.1,hw6,kal HE5.out.2.2.2.1 fun q hq=>hk6.block q (HE5.out.2.2.2.1.lt q hq).2 (fun e=>kas HE5.out.2.2.2.1 HE5.out.2.2.1 (by decide) q hq e),HE5.out.2.2.2.2⟩
           have HE6:=hdd hE6;clear hw6 hk6 hE6 cm5)
         |fail)
        go_meet
        first
         |exact ⟨1,xs,vn,by omega,by omega,HE6.out⟩
         |exact ⟨3,xs,vn,by omega,by omega,HE5.out⟩
         |exact ⟨kk,xs,vn,hk15.1,hk15.2,HE.out⟩
      case rest =>
       unfold kwq at hcut;obtain ⟨k2,xs2,vn2,hk1,hk5,hE⟩:=hcut;obtain ⟨an,cn,rfl⟩:=kag hE.2.2.2.1;have HE2:=hdd hE;have hIw:=kal HI.out (w':=wc) fun q hq=>hE.1.block q (HI.out.lt q hq).2
       have HIw:=hdd hIw
       have HFill:=hdd (kvd d k2 a (num:Int) xs2 (Rv.idsOf (ka2 L)) an cn (.slice a3 L.length c3) (.slice a4 L.length c4) wc ⟨hk1,hk5⟩ (by omega) (fun x hx=>kit _ x (hE.2.2.2.2.1 x hx)) (kit _) (by
        have h1:wc.ownsRow w.heap.size 9 1 (.slice a4 L.length c4) (Rv.idsOf (ka2 L)).length ((Rv.idsOf (ka2 L)).map vS):=by rw [kbg];exact hIw
        exact kdr h1 (by rw [kbg];omega)))
       clear hE hIw cm0 cm2 hb0 hb1
       go_upto_region 23 with (first
        |(refine wpList_load_row rfl 45 _ rfl m rfl 45 (evC (evP k2 a num xs2) (.slice an xs2.length cn) kaf kaf kaf kaf) (0,0) _ HE2.out.2.2.1 rfl rfl (by kernel_rfl) ?_)
        |(refine wpList_load_row rfl 129 _ rfl t rfl 129 (ddC d) (0,0) _ HE2.out.2.1 rfl rfl (by kernel_rfl) ?_)
        |(go_at_call 74
          go_loud (
          refine (HFill.out).mono ?_;rintro en w5 ⟨e,vt,rfl,hnm,hsg,hok,htl,hot,hb5⟩;obtain ⟨av,cv,rfl⟩:=kag hot;have HB5:=hdd hb5;have HFl:=hdd (And.intro hnm (And.intro hsg (And.intro hok (And.intro htl hot))));have HM5:=hdd (kab hb5 (kad HE2.out.2.2.1) HE2.out.2.2.1);clear hnm hsg hok htl hot hb5))
        |(refine kac rfl 45 _ _ rfl m rfl (evC e (.slice an xs2.length cn) (.slice av e.targets.length cv) kaf kaf kaf) rfl 45 (evC (evP k2 a num xs2) (.slice an xs2.length cn) kaf kaf kaf kaf) HM5.out (by kernel_rfl) rfl (kbe _ _ _ _ _ _ rfl rfl rfl rfl rfl) ?_
          go_loud (
          intro w6 hw6 hk6;have HW6:=hdd (And.intro hw6 hk6);clear hw6 hk6))
        |fail)
       obtain ⟨hw6,hk6⟩:=HW6.out;obtain ⟨hnm,hsg,hok,htl,hot⟩:=HFl.out;have hE2:=HE2.out;have hz2:=hE2.1.size;have hz5:=HB5.out.size;have hkw:∀q,q<wc.heap.size→q≠m→w6.heap[q]? = wc.heap[q]?:=fun q hq hne=>(hk6.block q (Nat.lt_of_lt_of_le hq hz5) hne).trans (HB5.out.block q hq)
       have hb6:Below wr0.heap.size wr0 w6:=(hE2.1.next HB5.out).trans (hk6.below (Nat.le_trans hz2 hz5) (fun q hq e=>by have:q=m:=e;have:=HMt.out.1;omega));have hN6:=kal hE2.2.2.2.1 (w':=w6) fun q hq=>hkw q (hE2.2.2.2.1.lt q hq).2 (fun e=>kas hE2.2.2.2.1 hE2.2.2.1 (by decide) q hq e)
       have hT6:=kal hot (w':=w6) fun q hq=>hk6.block q (hot.lt q hq).2 (fun e=>kas hot HM5.out (by decide) q hq e)
       obtain ⟨X,hX⟩:∃X:EvX,X=⟨e,.slice an xs2.length cn,.slice av e.targets.length cv,kaf,kaf,kaf⟩:=⟨_,rfl⟩
       have hF:∀q,Fr (.slice a3 L.length c3) (fun q=>(Value.slice a4 L.length c4).ownBlock=some q) q→q<wr0.heap.size:=fun q hq=>by
        rcases hq with hq|hq
        ·exact (HO.out.row.lt q hq).2
        ·exact (HI.out.lt q hq).2
       have hXs:kba (Fr (.slice a3 L.length c3) (fun q=>(Value.slice a4 L.length c4).ownBlock=some q)) X.val X.e w6:=by
        subst hX;intro W hW;have hn0:IsSl kaf (([]:List Bs).map vS) W:=⟨Nat.zero_le _,.inl ⟨none,0,rfl,rfl⟩⟩;refine EvX.Ok.is ⟨hok,?_,?_,?_,?_,?_⟩
        ·show IsSl (.slice an xs2.length cn) (e.names.map vS) W
         rw [hnm];exact kie hN6 hF (Nat.le_refl _) (by have:=hE2.2.2.2.2.2.1;omega) hW
        ·exact kie hT6 hF hz2 (Nat.le_trans htl (by omega)) hW
        ·show IsSl kaf (e.sg.S.map vS) W
         rw [hsg];exact hn0
        ·show IsSl kaf (e.sg.H.map vS) W
         rw [hsg];exact hn0
        ·show IsSl kaf (e.sg.R.map vS) W
         rw [hsg];exact hn0
       have hXn:X.Nice:=by subst hX;exact ⟨kjq.own hE2.2.2.2.1,kjq.own hot⟩
       have hXm:w6.heap[m]? = some (.cells X.arr 45 (0,0)):=by subst hX;exact hw6
       have hXe:∀s∈X.e.names,s∈Rv.idsOf (ka2 L):=by subst hX;show ∀s∈e.names,_;rw [hnm];exact hE2.2.2.2.2.1
       have hXg:X.e.sg=Rv.sg0:=by subst hX;exact hsg
       have HB6:=hdd hb6;have HXs:=hdd hXs;have HXm:=hdd hXm;have HXf:=hdd (And.intro hXn (And.intro hXe hXg));have HO6:=hdd (HO.out.grow hb6);have HI6:=hdd (kal HI.out (w':=w6) fun q hq=>hb6.block q (HI.out.lt q hq).2);have hni:(Rv.idsOf (ka2 L)).length=L.length:=kbg L;clear hw6 hk6 hnm hsg hok htl hot hE2 hz2 hz5 hkw hb6 hN6 hT6 hX hF hXs hXn hXm hXe hXg HW6 HFl HM5 HFill HE2 HIw HB5
       by_cases hv:Rv.validB X.e=true
       ·have HID:=hdd (klf X.val X.e w6 HXs.out.is)
        have hv0:Rv.validE X.e=0:=by unfold Rv.validE;rw [if_pos hv]
        rw [hv0] at HID;clear hv0
        go_upto_region 24 with (first
         |(refine wpList_load_row rfl 45 _ rfl m rfl 45 X.arr (0,0) _ HXm.out rfl rfl (by kernel_rfl) ?_)
         |(go_at_call 38
           go_loud (
           refine (HID.out).mono ?_;rintro en w7 ⟨rfl,hb7⟩;have HB7:=hdd hb7;clear hb7))
         |fail)
        have HFd0:=kio (.slice a4 L.length c4) (Rv.idsOf (ka2 L)) (Rv.idE X.e) w7 (by
         have h1:=kal HI6.out (w':=w7) fun q hq=>HB7.out.block q (HI6.out.lt q hq).2
         have h2:w7.ownsRow w.heap.size 9 1 (.slice a4 L.length c4) (Rv.idsOf (ka2 L)).length ((Rv.idsOf (ka2 L)).map vS):=by rw [hni];exact h1
         exact kdr h2 (by rw [hni];omega))
        by_cases hin:Rv.idE X.e∈Rv.idsOf (ka2 L)
        ·have hlt:=Rv.findI_mem.2 hin
         obtain ⟨j,hj⟩:∃j:Nat,Rv.findI (Rv.idsOf (ka2 L)) (Rv.idE X.e)=j:=⟨_,rfl⟩;have hfz:keu (Rv.idsOf (ka2 L)) (Rv.idE X.e)=(j:Int):=by unfold keu;rw [if_pos hlt,hj]
         rw [hfz] at HFd0;have HFd:=hdd HFd0;have hj0:¬ ((j:Int)<0):=by omega
         clear hlt hj hfz HFd0
         go_wp2_with (first
          |(go_at_call 75
            go_loud (
            refine (HFd.out).mono ?_;rintro en w8 ⟨rfl,hw8⟩;subst w8))
          |fail)
         have hF:kq6 D w (.slice a3 L.length c3) (.slice a4 L.length c4) (.int .i64 ((i+1:Nat):Int)) w7 :=
          ⟨i+1,L,by omega,by omega,rfl,by omega,HO6.out.grow HB7.out,kal HI6.out fun q hq=>HB7.out.block q (HI6.out.lt q hq).2,HOk.out,HB.out.next (HB6.out.next HB7.out)⟩
         refine ⟨?_,?_⟩
         ·first|exact hF|((repeat apply Exists.intro);exact ⟨hF,rfl⟩)
         ·simp [intOf];omega
        ·have hlt:¬ Rv.findI (Rv.idsOf (ka2 L)) (Rv.idE X.e)<(Rv.idsOf (ka2 L)).length:=fun h=>hin (Rv.findI_mem.1 h)
         have hfz:keu (Rv.idsOf (ka2 L)) (Rv.idE X.e) = -1:=by unfold keu;rw [if_neg hlt]
         rw [hfz] at HFd0;have HFd:=hdd HFd0;clear hlt hfz HFd0;have HO7:=hdd (HO6.out.grow HB7.out);have HI7:=hdd (kal HI6.out (w':=w7) fun q hq=>HB7.out.block q (HI6.out.lt q hq).2);have HXm7:=bhh HB7.out HXm;have HXs7:=hdd (HXs.out.step HB7.out.size (fun q hq _=>HB7.out.block q hq) (fun q hq=>.inl hq));have HBw:=hdd (HB.out.next (HB6.out.next HB7.out))
         go_upto_region 25 with (first
          |(go_at_call 75
            go_loud (
            refine (HFd.out).mono ?_;rintro en w8 ⟨rfl,hw8⟩;subst w8))
          |fail)
         have hz7:=HBw.out.size;have HO7a:=hdd (HO7.out.grow ((Below.refl w7.heap.size w7).alloc (Nat.le_refl _) (.cells X.arr 45)))
         have HI7a:=hdd (show (w7.alloc (.cells X.arr 45)).ownsRow w.heap.size 9 1 (.slice a4 L.length c4) (Rv.idsOf (ka2 L)).length ((Rv.idsOf (ka2 L)).map vS) by
          rw [hni];exact kal HI7.out fun q hq=>((Below.refl w7.heap.size w7).alloc (Nat.le_refl _) (.cells X.arr 45)).block q (HI7.out.lt q hq).2)
         have HXs7a:=hdd (HXs7.out.step (w':=w7.alloc (.cells X.arr 45)) (by simp) (fun q hq _=>((Below.refl w7.heap.size w7).alloc (Nat.le_refl _) (.cells X.arr 45)).block q hq) (fun q hq=>.inl hq));have HB7a:=hdd (HBw.out.alloc hz7 (.cells X.arr 45))
         go_wp2_with (first
          |(refine wpList_load_row rfl 45 _ rfl m rfl 45 X.arr (0,0) _ HXm7.out rfl rfl (by kernel_rfl) ?_)
          |(at_builtin
            go_loud (
            refine kcj rfl _ _ rfl (base:=w.heap.size) (b:=w7.heap.size) (G:=fun q=>(Value.slice a4 L.length c4).ownBlock=some q) (u:=.slice a3 L.length c3) (L:=L) (X:=X) rfl rfl HO7a.out (kai w7 (.cells X.arr 45)) HXs7a.out (by omega) (by simp;omega) ?_;intro v8 w8 ho8 hg8 hq8;have hI8:=kdc HI7a.out HO7a.out.row (by decide) hg8;have hb8:Below w.heap.size w w8:=HB7a.out.grown hg8 (by simp;omega) (fun q hq=>(HO7a.out.row.lt q hq).1);have hbb:=(Below.refl w8.heap.size w8).alloc (Nat.le_refl _) (.cells #[.string (B (Rv.idE X.e))] 9);have HO8:=hdd (ho8.grow hbb);have HI8:=hdd (kal hI8 fun q hq=>hbb.block q (hI8.lt q hq).2);have HB8:=hdd (hb8.alloc hb8.size (.cells #[.string (B (Rv.idE X.e))] 9));have hz8:=hb8.size;clear ho8 hg8 hq8 hI8 hb8 hbb))
          |(at_builtin
            go_loud (
            refine khl rfl _ _ rfl (base:=w.heap.size) (u:=.slice a4 L.length c4) (xs:=Rv.idsOf (ka2 L)) (ys:=[Rv.idE X.e]) (w0:=w8.alloc (.cells #[.string (B (Rv.idE X.e))] 9)) rfl rfl HI8.out (kyw _ _) (Below.refl _ _) (by intro n c e;cases e) (by rw [hni,List.length_singleton];omega) (by simp;omega) ?_;intro v9 w9 ho9 hg9 hq9;have HI9:=hdd ho9;have HB9:=hdd (HB8.out.grown hg9 (by simp;omega) (fun q hq=>(HI8.out.lt q hq).1))
            have HO9:=hdd (HO8.out.keep (F':=Fr v8 (fun q=>v9.ownBlock=some q)) hg9.size (fun q hq hn=>hg9.block q hq (fun e=>hn (.inr e.symm))) (fun q hq=>by
             obtain ⟨cur,hc⟩:=km8 HO8.out.row hq;exact hg9.block q (kad hc) (fun e=>kas HI8.out hc (by decide) q e.symm rfl)) (fun q hq=>by
             rcases hq with hq|hq
             ·exact .inl (.inl hq)
             ·exact (hq9 q hq).imp .inr id))
            clear ho9 hg9 hq9))
          |fail)
         have hok:=HOk.out.snoc hv HXf.out.2.2 hin HXf.out.2.1 HXf.out.1;have hlen:(L++[X]).length=L.length+1:=by simp
         have hF:kq6 D w v8 v9 (.int .i64 ((i+1:Nat):Int)) w9 :=
          ⟨i+1,L++[X],by omega,by omega,rfl,by omega,HO9.out,by
            have h1:=HI9.out;rw [←klc,kbg] at h1;exact h1,hok,HB9.out⟩
         refine ⟨?_,?_⟩
         ·first|exact hF|((repeat apply Exists.intro);exact ⟨hF,rfl⟩)
         ·simp [intOf];omega
       ·have HID:=hdd (klf X.val X.e w6 HXs.out.is)
        have hv0:Rv.validE X.e=1:=by unfold Rv.validE;rw [if_neg hv]
        rw [hv0] at HID;clear hv0
        go_wp2_with (first
         |(refine wpList_load_row rfl 45 _ rfl m rfl 45 X.arr (0,0) _ HXm.out rfl rfl (by kernel_rfl) ?_)
         |(go_at_call 38
           go_loud (
           refine (HID.out).mono ?_;rintro en w7 ⟨rfl,hb7⟩;have HB7:=hdd hb7;clear hb7))
         |fail)
        have hF:kq6 D w (.slice a3 L.length c3) (.slice a4 L.length c4) (.int .i64 ((i+1:Nat):Int)) w7 :=
         ⟨i+1,L,by omega,by omega,rfl,by omega,HO6.out.grow HB7.out,kal HI6.out fun q hq=>HB7.out.block q (HI6.out.lt q hq).2,HOk.out,HB.out.next (HB6.out.next HB7.out)⟩
        refine ⟨?_,?_⟩
        ·first|exact hF|((repeat apply Exists.intro);exact ⟨hF,rfl⟩)
        ·simp [intOf];omega
end Go.Proofs.YtknpbekoenbphaaGreatDoor
