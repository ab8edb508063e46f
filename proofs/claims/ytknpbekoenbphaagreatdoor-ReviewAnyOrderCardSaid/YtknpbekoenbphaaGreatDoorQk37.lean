/- Parts of the proofs: PlainNs, WkNs1. No condition beyond those at each theorem. -/
import Derived.Test.YtknpbekoenbphaaGreatDoorQk31
set_option linter.unusedVariables false
set_option linter.unusedSimpArgs false
set_option maxHeartbeats 16000000
set_option maxRecDepth 100000
namespace Licit.Rv
open Go Licit
theorem ktg {b:Nat→Nat→Bool} {x:Nat}:∀{O:List Nat} {k:Nat},k≤O.length→(∀j,j<k→b x (O.getD j 0)=false)→(k<O.length→b x (O.getD k 0)=true)→kt1 b x O=O.take k++x :: O.drop k
 | [],0,_,_,_=>rfl
 | [],k+1,h,_,_=>by simp at h
 |y :: r,0,_,_,h=>by
  have h0:b x y=true:=h (by simp);simp [kt1,h0]
 |y :: r,k+1,hk,hn,h=>by
  have h0:b x y=false:=hn 0 (by omega)
  have:=ktg (b:=b) (x:=x) (O:=r) (k:=k) (by simpa using hk) (fun j hj=>hn (j+1) (by omega)) (fun hlt=>h (by simpa using hlt))
  simp [kt1,h0,this]
theorem ksq {b:Nat→Nat→Bool} (hb:Sort.SWO b) {x:Nat} {O:List Nat} (hs:kcf b O) {k:Nat} (hk:k≤O.length) (h1:∀j,k≤j→j<O.length→b x (O.getD j 0)=true) (h2:k=0∨b x (O.getD (k - 1) 0)=false):kt1 b x O=O.take k++x :: O.drop k:=by
 refine ktg hk (fun j hj=>?_) (fun h=>h1 k (Nat.le_refl _) h);rcases h2 with h2|h2
 ·omega
 ·rcases Nat.lt_or_ge j (k - 1) with c|c
  ·have hj1:j<O.length:=by omega
   have hk1:k - 1<O.length:=by omega
   have h3:b (O.getD (k - 1) 0) (O.getD j 0)=false:=by
    have:=List.pairwise_iff_getElem.1 hs j (k - 1) hj1 hk1 c
    simpa [List.getD_eq_getElem?_getD,List.getElem?_eq_getElem hj1,List.getElem?_eq_getElem hk1] using this
   cases h4:b x (O.getD j 0) with
   |false=>rfl
   |true =>
    have:=hb.ntrans _ _ _ h2 h3
    rw [h4] at this
    cases this
  ·obtain rfl:j=k - 1:=by omega
   exact h2
def ordP (S:Stt) (ids:List Bs) (n:Nat):List Nat:=(List.range n).foldl (fun o i=>kt1 (befI S ids) i o) []
theorem kr0 (S:Stt) (ids:List Bs) (n:Nat):ordP S ids (n+1)=kt1 (befI S ids) n (ordP S ids n):=by
 unfold ordP;rw [List.range_succ,List.foldl_append];rfl
theorem ordP_all (S:Stt) (ids:List Bs):ordP S ids S.length=ordI S ids:=rfl
theorem kj0 (S:Stt) (ids:List Bs) (n:Nat):ordP S ids n=klw (befI S ids) (List.range n):=by
 unfold ordP klw
 congr 1
 funext o i
 exact knh _ _ _
theorem knx (S:Stt) (ids:List Bs) (n:Nat):kcf (befI S ids) (ordP S ids n):=by rw [kj0];exact kex (kku S ids) _
theorem klx (S:Stt) (ids:List Bs) (n:Nat):(ordP S ids n).Perm (List.range n):=by rw [kj0];exact sortG_perm _ _
theorem ordP_len (S:Stt) (ids:List Bs) (n:Nat):(ordP S ids n).length=n:=by rw [(klx S ids n).length_eq,List.length_range]
theorem ordP_lt {S:Stt} {ids:List Bs} {n k:Nat} (h:k∈ordP S ids n):k<n:=List.mem_range.1 ((klx S ids n).mem_iff.1 h)
theorem ordP_back {S:Stt} {ids:List Bs} {n k:Nat} (hk:k≤n) (h1:∀j,k≤j→j<n→befI S ids n ((ordP S ids n).getD j 0)=true) (h2:k=0∨befI S ids n ((ordP S ids n).getD (k - 1) 0)=false) :
 ordP S ids (n+1)=(ordP S ids n).take k++n :: (ordP S ids n).drop k:=by
 rw [kr0];exact ksq (kku S ids) (knx S ids n) (by rw [ordP_len];exact hk) (fun j hj hl=>h1 j hj (by rw [ordP_len] at hl;exact hl)) h2
theorem RankB.ready {S:Stt} (h:RankB S) {n:Nat} {js:List Nat} {y:Row} (hy:readyL S (0,List.replicate n false) js=some y):y.1≤cntS S:=readyL_rank h (0,List.replicate n false) js (Nat.zero_le _) y hy
theorem fits_none (n:Nat):Fits (List.replicate n none):=fun i r h=>by rw [none_at] at h;cases h
theorem cntS_none (n:Nat):cntS (List.replicate n none)=0:=by simp [cntS]
theorem stepS_some {J:List (List Nat)} {S:Stt} {i:Nat} {x:Row} (h:S.getD i none=some x):stepS J S i=S:=by unfold stepS;rw [h]
theorem stepS_none {J:List (List Nat)} {S:Stt} {i:Nat} (h:S.getD i none=none) (hr:readyL S (0,List.replicate S.length false) (J.getD i [])=none):stepS J S i=S:=by unfold stepS;rw [h,hr]
theorem stepS_set {J:List (List Nat)} {S:Stt} {i:Nat} {x:Row} (h:S.getD i none=none) (hr:readyL S (0,List.replicate S.length false) (J.getD i [])=some x):stepS J S i=S.set i (some x):=by unfold stepS;rw [h,hr]
def orP (a b:Past) (m:Nat):Past:=(orL a b).take m++a.drop m
theorem orP_zero (a b:Past):orP a b 0=a:=by simp [orP]
theorem orP_len {a b:Past} (h:a.length=b.length) {m:Nat} (hm:m≤a.length):(orP a b m).length=a.length:=by
 simp [orP,orL_len a b h];omega
theorem orP_all {a b:Past} (h:a.length=b.length):orP a b a.length=orL a b:=by
 unfold orP;rw [List.drop_length,List.append_nil,List.take_of_length_le (by rw [orL_len a b h];exact Nat.le_refl _)]
theorem orP_at {a b:Past} (h:a.length=b.length) {m:Nat} (hm:m<a.length):(orP a b m).getD m false=a.getD m false:=by
 unfold orP;have hl:((orL a b).take m).length=m:=by rw [List.length_take,orL_len a b h];omega
 rw [List.getD_eq_getElem?_getD,List.getElem?_append_right (by omega),hl,Nat.sub_self,List.getElem?_drop,Nat.add_zero,List.getD_eq_getElem?_getD]
theorem orP_step {a b:Past} (h:a.length=b.length) {m:Nat} (hm:m<a.length):(orP a b m).set m (a.getD m false || b.getD m false)=orP a b (m+1):=by
 have hl:((orL a b).take m).length=m:=by rw [List.length_take,orL_len a b h];omega
 have h2:m<(orL a b).length:=by rw [orL_len a b h];exact hm
 unfold orP;rw [List.set_append_right _ _ (by omega),hl,Nat.sub_self,List.drop_eq_getElem_cons hm,List.set_cons_zero,List.take_succ_eq_append_getElem h2,List.append_assoc,List.singleton_append]
 have:=orL_at a b h m
 rw [List.getD_eq_getElem?_getD,List.getElem?_eq_getElem h2] at this
 congr 2
 exact this.symm
end Licit.Rv
namespace Go.Proofs.YtknpbekoenbphaaGreatDoor
open Go Go.RowKit Licit
theorem RkS.grow {l:List Rv.Ev} {ids:List Bs} {S:Rv.Stt} {bs:Nat} {vL vI vR vP:Value} {pv:Nat→Value} {w0 w w':World} (h:RkS l ids S bs vL vI vR vP pv w0 w) (hb:Below w.heap.size w w'):RkS l ids S bs vL vI vR vP pv w0 w' where
 below:=h.below.next hb
 head:=kab hb (kad h.head) h.head
 ids:=kal h.ids fun q hq=>hb.block q (h.ids.lt q hq).2
 ranks:=kal h.ranks fun q hq=>hb.block q (h.ranks.lt q hq).2
 pasts:=kal h.pasts fun q hq=>hb.block q (h.pasts.lt q hq).2
 rows i hi:=kal (h.rows i hi) fun q hq=>hb.block q ((h.rows i hi).lt q hq).2
theorem kxf {S:Rv.Stt} {ids:List Bs} {i k:Nat} {x y:Rv.Row} (h1:S.getD i none=some x) (h2:S.getD k none=some y):Rv.befI S ids i k=if x.1=y.1 then Rv.ltB (ids.getD i []) (ids.getD k []) else decide (x.1<y.1):=by
 unfold Rv.befI Rv.rankI;rw [h1,h2];rfl
theorem kqc (vL vI vR vP vO:Value) (ids:List Bs) (S:Rv.Stt) (i k:Nat) (x y:Rv.Row) (w:World) (hI:IsSl vI (ids.map vS) w) (hR:IsSl vR (S.map rkV) w) (hl:ids.length=S.length) (hi:i<S.length) (hk:k<S.length) (hx:S.getD i none=some x) (hy:S.getD k none=some y) :
 Calls Tryz.prog 124 #[.agg (kew vL vI vR vP vO),.int .i64 (i:Int),.int .i64 (k:Int)] w fun en w'=>en = .returned (.bool (Rv.befI S ids i k))∧Below w.heap.size w w':=by
 obtain ⟨aI,cI,rfl⟩:=hI.formMap;obtain ⟨aR,cR,rfl⟩:=hR.formMap;have hm:=hR.1;rw [List.length_map] at hm;unfold maxLen at hm;have hb1:Below w.heap.size w (w.alloc (.cells (kew vL (.slice aI ids.length cI) (.slice aR S.length cR) vP vO) 107)):=(Below.refl _ _).alloc (Nat.le_refl _) _;have hset:=kai w (.cells (kew vL (.slice aI ids.length cI) (.slice aR S.length cR) vP vO) 107);have HB:=hdd hb1;have h0:(w.alloc (.cells (kew vL (.slice aI ids.length cI) (.slice aR S.length cR) vP vO) 107)).cell? ⟨w.heap.size,1,none⟩=some (.slice aI ids.length cI):=by rw [kaa hset];rfl
 have h2:(w.alloc (.cells (kew vL (.slice aI ids.length cI) (.slice aR S.length cR) vP vO) 107)).cell? ⟨w.heap.size,2,none⟩=some (.slice aR S.length cR):=by rw [kaa hset];rfl
 have hR1:IsSl (.slice aR (S.map rkV).length cR) (S.map rkV) (w.alloc (.cells (kew vL (.slice aI ids.length cI) (.slice aR S.length cR) vP vO) 107)):=by rw [List.length_map];exact hR.below hb1
 have hi2:i<ids.length:=by omega
 have hk2:k<ids.length:=by omega
 obtain ⟨b2,o2,c2,hv2,hb2,hc2⟩:=(hI.below hb1).text rfl (show i<ids.length by omega);obtain ⟨b3,o3,c3,hv3,hb3,hc3⟩:=(hI.below hb1).text rfl (show k<ids.length by omega);simp only [Value.slice.injEq,true_and] at hv2 hv3;obtain ⟨rfl,rfl⟩:=hv2;obtain ⟨e3,-⟩:=hv3;simp only [Option.some.injEq,Addr.mk.injEq,and_true] at e3;obtain ⟨rfl,rfl⟩:=e3;obtain ⟨b4,o4,rfl,hb4,hc4⟩:=hR1.at (k:=i) (by simpa using hi);obtain ⟨b5,o5,e5,hb5,hc5⟩:=hR1.at (k:=k) (by simpa using hk);simp only [Option.some.injEq,Addr.mk.injEq,and_true] at e5;obtain ⟨rfl,rfl⟩:=e5;have gx:S[i]=some x:=by rw [List.getD_eq_getElem?_getD,List.getElem?_eq_getElem hi] at hx;exact hx
 have gy:S[k]=some y:=by rw [List.getD_eq_getElem?_getD,List.getElem?_eq_getElem hk] at hy;exact hy
 rw [List.getElem_map,gx] at hc4;rw [List.getElem_map,gy] at hc5;have HBf:=hdd (kxf (ids:=ids) hx hy);obtain ⟨xi,hxi⟩:∃z,ids.getD i []=z:=⟨_,rfl⟩;obtain ⟨xk,hxk⟩:∃z,ids.getD k []=z:=⟨_,rfl⟩;rw [hxi] at hc2;rw [hxk] at hc3;rw [hxi,hxk] at HBf;have him:ids.length<9223372036854775808:=by omega
 clear hset hI hR hR1 hl hx hy gx gy hxi hxk hb1
 change _=some (Value.int .i64 (x.1:Int)) at hc4
 change _=some (Value.int .i64 (y.1:Int)) at hc5
 by_cases c:x.1=y.1
 ·have q1:((x.1:Int) == (y.1:Int))=true:=by rw [c];simp
  have q2:((x.1:Int) != (y.1:Int))=false:=by rw [bne,q1];rfl
  have HBf2:=hdd (show Rv.befI S ids i k=Rv.ltB xi xk by rw [HBf.out,if_pos c]);obtain ⟨b,hb⟩:∃b,Rv.ltB xi xk=b:=⟨_,rfl⟩;have hl:Op.bytesLess (B xi).toList (B xk).toList=b:=(kcc xi xk).trans hb;rw [hb] at HBf2;clear hb c
  go_enter Tryz.func124,Tryz.ntmps124
  go_upto_region 1 with fail
  go_quiet (fail)
  go_upto_region 3 with fail
  go_quiet (fail)
  go_wp2
  go_ret
  rw [HBf2.out];exact ⟨rfl,below_drewN (below_drewN HB.out _) _⟩
 ·have q1:((x.1:Int) == (y.1:Int))=false:=by rw [beq_eq_false_iff_ne];omega
  have q2:((x.1:Int) != (y.1:Int))=true:=by rw [bne,q1];rfl
  have HBf2:=hdd (show Rv.befI S ids i k=decide (x.1<y.1) by rw [HBf.out,if_neg c]);clear c
  go_enter Tryz.func124,Tryz.ntmps124
  go_upto_region 1 with fail
  go_quiet (fail)
  go_upto_region 2 with fail
  go_quiet (fail)
  go_wp2
  go_ret
  rw [HBf2.out];exact ⟨rfl,below_drewN (below_drewN HB.out _) _⟩
theorem ksa {S:Rv.Stt} {i:Nat} {r:Rv.Row} (h:S.getD i none=some r):kia S i=r.2:=by unfold kia;rw [h];rfl
theorem kh3 (p:Rv.Past) {i:Nat} (hi:i<p.length):(p.map vBo)[i]? = some (vBo (p.getD i false)):=by
 rw [List.getElem?_map,List.getD_eq_getElem?_getD,List.getElem?_eq_getElem hi];rfl
theorem ktw (p:Rv.Past) (i:Nat) (x:Bool):(p.map vBo).toArray.setIfInBounds i (vBo x)=((p.set i x).map vBo).toArray:=by simp [List.map_set]
theorem kxr {w:World} {P:Nat} {p:Rv.Past} {T:TypeId} {fr:Nat × Nat} (h:w.heap[P]? = some (.cells (p.map vBo).toArray T fr)) {i:Nat} (hi:i<p.length):w.cell? ⟨P,i,none⟩=some (vBo (p.getD i false)):=by
 rw [kaa h,List.getElem?_toArray,kh3 p hi]
theorem kr2 (n:Nat):(madeCells (Value.bool false).cells (n*1)).toList.toArray=((List.replicate n false).map vBo).toArray:=by
 congr 1
 simp [madeCells,Value.cells]
 apply List.ext_getElem
 ·simp
 ·intro i h1 h2
  simp [Nat.mod_one]
def kza (P n:Nat) (q z:Rv.Past) (w:World) (s9:Value) (wl:World):Prop:=∃m:Nat,m≤n∧s9 = .int .i64 m∧wl.heap[P]? = some (.cells ((Rv.orP q z m).map vBo).toArray 4 (0,0))∧Below w.heap.size w wl
def khc (l:List Rv.Ev) (ids:List Bs) (S:Rv.Stt) (bs:Nat) (vL vI vR vP:Value) (pv:Nat→Value) (w0 w:World) (i:Nat) (js:List Nat) (en:Ending) (w':World):Prop :=
 match Rv.readyL S (0,List.replicate S.length false) js with
 |none=>en = .returned (.bool false)∧RkS l ids S bs vL vI vR vP pv w0 w'
 |some row=>en = .returned (.bool true)∧∃p,RkS l ids (S.set i (some row)) bs vL vI vR vP (fun k=>if k=i then p else pv k) w0 w'
theorem kpx {S:Rv.Stt} {x:Rv.Row} {js:List Nat} {k:Nat} (hk:k<js.length) (h:S.getD (js.getD k 0) none=none):Rv.readyL S x js=none:=by
 rw [Rv.readyL_none];exact ⟨js.getD k 0,by rw [List.getD_eq_getElem?_getD,List.getElem?_eq_getElem hk];exact List.getElem_mem hk,h⟩
theorem km2 {S:Rv.Stt} {x y:Rv.Row} {js:List Nat} {k:Nat} (hk:k<js.length) (h:Rv.readyL S x (js.take k)=some y) {z:Rv.Row} (hz:S.getD (js.getD k 0) none=some z):Rv.readyL S x (js.take (k+1))=some (max y.1 (z.1+1),Rv.orL (y.2.set (js.getD k 0) true) z.2):=by
 have e:js.take (k+1)=js.take k++[js.getD k 0]:=by rw [List.take_succ_eq_append_getElem hk,List.getD_eq_getElem?_getD,List.getElem?_eq_getElem hk];rfl
 rw [e,Rv.readyL_snoc,h];show Option.map _ (S.getD (js.getD k 0) none)=_;rw [hz];rfl
theorem ktr (l:List Rv.Ev) (ids:List Bs) (S:Rv.Stt) (bs:Nat) (vL vI vR vP:Value) (pv:Nat→Value) (w0 w:World) (i:Nat) (h:RkS l ids S bs vL vI vR vP pv w0 w) (hL:kbt vL l w0) (hi:i<S.length) (hn:S.length≤1024) (hl:l.length=S.length) (hid:ids.length=S.length)
 (hS:S.getD i none=none) (hf:Rv.Fits S) (hrk:Rv.RankB S) (hJ:∀s∈(l.getD i Rv.ev0).names,s∈ids) (hbs:w0.heap.size≤bs) :
 Calls Tryz.prog 188 #[.pointer (some ⟨bs,0,none⟩),.int .i64 (i:Int)] w (khc l ids S bs vL vI vR vP pv w0 w i ((l.getD i Rv.ev0).names.map (Rv.findI ids))):=by
 obtain ⟨n,hnS⟩:∃n,S.length=n:=⟨_,rfl⟩;obtain ⟨js,hjs⟩:∃js,(l.getD i Rv.ev0).names.map (Rv.findI ids)=js:=⟨_,rfl⟩;obtain ⟨aL,cL,rfl⟩:=hL.form;obtain ⟨aI,cI,rfl⟩:=kag h.ids;have h0:0<S.length:=by omega
 obtain ⟨g2,c2,rfl,hg2,-,hc2⟩:=kax h.ranks h0;obtain ⟨g3,c3,rfl,hg3,-,hc3⟩:=kax h.pasts h0;have hl1:l.length=n:=by omega
 have hid1:ids.length=n:=by omega
 have hi1:i<n:=by omega
 have hn1:n≤1024:=by omega
 have hlen:Rv.readyL S (0,List.replicate S.length false) js=Rv.readyL S (0,List.replicate n false) js:=by rw [hnS]
 have c0:w.cell? ⟨bs,0,none⟩=some (.slice aL n cL):=by rw [kaa h.head,←hl1];rfl
 have hbt:bs<w.heap.size:=kad h.head;rw [hjs];generalize hQ:khc l ids S bs (.slice aL l.length cL) (.slice aI ids.length cI) (.slice (some ⟨g2,0,none⟩) S.length c2) (.slice (some ⟨g3,0,none⟩) S.length c3) pv w0 w i js=Q;have HQ:=hdd hQ;have HH:=hdd h;have HL:=hdd hL;have HF:=hdd hf;have HRk:=hdd hrk;have HJ:=hdd hJ;have HSi:=hdd hS;have HnS:=hdd hnS;have HJs:=hdd hjs;have Hl1:=hdd hl1;have Hid1:=hdd hid1;have HBt:=hdd hbt;have Hc23:=hdd (And.intro hc2 hc3);obtain ⟨i0,hi0,hz0,hz1,hz2⟩:∃i,Tryz.prog.info? 4=some i∧i.zero=some (.bool false)∧i.size=1∧i.bytes=1:=⟨_,rfl,by kernel_rfl,rfl,rfl⟩;have Hi:=hdd hi0;have Hz0:=hdd hz0;have Hz1:=hdd hz1;have Hz2:=hdd hz2;obtain ⟨P,hP⟩:∃P,w.heap.size=P:=⟨_,rfl⟩;have HP:=hdd hP;clear h hL hf hrk hJ hS hi0 hz0 hz1 hz2 hP hQ hnS hjs hl1 hid1 hbt hlen hi hn hl hid h0 hc2 hc3
 go_enter Tryz.func188,Tryz.ntmps188
 go_wp2_with (first
  |(at_make
    refine wpList_make_full _ rfl _ _ 122 rfl w.heap.size 4 i0 (.bool false) 1 Tryz.underlying122 Hi.out Hz0.out Hz1.out _ _ _ _ n rfl rfl rfl rfl (by rw [Hz2.out];omega) (by unfold maxLen;omega) (by simp) ?_;intro w1 ho1 hg1;have hr1:=Sha.own_full ho1
    have HR1:=hdd (show w1.heap[P]? = some (.cells ((List.replicate n false).map vBo).toArray 4 (0,0)) by
     rw [←HP.out,hr1,kr2])
    have HB1:=hdd (show Below w.heap.size w w1 from (Below.refl _ _).grown hg1 (by simp) (by simp));clear ho1 hg1 hr1)
  |fail)
 try simp only [HP.out]
 go_loopw [5,7,8,9] (fun s5 s7 _ _ wr=>∃(k r:Nat) (p:Rv.Past),k≤js.length∧s7 = .int .i64 k∧s5 = .int .i64 r∧Rv.readyL S (0,List.replicate n false) (js.take k)=some (r,p)∧p.length=n∧wr.heap[P]? = some (.cells (p.map vBo).toArray 4 (0,0))∧Below w.heap.size w wr) (fun _ s7 _ _ _=>js.length - (intOf s7).toNat)
 case atStart=>exact ⟨0,0,List.replicate n false,Nat.zero_le _,rfl,rfl,rfl,by simp,HR1.out,HB1.out⟩
 case round =>
  obtain ⟨k,r,p,hk,rfl,rfl,hrd,hpl,hp,hb⟩:=hrel;have HRd:=hdd hrd;have HPp:=hdd hp;have HB:=hdd hb;have HPl:=hdd hpl;have hg:=HH.out.grow hb;have HG:=hdd hg;obtain ⟨bL,oL,rfl,hbL,na,nc,ta,tc,sa,sc,ha,hc,ra,rc,hE,hA⟩:=(HL.out.below hg.below).at (i:=i) (by have:=Hl1.out;omega);obtain ⟨e,he⟩:∃e,l.getD i Rv.ev0=e:=⟨_,rfl⟩;rw [he] at hE hA;have HE:=hdd he;have hN:=hE.namesIs;have cN:wr.cell? ⟨bL,oL+i*18+3,none⟩=some (.slice na e.names.length nc):=hA 3 _ rfl;have hjl:js.length=e.names.length:=by rw [←HJs.out,he,List.length_map]
  have cb0:wr.cell? ⟨bs,0,none⟩=some (.slice (some ⟨bL,oL,none⟩) n cL):=by rw [kaa hg.head,←Hl1.out];rfl
  have cb1:wr.cell? ⟨bs,1,none⟩=some (.slice aI n cI):=by rw [kaa hg.head,←Hid1.out];rfl
  have cb2:wr.cell? ⟨bs,2,none⟩=some (.slice (some ⟨g2,0,none⟩) n c2):=by rw [kaa hg.head,←HnS.out];rfl
  have cb3:wr.cell? ⟨bs,3,none⟩=some (.slice (some ⟨g3,0,none⟩) n c3):=by rw [kaa hg.head,←HnS.out];rfl
  have HNm:=hdd hN;have HJl:=hdd hjl
  have hrp:r≤1024:=by
   have:=HRk.out.ready (n:=n) hrd
   have:=Rv.cntS_le S
   have:=HnS.out
   have h3:(r,p).1=r:=rfl;omega
  have hnl:e.names.length≤9223372036854775807:=by have:=hN.1;rw [List.length_map] at this;unfold maxLen at this;omega
  clear hrd hp hb hpl hg hE hA hN he hjl
  by_cases hlt:k<e.names.length
  ·have hlti:(k:Int)<(e.names.length:Int):=by omega
   obtain ⟨bn,on,cn,hv,hbn,hcn⟩:=HNm.out.text rfl hlt;simp only [Value.slice.injEq,true_and] at hv;obtain ⟨rfl,rfl⟩:=hv;obtain ⟨x,hx⟩:∃x,e.names.getD k []=x:=⟨_,rfl⟩;have hxm:x∈ids:=HJ.out x (by rw [HE.out,←hx,List.getD_eq_getElem?_getD,List.getElem?_eq_getElem hlt];exact List.getElem_mem hlt);obtain ⟨j,hj⟩:∃j,Rv.findI ids x=j:=⟨_,rfl⟩;have hjn:j<n:=by rw [←Hid1.out,←hj];exact Rv.findI_mem.2 hxm
   have hjs:js.getD k 0=j:=by
    rw [←HJs.out,HE.out,List.getD_eq_getElem?_getD,List.getElem?_map,List.getElem?_eq_getElem hlt];rw [List.getD_eq_getElem?_getD,List.getElem?_eq_getElem hlt] at hx;show Rv.findI ids (e.names[k])=j;rw [←hj,←hx];rfl
   rw [hx] at hcn
   have HFd:=hdd (fun (W:World) (hb:Below wr.heap.size wr W)=>show Calls Tryz.prog 75 #[.slice aI n cI,.string (B x)] W fun en w'=>en = .returned (.int .i64 (j:Int))∧w'=W by
    have hI:=(HG.out.grow hb).ids;have hs:=IsSl.of_owns (xs:=ids.map vS) (by rw [List.length_map];exact hI) (by rw [List.length_map,Hid1.out];unfold maxLen;omega);have h1:=kio _ ids x W hs;have h2:keu ids x=(j:Int):=by unfold keu;rw [hj,if_pos (by rw [Hid1.out];exact hjn)]
    rw [h2,Hid1.out] at h1;exact h1)
   have HJx:=hdd hjs;have hjc:=kce HG.out.ranks (i:=j) (by rw [List.length_map,HnS.out];exact hjn);rw [List.getElem?_map,List.getElem?_eq_getElem (by rw [HnS.out];exact hjn)] at hjc;have hSj:S.getD j none=S[j]'(by rw [HnS.out];exact hjn):=by rw [List.getD_eq_getElem?_getD,List.getElem?_eq_getElem (by rw [HnS.out];exact hjn)];rfl
   rw [←hSj] at hjc;have hjni:(j:Int)<(n:Int):=by omega
   clear hx hxm hj hjs hSj
   cases hz:S.getD j none with
   |none =>
    rw [hz] at hjc;have hjc2:wr.cell? ⟨g2,j,none⟩=some (.int .i64 (-1)):=hjc;have HZ:=hdd hz;clear hjc hz
    go_upto_region 6 with fail
    go_quiet ((go_at_call 75;exact Calls.quiet_of_same (HFd.out _ (below_drewN (Below.refl _ _) _))))
    have hQF:∀W,Below w.heap.size w W→Q (.returned (.bool false)) W:=fun W hb=>by
     rw [←HQ.out];unfold khc;rw [kpx (k:=k) (by rw [HJl.out];exact hlt) (by rw [HJx.out];exact HZ.out)];exact ⟨rfl,HH.out.grow hb⟩
    have HQF:=hdd hQF;clear hQF
    go_wp2_with fail
    exact HQF.out _ (below_drewN HB.out _)
   |some z =>
    rw [hz] at hjc;have hjc2:wr.cell? ⟨g2,j,none⟩=some (.int .i64 (z.1:Int)):=hjc;have hz1:z.1+1≤1024:=by have:=HRk.out j z hz;have:=Rv.cntS_le S;have:=HnS.out;omega
    have hz0:¬ ((z.1:Int)<0):=by omega
    have HZl:=hdd (show z.2.length=n by rw [←HnS.out];exact HF.out j z hz);have HZ:=hdd hz;have hwz:IntKind.i64.wrap ((z.1:Int)+1)=(z.1:Int)+1:=IntWalk.i64_in _ (by omega);have HMx:=hdd (show max (r:Int) ((z.1:Int)+1)=((max r (z.1+1):Nat):Int) by omega);obtain ⟨q,hq⟩:∃q,p.set j true=q:=⟨_,rfl⟩;have hql:q.length=n:=by rw [←hq,List.length_set];exact HPl.out
    have HQl:=hdd hql;have HQq:=hdd hq;clear hjc hz hq hql
    go_upto_region 6 with fail
    go_quiet ((go_at_call 75;exact Calls.quiet_of_same (HFd.out _ (below_drewN (Below.refl _ _) _))))
    go_upto_region 11 with (first
     |(refine kae rfl 4 _ _ rfl P j rfl (vBo true) rfl rfl rfl _ 4 HPp.out (by simp [HPl.out];exact hjn) (by kernel_rfl) ?_
       intro w3 hw3 hk3;rw [ktw,HQq.out] at hw3;have HW3:=hdd hw3;have HB3:=hdd (show Below w.heap.size w w3 from HB.out.trans ((below_drewN (Below.refl _ _) _).trans (hk3.below HB.out.size (fun q hq e=>by have:q=P:=e;have:=HP.out;omega))));clear hw3 hk3)
     |fail)
    clear hwz hz0 hz1 hrp cb0 cb1 cb2 cb3 cN hcn hjc2
    go_wp2_with fail
    go_loopw [9] (fun s9 wl=>kza P n q z.2 w s9 wl) (fun s9 _=>n - (intOf s9).toNat)
    case atStart=>exact ⟨0,Nat.zero_le _,rfl,by rw [Rv.orP_zero];exact HW3.out,HB3.out⟩
    case round =>
     unfold kza at hrel;obtain ⟨m,hm,rfl,hpm,hbm⟩:=hrel;have HPm:=hdd hpm;have HBm:=hdd hbm;have hqz:q.length=z.2.length:=by rw [HQl.out,HZl.out]
     by_cases hmn:m<n
     ·have hmni:(m:Int)<(n:Int):=by omega
      have hgm:=HH.out.grow hbm;have hol:(Rv.orP q z.2 m).length=n:=by rw [Rv.orP_len hqz (by rw [HQl.out];exact hm),HQl.out]
      have cm:=kxr hpm (i:=m) (by rw [hol];exact hmn);rw [Rv.orP_at hqz (by rw [HQl.out];exact hmn)] at cm;have cs3:wr.cell? ⟨bs,3,none⟩=some (.slice (some ⟨g3,0,none⟩) n c3):=by rw [kaa hgm.head,←HnS.out];rfl
      have hjS:j<S.length:=by rw [HnS.out];exact hjn
      have cj:=kce hgm.pasts (i:=j) (by rw [List.length_map,List.length_range];exact hjS);rw [List.getElem?_map,List.getElem?_range hjS] at cj;have hrow:=hgm.rows j hjS;obtain ⟨gj,cjj,hpv,-,-,-⟩:=kax hrow (by omega)
      have cj2:wr.cell? ⟨g3,j,none⟩=some (.slice (some ⟨gj,0,none⟩) n cjj):=by
       have h1:wr.cell? ⟨g3,j,none⟩=some (pv j):=cj;rw [h1,hpv,HnS.out]
      rw [hpv] at hrow;have cjm:=kce hrow (i:=m) (by rw [List.length_map,ksa HZ.out,HZl.out];exact hmn);rw [ksa HZ.out,kh3 z.2 (by rw [HZl.out];exact hmn)] at cjm;have hfr:wr.frozen? ⟨P,m,none⟩=false:=kbm hpm m;have HSt:=hdd (Rv.orP_step hqz (m:=m) (by rw [HQl.out];exact hmn));have hsz:m<((Rv.orP q z.2 m).map vBo).toArray.size:=by simp [hol];exact hmn
      clear hgm hol hrow hpv cj hpm hbm hqz hjS
      cases hqm:q.getD m false with
      |true =>
       rw [hqm] at cm HSt;rw [Bool.true_or] at HSt;clear hqm
       go_wp2_with fail
       refine ⟨⟨m+1,by omega,by go_num,(set_of HPm.out m (vBo true)).trans (by rw [ktw,HSt.out]),HBm.out.trans ((kdp P m _ (vBo true)).below HBm.out.size (fun q hq e=>by have:q=P:=e;have:=HP.out;omega))⟩,?_⟩;simp [intOf];omega
      |false =>
       rw [hqm] at cm HSt;rw [Bool.false_or] at HSt;obtain ⟨zb,hzb⟩:∃b,z.2.getD m false=b:=⟨_,rfl⟩;rw [hzb] at cjm HSt;clear hqm hzb
       go_wp2_with fail
       refine ⟨⟨m+1,by omega,by go_num,(set_of HPm.out m (vBo zb)).trans (by rw [ktw,HSt.out]),HBm.out.trans ((kdp P m _ (vBo zb)).below HBm.out.size (fun q hq e=>by have:q=P:=e;have:=HP.out;omega))⟩,?_⟩;simp [intOf];omega
     ·have hme:m=n:=by omega
      have HPn:=hdd (show wr.heap[P]? = some (.cells ((Rv.orL q z.2).map vBo).toArray 4 (0,0)) by
       have:=HPm.out
       rwa [hme,←HQl.out,Rv.orP_all hqz] at this)
      have HOl:=hdd (show (Rv.orL q z.2).length=n by rw [Rv.orL_len _ _ hqz,HQl.out]);clear hqz hm hme
      go_wp2_with fail
      go_roundw
      case rel =>
       refine ⟨k+1,max r (z.1+1),Rv.orL q z.2,by have:=HJl.out;omega,by go_num,?_,?_,HOl.out,HPn.out,HBm.out⟩
       ·rw [←HMx.out]
       ·have hn:=km2 (by have:=HJl.out;omega) HRd.out (k:=k) (z:=z) (by rw [HJx.out];exact HZ.out)
        rw [hn,HJx.out,←HQq.out]
      case measure=>have:=HJl.out;simp [intOf];omega
  ·have hke:¬ (k:Int)<(e.names.length:Int):=by omega
   have HAll:=hdd (show Rv.readyL S (0,List.replicate n false) js=some (r,p) by
    have:=HRd.out
    rwa [List.take_of_length_le (by have:=HJl.out;omega)] at this)
   go_upto_region 15 with fail
   obtain ⟨cu2,hcu2,hz2,-⟩:=kdg HG.out.ranks;obtain ⟨cu3,hcu3,hz3,-⟩:=kdg HG.out.pasts;rw [HnS.out] at hz2 hz3;have hne:g2≠g3:=by rintro rfl;rw [hcu2] at hcu3;simp only [Option.some.injEq,Obj.cells.injEq] at hcu3;exact absurd hcu3.2.1 (by decide)
   have hbh:=HG.out.head;have hb2:bs≠g2:=by rintro rfl;rw [hcu2] at hbh;simp only [Option.some.injEq,Obj.cells.injEq] at hbh;exact absurd hbh.2.1 (by decide)
   have HS:=hdd (fun (W:World) (hb:W.heap[bs]? = wr.heap[bs]?)=>And.intro (show W.cell? ⟨bs,2,none⟩=some (.slice (some ⟨g2,0,none⟩) n c2) from (kgz (p:=⟨bs,2,none⟩) hb).trans cb2) (show W.cell? ⟨bs,3,none⟩=some (.slice (some ⟨g3,0,none⟩) n c3) from (kgz (p:=⟨bs,3,none⟩) hb).trans cb3));have HN23:=hdd (And.intro hne (And.intro hb2 (kad hbh)));have HC2:=hdd hcu2;have HC3:=hdd hcu3;have hz2':i<cu2.size:=by omega
   have hz3':i<cu3.size:=by omega
   clear hne hb2 hbh hcu2 hcu3 hz2 hz3 cb0 cb1 cb2 cb3 cN hke;refine kaj (S:=fun W=>W.cell? ⟨bs,2,none⟩=some (.slice (some ⟨g2,0,none⟩) n c2)∧W.cell? ⟨bs,3,none⟩=some (.slice (some ⟨g3,0,none⟩) n c3)) (by kernel_rfl) (HS.out wr.drew rfl) (fun hHeld=>?_);have hc2d:wr.drew.heap[g2]? = some (.cells cu2 3 (0,0)):=HC2.out;have hkd:ka7 (Licit.One g2) wr wr.drew:=ka7.of_below (Below.refl _ _).drew;have HBs:=hdd (show wr.drew.heap[bs]? = wr.heap[bs]? from rfl);generalize wr.drew=wz at hc2d hkd HBs hHeld ⊢;simp only [List.toList_toArray,len,kat]
   iterate 13 (refine tz 0 ?_;simp only [Act.put,s1,s2,s3])
   refine ar2 13 (by kernel_rfl) rfl (fun K hK=>?_);refine kan rfl 3 _ _ rfl g2 i rfl (.int .i64 (r:Int)) rfl rfl rfl _ 3 hc2d hz2' (by kernel_rfl) ?_;intro w5 hw5 hk5;have hk25:=hkd.trans hk5;have hbs5:w5.heap[bs]? = wr.heap[bs]?:=(hk25.block bs HN23.out.2.2 HN23.out.2.1);have hc35:=(hk25.block g3 (kad HC3.out) (fun e=>HN23.out.1 (by have:g3=g2:=e;exact this.symm))).trans HC3.out;refine hK.out _ _ (HS.out w5 hbs5) (fun hHeld=>?_);clear hK K
   try simp only [Act.put,s1,s2,s3,s4,s5,s6]
   (refine tz 14 ?_;simp only [Act.put,s1,s2,s3])
   refine ar2 15 (by kernel_rfl) rfl (fun K hK=>?_);refine kan rfl 122 _ _ rfl g3 i rfl (.slice (some ⟨P,0,none⟩) n n) rfl rfl rfl _ 122 hc35 hz3' (by kernel_rfl) ?_;intro w6 hw6 hk6;have HR6:=hdd (HG.out.set (x:=(r,p)) HnS.out hi1 HPp.out (by have:=HG.out.below.size;have:=HH.out.below.size;have:=HP.out;omega) HPl.out (by unfold maxLen;omega) HC2.out HC3.out hw5 hk25 hw6 hk6 hg2 hg3)
   have hbs6:w6.heap[bs]? = wr.heap[bs]?:=(hk6.block bs (Nat.lt_of_lt_of_le HN23.out.2.2 hk25.size) (fun e=>by
    have h1:bs=g3:=e;have h2:=HC3.out;rw [←h1,HG.out.head] at h2;simp only [Option.some.injEq,Obj.cells.injEq] at h2;exact absurd h2.2.1 (by decide))).trans hbs5
   refine hK.out _ _ (HS.out w6 hbs6) (fun hHeld=>?_);clear hK K
   try simp only [Act.put,s1,s2,s3,s4,s5,s6]
   refine wpAnyH_done (by kernel_rfl) ?_ _
   try simp only [Exit.then]
   have hQT:Q (.returned (.bool true)) w6:=by
    rw [←HQ.out];unfold khc;rw [show Rv.readyL S (0,List.replicate S.length false) js=some (r,p) by rw [HnS.out];exact HAll.out];exact ⟨rfl,_,HR6.out⟩
   have HQT:=hdd hQT;clear hQT hHeld
   go_wp2_with fail
   exact HQT.out
end Go.Proofs.YtknpbekoenbphaaGreatDoor
