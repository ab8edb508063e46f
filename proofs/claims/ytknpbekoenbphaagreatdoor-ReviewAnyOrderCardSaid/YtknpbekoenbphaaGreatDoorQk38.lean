/- Parts of the proofs: WkNs2. No condition beyond those at each theorem. -/
import Derived.Test.YtknpbekoenbphaaGreatDoorQk37
set_option linter.unusedVariables false
set_option linter.unusedSimpArgs false
set_option maxHeartbeats 16000000
set_option maxRecDepth 100000
namespace Go.Proofs.YtknpbekoenbphaaGreatDoor
open Go Go.RowKit Licit
theorem kjr {P:Program} {w:World} {ops:Array Oper} {o:Oper} {a:Act} {K:Act→World→Prop} {Q:Exit→Act→World→Prop} {E:Prop}
 (hgd:o.guard=none) (l c:Operand) (t:TypeId) (hop:o.op=Op.makeSlice t l c)
 (base:Nat) (e:TypeId) (i:TypeInfo) (z:Value) (size:Nat) (h1:P.underlying t=some (.slice e)) (h2:P.info? e=some i) (h3:i.zero=some z) (h4:i.size=size)
 (kl kc:IntKind) (n:Nat) (hl:a.eval l = .int kl (n:Int)) (hc:a.eval c = .int kc (n:Int)) (b2:i.bytes*n≤281474976710656) (b3:n≤maxLen) (b4:base≤w.heap.size)
 (hK:∀w',w'.ownsRow base e size (.slice (some ⟨w.heap.size,0,none⟩) n n) n (madeCells z.cells (n*size)).toList→w.grownBy w' none→K (a.put o.dst (.slice (some ⟨w.heap.size,0,none⟩) n n)) w') :
 if Region.wanted o (yielded ops a.tmps)=true then Oper.wp P o a w K Q else E:=by
 rw [if_pos (by simp [Region.wanted,hgd])];obtain ⟨w',hrun,r1,r2⟩:=run_make_full (P:=P) w base t e i z size h1 h2 h3 h4 kl kc n b2 b3 b4;unfold Oper.wp;simp [execOp,hop,hl,hc,hrun,Result.andThen];exact hK w' r1 r2
def kzn (l:List Rv.Ev) (ids:List Bs) (n bs:Nat) (vL vI:Value) (w0:World) (s4:Value) (w:World):Prop:=∃(k:Nat) (vR vP:Value) (pv:Nat→Value),k≤n∧s4 = .int .i64 k∧Below w0.heap.size w0 w∧w.heap[bs]? = some (.cells (kew vL vI vR vP kaf) 107 (0,0)) ∧
 w.ownsRow w0.heap.size 9 1 vI ids.length (ids.map vS)∧w.ownsRow w0.heap.size 3 1 vR k ((List.replicate k none).map rkV)∧w.ownsRow w0.heap.size 122 1 vP k ((List.range k).map pv) ∧
 ∀i,i<k→w.ownsRow w0.heap.size 4 1 (pv i) n ((List.replicate n false).map vBo)
theorem kzn.end {l:List Rv.Ev} {ids:List Bs} {n bs:Nat} {vL vI:Value} {w0 w:World} {vR vP:Value} {pv:Nat→Value} (h1:Below w0.heap.size w0 w) (h2:w.heap[bs]? = some (.cells (kew vL vI vR vP kaf) 107 (0,0))) (h3:w.ownsRow w0.heap.size 9 1 vI ids.length (ids.map vS))
 (h4:w.ownsRow w0.heap.size 3 1 vR n ((List.replicate n none).map rkV)) (h5:w.ownsRow w0.heap.size 122 1 vP n ((List.range n).map pv)) (h6:∀i,i<n→w.ownsRow w0.heap.size 4 1 (pv i) n ((List.replicate n false).map vBo)):RkS l ids (List.replicate n none) bs vL vI vR vP pv w0 w:=by
 refine ⟨h1,h2,h3,by rw [List.length_replicate];exact h4,by rw [List.length_replicate];exact h5,fun i hi=>?_⟩;rw [List.length_replicate] at hi ⊢
 have:kia (List.replicate n none) i=List.replicate n false:=by unfold kia;rw [Rv.none_at,List.length_replicate];rfl
 rw [this];exact h6 i hi
theorem kdk {w w':World} {b:Nat} {T T':TypeId} {s m q:Nat} {v:Value} {ys:List Value} {cs:Array Value} {fr:Nat × Nat} (hq:w.heap[q]? = some (.cells cs T' fr)) (k:w.ownsRow b T s v m ys) (hT:T≠T') (hg:w.grownBy w' v.ownBlock):w'.heap[q]? = w.heap[q]? :=
 hg.block q (kad hq) (fun e=>kas k hq hT q e.symm rfl)
def kx3 (l:List Rv.Ev) (ids:List Bs) (n bs:Nat) (vL vI:Value) (w0:World) (R:Option Rv.Stt) (s5:Value) (w:World):Prop:=∃(S:Rv.Stt) (f:Nat) (vR vP:Value) (pv:Nat→Value),S.length=n∧Rv.Fits S∧Rv.RankB S∧RkS l ids S bs vL vI vR vP pv w0 w∧s5 = .int .i64 (Rv.cntS S:Nat)∧n+1≤f+Rv.cntS S∧Rv.roundsS (Rv.namesJ l ids) f S=R
def kmc (l:List Rv.Ev) (ids:List Bs) (S:Rv.Stt) (n bs:Nat) (vL vI:Value) (w0:World) (s6 s7:Value) (w:World):Prop:=∃(k m:Nat) (T:Rv.Stt) (vR vP:Value) (pv:Nat→Value),k≤n∧s7 = .int .i64 k∧s6 = .int .i64 m∧T=Rv.passS (Rv.namesJ l ids) S k∧T.length=n∧Rv.cntS T=Rv.cntS S+m∧Rv.Fits T∧Rv.RankB T∧RkS l ids T bs vL vI vR vP pv w0 w
theorem kmv {J:List (List Nat)} {f:Nat} {S:Rv.Stt} (h:S.length≤Rv.cntS S):Rv.roundsS J (f+1) S=some S:=by unfold Rv.roundsS;rw [if_pos h]
theorem knl {J:List (List Nat)} {f:Nat} {S:Rv.Stt} (h:¬ S.length≤Rv.cntS S) (hc:Rv.cntS (Rv.passS J S S.length)=Rv.cntS S):Rv.roundsS J (f+1) S=none:=by unfold Rv.roundsS;rw [if_neg h,if_pos hc]
theorem km7 {J:List (List Nat)} {f:Nat} {S:Rv.Stt} (h:¬ S.length≤Rv.cntS S) (hc:Rv.cntS (Rv.passS J S S.length)≠Rv.cntS S):Rv.roundsS J (f+1) S=Rv.roundsS J f (Rv.passS J S S.length):=by rw [Rv.roundsS];rw [if_neg h,if_neg hc]
def kfh (l:List Rv.Ev) (ids:List Bs) (bs:Nat) (vL vI:Value) (w0:World) (en:Ending) (w':World):Prop :=
 match Rv.arrS l ids with
 |some S=>en = .returned (.bool true)∧∃vR vP pv,RkS l ids S bs vL vI vR vP pv w0 w'
 |none=>en = .returned (.bool false)∧Below w0.heap.size w0 w'
theorem ku4 (l:List Rv.Ev) (ids:List Bs) (bs:Nat) (vL vI:Value) (w0 w:World) (hL:kbt vL l w0) (hb:Below w0.heap.size w0 w) (hh:w.heap[bs]? = some (.cells (kew vL vI kaf kaf kaf) 107 (0,0))) (hI:w.ownsRow w0.heap.size 9 1 vI ids.length (ids.map vS))
 (hn:l.length≤1024) (hid:ids.length=l.length) (hJ:∀i,i<l.length→∀s∈(l.getD i Rv.ev0).names,s∈ids) (hbs:w0.heap.size≤bs) :
 Calls Tryz.prog 123 #[.pointer (some ⟨bs,0,none⟩)] w (kfh l ids bs vL vI w0):=by
 obtain ⟨n,hl1⟩:∃n,l.length=n:=⟨_,rfl⟩;obtain ⟨aL,cL,rfl⟩:=hL.form;have hn1:n≤1024:=by omega
 have c0:w.cell? ⟨bs,0,none⟩=some (.slice aL n cL):=by rw [kaa hh,←hl1];rfl
 have hR0:Rv.arrS l ids=Rv.roundsS (Rv.namesJ l ids) (n+1) (List.replicate n none):=by unfold Rv.arrS;rw [hl1]
 obtain ⟨R,hR⟩:∃R,Rv.arrS l ids=R:=⟨_,rfl⟩;rw [hR] at hR0;generalize hQ:kfh l ids bs (.slice aL l.length cL) vI w0=Q;obtain ⟨i0,hi0,hz0,hz1,hz2⟩:∃i,Tryz.prog.info? 3=some i∧i.zero=some (.int .i64 0)∧i.size=1∧i.bytes=8:=⟨_,rfl,by kernel_rfl,rfl,rfl⟩;obtain ⟨i1,hi1,hy0,hy1,hy2⟩:∃i,Tryz.prog.info? 4=some i∧i.zero=some (.bool false)∧i.size=1∧i.bytes=1:=⟨_,rfl,by kernel_rfl,rfl,rfl⟩;obtain ⟨i2,hi2,hx0,hx1,hx2⟩:∃i,Tryz.prog.info? 122=some i∧i.zero=some (.slice none 0 0)∧i.size=1∧i.bytes=24:=⟨_,rfl,by kernel_rfl,rfl,rfl⟩;have Hi:=hdd hi0;have Hz0:=hdd hz0;have Hz1:=hdd hz1;have Hz2:=hdd hz2;have Hj:=hdd hi1;have Hy0:=hdd hy0;have Hy1:=hdd hy1;have Hy2:=hdd hy2;have Hk:=hdd hi2;have Hx0:=hdd hx0;have Hx1:=hdd hx1;have Hx2:=hdd hx2;have HL:=hdd hL;have HB0:=hdd hb;have HH0:=hdd hh;have HI0:=hdd hI;have HJ:=hdd hJ;have Hl1:=hdd hl1;have Hid:=hdd hid;have HR:=hdd hR;have HR0:=hdd hR0;have HQ:=hdd hQ;clear hi0 hz0 hz1 hz2 hi1 hy0 hy1 hy2 hi2 hx0 hx1 hx2 hL hb hh hI hJ hl1 hid hR hR0 hQ hn
 go_enter Tryz.func123,Tryz.ntmps123
 go_wp2_with fail
 go_loopw [4] (fun s4 wl=>kzn l ids n bs (.slice aL l.length cL) vI w0 s4 wl) (fun s4 _=>n - (intOf s4).toNat)
 case atStart=>exact ⟨0,kaf,kaf,fun _=>kaf,Nat.zero_le _,rfl,HB0.out,HH0.out,HI0.out,World.ownsRow_nil _ _ _ _,World.ownsRow_nil _ _ _ _,fun i hi=>by omega⟩
 case round =>
  unfold kzn at hrel;obtain ⟨k,vR,vP,pv,hk,rfl,hb,hh,hI,hR,hP,hrows⟩:=hrel;obtain ⟨aR,cR,rfl⟩:=kag hR;obtain ⟨aP,cP,rfl⟩:=kag hP;have HB:=hdd hb;have HH:=hdd hh;have HI:=hdd hI;have HRr:=hdd hR;have HPp:=hdd hP;have HRw:=hdd hrows;clear hI hR hP hrows hb
  by_cases hlt:k<n
  ·have hlti:(k:Int)<(n:Int):=by omega
   have cb2:wr.cell? ⟨bs,2,none⟩=some (.slice aR k cR):=by rw [kaa hh];rfl
   clear hh
   go_upto_region 6 with (first
    |(at_builtin
      go_loud (
      refine wpList_append_own _ rfl _ _ 104 rfl w0.heap.size 3 i0 (.int .i64 0) 1 8 Tryz.underlying104 Hi.out Hz0.out Hz1.out Hz2.out rfl (by decide) _ k ((List.replicate k none).map rkV) rfl (HRr.out.alloc _) ⟨wr.heap.size,0,none⟩ 1 1 [.int .i64 (-1)] rfl rfl (kbj (kai _ _)) (by simp [Value.oneCell']) (by unfold maxLen;omega) (by omega) (by have:=HB.out.size;simp;omega) ?_;intro v5 w5 ho5 hg5 _;have HO5:=hdd (show w5.ownsRow w0.heap.size 3 1 v5 (k+1) ((List.replicate (k+1) none).map rkV) by rw [List.replicate_succ',List.map_append];exact ho5);have hbs:=kad HH.out;have HH5:=hdd ((kdk (kah (o':=.cells #[.int .i64 (-1)] 3) HH.out) (HRr.out.alloc _) (by decide) hg5).trans (kah HH.out));have HI5:=hdd (kdc (HI.out.alloc (.cells #[.int .i64 (-1)] 3)) (HRr.out.alloc _) (by decide) hg5);have HP5:=hdd (kdc (HPp.out.alloc (.cells #[.int .i64 (-1)] 3)) (HRr.out.alloc _) (by decide) hg5);have HW5:=hdd (fun i (hi:i<k)=>kdc ((HRw.out i hi).alloc (.cells #[.int .i64 (-1)] 3)) (HRr.out.alloc _) (by decide) hg5);have HB5:=hdd (show Below w0.heap.size w0 w5 from (HB.out.alloc HB.out.size _).grown hg5 (by have:=HB.out.size;simp;omega) (fun q hq=>(HRr.out.lt q hq).1));obtain ⟨a5,c5,rfl⟩:=kag ho5;clear ho5 hg5 hbs))
    |(refine kae rfl 104 _ _ rfl bs 2 rfl (.slice a5 (k+1) c5) rfl rfl rfl _ 107 HH5.out (by simp) (by kernel_rfl) ?_
      intro w6 hw6 hk6;have HH6:=hdd (show w6.heap[bs]? = some (.cells (kew (.slice aL l.length cL) vI (.slice a5 (k+1) c5) (.slice aP k cP) kaf) 107 (0,0)) from hw6);have HK6:=hdd hk6;clear hw6 hk6)
    |fail)
   have HB6:=hdd (show Below w0.heap.size w0 w6 from HB5.out.trans (HK6.out.below HB5.out.size (fun q hq e=>by have:q=bs:=e;omega)));have HI6:=hdd (kal HI5.out fun q hq=>HK6.out.block q (HI5.out.lt q hq).2 (fun e=>kas HI5.out HH5.out (by decide) q hq e));have HO6:=hdd (kal HO5.out fun q hq=>HK6.out.block q (HO5.out.lt q hq).2 (fun e=>kas HO5.out HH5.out (by decide) q hq e));have HP6:=hdd (kal HP5.out fun q hq=>HK6.out.block q (HP5.out.lt q hq).2 (fun e=>kas HP5.out HH5.out (by decide) q hq e));have HW6:=hdd (fun i (hi:i<k)=>kal (HW5.out i hi) fun q hq=>HK6.out.block q ((HW5.out i hi).lt q hq).2 (fun e=>kas (HW5.out i hi) HH5.out (by decide) q hq e));clear HO5 HI5 HP5 HW5 HB5 HH5 HK6 HI HRr HPp HRw HH cb2;have cc3:w6.cell? ⟨bs,3,none⟩=some (.slice aP k cP):=by rw [kaa HH6.out];rfl
   have HS:=hdd (fun (W:World) (hb:W.heap[bs]? = w6.heap[bs]?)=>(show W.cell? ⟨bs,3,none⟩=some (.slice aP k cP) from (kgz (p:=⟨bs,3,none⟩) hb).trans cc3));refine kdb [9,10,11] (S:=fun W=>W.cell? ⟨bs,3,none⟩=some (.slice aP k cP)) (by kernel_rfl) (HS.out w6.drew rfl) (fun hHeld=>?_);have hh7:w6.drew.heap[bs]? = some (.cells (kew (.slice aL l.length cL) vI (.slice a5 (k+1) c5) (.slice aP k cP) kaf) 107 (0,0)):=HH6.out;have hb7:Below w0.heap.size w0 w6.drew:=dr HB6.out;have hi7:w6.drew.ownsRow w0.heap.size 9 1 vI ids.length (ids.map vS):=HI6.out;have ho7:w6.drew.ownsRow w0.heap.size 3 1 (.slice a5 (k+1) c5) (k+1) ((List.replicate (k+1) none).map rkV):=HO6.out;have hp7:w6.drew.ownsRow w0.heap.size 122 1 (.slice aP k cP) k ((List.range k).map pv):=HP6.out;have hr7:∀i,i<k→w6.drew.ownsRow w0.heap.size 4 1 (pv i) n ((List.replicate n false).map vBo):=fun i hi=>HW6.out i hi
   have hbe:w6.drew.heap[bs]? = w6.heap[bs]?:=rfl;generalize w6.drew=w7 at hh7 hb7 hi7 ho7 hp7 hr7 hbe hHeld ⊢;clear HB6 HI6 HO6 HP6 HW6 cc3;simp only [List.toList_toArray,len,kat]
   iterate 6 (refine tkT 0 rfl rfl rfl (by kernel_rfl) (fun _ _ _ h=>h) (by intro W hW;(try dsimp only at hW);go_simp <;> with_reducible rfl) (by assumption) ?_;simp only [Act.put,s1,s2,s3])
   refine kau (rs:=[6]) (by kernel_rfl) (by simp) ?_;refine kao.cons rfl (fun K hK=>?_) kao.nil;refine kjr rfl _ _ 122 rfl w0.heap.size 4 i1 (.bool false) 1 Tryz.underlying122 Hj.out Hy0.out Hy1.out _ _ n rfl rfl (by rw [Hy2.out];omega) (by unfold maxLen;omega) hb7.size ?_;intro w8 ho8 hg8;have hb8:Below w0.heap.size w0 w8:=hb7.grown hg8 hb7.size (by simp);have hB8:Below w7.heap.size w7 w8:=(Below.refl _ _).grown hg8 (Nat.le_refl _) (by simp);have hh8:=kab hB8 (kad hh7) hh7
   have hq8:w8.ownsRow w0.heap.size 4 1 (.slice (some ⟨w7.heap.size,0,none⟩) n n) n ((List.replicate n false).map vBo):=by
    have h1:=congrArg Array.toList (kr2 n);simp only [List.toList_toArray] at h1;rw [h1] at ho8;exact ho8
   refine hK.out _ _ (HS.out w8 ((hB8.block bs (kad hh7)).trans hbe)) (fun hHeld=>?_);clear hK K
   try simp only [Act.put,s1,s2,s3,s4,s5,s6]
   refine kau (rs:=[7]) (by kernel_rfl) (by simp) ?_;refine kao.cons rfl (fun K hK=>?_) kao.nil;go_simp
   have hF:∀W,W=w8.alloc (.cells #[.slice (some ⟨w7.heap.size,0,none⟩) n n] 122)→Below w0.heap.size w0 W∧W.heap[bs]? = some (.cells (kew (.slice aL l.length cL) vI (.slice a5 (k+1) c5) (.slice aP k cP) kaf) 107 (0,0))∧W.heap[w8.heap.size]? = some (.cells #[.slice (some ⟨w7.heap.size,0,none⟩) n n] 122 (0,0)) ∧
    W.ownsRow w0.heap.size 9 1 vI ids.length (ids.map vS)∧W.ownsRow w0.heap.size 3 1 (.slice a5 (k+1) c5) (k+1) ((List.replicate (k+1) none).map rkV)∧W.ownsRow w0.heap.size 122 1 (.slice aP k cP) k ((List.range k).map pv)∧(∀i,i<k→W.ownsRow w0.heap.size 4 1 (pv i) n ((List.replicate n false).map vBo)) ∧
    W.ownsRow w0.heap.size 4 1 (.slice (some ⟨w7.heap.size,0,none⟩) n n) n ((List.replicate n false).map vBo)∧w0.heap.size≤W.heap.size:=by
    rintro _ rfl
    exact ⟨hb8.alloc hb8.size _,kah hh8,kai _ _,(kal hi7 fun q hq=>hB8.block q (hi7.lt q hq).2).alloc _,(kal ho7 fun q hq=>hB8.block q (ho7.lt q hq).2).alloc _,(kal hp7 fun q hq=>hB8.block q (hp7.lt q hq).2).alloc _,
     fun i hi=>(kal (hr7 i hi) fun q hq=>hB8.block q ((hr7 i hi).lt q hq).2).alloc _,hq8.alloc _,by have:=hb8.size;simp;omega⟩
   generalize hw9:w8.alloc (.cells #[.slice (some ⟨w7.heap.size,0,none⟩) n n] 122)=w9;obtain ⟨hb9,hh9,hn9,hi9,ho9,hp9,hr9,hq9,hz9⟩:=hF w9 hw9.symm;have hbe9:w9.heap[bs]? = w6.heap[bs]?:=hh9.trans HH6.out.symm;clear hw9 hF hb8 hh8 hq8 ho8 hg8;clear hHeld;refine hK.out _ _ (HS.out w9 hbe9) (fun hHeld=>?_);clear hK K
   try simp only [Act.put,s1,s2,s3,s4,s5,s6]
   refine kau (rs:=[8]) (by kernel_rfl) (by simp) ?_;refine kao.cons rfl (fun K hK=>?_) kao.nil;refine kaq rfl _ _ 105 rfl w0.heap.size 122 i2 (.slice none 0 0) 1 24 Tryz.underlying105 Hk.out Hx0.out Hx1.out Hx2.out rfl (by decide) (.slice aP k cP) k ((List.range k).map pv) rfl hp9 ⟨w8.heap.size,0,none⟩ 1 1 [.slice (some ⟨w7.heap.size,0,none⟩) n n] rfl rfl (kbj hn9) (by simp [Value.oneCell']) (by unfold maxLen;omega) (by omega) hz9 ?_;intro vP' wA hoA hgA _;have hhA:=(kdk hh9 hp9 (by decide) hgA).trans hh9;have hbA:Below w0.heap.size w0 wA:=hb9.grown hgA hb9.size (fun q hq=>(hp9.lt q hq).1);have hiA:=kdc hi9 hp9 (by decide) hgA;have hoR:=kdc ho9 hp9 (by decide) hgA;have hrA:∀i,i<k→wA.ownsRow w0.heap.size 4 1 (pv i) n ((List.replicate n false).map vBo):=fun i hi=>kdc (hr9 i hi) hp9 (by decide) hgA
   have hqA:=kdc hq9 hp9 (by decide) hgA;clear hHeld;refine hK.out _ _ (HS.out wA (hhA.trans HH6.out.symm)) (fun hHeld=>?_);clear hK K
   try simp only [Act.put,s1,s2,s3,s4,s5,s6]
   iterate 2 (refine tuT 9 rfl rfl rfl (by kernel_rfl) (fun _ _ _ h=>h) (by intro W;go_simp <;> with_reducible rfl) ?_;simp only [Act.put,s1,s2,s3])
   refine kau (rs:=[11]) (by kernel_rfl) (by simp) ?_;refine kao.last rfl rfl (fun K hK=>?_);obtain ⟨aQ,cQ,rfl⟩:=kag hoA;refine kan rfl 105 _ _ rfl bs 3 rfl (.slice aQ (k+1) cQ) rfl rfl rfl _ 107 hhA (by simp) (by kernel_rfl) ?_;intro wB hwB hkB;refine hK.out _ _ ?_;clear hK K
   try simp only [Act.put,s1,s2,s3,s4,s5,s6]
   refine kb6 (by kernel_rfl) ?_ _
   try simp only [Exit.then]
   have hF:kzn l ids n bs (.slice aL l.length cL) vI w0 (.int .i64 ((k+1:Nat):Int)) wB:=by
    have hk:∀{v:Value} {T:TypeId} {m:Nat} {xs:List Value},wA.ownsRow w0.heap.size T 1 v m xs→T≠107→wB.ownsRow w0.heap.size T 1 v m xs:=fun {v T m xs} ho hT=>kal ho fun q hq=>hkB.block q (ho.lt q hq).2 (fun e=>kas ho hhA hT q hq e)
    refine ⟨k+1,.slice a5 (k+1) c5,.slice aQ (k+1) cQ,fun j=>if j=k then .slice (some ⟨w7.heap.size,0,none⟩) n n else pv j,by omega,rfl,hbA.trans (hkB.below hbA.size (fun q hq e=>by have:q=bs:=e;omega)),hwB,hk hiA (by decide),hk hoR (by decide),?_,fun i hi=>?_⟩
    ·have h1:=hk hoA (by decide)
     rw [List.range_succ,List.map_append];have h2:(List.range k).map (fun j=>if j=k then (.slice (some ⟨w7.heap.size,0,none⟩) n n) else pv j)=(List.range k).map pv:=List.map_congr_left fun j hj=>by rw [if_neg (by have:=List.mem_range.1 hj;omega)]
     rw [h2]
     simpa using h1
    ·dsimp only
     by_cases e:i=k
     ·rw [if_pos e];exact hk hqA (by decide)
     ·rw [if_neg e];exact hk (hrA i (by omega)) (by decide)
   have HF:=hdd hF;clear hF hHeld hhA hbA hiA hoR hrA hqA hoA hgA hwB hkB hi9 ho9 hp9 hr9 hq9 hb9 hh9 hn9 hz9 hbe9 hh7 hb7 hi7 ho7 hp7 hr7 hbe hB8
   go_wp2_with fail
   go_roundw
   case rel=>first|exact HF.out|((repeat apply Exists.intro);exact ⟨HF.out,rfl⟩)
   case measure=>simp [intOf];omega
  ·have hke:n=k:=by omega
   subst hke;have hni:¬ (n:Int)<(n:Int):=by omega
   have HT:=hdd (kzn.end (l:=l) HB.out HH.out HI.out HRr.out HPp.out HRw.out);clear HRr HPp HRw HI HH hh HB
   go_wp2_with fail
   go_loopw [5,6,7] (fun s5 _ _ wl=>kx3 l ids n bs (.slice aL l.length cL) vI w0 R s5 wl) (fun s5 _ _ _=>n - (intOf s5).toNat)
   case atStart=>exact ⟨List.replicate n none,n+1,_,_,_,by simp,Rv.fits_none n,Rv.RankB.none n,HT.out,by rw [Rv.cntS_none];rfl,by rw [Rv.cntS_none];omega,HR0.out.symm⟩
   case round =>
    unfold kx3 at hrel;obtain ⟨S,f,vR,vP,pv,hSl,hf,hrb,hkS,rfl,hfu,hrd⟩:=hrel;have HSl:=hdd hSl;have HF:=hdd hf;have HRb:=hdd hrb;have HKS:=hdd hkS;have HFu:=hdd hfu;have HRd:=hdd hrd;have hcl:Rv.cntS S≤n:=by rw [←hSl];exact Rv.cntS_le S
    obtain ⟨cs,hcs⟩:∃c,Rv.cntS S=c:=⟨_,rfl⟩;rw [hcs] at hcl ⊢;have HCs:=hdd hcs;clear hSl hf hrb hkS hfu hrd hcs
    by_cases hlt:cs<n
    ·have hlti:(cs:Int)<(n:Int):=by omega
     obtain ⟨f',hf'⟩:∃f',f=f'+1:=⟨f - 1,by have:=HFu.out;have:=HCs.out;omega⟩;subst hf'
     go_wp2_with fail
     go_loopw [6,7] (fun s6 s7 wl=>kmc l ids S n bs (.slice aL l.length cL) vI w0 s6 s7 wl) (fun _ s7 _=>n - (intOf s7).toNat)
     case atStart=>exact ⟨0,0,S,vR,vP,pv,Nat.zero_le _,rfl,rfl,rfl,HSl.out,by omega,HF.out,HRb.out,HKS.out⟩
     case round =>
      unfold kmc at hrel;obtain ⟨k,m,T,vR',vP',pv',hk,rfl,rfl,hT,hTl,hcn,hfT,hrT,hR⟩:=hrel;have hml:m≤1024:=by have:=Rv.cntS_le T;omega
      have HT:=hdd hT;have HTl:=hdd hTl;have HCn:=hdd hcn;have HFT:=hdd hfT;have HRT:=hdd hrT;have HRs:=hdd hR
      by_cases hkn:k<n
      ·have hkni:(k:Int)<(n:Int):=by omega
       obtain ⟨g2,c2,hv2,-,-,-⟩:=kax hR.ranks (by omega);have cb2:wr.cell? ⟨bs,2,none⟩=some (.slice (some ⟨g2,0,none⟩) n c2):=by rw [kaa hR.head,←hTl,←hv2];rfl
       have ck:wr.cell? ⟨g2,k,none⟩=some (rkV (T.getD k none)):=by
        have h1:=hR.ranks;rw [hv2] at h1;have h2:=kce h1 (i:=k) (by rw [List.length_map,hTl];exact hkn);rw [h2,List.getElem?_map,List.getElem?_eq_getElem (by rw [hTl];exact hkn),List.getD_eq_getElem?_getD,List.getElem?_eq_getElem (by rw [hTl];exact hkn)];rfl
       have hjs:(l.getD k Rv.ev0).names.map (Rv.findI ids)=(Rv.namesJ l ids).getD k []:=(Rv.namesJ_at l ids (by have:=Hl1.out;omega)).symm;have HJs:=hdd hjs;have HSuc:=hdd (Rv.passS_succ (Rv.namesJ l ids) S k);clear hT hTl hcn hfT hrT hjs
       cases hTk:T.getD k none with
       |some x =>
        rw [hTk] at ck;have ck2:wr.cell? ⟨g2,k,none⟩=some (.int .i64 (x.1:Int)):=ck;have hx0:¬ ((x.1:Int)<0):=by omega
        have HTk:=hdd hTk;clear hTk ck hR hv2
        go_wp2_with fail
        go_roundw
        case rel =>
         have hF:kmc l ids S n bs (.slice aL l.length cL) vI w0 (.int .i64 (m:Int)) (.int .i64 ((k+1:Nat):Int)) wr:=⟨k+1,m,T,vR',vP',pv',by omega,rfl,rfl,by rw [HSuc.out,←HT.out,Rv.stepS_some HTk.out],HTl.out,HCn.out,HFT.out,HRT.out,HRs.out⟩
         first|exact hF|((repeat apply Exists.intro);exact ⟨hF,rfl⟩)
        case measure=>simp [intOf];omega
       |none =>
        rw [hTk] at ck;have ck2:wr.cell? ⟨g2,k,none⟩=some (.int .i64 (-1)):=ck;have HRdy:=hdd (ktr l ids T bs _ _ _ _ pv' w0 wr k hR HL.out (by rw [HTl.out];exact hkn) (by rw [HTl.out];exact hn1) (by rw [Hl1.out,HTl.out]) (by rw [Hid.out,Hl1.out,HTl.out]) hTk HFT.out HRT.out (HJ.out k (by have:=Hl1.out;omega)) hbs);rw [HJs.out] at HRdy;have HTk:=hdd hTk;clear hTk ck hR hv2
        cases hq:Rv.readyL T (0,List.replicate T.length false) ((Rv.namesJ l ids).getD k []) with
        |none =>
         have HQq:=hdd hq;clear hq
         go_wp2_with (first
          |(go_at_call 188
            go_loud (
            refine (HRdy.out).mono ?_;intro en w3 hpost;unfold khc at hpost;rw [HQq.out] at hpost;obtain ⟨rfl,hR3⟩:=hpost;have HR3:=hdd hR3;clear hR3))
          |fail)
         go_roundw
         case rel =>
          have hF:kmc l ids S n bs (.slice aL l.length cL) vI w0 (.int .i64 (m:Int)) (.int .i64 ((k+1:Nat):Int)) w3:=⟨k+1,m,T,_,_,pv',by omega,rfl,rfl,by rw [HSuc.out,←HT.out,Rv.stepS_none HTk.out HQq.out],HTl.out,HCn.out,HFT.out,HRT.out,HR3.out⟩
          first|exact hF|((repeat apply Exists.intro);exact ⟨hF,rfl⟩)
         case measure=>simp [intOf];omega
        |some row =>
         have HQq:=hdd hq;clear hq
         go_wp2_with (first
          |(go_at_call 188
            go_loud (
            refine (HRdy.out).mono ?_;intro en w3 hpost;unfold khc at hpost;rw [HQq.out] at hpost;obtain ⟨rfl,pn,hR3⟩:=hpost;have HR3:=hdd hR3;clear hR3))
          |fail)
         go_roundw
         case rel =>
          have hkT:k<T.length:=by rw [HTl.out];exact hkn
          have hF:kmc l ids S n bs (.slice aL l.length cL) vI w0 (.int .i64 ((m+1:Nat):Int)) (.int .i64 ((k+1:Nat):Int)) w3:=by
           refine ⟨k+1,m+1,T.set k (some row),_,_,_,by omega,rfl,rfl,by rw [HSuc.out,←HT.out,Rv.stepS_set HTk.out HQq.out],by rw [List.length_set];exact HTl.out,by rw [Rv.cntS_set hkT HTk.out,HCn.out];omega,HFT.out.set hkT ?_,HRT.out.set hkT HTk.out (HRT.out.ready HQq.out),HR3.out⟩;exact Rv.readyL_len HFT.out _ _ (by simp) _ HQq.out
          first|exact hF|((repeat apply Exists.intro);exact ⟨hF,rfl⟩)
         case measure=>simp [intOf];omega
      ·have hke:n=k:=by omega
       subst hke;have hni2:¬ (n:Int)<(n:Int):=by omega
       clear hR hT hTl hcn hfT hrT
       by_cases hm0:m=0
       ·subst hm0
        have hP:Q (.returned (.bool false)) wr:=by
         have h1:R=none:=by
          rw [←HRd.out];exact knl (by have:=HSl.out;have:=HCs.out;omega) (by rw [HSl.out,←HT.out,HCn.out];rfl)
         rw [←HQ.out];unfold kfh;rw [HR.out,h1];exact ⟨rfl,HRs.out.below⟩
        have HPq:=hdd hP;clear hP
        go_wp2_with fail
        exact HPq.out
       ·have hm0i:((m:Int) == 0)=false:=by rw [beq_eq_false_iff_ne];omega
        go_wp2_with fail
        go_roundw
        case rel =>
         have hF:kx3 l ids n bs (.slice aL l.length cL) vI w0 R (.int .i64 ((cs+m:Nat):Int)) wr:=by
          refine ⟨T,f',_,_,_,HTl.out,HFT.out,HRT.out,HRs.out,by rw [HCn.out,HCs.out],by have:=HFu.out;have:=HCn.out;omega,?_⟩;rw [←HRd.out,km7 (by have:=HSl.out;have:=HCs.out;omega) (by rw [HSl.out,←HT.out,HCn.out];omega),HSl.out,←HT.out]
         first|exact hF|((repeat apply Exists.intro);exact ⟨hF,rfl⟩)
        case measure=>simp [intOf];omega
    ·have hke:cs=n:=by omega
     have hlti:¬ (cs:Int)<(n:Int):=by omega
     have hP:Q (.returned (.bool true)) wr:=by
      obtain ⟨f',hf'⟩:∃f',f=f'+1:=⟨f - 1,by
       have h1:=HFu.out;have h2:=HCs.out;rcases Nat.eq_zero_or_pos f with h0|h0
       ·omega
       ·omega⟩
      have h1:R=some S:=by
       rw [←HRd.out,hf'];exact kmv (by have:=HSl.out;have:=HCs.out;omega)
      rw [←HQ.out];unfold kfh;rw [HR.out,h1];exact ⟨rfl,_,_,_,HKS.out⟩
     have HPq:=hdd hP;clear hP
     go_wp2_with fail
     exact HPq.out
end Go.Proofs.YtknpbekoenbphaaGreatDoor
