/- Parts of the proofs: WkRvA. No condition beyond those at each theorem. -/
import Derived.Outline
import Derived.Test.YtknpbekoenbphaaGreatDoorQk14
set_option linter.unusedVariables false
set_option linter.unusedSimpArgs false
set_option maxHeartbeats 16000000
set_option maxRecDepth 100000
namespace Go.Proofs.YtknpbekoenbphaaGreatDoor
open Go Go.RowKit Licit
theorem kn9 {l:List Bs} {s:Bs} {i:Nat} (hi:i<l.length) (h:l.getD i []=s):Rv.findI l s≤i:=by
 induction l generalizing i with
 |nil=>simp at hi
 |cons a r ih =>
  have e:Rv.findI (a :: r) s=if a=s then 0 else Rv.findI r s+1:=rfl
  rw [e]
  by_cases c:a=s
  ·rw [if_pos c];omega
  ·rw [if_neg c]
   cases i with
   |zero=>exact absurd h c
   |succ i =>
    rw [List.getD_cons_succ] at h
    have:=ih (by simpa using hi) h
    omega
structure kn3 (l:List Rv.Ev) (ids:List Bs):Prop where
 le:l.length≤1024
 valid:∀i,i<l.length→Rv.validB (l.getD i Rv.ev0)=true
 inj:∀i j,i<l.length→j<l.length→ids.getD i []=ids.getD j []→i=j
 named:∀i,i<l.length→∀s∈(l.getD i Rv.ev0).names,Rv.findI ids s<l.length
 len:ids.length=l.length
theorem ke4 (l:List Rv.Ev):(Rv.idsOf l).length=l.length:=by simp [Rv.idsOf]
theorem kn3.of (l:List Rv.Ev) (h:(Rv.preE l (Rv.idsOf l)).2=0):kn3 l (Rv.idsOf l):=by
 unfold Rv.preE at h
 by_cases c0:1024<l.length
 ·rw [if_pos c0] at h;cases h
 rw [if_neg c0] at h
 cases h1:Rv.firstF (fun i=>!Rv.validB (l.getD i Rv.ev0)) l.length with
 |some i=>rw [h1] at h;cases h
 |none =>
  rw [h1] at h;dsimp only at h
  cases h2:Rv.firstF (fun i=>decide (Rv.findI (Rv.idsOf l) ((Rv.idsOf l).getD i [])<i)) l.length with
  |some i=>rw [h2] at h;cases h
  |none =>
   rw [h2] at h;dsimp only at h
   cases h3:Rv.firstF (fun i=>(l.getD i Rv.ev0).names.any fun s=>decide ((Rv.idsOf l).length≤Rv.findI (Rv.idsOf l) s)) l.length with
   |some i=>rw [h3] at h;cases h
   |none =>
    rw [kbu] at h1 h2 h3;have hl:=ke4 l;refine ⟨by omega,fun i hi=>by simpa using h1 i hi,fun i j hi hj e=>?_,fun i hi s hs=>?_,hl⟩
    ·have a:=of_decide_eq_false (h2 i hi)
     have b:=of_decide_eq_false (h2 j hj);have a':=kn9 (s:=(Rv.idsOf l).getD i []) (show i<(Rv.idsOf l).length by omega) rfl;have b':=kn9 (s:=(Rv.idsOf l).getD j []) (show j<(Rv.idsOf l).length by omega) rfl;rw [e] at a a';omega
    ·have:=List.any_eq_false.1 (h3 i hi) s hs
     simp at this;omega
theorem kmm (l:List Rv.Ev):∀x∈Rv.idsOf l,x.length≤maxLen:=by
 intro x hx;obtain ⟨e,-,rfl⟩:=List.mem_map.1 hx;unfold Rv.idE;split
 ·show (Sha.sha _).length≤_
  rw [Sha.sha_len]
  decide
 ·simp
def kuh (w:World) (b:Nat):Nat:=match w.heap[b]? with|some (.map es _)=>es.size|_=>0
theorem kvw {κ:Type} {P:Program} {k:TypeId} {kv:κ→Value} {w:World} {b:Nat} {L:List (κ × Value)} (h:kbi P k kv w b L):kuh w b=L.length:=by
 obtain ⟨es,clock,hb,_,hl,_⟩:=h;unfold kuh;rw [hb]
 have:=congrArg List.length hl
 simpa using this
theorem Arr.sz {l:List Rv.Ev} {ids:List Bs} {bd:Nat} {S:Rv.Stt} {pt pb:Nat→Nat} {D:List Nat} {w0 w:World} (h:Arr l ids bd S pt pb D w0 w):kuh w bd=Rv.cntS S:=by
 rw [kvw h.done,List.length_map,h.count]
theorem Arr.lenMap {l:List Rv.Ev} {ids:List Bs} {bd:Nat} {S:Rv.Stt} {pt pb:Nat→Nat} {D:List Nat} {w0 w:World} (h:Arr l ids bd S pt pb D w0 w) (ty:TypeId):(Builtin.len_ #[134] ty #[.map (some bd)]).run Tryz.prog w = .ok (.int .i64 (Rv.cntS S:Int)) w:=by
 have:=h.done.len Tryz.underlying134 ty
 rw [List.length_map,h.count] at this;exact this
theorem Arr.start {l:List Rv.Ev} {ids:List Bs} {bd:Nat} {w0 w:World} (hb:Below w0.heap.size w0 w) (hd:kbi Tryz.prog 9 kS w bd []) (h0:w0.heap.size≤bd):Arr l ids bd (List.replicate l.length none) (fun _=>0) (fun _=>0) [] w0 w:=by
 have hn:∀i:Nat,(List.replicate l.length (none:Option Rv.Row)).getD i none=none:=fun i=>by
  rw [List.getD_eq_getElem?_getD,List.getElem?_replicate];split <;> rfl
 exact ⟨hb,hd,by simp,fun i=>by rw [hn];simp,fun i row hr=>(by rw [hn] at hr;cases hr),h0,by simp,by simp,fun i r hr=>(by rw [hn] at hr;cases hr),fun i r hr=>(by rw [hn] at hr;cases hr)⟩
theorem ka4 {κ:Type} [DecidableEq κ] {P:Program} {o:Oper} {ev:Operand→Value} {m x:Operand} {t k e:TypeId} {kv:κ→Value} (hop:o.op=Op.lookup t m x false) (K:kdu P k kv) (ht:P.underlying t=some (.map k e)) {z:Value} (hz:∀w,(zeroValue e).run P w = .ok z w)
 {b:Nat} {L:List (κ × Value)} {W:World} (h:kbi P k kv W b L) {s:κ} (hm:ev m = .map (some b)) (hx:ev x=kv s) (hk:∃l,keyOf P k (kv s)=some l) {r:Value} (hr:(kb2 L s).getD z=r):(execOp ev o).run P W = .ok (.value r) W:=by
 unfold execOp;simp only [hop,hm,hx,Sem.run_bind,h.look K ht (hz W) s hk false,Result.andThen,Sem.run_pure];rw [←hr];rfl
theorem kg3 {κ:Type} [DecidableEq κ] {P:Program} {ops:Array Oper} {rest:List Oper} {op:Oper} {a:Act} {w:World} {Q:Act→Prop} (hgd:op.guard=none) (m x:Operand) (t:TypeId) (ho:op.op = .lookup t m x false)
 {k e:TypeId} {kv:κ→Value} (K:kdu P k kv) (ht:P.underlying t=some (.map k e)) {z:Value} (hz:∀w,(zeroValue e).run P w = .ok z w) {b:Nat} {L:List (κ × Value)} (h:kbi P k kv w b L) (s:κ) (hm:a.eval m = .map (some b)) (hx:a.eval x=kv s) (hk:∃l,keyOf P k (kv s)=some l) {r:Value} (hr:(kb2 L s).getD z=r)
 (hq:wpStill P ops w Q rest (a.put op.dst r)):wpStill P ops w Q (op :: rest) a:=by
 refine wpStill_step fun K' hK=>?_
 rw [if_pos (by simp [Region.wanted,hgd])];unfold Oper.still;rw [ka4 ho K ht hz h hm hx hk hr,Oper.stillUpon_value];exact hK _ hq
theorem krd {ids L Lt M:List Bs} {p q:Rv.Past} {s:Bs} {t:Nat} (hl:p.length=q.length) (ht:t<p.length) (hs:ids.getD t []=s) (hL:∀x,x∈L ↔ ∃j,p.getD j false=true∧ids.getD j []=x) (hT:∀x,x∈Lt ↔ ∃j,q.getD j false=true∧ids.getD j []=x)
 (hM:∀x,x∈M ↔ x∈(if s∈L then L else L++[s])∨x∈Lt) (x:Bs):x∈M ↔ ∃j,(Rv.orL (p.set t true) q).getD j false=true∧ids.getD j []=x:=by
 have h1:x∈(if s∈L then L else L++[s]) ↔ x=s∨x∈L:=by
  by_cases c:s∈L
  ·rw [if_pos c];exact ⟨.inr,fun h=>by rcases h with rfl|h <;> assumption⟩
  ·rw [if_neg c,List.mem_append,List.mem_singleton];exact or_comm
 rw [hM,h1,hL,hT];constructor
 ·rintro ((rfl|⟨j,h2,h3⟩)|⟨j,h2,h3⟩)
  ·exact ⟨t,by rw [Rv.orL_at _ _ (by simp [hl]),Rv.set_at _ _ _ ht];simp,hs⟩
  ·exact ⟨j,by rw [Rv.orL_at _ _ (by simp [hl]),Rv.set_at _ _ _ ht,h2];simp,h3⟩
  ·exact ⟨j,by rw [Rv.orL_at _ _ (by simp [hl]),h2];simp,h3⟩
 ·rintro ⟨j,h2,h3⟩
  rw [Rv.orL_at _ _ (by simp [hl]),Rv.set_at _ _ _ ht,Bool.or_eq_true,Bool.or_eq_true,decide_eq_true_eq] at h2;rcases h2 with (rfl|h2)|h2
  ·exact .inl (.inl (by rw [←h3,hs]))
  ·exact .inl (.inr ⟨j,h2,h3⟩)
  ·exact .inr ⟨j,h2,h3⟩
theorem khz (l:List Rv.Ev) (j:Nat):((Rv.idsOf l).getD j []).length≤maxLen:=by
 rw [List.getD_eq_getElem?_getD]
 by_cases c:j<(Rv.idsOf l).length
 ·rw [List.getElem?_eq_getElem c];exact kmm l _ (List.getElem_mem _)
 ·rw [List.getElem?_eq_none (by omega)];exact Nat.zero_le _
theorem kub (J:List (List Nat)) (S:Rv.Stt) (i:Nat):Rv.cntS S≤Rv.cntS (Rv.stepS J S i):=by
 unfold Rv.stepS;split
 ·exact Nat.le_refl _
 ·rename_i hq
  split
  ·exact Nat.le_refl _
  ·unfold Rv.cntS
   rw [←List.countP_eq_length_filter,←List.countP_eq_length_filter]
   by_cases c:i<S.length
   ·rw [List.countP_set c]
    have:S[i]=none:=by rw [List.getD_eq_getElem?_getD,List.getElem?_eq_getElem c] at hq;exact hq
    rw [this];simp
   ·rw [List.set_eq_of_length_le (by omega)];exact Nat.le_refl _
theorem kvl (J:List (List Nat)) (S:Rv.Stt) (k:Nat):Rv.cntS S≤Rv.cntS (Rv.passS J S k):=by
 induction k with
 |zero=>exact Nat.le_refl _
 |succ k ih=>rw [Rv.passS_succ];exact Nat.le_trans ih (kub _ _ _)
theorem kn4 {J:List (List Nat)} {f:Nat} {S:Rv.Stt} (h:¬ S.length≤Rv.cntS S) (h2:Rv.cntS (Rv.passS J S S.length)=Rv.cntS S):Rv.roundsS J (f+1) S=none:=by
 show (if S.length≤Rv.cntS S then some S else if Rv.cntS (Rv.passS J S S.length)=Rv.cntS S then none else Rv.roundsS J f (Rv.passS J S S.length))=none;rw [if_neg h,if_pos h2]
theorem kny {J:List (List Nat)} {f:Nat} {S:Rv.Stt} (h:¬ S.length≤Rv.cntS S) (h2:Rv.cntS (Rv.passS J S S.length)≠Rv.cntS S):Rv.roundsS J (f+1) S=Rv.roundsS J f (Rv.passS J S S.length):=by
 show (if S.length≤Rv.cntS S then some S else if Rv.cntS (Rv.passS J S S.length)=Rv.cntS S then none else Rv.roundsS J f (Rv.passS J S S.length))=_;rw [if_neg h,if_neg h2]
theorem kvn (i:Bs) (n:Int) (r r':Int) (e:Rv.Ev) (vn vt vS vH vR:Value) (pb:Nat):(ndC i n r e vn vt vS vH vR pb).setIfInBounds 2 (.int .i64 r')=ndC i n r' e vn vt vS vH vR pb:=rfl
def k0a (p:Prop):Prop:=p
def kis (l:List Rv.Ev) (bi bd:Nat) (S:Rv.Stt) (w:World) (n:Value) (wr:World):Prop:=∃(k:Nat) (pt pb:Nat→Nat) (D:List Nat),k≤l.length∧n = .int .i64 k∧Arr l (Rv.idsOf l) bd (Rv.passS (Rv.namesJ l (Rv.idsOf l)) S k) pt pb D w wr ∧
 wr.heap[bi]? = some (.cells ((Rv.idsOf l).map vS).toArray 9 (0,0))∧wr.heap[bd+1]? = some (.cells #[.map (some bd)] 134 (0,0))∧∀i,i∈D→bd+1<pt i∧bd+1<pb i
def kck (l:List Rv.Ev) (w:World) (en:Ending) (w':World):Prop:=Below w.heap.size w w'∧∃v,en = .returned (.tuple #[v,.int .i64 (Rv.setE l (Rv.idsOf l)).1,.int .i64 (Rv.setE l (Rv.idsOf l)).2]) ∧
 ((Rv.setE l (Rv.idsOf l)).2=0→∃(S:Rv.Stt) (pt pb:Nat→Nat),Rv.arrS l (Rv.idsOf l)=some S∧S.length=l.length∧w'.ownsRow w.heap.size 91 1 v l.length ((Rv.ordI S (Rv.idsOf l)).map fun i=>ptr (pt i)) ∧
   ∀i,i<l.length→∃row,S.getD i none=some row∧kd4 (Rv.idsOf l) (l.getD i Rv.ev0) i row (pt i) (pb i) w w')
theorem kf9 (v:Value) (l:List Rv.Ev) (w:World) (h:kbt v l w) (ht:Tab w):Calls Tryz.prog 66 #[v] w (kck l w):=by
 obtain ⟨a,cap,rfl⟩:=h.form;have HI:=hdd (kmn _ l w h ht);have HL:=hdd h;have HT:=hdd ht;clear h ht;have hmm:=@run_makeMap Tryz.prog
 go_enter Tryz.func66,Tryz.ntmps66
 go_wp2_with fail
 refine HI.out.mono ?_;rintro en w1 ⟨hb1,v1,rfl,hok⟩;have HB1:=hdd hb1;have HOK:=hdd hok;clear hb1 hok
 by_cases hE:(Rv.preE l (Rv.idsOf l)).2=0
 rotate_left
 ·have hs:Rv.setE l (Rv.idsOf l)=Rv.preE l (Rv.idsOf l):=by unfold Rv.setE;rw [if_neg hE]
  have hd:((Rv.preE l (Rv.idsOf l)).2 == 0)=false:=beq_eq_false_iff_ne.2 hE;have hd':((Rv.preE l (Rv.idsOf l)).2 != 0)=true:=by rw [bne,hd];rfl
  have HP:=hdd (show kck l w (.returned (.tuple #[.slice none 0 0,.int .i64 (Rv.preE l (Rv.idsOf l)).1,.int .i64 (Rv.preE l (Rv.idsOf l)).2])) w1 by
   unfold kck;rw [hs];exact ⟨HB1.out,_,rfl,fun h=>absurd h hE⟩)
  clear hs hE HOK HI;generalize Rv.preE l (Rv.idsOf l)=pe at *
  go_wp2
  refine bodyPost_ret (v:=.tuple #[.slice none 0 0,.int .i64 pe.1,.int .i64 pe.2]) (by simp [results,Tryz.results66,go_sem]) rfl HP.out
 have HSet:=hdd (kn3.of l hE);obtain ⟨bi,rfl,hbi,hi1⟩:=HOK.out hE;rw [hE];have HE0:=hdd hE;have HI1:=hdd hi1;have HIl:=hdd hbi;clear HOK HI hE hi1 hbi;generalize (Rv.preE l (Rv.idsOf l)).1=p1 at *;have hbo:Below w1.heap.size w1 ((w1.alloc (.map #[] 0)).alloc (.cells #[.map (some w1.heap.size)] 134)):=((Below.refl _ _).alloc (Nat.le_refl _) _).alloc (by simp) _;have HA0:=hdd (Arr.start (l:=l) (ids:=Rv.idsOf l) (bd:=w1.heap.size) (HB1.out.next hbo) ((kbi.made w1).below ((Below.refl (w1.alloc (.map #[] 0)).heap.size _).alloc (Nat.le_refl _) _) (by simp)) HB1.out.size);have HI2:=bhh hbo HI1;have HV2:=hdd (show ((w1.alloc (.map #[] 0)).alloc (.cells #[.map (some w1.heap.size)] 134)).heap[w1.heap.size+1]? = some (.cells #[.map (some w1.heap.size)] 134 (0,0)) from kak (by simp) rfl);have HLi:=hdd (kad HI1.out);clear hbo
 go_wp2
 go_loopw [9] (fun _ wr=>∃(S:Rv.Stt) (pt pb:Nat→Nat) (D:List Nat) (f:Nat),Arr l (Rv.idsOf l) w1.heap.size S pt pb D w wr∧l.length+1≤f+Rv.cntS S∧Rv.roundsS (Rv.namesJ l (Rv.idsOf l)) f S=Rv.arrS l (Rv.idsOf l) ∧
  wr.heap[bi]? = some (.cells ((Rv.idsOf l).map vS).toArray 9 (0,0))∧wr.heap[w1.heap.size+1]? = some (.cells #[.map (some w1.heap.size)] 134 (0,0))∧∀i,i∈D→w1.heap.size+1<pt i∧w1.heap.size+1<pb i) (fun _ wr=>l.length - kuh wr w1.heap.size)
 case atStart=>exact ⟨_,_,_,_,l.length+1,HA0.out,by omega,rfl,HI2.out,HV2.out,by simp⟩
 case round =>
  obtain ⟨S,pt,pb,D,f,hA,hf,hR,hI,hV,hpt⟩:=hrel;have hcv:wr.cell? ⟨w1.heap.size+1,0,none⟩=some (.map (some w1.heap.size)):=by rw [kaa hV];rfl
  have hlen:=hA.lenMap;have hcl:Rv.cntS S≤l.length:=by have:=Rv.cntS_le S;rw [hA.len] at this;exact this
  have HA:=hdd hA;have HF:=hdd hf;have HR:=hdd hR;have HI:=hdd hI;have HV:=hdd hV;have HPT:=hdd hpt;have HSZ:=hdd hA.sz;have hn1024:=HSet.out.le;clear hA hf hR hI hV hpt HA0 HI2 HV2;obtain ⟨c,hc⟩:∃c,Rv.cntS S=c:=⟨_,rfl⟩;rw [hc] at hlen hcl;have HC:=hdd hc;clear hc
  by_cases hlt:c<l.length
  ·obtain ⟨wo,rfl⟩:∃wo:World,wo=wr:=⟨_,rfl⟩
   go_wp2
   go_loopw [10,11,38] (fun _ _ n wr=>kis l bi w1.heap.size S w n wr) (fun _ _ n _=>l.length - (intOf n).toNat)
   case atStart=>unfold kis;exact ⟨0,pt,pb,D,by omega,rfl,HA.out,HI.out,HV.out,HPT.out⟩
   case round =>
    obtain ⟨k,pt',pb',D',hk,rfl,hA,hI,hV,hpt⟩:=hrel;have HA':=hdd hA;have HI':=hdd hI;have HV':=hdd hV;have HPT':=hdd hpt;have HSu:=hdd (Rv.passS_succ (Rv.namesJ l (Rv.idsOf l)) S k);have HJ:=hdd (fun hk=>Rv.namesJ_at l (Rv.idsOf l) (i:=k) hk);clear hA hI hV hpt hcv hlen;generalize hSk:Rv.passS (Rv.namesJ l (Rv.idsOf l)) S k=Sk at *;have HSk:=hdd hSk;clear hSk
    by_cases hlt2:k<l.length
    ·obtain ⟨b,off,rfl,hbw,na,nc,ta,tc,sa,sc,ha,hc,ra,rc,hEv0,hAv0⟩:=HL.out.at hlt2
     have hEv:=hEv0.below HA'.out.below;have hAv:=kbo hAv0 HA'.out.below hbw;have HEw:=hdd hEv0;clear hEv0 hAv0;have hne:(l.getD k Rv.ev0).names.length≤maxLen:=by have:=hEv.namesIs.1;rw [List.length_map] at this;exact this
     have HEe:=hdd hEv;have HAe:=hdd hAv
     have HHi:=hdd (show (Rv.idsOf l).getD k []∈Rv.idsOf l by
      rw [List.getD_eq_getElem?_getD,List.getElem?_eq_getElem (by rw [ke4];exact hlt2)];exact List.getElem_mem _)
     have HX:=hdd (kmm l _ HHi.out);obtain ⟨e,he⟩:∃e,l.getD k Rv.ev0=e:=⟨_,rfl⟩;rw [he] at HEe HAe hne HEw;have HEk:=hdd he;have HO:=hdd (evS1 e na nc ta tc sa sc ha hc ra rc);clear hEv hAv hbw he
     go_upto_region 10 with (first
      |(refine wpList_load_mid rfl 45 _ rfl b _ rfl (evS e na nc ta tc sa sc ha hc ra rc).toList _ HAe.out rfl rfl (by kernel_rfl) ?_)
      |(refine kac rfl 45 _ _ rfl wr.heap.size rfl (evS e na nc ta tc sa sc ha hc ra rc) rfl 45 evZ (kak rfl rfl) (by kernel_rfl) rfl HO.out ?_
        intro w2 hw2 hk2;have hb2:Below wr.heap.size wr w2:=((Below.refl _ _).alloc (Nat.le_refl _) _).trans (hk2.below (B:=wr.heap.size) (by simp) (fun q hq e=>by have:q=wr.heap.size:=e;omega));have HW2:=hdd hw2;have HB2:=hdd hb2;clear hw2 hk2 hb2)
      |fail)
     have hI2:=kab HB2.out (kad HI'.out) HI'.out;have hV2:=kab HB2.out (kad HV'.out) HV'.out;have hA2:=HA'.out.grow HB2.out
     have hi0:w2.cell? ⟨bi,0+k,none⟩=some (.string (B ((Rv.idsOf l).getD k []))):=by
      rw [Nat.zero_add,kaa hI2,List.getElem?_toArray];exact kb8 _ (by rw [ke4];exact hlt2)
     have hS:(w2.cell? ⟨w1.heap.size+1,0,none⟩=some (.map (some w1.heap.size))∧w2.cell? ⟨bi,0+k,none⟩=some (.string (B ((Rv.idsOf l).getD k [])))∧w2.cell? ⟨bi,k,none⟩=some (.string (B ((Rv.idsOf l).getD k [])))∧w2.cell? ⟨wr.heap.size,3,none⟩=some (.slice na e.names.length nc)) ∧
      kbi Tryz.prog 9 kS w2 w1.heap.size (D'.map fun i=>((Rv.idsOf l).getD i [],ptr (pt' i))) :=
      ⟨⟨by rw [kaa hV2];rfl,hi0,by rw [←hi0,Nat.zero_add],by rw [kaa HW2.out];rfl⟩,hA2.done⟩
     have HS:=hdd hS;have HI2:=hdd hI2;have HV2:=hdd hV2;have HA2:=hdd hA2;clear hS hI2 hV2 hA2 hi0;generalize hidk:(Rv.idsOf l).getD k []=ik at *;have HIk:=hdd hidk;clear hidk;generalize hLd:(D'.map fun i=>((Rv.idsOf l).getD i [],ptr (pt' i)))=Ld at *;have HLd:=hdd hLd;clear hLd
     cases hq:Sk.getD k none with
     |some row =>
      have hg:=HA2.out.get_some HSet.out.inj (HA2.out.inD hq);rw [HIk.out,HLd.out] at hg;have HG:=hdd (show (kb2 Ld ik).getD (.pointer none)=ptr (pt' k) by rw [hg];rfl);have HST:=hdd (show Rv.passS (Rv.namesJ l (Rv.idsOf l)) S (k+1)=Sk by rw [HSu.out];unfold Rv.stepS;rw [hq]);clear hg hq
      refine kaj (S:=fun W:World=>(W.cell? ⟨w1.heap.size+1,0,none⟩=some (.map (some w1.heap.size))∧W.cell? ⟨bi,0+k,none⟩=some (.string (B ik))∧W.cell? ⟨bi,k,none⟩=some (.string (B ik))∧W.cell? ⟨wr.heap.size,3,none⟩=some (.slice na e.names.length nc)) ∧
       kbi Tryz.prog 9 kS W w1.heap.size Ld) (by kernel_rfl) HS.out (fun hHeld=>?_)
      simp only [List.toList_toArray,len,kat]
      iterate 5 (refine tz 0 ?_;simp only [Act.put,s1,s2,s3])
      refine tkx 5 (ptr (pt' k)) rfl rfl (by kernel_rfl) (fun _ _ _ h=>h) (by assumption) ?_ ?_
      ·intro W hW;exact ka4 rfl kcx Tryz.underlying134 kcr hW.2 rfl rfl (kbp HX.out) HG.out
      simp only [Act.put,s1,s2,s3]
      iterate 2 (refine tz 6 ?_;simp only [Act.put,s1,s2,s3])
      iterate 4 (refine ps 8 rfl rfl rfl (by kernel_rfl) (fun _ _ _ h=>h) (by assumption) ?_;simp only [Act.put,s1,s2,s3])
      (refine tz 12 ?_;simp only [Act.put,s1,s2,s3])
      refine wpAnyH_done (by kernel_rfl) ?_ _;simp only [Exit.then]
      go_wp2
      go_roundw
      case rel=>unfold kis;exact ⟨k+1,pt',pb',D',by omega,by go_num,by rw [HST.out];exact HA2.out.grow (krc (Below.refl _ _)),HI2.out,HV2.out,HPT'.out⟩
      case measure=>simp [intOf];omega
     |none =>
      have hg:=HA2.out.get_none HSet.out.inj hlt2 (fun c=>by have:=((HA2.out.memD k).1 c).2;rw [hq] at this;cases this);rw [HIk.out,HLd.out] at hg;have HG:=hdd (show (kb2 Ld ik).getD (.pointer none) = .pointer none by rw [hg];rfl);have HQ:=hdd hq;clear hg hq;have hkn:∀s∈e.names,Rv.findI (Rv.idsOf l) s<l.length:=fun s hs=>HSet.out.named k hlt2 s (by rw [HEk.out];exact hs)
      have hdone:∀s∈e.names,((kb2 Ld s)=none∧Sk.getD (Rv.findI (Rv.idsOf l) s) none=none)∨(∃row,Sk.getD (Rv.findI (Rv.idsOf l) s) none=some row∧kb2 Ld s=some (ptr (pt' (Rv.findI (Rv.idsOf l) s)))):=by
       intro s hs;have h1:=hkn s hs;have h2:=Rv.findI_at (l:=Rv.idsOf l) (s:=s) (by rw [ke4];exact h1)
       cases hr:Sk.getD (Rv.findI (Rv.idsOf l) s) none with
       |none =>
        have:=HA2.out.get_none HSet.out.inj h1 (fun c=>by have:=((HA2.out.memD _).1 c).2;rw [hr] at this;cases this)
        rw [h2,HLd.out] at this;exact .inl ⟨this,rfl⟩
       |some row =>
        have:=HA2.out.get_some HSet.out.inj (HA2.out.inD hr)
        rw [h2,HLd.out] at this;exact .inr ⟨row,rfl,this⟩
      have hcon:=kme 131 (ptr (w1.heap.size+1)) (fun s=>(kb2 Ld s).isNone) (enters_of Tryz.func131 (by kernel_rfl) rfl) _ e.names w2.drew ((HEe.out.below HB2.out).below (krc (Below.refl _ _))).namesIs (fun x hx=>by
       have hxl:x.length≤maxLen:=by have:=HEe.out.1.names x hx;unfold maxLen;omega
       rcases hdone x hx with ⟨h1,-⟩|⟨row,-,h1⟩
       ·rw [h1]
        exact kv8 x (w1.heap.size+1) w1.heap.size Ld w2.drew hxl HS.out.1.1 HS.out.2 h1
       ·rw [h1]
        exact ksj x (w1.heap.size+1) w1.heap.size _ Ld w2.drew hxl HS.out.1.1 HS.out.2 h1)
      have HKnw:=hdd hkn;have HDn:=hdd hdone;clear hkn hdone
      cases hB:e.names.any (fun s=>(kb2 Ld s).isNone)
      ·rw [hB] at hcon
       have HBn:=hdd hB;have HCon:=hdd hcon;clear hB hcon
       refine kaj (S:=fun W:World=>(W.cell? ⟨w1.heap.size+1,0,none⟩=some (.map (some w1.heap.size))∧W.cell? ⟨bi,0+k,none⟩=some (.string (B ik))∧W.cell? ⟨bi,k,none⟩=some (.string (B ik))∧W.cell? ⟨wr.heap.size,3,none⟩=some (.slice na e.names.length nc)) ∧
        kbi Tryz.prog 9 kS W w1.heap.size Ld) (by kernel_rfl) HS.out (fun hHeld=>?_)
       simp only [List.toList_toArray,len,kat]
       iterate 5 (refine tz 0 ?_;simp only [Act.put,s1,s2,s3])
       refine tkx 5 (.pointer none) rfl rfl (by kernel_rfl) (fun _ _ _ h=>h) (by assumption) ?_ ?_
       ·intro W hW;exact ka4 rfl kcx Tryz.underlying134 kcr hW.2 rfl rfl (kbp HX.out) HG.out
       simp only [Act.put,s1,s2,s3]
       iterate 5 (refine tz 6 ?_;simp only [Act.put,s1,s2,s3])
       refine ar2 11 (by kernel_rfl) rfl (fun K hK=>?_);go_simp
       refine (HCon.out).mono ?_;rintro en u ⟨rfl,rfl⟩;refine hK.out _ _ hHeld (fun hHeld=>?_);clear hK K
       try simp only [Act.put,s1,s2,s3]
       (refine tz 12 ?_;simp only [Act.put,s1,s2,s3])
       refine wpAnyH_done (by kernel_rfl) ?_ _;simp only [Exit.then]
       go_upto_region 11 with fail
       have hrow:∃row,Rv.readyL Sk (0,List.replicate Sk.length false) (e.names.map (Rv.findI (Rv.idsOf l)))=some row:=by
        cases hr:Rv.readyL Sk (0,List.replicate Sk.length false) (e.names.map (Rv.findI (Rv.idsOf l))) with
        |some row=>exact ⟨row,rfl⟩
        |none =>
         obtain ⟨j,hj,h2⟩:=(Rv.readyL_none _ _ _).1 hr;obtain ⟨s,hs,rfl⟩:=List.mem_map.1 hj;have h3:=List.any_eq_false.1 HBn.out s hs;rcases HDn.out s hs with ⟨h1,-⟩|⟨row,h1,-⟩
         ·rw [h1] at h3;simp at h3
         ·rw [h2] at h1;cases h1
       obtain ⟨row,hrow⟩:=hrow;have HRow:=hdd hrow;have hI3:(w2.drew.drew.cell? ⟨bi,0+k,none⟩=some (.string (B ik))∧w2.drew.drew.cell? ⟨bi,k,none⟩=some (.string (B ik)))∧w2.drew.drew.heap[wr.heap.size]? = some (.cells (evS e na nc ta tc sa sc ha hc ra rc) 45 (0,0)):=⟨⟨HS.out.1.2.1,HS.out.1.2.2.1⟩,HW2.out⟩;have HI3:=hdd hI3;clear hrow hI3 hHeld;refine kaj (S:=fun W:World=>(W.cell? ⟨bi,0+k,none⟩=some (.string (B ik))∧W.cell? ⟨bi,k,none⟩=some (.string (B ik)))∧W.heap[wr.heap.size]? = some (.cells (evS e na nc ta tc sa sc ha hc ra rc) 45 (0,0))) (by kernel_rfl) HI3.out (fun hHeld=>?_);simp only [List.toList_toArray,len,kat]
       iterate 5 (refine tz 0 ?_;simp only [Act.put,s1,s2,s3])
       refine tkx 5 (.agg (evS e na nc ta tc sa sc ha hc ra rc)) rfl rfl (by kernel_rfl) (fun _ _ _ h=>h) (by assumption) ?_ ?_
       ·intro W hW;exact kbq rfl rfl rfl hW.2
       simp only [Act.put,s1,s2,s3];refine ar2 6 (by kernel_rfl) rfl (fun K hK=>?_);go_simp
       have hz2:bi<w2.drew.drew.heap.size:=World.block_lt_of_cell? _ _ HI3.out.1.2;have hbl:Below w2.drew.drew.heap.size w2.drew.drew (w2.drew.drew.alloc (.map #[] 0)):=(Below.refl _ _).alloc (Nat.le_refl _) _;refine hK.out _ _ ⟨⟨(hbl.cell (p:=⟨bi,0+k,none⟩) hz2).trans HI3.out.1.1,(hbl.cell (p:=⟨bi,k,none⟩) hz2).trans HI3.out.1.2⟩,kab hbl (kad HI3.out.2) HI3.out.2⟩ (fun hHeld=>?_);clear hK K;have HI4:=hdd hHeld
       try simp only [Act.put,s1,s2,s3]
       (refine tz 7 ?_;simp only [Act.put,s1,s2,s3])
       refine ar2 8 (by kernel_rfl) rfl (fun K hK=>?_);go_simp
       have hbl4:Below w2.heap.size w2 ((w2.alloc (.map #[] 0)).alloc (.cells (ndC ik k 0 e (.slice na e.names.length nc) (.slice ta e.targets.length tc) (.slice sa e.sg.S.length sc) (.slice ha e.sg.H.length hc) (.slice ra e.sg.R.length rc) w2.heap.size) 94)):=((Below.refl _ _).alloc (Nat.le_refl _) _).alloc (by simp) _;have hz2':bi<w2.heap.size:=hz2;have hz3:wr.heap.size<w2.heap.size:=kad HW2.out;refine hK.out _ _ ⟨⟨(hbl4.cell (p:=⟨bi,0+k,none⟩) hz2').trans HI3.out.1.1,(hbl4.cell (p:=⟨bi,k,none⟩) hz2').trans HI3.out.1.2⟩,kab hbl4 hz3 HI3.out.2⟩ (fun hHeld=>?_);clear hK K
       try simp only [Act.put,s1,s2,s3]
       (refine tz 9 ?_;simp only [Act.put,s1,s2,s3])
       refine wpAnyH_done (by kernel_rfl) ?_ _;simp only [Exit.then];obtain ⟨w4,hw4⟩:∃w4,((w2.alloc (.map #[] 0)).alloc (.cells (ndC ik k 0 e (.slice na e.names.length nc) (.slice ta e.targets.length tc) (.slice sa e.sg.S.length sc) (.slice ha e.sg.H.length hc) (.slice ra e.sg.R.length rc) w2.heap.size) 94)).drew.drew=w4:=⟨_,rfl⟩;have hb4:Below w2.heap.size w2 w4:=by rw [←hw4];exact krc (krc hbl4)
       have hq4:w4.heap[w2.heap.size+1]? = some (.cells (ndC ik k 0 e (.slice na e.names.length nc) (.slice ta e.targets.length tc) (.slice sa e.sg.S.length sc) (.slice ha e.sg.H.length hc) (.slice ra e.sg.R.length rc) w2.heap.size) 94 (0,0)):=by rw [←hw4];exact kak (by simp) rfl
       have hm4:kes w4 w2.heap.size []:=by
        rw [←hw4];exact kbi.below (w:=w2.alloc (.map #[] 0)) (kbi.made w2) (krc (krc ((Below.refl (w2.alloc (.map #[] 0)).heap.size _).alloc (Nat.le_refl _) _))) (by simp)
       rw [hw4];have HB4:=hdd hb4;have HQ4:=hdd hq4;have HM4:=hdd hm4;have HA4:=hdd (HA2.out.grow hb4);have HI5:=bhh hb4 HI2;have HV5:=bhh hb4 HV2;have HE4:=hdd ((HEe.out.below HB2.out).below hb4);have hc4:w4.cell? ⟨wr.heap.size,3,none⟩=some (.slice na e.names.length nc):=by rw [kaa (kab hb4 hz3 HW2.out)];rfl
       have HZ2:=hdd hz2';have HZ3:=hdd hz3;clear hw4 hb4 hq4 hm4 hbl hbl4 hz2 hz2' hz3 hHeld;obtain ⟨m,hmq⟩:∃m,w2.heap.size=m:=⟨_,rfl⟩;rw [hmq] at HQ4 HM4 HZ2 HZ3 ⊢;have HMq:=hdd hmq;clear hmq;obtain ⟨wq,rfl⟩:∃wq:World,wq=wr:=⟨_,rfl⟩;have HBq:=hdd (HB2.out.next HB4.out);have hLen0:Sk.length=l.length:=HA2.out.len;have HLen0:=hdd hLen0
       have HP0:=hdd (show kg0 (Rv.idsOf l) (List.replicate Sk.length false) m w4 from ⟨[],HM4.out,fun s=>by
        simp only [List.not_mem_nil,false_iff,not_exists,not_and];intro j hj;rw [List.getD_eq_getElem?_getD,List.getElem?_replicate] at hj;split at hj <;> simp at hj⟩)
       clear hLen0
       go_wp2
       go_loopw [14,68] (fun _ n wr=>k0a (∃(j:Nat) (row:Rv.Row),j≤e.names.length∧n = .int .i64 j∧Rv.readyL Sk (0,List.replicate Sk.length false) ((e.names.map (Rv.findI (Rv.idsOf l))).take j)=some row ∧
        wr.heap[m+1]? = some (.cells (ndC ik k row.1 e (.slice na e.names.length nc) (.slice ta e.targets.length tc) (.slice sa e.sg.S.length sc) (.slice ha e.sg.H.length hc) (.slice ra e.sg.R.length rc) m) 94 (0,0))∧kg0 (Rv.idsOf l) row.2 m wr∧ka7 (fun b=>b=m∨b=m+1) w4 wr)) (fun _ n _=>e.names.length - (intOf n).toNat)
       case atStart=>unfold k0a;exact ⟨0,(0,List.replicate Sk.length false),by omega,rfl,rfl,HQ4.out,HP0.out,ka7.refl _ _⟩
       case round =>
        unfold k0a at hrel;obtain ⟨j,row,hj,rfl,hrj,hqn,hpn,hkn⟩:=hrel;have HRj:=hdd hrj;have HQn:=hdd hqn;have HPn:=hdd hpn;have HKn:=hdd hkn;have hnl:e.names.length≤9223372036854775807:=by have:=hne;unfold maxLen at this;omega
        clear hrj hqn hpn hkn hc4
        by_cases hlt3:j<e.names.length
        ·have hBel:Below w2.heap.size w2 wr:=HB4.out.trans ((HKn.out.below (B:=w2.heap.size) HB4.out.size (fun q hq c=>by have h1:=HMq.out;rcases c with c|c <;> omega)))
         have HBel:=hdd hBel;have HAr:=hdd (HA2.out.grow hBel);obtain ⟨s,hs⟩:∃s,e.names.getD j []=s:=⟨_,rfl⟩
         have hsm:s∈e.names:=by
          rw [←hs,List.getD_eq_getElem?_getD,List.getElem?_eq_getElem hlt3];exact List.getElem_mem _
         have hsl:s.length≤maxLen:=by have:=HEe.out.1.names s hsm;unfold maxLen;omega
         obtain ⟨nb,no,nc',hvn,hnb,hnc⟩:=((HEe.out.below HB2.out).below hBel).namesIs.text rfl hlt3;simp only [Value.slice.injEq,true_and] at hvn;obtain ⟨rfl,rfl⟩:=hvn;rw [hs] at hnc;have hts:=HKnw.out s hsm;obtain ⟨t,htt⟩:∃t,Rv.findI (Rv.idsOf l) s=t:=⟨_,rfl⟩;rcases HDn.out s hsm with ⟨h1,-⟩|⟨rt,hrt,hg⟩
         ·have:=List.any_eq_false.1 HBn.out s hsm
          rw [h1] at this;simp at this
         rw [htt] at hrt hg hts;have hnt:=HAr.out.node t rt hrt;obtain ⟨-,-,ct2,ct21⟩:=hnt.cells;have hq0:wr.cell? ⟨m+1,2,none⟩=some (.int .i64 (row.1:Int)):=by rw [kaa HQn.out];rfl
         have hq21:wr.cell? ⟨m+1,21,none⟩=some (.map (some m)):=by rw [kaa HQn.out];rfl
         have hcv:wr.cell? ⟨w1.heap.size+1,0,none⟩=some (.map (some w1.heap.size)):=by rw [kaa (kab hBel (kad HV2.out) HV2.out)];rfl
         have HG2:=hdd (show (kb2 Ld s).getD (.pointer none)=ptr (pt' t) by rw [hg];rfl);have hdl:=HAr.out.done;rw [HLd.out] at hdl;have HDl:=hdd hdl
         have hrk:rt.1≤1024:=by
          have a1:=HAr.out.rank t rt hrt;have a2:D'.length≤l.length:=by rw [HAr.out.count];have:=Rv.cntS_le Sk;rw [HAr.out.len] at this;exact this
          have a3:=HSet.out.le;omega
         have HNt:=hdd hnt;have HRt:=hdd hrt;have HTt:=hdd htt;have HTs:=hdd hts;have HSm:=hdd hsm;have HSe:=hdd hs;clear hBel hs hsm hts htt hg hnt hrt hdl hnb
         go_upto_region 15 with fail
         refine wp_region_still_tail 15 (by kernel_rfl) (by kernel_rfl) ?_;simp only [List.take_succ_cons,List.take_zero,List.drop_succ_cons,List.drop_zero]
         repeat (first|(refine kg3 rfl _ _ 134 rfl kcx Tryz.underlying134 kcr (show kbi Tryz.prog 9 kS _ w1.heap.size Ld from HDl.out) s rfl rfl (kbp hsl) HG2.out ?_)|still_step)
         try refine wpStill_nil ?_
         rw [show (⟨wr.heap,wr.tape,wr.drawn+1,wr.os,wr.output⟩:World)=wr.drew from rfl];obtain ⟨Lp,hLp,hLi⟩:=HPn.out;obtain ⟨Lt,hLt,hLti⟩:=HNt.out.2;have hm1:pb' t<m:=by have:=(HA2.out.node t rt HRt.out).lt.2;rw [HMq.out] at this;exact this
         have hpt1:pt' t<m:=by have:=(HA2.out.node t rt HRt.out).lt.1;rw [HMq.out] at this;exact this
         have hwm:w1.heap.size+1<m:=by have:=kad HV2.out;rw [HMq.out] at this;exact this
         have HLp:=hdd hLp;have HLi:=hdd hLi;have HLt:=hdd hLt;have HLti:=hdd hLti;clear hLp hLi hLt hLti;have HMx:=hdd (show max (row.1:Int) ((rt.1:Int)+1)=((max row.1 (rt.1+1):Nat):Int) by omega);refine kae rfl 3 _ _ rfl (m+1) 2 rfl (.int .i64 (max (row.1:Int) ((rt.1:Int)+1))) (by go_simp;rw [show IntKind.i64.wrap ((rt.1:Int)+1)=(rt.1:Int)+1 from IntWalk.i64_in _ (by omega)]) rfl rfl _ 94 (show wr.drew.heap[m+1]? = _ from HQn.out) (by simp) (by kernel_rfl) ?_;intro wa hwa hka;rw [kvn,HMx.out] at hwa;have HWa:=hdd hwa;have hq21':wa.cell? ⟨m+1,21,none⟩=some (.map (some m)):=by rw [kaa hwa];rfl
         have hka1:=kbk hka;have HLp2:=hdd (show kes wa m Lp from kbi.kept HLp.out hka1 (fun c=>by have:m=m+1:=c;omega));have HLt2:=hdd (show kes wa (pb' t) Lt from kbi.kept HLt.out hka1 (fun c=>by have:pb' t=m+1:=c;omega));have HKa:=hdd hka1;clear hwa hka hka1
         go_upto_region 17 with (first
          |(at_mapUpdate;go_loud (refine kbb _ rfl _ _ _ 92 rfl 9 4 kS kcx Tryz.underlying92 m _ rfl HLp2.out s rfl (.bool true) rfl (kbp hsl) ?_)
            intro wb hmb hkb hsb;rw [kk1] at hmb;have HMb:=hdd (show kes wb m (if s∈Lp then Lp else Lp++[s]) from hmb);have HLt3:=hdd (show kes wb (pb' t) Lt from kbi.kept HLt2.out hkb (fun c=>by have:pb' t=m:=c;omega));have hqb:=(hkb.block _ (kad HWa.out) (fun c=>by have:m+1=m:=c;omega)).trans HWa.out;have HWb:=hdd hqb;have hqb21:wb.cell? ⟨m+1,21,none⟩=some (.map (some m)):=by rw [kaa hqb];rfl
            have hkab:ka7 (fun b=>b=m∨b=m+1) wr wb:=(HKa.out.mono (fun q _ c=>.inr c)).trans (hkb.mono (fun q _ c=>.inl c));have ct21':=(hkab.cell (b:=pt' t) (o:=21) HNt.out.lt.1 (fun c=>by rcases c with c|c <;> omega)).trans ct21;have hcvb:=(hkab.cell (b:=w1.heap.size+1) (o:=0) (World.block_lt_of_cell? _ _ hcv) (fun c=>by rcases c with c|c <;> omega)).trans hcv;have HDb:=hdd (show kbi Tryz.prog 9 kS wb w1.heap.size Ld from HDl.out.kept hkab (fun c=>by rcases c with c|c <;> omega));have HKab:=hdd hkab;clear hmb hkb hsb hqb hkab)
          |fail)
         have HDc:=hdd hcvb;have HCt:=hdd ct21';refine wp_region_still_tail 10 (by kernel_rfl) (by kernel_rfl) ?_;simp only [List.take_succ_cons,List.take_zero,List.drop_succ_cons,List.drop_zero]
         repeat (first|(refine kg3 rfl _ _ 134 rfl kcx Tryz.underlying134 kcr (show kbi Tryz.prog 9 kS _ w1.heap.size Ld from HDb.out) s rfl rfl (kbp hsl) HG2.out ?_)|still_step)
         try refine wpStill_nil ?_
         rw [show (⟨wb.heap,wb.tape,wb.drawn+1,wb.os,wb.output⟩:World)=wb.drew from rfl]
         have hcopy:=kum m (pb' t) _ Lt wb.drew (show kes wb.drew m _ from HMb.out) (show kes wb.drew (pb' t) Lt from HLt3.out) (by omega) (fun x hx=>by
          obtain ⟨j',-,rfl⟩:=(HLti.out x).1 hx;exact khz l j')
         have HCopy:=hdd hcopy;clear hcopy
         go_wp2_with fail
         refine HCopy.out.mono ?_;rintro en wc ⟨rfl,LM,hM,hMm,hkc⟩;have hkc':=kbk hkc;have HMm:=hdd hMm;have HKc:=hdd hkc';have HMc:=hdd hM;clear hMm hkc hkc' hM HCopy
         go_wp2
         go_roundw
         case rel =>
          unfold k0a;have hlr:row.2.length=l.length:=(Rv.readyL_len HA2.out.fits _ _ (by simp) row HRj.out).trans HLen0.out;have hlt:rt.2.length=l.length:=(HA2.out.fits t rt HRt.out).trans HLen0.out;refine ⟨j+1,(max row.1 (rt.1+1),Rv.orL (row.2.set t true) rt.2),by omega,by go_num,?_,?_,⟨LM,HMc.out,krd (by rw [hlr,hlt]) (by rw [hlr];exact HTs.out) (by rw [←HTt.out];exact Rv.findI_at (by rw [HTt.out,ke4];exact HTs.out)) HLi.out HLti.out HMm.out⟩,?_⟩
          ·rw [List.take_succ_eq_append_getElem (by simpa using hlt3),Rv.readyL_snoc,HRj.out]
           have:(e.names.map (Rv.findI (Rv.idsOf l)))[j]'(by simpa using hlt3)=t:=by
            rw [List.getElem_map,←HTt.out,←HSe.out,List.getD_eq_getElem?_getD,List.getElem?_eq_getElem hlt3];rfl
           rw [this];show Option.map _ (Sk.getD t none)=_;rw [HRt.out];rfl
          ·exact (HKc.out.block _ (kad HWb.out) (fun c=>by have:m+1=m:=c;omega)).trans HWb.out
          ·exact (HKn.out.trans HKab.out).trans (HKc.out.mono (fun q _ c=>.inl c))
         case measure=>simp [intOf];omega
        ·have hjn:j=e.names.length:=by omega
         have hBel:Below w2.heap.size w2 wr:=HB4.out.trans ((HKn.out.below (B:=w2.heap.size) HB4.out.size (fun q hq c=>by have h1:=HMq.out;rcases c with c|c <;> omega)));have hAr:=HA2.out.grow hBel;have hcv:wr.cell? ⟨w1.heap.size+1,0,none⟩=some (.map (some w1.heap.size)):=by rw [kaa (kab hBel (kad HV2.out) HV2.out)];rfl
         have hq0:wr.cell? ⟨m+1,0,none⟩=some (.string (B ik)):=by rw [kaa HQn.out];rfl
         have hwm:w1.heap.size+1<m:=by have:=kad HV2.out;rw [HMq.out] at this;exact this
         have hdl:=hAr.done;rw [HLd.out] at hdl
         have hall:Rv.readyL Sk (0,List.replicate Sk.length false) (e.names.map (Rv.findI (Rv.idsOf l)))=some row:=by
          have:=HRj.out
          rwa [List.take_of_length_le (by rw [List.length_map];omega)] at this
         have hST:Rv.passS (Rv.namesJ l (Rv.idsOf l)) S (k+1)=Sk.set k (some row):=by
          rw [HSu.out];unfold Rv.stepS;rw [HQ.out];dsimp only;rw [HJ.out hlt2,HEk.out,hall]
         have HDl:=hdd hdl;have HAll:=hdd hall;have HST:=hdd hST;have HBel:=hdd hBel;have HAr:=hdd hAr;clear hdl hall hST hBel hAr
         go_wp2
         refine wp_region_still_tail 6 (by kernel_rfl) (by kernel_rfl) ?_;simp only [List.take_succ_cons,List.take_zero,List.drop_succ_cons,List.drop_zero]
         repeat still_step
         try refine wpStill_nil ?_
         rw [show (⟨wr.heap,wr.tape,wr.drawn+1,wr.os,wr.output⟩:World)=wr.drew from rfl];refine kbb _ rfl _ _ _ 134 rfl 9 91 kS kcx Tryz.underlying134 w1.heap.size Ld rfl (show kbi Tryz.prog 9 kS wr.drew w1.heap.size Ld from HDl.out) ik rfl (ptr (m+1)) rfl (kbp HX.out) ?_;intro wd hmd hkd hsd;have HMd:=hdd hmd;have HKd:=hdd (kbk hkd);clear hmd hkd hsd
         go_wp2
         go_roundw
         case rel =>
          unfold kis;have hbi:=kab HBel.out (kad HI2.out) HI2.out;have hbv:=kab HBel.out (kad HV2.out) HV2.out;have hli:=HLi.out;obtain ⟨Lq,hLq,hLq2⟩:=HPn.out;refine ⟨k+1,upN pt' k (m+1),upN pb' k m,D'++[k],by omega,by go_num,?_,(HKd.out.block _ (kad hbi) (fun c=>by have:bi=w1.heap.size:=c;omega)).trans hbi,(HKd.out.block _ (kad hbv) (fun c=>by have:w1.heap.size+1=w1.heap.size:=c;omega)).trans hbv,?_⟩
          ·rw [HST.out]
           refine HAr.out.add HSet.out.inj hlt2 HQ.out ((Rv.readyL_len HA2.out.fits _ _ (by simp) row HAll.out).trans HLen0.out) (Rv.readyL_rank HA2.out.rank _ _ (Nat.zero_le _) row HAll.out) (by rw [HIk.out,HLd.out];exact HMd.out) HKd.out ?_ (by omega) (by omega);rw [HEk.out];refine ⟨⟨na,nc,ta,tc,sa,sc,ha,hc,ra,rc,HEw.out,?_⟩,kg0.of_block ⟨Lq,hLq,hLq2⟩ (HKd.out.block _ hLq.lt (fun c=>by have:m=w1.heap.size:=c;omega))⟩;rw [HIk.out];exact (HKd.out.block _ (kad HQn.out) (fun c=>by have:m+1=w1.heap.size:=c;omega)).trans HQn.out
          ·intro i hi
           unfold upN
           by_cases c:i=k
           ·simp [c];omega
           ·have:=HPT'.out i (by simpa [c] using hi)
            simpa [c] using this
         case measure=>simp [intOf];omega
      ·rw [hB] at hcon
       have hST:Rv.passS (Rv.namesJ l (Rv.idsOf l)) S (k+1)=Sk:=by
        rw [HSu.out];unfold Rv.stepS;rw [HQ.out];dsimp only
        have hn:Rv.readyL Sk (0,List.replicate Sk.length false) ((Rv.namesJ l (Rv.idsOf l)).getD k [])=none:=by
         rw [Rv.readyL_none,HJ.out hlt2,HEk.out];obtain ⟨s,hs,hs2⟩:=List.any_eq_true.1 hB;rcases HDn.out s hs with ⟨-,h1⟩|⟨row,-,h1⟩
         ·exact ⟨_,List.mem_map.2 ⟨s,hs,rfl⟩,h1⟩
         ·rw [h1] at hs2;cases hs2
        rw [hn]
       have HST:=hdd hST;have HCon:=hdd hcon;clear hST hB hcon
       refine kaj (S:=fun W:World=>(W.cell? ⟨w1.heap.size+1,0,none⟩=some (.map (some w1.heap.size))∧W.cell? ⟨bi,0+k,none⟩=some (.string (B ik))∧W.cell? ⟨bi,k,none⟩=some (.string (B ik))∧W.cell? ⟨wr.heap.size,3,none⟩=some (.slice na e.names.length nc)) ∧
        kbi Tryz.prog 9 kS W w1.heap.size Ld) (by kernel_rfl) HS.out (fun hHeld=>?_)
       simp only [List.toList_toArray,len,kat]
       iterate 5 (refine tz 0 ?_;simp only [Act.put,s1,s2,s3])
       refine tkx 5 (.pointer none) rfl rfl (by kernel_rfl) (fun _ _ _ h=>h) (by assumption) ?_ ?_
       ·intro W hW;exact ka4 rfl kcx Tryz.underlying134 kcr hW.2 rfl rfl (kbp HX.out) HG.out
       simp only [Act.put,s1,s2,s3]
       iterate 5 (refine tz 6 ?_;simp only [Act.put,s1,s2,s3])
       refine ar2 11 (by kernel_rfl) rfl (fun K hK=>?_);go_simp
       refine (HCon.out).mono ?_;rintro en u ⟨rfl,rfl⟩;refine hK.out _ _ hHeld (fun hHeld=>?_);clear hK K
       try simp only [Act.put,s1,s2,s3]
       (refine tz 12 ?_;simp only [Act.put,s1,s2,s3])
       refine wpAnyH_done (by kernel_rfl) ?_ _;simp only [Exit.then]
       go_upto_region 11 with fail
       go_roundw
       case rel=>unfold kis;exact ⟨k+1,pt',pb',D',by omega,by go_num,by rw [HST.out];exact HA2.out.grow (krc (Below.refl _ _)),HI2.out,HV2.out,HPT'.out⟩
       case measure=>simp [intOf];omega
    ·have hkl:k=l.length:=by omega
     have hlen:=HA'.out.lenMap;have hcv:wr.cell? ⟨w1.heap.size+1,0,none⟩=some (.map (some w1.heap.size)):=by rw [kaa HV'.out];rfl
     have hSl:Rv.passS (Rv.namesJ l (Rv.idsOf l)) S S.length=Sk:=by rw [HA.out.len,←hkl];exact HSk.out
     have hgr:=kvl (Rv.namesJ l (Rv.idsOf l)) S S.length;rw [hSl,HC.out] at hgr;have hle2:Rv.cntS Sk≤l.length:=by have:=Rv.cntS_le Sk;rw [HA'.out.len] at this;exact this
     have HSl:=hdd hSl;have hf1:1≤f:=by have:=HF.out;have:=HC.out;omega
     obtain ⟨g,rfl⟩:∃g,f=g+1:=⟨f - 1,by omega⟩;have hno:¬ S.length≤Rv.cntS S:=by rw [HA.out.len,HC.out];omega
     obtain ⟨c2,hc2⟩:∃c2,Rv.cntS Sk=c2:=⟨_,rfl⟩;rw [hc2] at hlen hgr hle2;have HC2:=hdd hc2;have HNo:=hdd hno;clear hc2 hSl hno
     by_cases heq:c2=c
     ·have harr:Rv.arrS l (Rv.idsOf l)=none:=by
       rw [←HR.out];exact kn4 HNo.out (by rw [HSl.out,HC2.out,HC.out,heq])
      have HP:=hdd (show kck l w (.returned (.tuple #[.slice none 0 0,.int .i64 (-1),.int .i64 12])) wr by
       have hs:Rv.setE l (Rv.idsOf l)=(-1,12):=by
        unfold Rv.setE;rw [if_pos HE0.out,harr];rfl
       unfold kck;rw [hs];exact ⟨HA'.out.below,_,rfl,fun h=>absurd h (by decide)⟩)
      subst heq;clear harr
      go_wp2
      refine bodyPost_ret (v:=.tuple #[.slice none 0 0,.int .i64 (-1),.int .i64 12]) (by simp [results,Tryz.results66,go_sem]) rfl HP.out
     ·go_wp2
      have hf:=HF.out;have hcc:=HC.out;have hc2:=HC2.out;refine ⟨⟨Sk,pt',pb',D',g,HA'.out,by omega,by rw [←HR.out,kny HNo.out (by rw [HSl.out,HC2.out,HC.out];exact heq),HSl.out],HI'.out,HV'.out,HPT'.out⟩,?_⟩;rw [HA'.out.sz,HSZ.out];omega
  ·have hSS:Rv.arrS l (Rv.idsOf l)=some S:=by
    rw [←HR.out];have hf:=HF.out;have hcc:=HC.out;obtain ⟨g,rfl⟩:∃g,f=g+1:=⟨f - 1,by omega⟩;show (if S.length≤Rv.cntS S then some S else if Rv.cntS (Rv.passS _ S S.length)=Rv.cntS S then none else Rv.roundsS _ g (Rv.passS _ S S.length))=some S;rw [if_pos (by rw [HA.out.len,hcc];omega)]
   have HSS:=hdd hSS;clear hSS;obtain ⟨Lm,hLm⟩:∃Lm,(D.map fun i=>((Rv.idsOf l).getD i [],ptr (pt i)))=Lm:=⟨_,rfl⟩;have hdm:=HA.out.done;rw [hLm] at hdm;have HLm:=hdd hLm;have HDm:=hdd hdm;clear hLm hdm
   go_upto_region 25 with (first
    |(at_range;refine kgv _ rfl _ 134 rfl 9 91 kS Tryz.underlying134 w1.heap.size _ rfl HDm.out ?_
      intro w0 hr0 hb0 hs0;have HR0:=hdd hr0;have HB0:=hdd hb0;clear hr0 hb0 hs0)
    |fail)
   obtain ⟨i0,hi,hz0,hz1,hz2⟩:∃i,Tryz.prog.info? 91=some i∧i.zero=some (.pointer none)∧i.size=1∧i.bytes=8:=⟨_,rfl,rfl,rfl,rfl⟩;have Hi:=hdd hi;have Hz0:=hdd hz0;have Hz1:=hdd hz1;have Hz2:=hdd hz2;clear hi hz0 hz1 hz2
   have hLl:Lm.length≤1024:=by
    rw [←HLm.out,List.length_map,HA.out.count];have h1:=Rv.cntS_le S;rw [HA.out.len] at h1;have h2:=HSet.out.le;omega
   have hbm:w1.heap.size<wr.heap.size:=HDm.out.lt;have HLl:=hdd hLl;clear hLl;obtain ⟨wo,rfl⟩:∃wo:World,wo=wr:=⟨_,rfl⟩
   go_frame
   go_loopw [15,17] (fun v _ w2=>∃V:List (Bs × Value),kcg Tryz.prog 9 kS w2 w1.heap.size wo.heap.size Lm V∧w2.ownsRow (wo.heap.size+1) 91 1 v V.length (V.map (·.2))∧Below wo.heap.size wo w2) (fun _ _ w2=>w2.rangeLeft w1.heap.size wo.heap.size)
   case atStart=>exact ⟨[],HR0.out,World.ownsRow_nil _ _ _ _,HB0.out⟩
   case round =>
    obtain ⟨V,hr,ho,hb⟩:=hrel;have HRg:=hdd hr;have HO:=hdd ho;have HB:=hdd hb;have HVl:=hdd (Nat.le_trans (nodup_le V Lm hr.2.1 hr.2.2.1) HLl.out);clear hr ho hb
    go_wp2_with (first
     |(at_next;refine khs _ rfl _ rfl 9 kS kcx w1.heap.size wo.heap.size _ _ rfl HRg.out ?_ ?_)
     |fail)
    ·intro hp
     have HP:=hdd hp;clear hp;have hall:=(Rv.arrS_lower HSS.out).2.2;have hSl:S.length=l.length:=HA.out.len
     have hDp:D.Perm (List.range l.length):=(List.perm_ext_iff_of_nodup HA.out.nodup List.nodup_range).2 fun i=>by
      rw [HA.out.memD,List.mem_range];exact ⟨fun h=>h.1,fun h=>⟨h,by obtain ⟨r,hr⟩:=hall i (by omega);rw [hr];rfl⟩⟩
     have hp2:V.Perm (D.map fun i=>((Rv.idsOf l).getD i [],ptr (pt i))):=by rw [HLm.out];exact HP.out
     obtain ⟨xs,hxp,hxm⟩:=kh4 _ D V hp2;have hxr:xs.Perm (List.range l.length):=hxp.trans hDp;have hos:V.map (·.2)=xs.map fun i=>ptr (pt i):=by rw [←hxm,List.map_map];rfl
     have hvl:V.length=xs.length:=by rw [←hxm,List.length_map]
     have hxl:xs.length=l.length:=by rw [hxr.length_eq,List.length_range]
     have ho:=HO.out;rw [hos,hvl] at ho;have hAw:Below w.heap.size w wr:=HA.out.below.trans (HB.out.mono HA.out.below.size)
     have hnd:∀i,i<l.length→∃row,S.getD i none=some row∧kd4 (Rv.idsOf l) (l.getD i Rv.ev0) i row (pt i) (pb i) w wr:=fun i hi=>by
      obtain ⟨r,hr⟩:=hall i (by omega);have hn:=HA.out.node i r hr;exact ⟨r,hr,hn.of_blocks (HB.out.block _ hn.lt.1) (HB.out.block _ hn.lt.2)⟩
     have hpt:∀i,i<l.length→pt i<wo.heap.size:=fun i hi=>by
      obtain ⟨r,hr⟩:=hall i (by omega);exact (HA.out.node i r hr).lt.1
     have hpb:∀i,i<l.length→pb i<wo.heap.size:=fun i hi=>by
      obtain ⟨r,hr⟩:=hall i (by omega);exact (HA.out.node i r hr).lt.2
     have hE:Rv.setE l (Rv.idsOf l)=(-1,0):=by
      unfold Rv.setE;rw [if_pos HE0.out,HSS.out];rfl
     have HX:=hdd hxr;have HOw:=hdd ho;have HAw:=hdd hAw;have HNd:=hdd hnd;have HPt:=hdd hpt;have HPb:=hdd hpb;have HE:=hdd hE;have HXl:=hdd hxl;have HSl:=hdd hSl;clear hall hDp hp2 hxp hxm hxr hos hvl hxl ho hAw hnd hpt hpb hE hSl
     by_cases h0:l.length=0
     ·have hx0:xs=[]:=List.eq_nil_of_length_eq_zero (by rw [HXl.out];exact h0)
      subst hx0;obtain ⟨av,cv,rfl⟩:=kag HOw.out;have HS:=hdd (kry av cv wr)
      have HPo:=hdd (show kck l w (.returned (.tuple #[.slice av ([]:List Nat).length cv,.int .i64 (-1),.int .i64 0])) wr by
       unfold kck;rw [HE.out];refine ⟨HAw.out,_,rfl,fun _=>⟨S,pt,pb,HSS.out,HSl.out,?_,HNd.out⟩⟩;have hor:Rv.ordI S (Rv.idsOf l)=[]:=List.eq_nil_of_length_eq_zero (by rw [(Rv.ordI_perm S _).length_eq,List.length_range,HSl.out];exact h0);rw [hor,h0];have hs:=HA.out.below.size;exact kbh HOw.out (by omega))
      clear h0
      go_wp2_with (go_at_call 133;refine HS.out.mono ?_;rintro en w9 ⟨rfl,rfl⟩)
      refine bodyPost_ret (v:=.tuple #[.slice av ([]:List Nat).length cv,.int .i64 (-1),.int .i64 0]) (by simp [results,Tryz.results66,go_sem]) rfl HPo.out
     ·obtain ⟨g,cv,rfl,hg1,hg2,hg3⟩:=kax HOw.out (by rw [HXl.out];omega)
      have HS:=hdd (kpv l (Rv.idsOf l) S pt pb xs w wr (wo.heap.size+1) g cv HOw.out HX.out (by omega) HSet.out.le HSl.out HSet.out.inj HNd.out (fun i hi=>by have:=HPt.out i hi;omega));have HG:=hdd hg1;clear h0 hg1 hg2 hg3
      go_wp2_with (go_at_call 133;refine HS.out.mono ?_;rintro en w9 ⟨rfl,ho9,hk9⟩;have HO9:=hdd ho9;have HK9:=hdd hk9;clear ho9 hk9)
      have hP:kck l w (.returned (.tuple #[.slice (some ⟨g,0,none⟩) xs.length cv,.int .i64 (-1),.int .i64 0])) w9:=by
       unfold kck;rw [HE.out];have hs:=HA.out.below.size;have hg:=HG.out;refine ⟨HAw.out.trans (HK9.out.below (HAw.out.size) (fun q hq e=>by have:q=g:=e;omega)),_,rfl,fun _=>⟨S,pt,pb,HSS.out,HSl.out,?_,fun i hi=>?_⟩⟩
       ·have:=kbh HO9.out (base':=w.heap.size) (by omega)
        rw [←HXl.out];exact this
       ·obtain ⟨r,hr,hn⟩:=HNd.out i hi
        have h1:=HPt.out i hi;have h2:=HPb.out i hi;exact ⟨r,hr,hn.of_blocks (HK9.out.block _ hn.lt.1 (fun e=>by have:pt i=g:=e;omega)) (HK9.out.block _ hn.lt.2 (fun e=>by have:pb i=g:=e;omega))⟩
      refine bodyPost_ret (v:=.tuple #[.slice (some ⟨g,0,none⟩) xs.length cv,.int .i64 (-1),.int .i64 0]) (by simp [results,Tryz.results66,go_sem]) rfl hP
    ·intro s v w2 hm hn hr1 hk1 hs1 hen hlt
     rw [←HLm.out] at hm;obtain ⟨i,hi,he⟩:=List.mem_map.1 hm;obtain ⟨rfl,rfl⟩:=Prod.mk.inj he;have HR1:=hdd hr1;have HO1:=hdd (kay HO.out hk1 (fun k hk e=>by have:k=wo.heap.size:=e;omega));have HB1:=hdd (HB.out.trans (hk1.below HB.out.size (fun k hk e=>by have:k=wo.heap.size:=e;omega)));have HLt:=hdd hlt;have hsz:wo.heap.size<w2.heap.size:=hr1.lt;clear hm hn hr1 hk1 hs1 hlt hi he
     go_wp2_with (first
      |(at_builtin
        refine wpList_append_own _ rfl _ _ 86 rfl (wo.heap.size+1) 91 i0 (.pointer none) 1 8 Tryz.underlying86 Hi.out Hz0.out Hz1.out Hz2.out rfl (by decide) _ V.length (V.map (·.2)) rfl (HO1.out.alloc _) ⟨w2.heap.size,0,none⟩ 1 1 [ptr (pt i)] rfl rfl (kbj (kai _ _)) (by simp [Value.oneCell']) (by have:=HVl.out;unfold maxLen;omega) (by have:=HVl.out;omega) (by simp;omega) ?_;intro v3 w3 ho3 hg3 _;have hb3:Below (wo.heap.size+1) w2 w3:=((Below.refl _ _).alloc (by omega) _).grown hg3 (by simp;omega) (fun q hq=>by have:=HO1.out.lt q hq;exact this.1);have HO3:=hdd (show w3.ownsRow (wo.heap.size+1) 91 1 v3 (V++[((Rv.idsOf l).getD i [],ptr (pt i))]).length ((V++[((Rv.idsOf l).getD i [],ptr (pt i))]).map (·.2)) by rw [List.length_append,List.map_append];exact ho3);have HRg3:=hdd (HR1.out.of_blocks (w':=w3) (hb3.block _ (by omega)) (hb3.block _ (by omega)));have HE3:=hdd (kfv (w:=w2) (w':=w3) (b:=w1.heap.size) (r:=wo.heap.size) (hb3.block _ (by omega)) (hb3.block _ (by omega)));have HB3:=hdd (HB1.out.trans (hb3.mono (by omega)));clear ho3 hg3 hb3)
      |fail)
     go_roundw
     case rel=>first|exact ⟨_,HRg3.out,HO3.out,HB3.out⟩|((repeat apply Exists.intro);exact ⟨⟨_,HRg3.out,HO3.out,HB3.out⟩,rfl⟩)
     case measure=>rw [HE3.out];exact HLt.out
end Go.Proofs.YtknpbekoenbphaaGreatDoor
