/- Parts of the proofs: WkEv. No condition beyond those at each theorem. -/
import Derived.Test.YtknpbekoenbphaaGreatDoorQk20
import Derived.Test.YtknpbekoenbphaaGreatDoorQk27
set_option linter.unusedVariables false
set_option linter.unusedSimpArgs false
set_option maxHeartbeats 16000000
set_option maxRecDepth 100000
namespace Go.Proofs.YtknpbekoenbphaaGreatDoor
open Go Go.RowKit Licit
theorem kgz {w w':World} {p:Addr} (h:w'.heap[p.block]? = w.heap[p.block]?):w'.cell? p=w.cell? p:=by
 simp [World.cell?,h]
theorem _root_.Licit.IsSl.heap {v:Value} {xs:List Value} {w w':World} (h:IsSl v xs w) (hb:∀q,q<w.heap.size→w'.heap[q]? = w.heap[q]?):IsSl v xs w':=by
 refine ⟨h.1,?_⟩;rcases h.2 with h|⟨b,off,cap,rfl,h0,hc⟩
 ·exact .inl h
 ·refine .inr ⟨b,off,cap,rfl,h0,fun i hi=>?_⟩
  have hx:=hc i hi;have hlt:b<w.heap.size:=World.block_lt_of_cell? w _ (hx.trans (List.getElem?_eq_getElem hi));rw [kgz (p:=⟨b,off+i,none⟩) (hb b hlt)];exact hx
theorem kcw.heap {v:Value} {e:Rv.Ev} {w w':World} (h:kcw v e w) (hb:∀q,q<w.heap.size→w'.heap[q]? = w.heap[q]?):kcw v e w':=by
 obtain ⟨ho,na,nc,ta,tc,sa,sc,ha,hc,ra,rc,rfl,h1,h2,h3,h4,h5⟩:=h;exact ⟨ho,na,nc,ta,tc,sa,sc,ha,hc,ra,rc,rfl,h1.heap hb,h2.heap hb,h3.heap hb,h4.heap hb,h5.heap hb⟩
def kba (F:Nat→Prop) (v:Value) (e:Rv.Ev) (w:World):Prop:=∀W:World,(∀q,q<w.heap.size→¬ F q→W.heap[q]? = w.heap[q]?)→kcw v e W
theorem kba.is {F:Nat→Prop} {v:Value} {e:Rv.Ev} {w:World} (h:kba F v e w):kcw v e w:=h w fun _ _ _=>rfl
theorem kba.step {F F':Nat→Prop} {v:Value} {e:Rv.Ev} {w w':World} (h:kba F v e w) (hz:w.heap.size≤w'.heap.size) (hk:∀q,q<w.heap.size→¬ F q→w'.heap[q]? = w.heap[q]?) (hF:∀q,F' q→F q∨w.heap.size≤q):kba F' v e w' :=
 fun W hW=>h W fun q hq hn=>(hW q (Nat.lt_of_lt_of_le hq hz) (fun hf=>(hF q hf).elim hn (fun c=>by omega))).trans (hk q hq hn)
theorem kcw.safe {F:Nat→Prop} {v:Value} {e:Rv.Ev} {w0 w:World} (h:kcw v e w0) (hb:Below w0.heap.size w0 w) (hF:∀q,F q→w0.heap.size≤q):kba F v e w :=
 fun W hW=>h.heap fun q hq=>(hW q (Nat.lt_of_lt_of_le hq hb.size) (fun hf=>by have:=hF q hf;omega)).trans (hb.block q hq)
structure EvX where
 e:Rv.Ev
 vn:Value
 vt:Value
 vs:Value
 vh:Value
 vr:Value
abbrev EvX.arr (x:EvX):Array Value:=evC x.e x.vn x.vt x.vs x.vh x.vr
def EvX.cells (x:EvX):List Value:=x.arr.toList
abbrev EvX.val (x:EvX):Value:=.agg x.arr
theorem EvX.len (x:EvX):x.cells.length=18:=rfl
theorem EvX.flat {x:EvX} {w:World} (h:kcw x.val x.e w):x.arr.all (·.oneCell')=true:=by
 obtain ⟨ho,na,nc,ta,tc,sa,sc,ha,hc,ra,rc,hv,-⟩:=h
 have:x.arr=_:=Value.agg.inj hv
 rw [this];exact kbe _ _ _ _ _ _ rfl rfl rfl rfl rfl
theorem EvX.flat' {x:EvX} {w:World} (h:kcw x.val x.e w):∀u∈x.cells,u.oneCell'=true:=by
 have:=EvX.flat h
 rw [Array.all_eq_true_iff_forall_mem] at this
 exact fun u hu=>this u (by simpa [EvX.cells] using hu)
def evL (L:List EvX):List Value:=(L.map EvX.cells).flatten
theorem ko8 (L:List EvX) (x:EvX):evL (L++[x])=evL L++x.cells:=by simp [evL]
theorem kf3 (L:List EvX):(evL L).length=L.length*18:=kgp (k:=18) (enc:=EvX.cells) EvX.len L
def ka2 (L:List EvX):List Rv.Ev:=L.map EvX.e
theorem kbd (L:List EvX):(ka2 L).length=L.length:=by simp [ka2]
theorem khd (L:List EvX) (x:EvX):ka2 (L++[x])=ka2 L++[x.e]:=by simp [ka2]
structure ka1 (base:Nat) (F:Nat→Prop) (v:Value) (L:List EvX) (w:World):Prop where
 row:w.ownsRow base 45 18 v L.length (evL L)
 safe:∀x∈L,kba F x.val x.e w
theorem ka1.nil (base:Nat) (F:Nat→Prop) (w:World):ka1 base F kaf [] w:=⟨World.ownsRow_nil _ _ _ _,by simp⟩
theorem ka1.at {base:Nat} {F:Nat→Prop} {g n cap:Nat} {L:List EvX} {w:World} (h:ka1 base F (.slice (some ⟨g,0,none⟩) n cap) L w) {i:Nat} (hi:i<L.length):w.rangeAt g (i*18) (L[i]).cells:=by
 intro j v hj
 have hj18:j<18:=by
  rcases Nat.lt_or_ge j 18 with c|c
  ·exact c
  ·rw [List.getElem?_eq_none (by rw [EvX.len];exact c)] at hj;cases hj
 have h1:=h.row.cells (g:=g) rfl (i*18+j) v (by
  unfold evL;rw [kdt (k:=18) (enc:=EvX.cells) EvX.len (by omega),show (i*18+j) / 18=i by omega,show (i*18+j) % 18=j by omega,List.getElem?_eq_getElem hi];exact hj)
 rwa [Addr.add_lit,Nat.zero_add] at h1
theorem ka1.is {base:Nat} {F:Nat→Prop} {v:Value} {L:List EvX} {w:World} (h:ka1 base F v L w) (hl:L.length≤100000):kbt v (ka2 L) w:=by
 refine ⟨by rw [kbd];exact hl,?_⟩;rw [kbd];rcases Nat.eq_zero_or_pos L.length with h0|h0
 ·obtain ⟨a,c,rfl⟩:=kag h.row
  have:L=[]:=List.eq_nil_of_length_eq_zero h0
  subst this;exact .inl ⟨a,c,rfl,rfl⟩
 ·obtain ⟨g,c,rfl,-,hg,-⟩:=kax h.row h0
  refine .inr ⟨g,0,c,rfl,h0,hg,fun i hi=>?_⟩;have hr:=h.at hi;have hx:=(h.safe _ (List.getElem_mem hi)).is;have he:(ka2 L).getD i Rv.ev0=(L[i]).e:=by simp [ka2,List.getD_eq_getElem?_getD,List.getElem?_eq_getElem hi]
  rw [he,Nat.zero_add];obtain ⟨ho,na,nc,ta,tc,sa,sc,ha,hc,ra,rc,hv,hs⟩:=hx;refine ⟨na,nc,ta,tc,sa,sc,ha,hc,ra,rc,⟨ho,na,nc,ta,tc,sa,sc,ha,hc,ra,rc,rfl,hs⟩,?_⟩;have ha:(L[i]).arr=_:=Value.agg.inj hv;unfold EvX.cells at hr;rw [ha] at hr;exact hr
theorem ka1.keep {base:Nat} {F F':Nat→Prop} {v:Value} {L:List EvX} {w w':World} (h:ka1 base F v L w) (hz:w.heap.size≤w'.heap.size) (hk:∀q,q<w.heap.size→¬ F q→w'.heap[q]? = w.heap[q]?) (hv:∀q,v.ownBlock=some q→w'.heap[q]? = w.heap[q]?) (hF:∀q,F' q→F q∨w.heap.size≤q):ka1 base F' v L w' :=
 ⟨kal h.row hv,fun x hx=>(h.safe x hx).step hz hk hF⟩
theorem ka1.grow {base:Nat} {F:Nat→Prop} {v:Value} {L:List EvX} {w w':World} (h:ka1 base F v L w) (hb:Below w.heap.size w w'):ka1 base F v L w' :=
 h.keep hb.size (fun q hq _=>hb.block q hq) (fun q hq=>hb.block q (h.row.lt q hq).2) (fun _ hf=>.inl hf)
theorem ka1.add {base:Nat} {F F':Nat→Prop} {v v':Value} {L:List EvX} {x:EvX} {w w':World} (h:ka1 base F v L w) (hx:kba F x.val x.e w) (ho:w'.ownsRow base 45 18 v' (L.length+1) (evL L++x.cells)) (hg:w.grownBy w' v.ownBlock) (hF:∀q,v.ownBlock=some q→F q) (hF':∀q,F' q→F q∨w.heap.size≤q) :
 ka1 base F' v' (L++[x]) w':=by
 have hz:w.heap.size≤w'.heap.size:=hg.size;have hk:∀q,q<w.heap.size→¬ F q→w'.heap[q]? = w.heap[q]?:=fun q hq hn=>hg.block q hq (fun e=>hn (hF q e.symm))
 refine ⟨by rw [ko8,List.length_append];exact ho,fun y hy=>?_⟩;rcases List.mem_append.1 hy with hy|hy
 ·exact (h.safe y hy).step hz hk hF'
 ·obtain rfl:=List.mem_singleton.1 hy
  exact hx.step hz hk hF'
theorem kcw.x {v:Value} {e:Rv.Ev} {w:World} (h:kcw v e w):∃x:EvX,x.e=e∧x.val=v:=by
 obtain ⟨ho,na,nc,ta,tc,sa,sc,ha,hc,ra,rc,rfl,-⟩:=h;exact ⟨⟨e,_,_,_,_,_⟩,rfl,rfl⟩
theorem kk7:∃i,Tryz.prog.info? 45=some i∧i.zero=some (.agg evZ)∧i.size=18∧i.bytes=280:=⟨_,rfl,by kernel_rfl,rfl,rfl⟩
theorem kuj {w:World} {o:Nat} {cs:Array Value} {t:TypeId} {fr:Nat × Nat} (hb:w.heap[o]? = some (.cells cs t fr)):∀j u,cs.toList[j]? = some u→w.cell? ((⟨o,0,none⟩:Addr).add j)=some u:=fun j u hu=>by
 rw [Addr.add_lit,kaa hb,Nat.zero_add,←Array.getElem?_toList];exact hu
def Fr (u:Value) (G:Nat→Prop):Nat→Prop:=fun q=>u.ownBlock=some q∨G q
abbrev NoB:Nat→Prop:=fun _=>False
theorem kgt {P:Program} (w:World) (base:Nat) (t ty e:TypeId) (i:TypeInfo) (z:Value) (size bytes:Nat) (ht:P.underlying t=some (.slice e)) (hi:P.info? e=some i) (hz:i.zero=some z)
 (hsize:i.size=size) (hby:i.bytes=bytes) (hzs:z.cells.size=size) (hsz:0<size)
 (v:Value) (n:Nat) (xs:List Value) (hown:w.ownsRow base e size v n xs)
 (a:Addr) (m c:Nat) (news:List Value) (hl:news.length=m*size) (hnews:∀j u,news[j]? = some u→w.cell? (a.add j)=some u) (h1:∀u∈news,u.oneCell'=true)
 (h63:n+m≤maxLen) (hbytes:(n+m)*bytes≤140737488355328) (hbase:base≤w.heap.size) :
 ∃v' w',(Builtin.append_ #[t,t] ty #[v,.slice (some a) m c]).run P w = .ok v' w'∧w'.ownsRow base e size v' (n+m) (xs++news)∧w.grownBy w' v.ownBlock ∧
  (∀q,v'.ownBlock=some q→v.ownBlock=some q∨w.heap.size≤q):=by
 obtain ⟨v',w',hr,h2,h3,_⟩:=run_append_own (P:=P) w base t ty e i z size bytes ht hi hz hsize hby hzs hsz v n xs hown a m c news hl hnews h1 h63 hbytes hbase;refine ⟨v',w',hr,h2,h3,fun q hq=>?_⟩;rcases hown.2 with ⟨rfl,rfl⟩|⟨g,cap,cur,rfl,hbg,hg,hnc,hcm,hcs,htake⟩
 ·right
  have hx:xs=[]:=List.eq_nil_of_length_eq_zero (by simpa using hown.1);subst hx;obtain ⟨v2,w2,hr2,k2,_,_⟩:=run_append_own (P:=P) w w.heap.size t ty e i z size bytes ht hi hz hsize hby hzs hsz (.slice none 0 0) 0 [] (World.ownsRow_nil _ _ _ _) a m c news hl hnews h1 h63 hbytes (Nat.le_refl _);rw [hr] at hr2
  cases hr2;exact (k2.lt q hq).1
 ·by_cases hroom:n+m≤cap
  ·left
   subst hsize;have hfit:n*i.size+news.length≤cur.size:=by rw [hl,hcs,←Nat.add_mul];exact Nat.mul_le_mul_right _ hroom
   have hr2:=run_append_room (P:=P) w t ty e i ht hi g n cap cur hg a m c news hl hnews h1 hroom hfit;rw [hr] at hr2
   cases hr2;exact hq
  ·right
   subst hsize;subst hby;have holds:∀j u,xs[j]? = some u→w.cell? ((⟨g,0,none⟩:Addr).add j)=some u:=hown.cells (g:=g) rfl;have hr2:=run_append_grow (P:=P) w t ty e i z ht hi hz ⟨g,0,none⟩ n cap xs hown.1 holds a m c news hl hnews (by omega) (by simp only [maxLen] at h63;omega) (growslice_fits (by omega) hbytes);rw [hr] at hr2
   cases hr2
   cases hq;exact Nat.le_refl _
theorem kbt.xs {b off n cap:Nat} {l:List Rv.Ev} {w:World} (h:kbt (.slice (some ⟨b,off,none⟩) n cap) l w):∀k,k≤l.length→∃L:List EvX,ka2 L=l.take k∧L.length=k∧(∀x∈L,kcw x.val x.e w)∧∀j u,(evL L)[j]? = some u→w.cell? ((Addr.mk b off none).add j)=some u
 |0,_=>⟨[],rfl,rfl,by simp,by simp [evL]⟩
 |k+1,hk=>by
  obtain ⟨L,h1,h2,h3,h4⟩:=kbt.xs h k (by omega);rcases h.2 with ⟨a,c,e,rfl⟩|⟨b',off',c,e,h0,hlt,hc⟩
  ·simp at hk
  ·simp only [Value.slice.injEq,Option.some.injEq,Addr.mk.injEq,and_true] at e
   obtain ⟨⟨rfl,rfl⟩,-,-⟩:=e;obtain ⟨na,nc,ta,tc,sa,sc,ha,hc',ra,rc,hE,hR⟩:=hc k hk;refine ⟨L++[⟨l.getD k Rv.ev0,.slice na (l.getD k Rv.ev0).names.length nc,.slice ta (l.getD k Rv.ev0).targets.length tc,.slice sa (l.getD k Rv.ev0).sg.S.length sc,.slice ha (l.getD k Rv.ev0).sg.H.length hc',.slice ra (l.getD k Rv.ev0).sg.R.length rc⟩],?_,by simp [h2],?_,?_⟩
   ·rw [khd,h1,List.take_succ_eq_append_getElem hk,List.getD_eq_getElem?_getD,List.getElem?_eq_getElem hk];rfl
   ·intro x hx
    rcases List.mem_append.1 hx with hx|hx
    ·exact h3 x hx
    ·obtain rfl:=List.mem_singleton.1 hx;exact hE
   ·intro j u hj
    rw [ko8] at hj;rcases Nat.lt_or_ge j (evL L).length with c|c
    ·rw [List.getElem?_append_left c] at hj;exact h4 j u hj
    ·rw [List.getElem?_append_right c,kf3,h2] at hj
     rw [kf3,h2] at c
     have:=hR _ u hj
     rw [Addr.add_lit];rw [show off+j=off+k*18+(j - k*18) by omega];exact this
theorem kor {L:List EvX} {w:World} (h:∀x∈L,kcw x.val x.e w):∀u∈evL L,u.oneCell'=true:=by
 intro u hu;unfold evL at hu;rw [List.mem_flatten] at hu;obtain ⟨c,hc,hu⟩:=hu;obtain ⟨x,hx,rfl⟩:=List.mem_map.1 hc;exact EvX.flat' (h x hx) u hu
theorem kmz (L M:List EvX):evL (L++M)=evL L++evL M:=by simp [evL]
theorem kkf (ty:TypeId) {base:Nat} {G:Nat→Prop} {u v:Value} {L:List EvX} {l:List Rv.Ev} {w0 w:World} (hO:ka1 base (Fr u G) u L w) (hv:kbt v l w0) (hb:Below w0.heap.size w0 w) (hF:∀q,Fr u G q→w0.heap.size≤q) (hn:khn v) (hl:L.length+l.length≤100000) (hbase:base≤w.heap.size) :
 ∃v' w' M,(Builtin.append_ #[23,23] ty #[u,v]).run Tryz.prog w = .ok v' w'∧ka2 M=l∧ka1 base (Fr v' G) v' (L++M) w'∧w.grownBy w' u.ownBlock∧(∀q,v'.ownBlock=some q→u.ownBlock=some q∨w.heap.size≤q):=by
 obtain ⟨i0,hi0,hz0,hz1,hz2⟩:=kk7
 have hcase:(v = .slice none 0 0∧l=[])∨∃ad c M,v = .slice (some ad) l.length c∧ka2 M=l∧M.length=l.length∧(∀x∈M,kcw x.val x.e w0)∧∀j z,(evL M)[j]? = some z→w0.cell? (ad.add j)=some z:=by
  rcases hv.2 with ⟨a,c,rfl,rfl⟩|⟨b,off,c,rfl,h0,hlt,hc⟩
  ·cases a with
   |none=>left;obtain rfl:=hn _ _ rfl;exact ⟨rfl,rfl⟩
   |some ad=>right;exact ⟨ad,c,[],rfl,rfl,rfl,by simp,by simp [evL]⟩
  ·right
   obtain ⟨M,h1,h2,h3,h4⟩:=kbt.xs hv l.length (Nat.le_refl _);exact ⟨_,c,M,rfl,by rw [h1,List.take_length],h2,h3,h4⟩
 rcases hcase with ⟨rfl,rfl⟩|⟨ad,c,M,rfl,hM,hMl,hME,hMc⟩
 ·have hrun:=run_append_owned_none (P:=Tryz.prog) (w:=w) base 23 ty 45 i0 18 Tryz.underlying23 hi0 u L.length (evL L) hO.row
  exact ⟨u,w,[],hrun,rfl,by rw [List.append_nil];exact hO,⟨rfl,rfl,rfl,Nat.le_refl _,fun _ _ _=>rfl⟩,fun q h=>.inl h⟩
 ·have hsafe:∀x∈M,kba (Fr u G) x.val x.e w:=fun x hx=>(hME x hx).safe hb hF
  obtain ⟨v',w',hr,ho,hg,hq⟩:=kgt (P:=Tryz.prog) w base 23 ty 45 i0 (.agg evZ) 18 280 Tryz.underlying23 hi0 hz0 hz1 hz2 rfl (by decide) u L.length (evL L) hO.row ad l.length c (evL M) (by rw [kf3,hMl]) (fun j z hj=>by
   have h1:=hMc j z hj;exact (hb.cell (World.block_lt_of_cell? w0 _ h1)).trans h1) (kor hME) (by unfold maxLen;omega) (by omega) hbase
  refine ⟨v',w',M,hr,hM,⟨by rw [kmz,List.length_append,hMl];exact ho,fun x hx=>?_⟩,hg,hq⟩;have hk:∀q,q<w.heap.size→¬ Fr u G q→w'.heap[q]? = w.heap[q]?:=fun q h1 h2=>hg.block q h1 (fun e=>h2 (.inl e.symm))
  have hF':∀q,Fr v' G q→Fr u G q∨w.heap.size≤q:=fun q h=>by
   rcases h with h|h
   ·rcases hq q h with h|h
    ·exact .inl (.inl h)
    ·exact .inr h
   ·exact .inl (.inr h)
  rcases List.mem_append.1 hx with hx|hx
  ·exact (hO.safe x hx).step hg.size hk hF'
  ·exact (hsafe x hx).step hg.size hk hF'
theorem ksv (ty:TypeId) {base b:Nat} {G:Nat→Prop} {u:Value} {L:List EvX} {X:EvX} {w:World} (hO:ka1 base (Fr u G) u L w) (hb:w.heap[b]? = some (.cells X.arr 45 (0,0))) (hX:kba (Fr u G) X.val X.e w) (hl:L.length+1≤100000) (hbase:base≤w.heap.size) :
 ∃v' w',(Builtin.append_ #[23,23] ty #[u,.slice (some ⟨b,0,none⟩) 1 1]).run Tryz.prog w = .ok v' w'∧ka1 base (Fr v' G) v' (L++[X]) w'∧w.grownBy w' u.ownBlock∧(∀q,v'.ownBlock=some q→u.ownBlock=some q∨w.heap.size≤q):=by
 obtain ⟨i0,hi0,hz0,hz1,hz2⟩:=kk7;obtain ⟨v',w',hr,ho,hg,hq⟩:=kgt (P:=Tryz.prog) w base 23 ty 45 i0 (.agg evZ) 18 280 Tryz.underlying23 hi0 hz0 hz1 hz2 rfl (by decide) u L.length (evL L) hO.row ⟨b,0,none⟩ 1 1 X.cells rfl (kuj hb) (EvX.flat' hX.is) (by unfold maxLen;omega) (by omega) hbase;refine ⟨v',w',hr,hO.add hX ho hg (fun _ h=>.inl h) (fun q h=>?_),hg,hq⟩;rcases h with h|h
 ·rcases hq q h with h|h
  ·exact .inl (.inl h)
  ·exact .inr h
 ·exact .inl (.inr h)
theorem kcb {P:Program} {w:World} {o:Oper} {a:Act} {K:Act→World→Prop} {Q:Exit→Act→World→Prop} (s x:Operand) (t:TypeId) (ho:o.op = .call { callee:=.builtin .append,args:=#[s,x],argTypes:=#[t,t] }) (u v v':Value) (w':World) (hs:a.eval s=u) (hx:a.eval x=v)
 (hr:(Builtin.append_ #[t,t] o.type #[u,v]).run P w = .ok v' w') (h:K (a.put o.dst v') w'):o.wp P a w K Q:=by
 unfold Oper.wp execOp;simp only [ho,resolve,invoke,builtin,Sem.run_bind,Sem.run_pure,Result.andThen_ok,List.map_toArray,List.map_cons,List.map_nil,hs,hx,hr];exact h
section
variable {w:World} {ops:Array Oper} {rest:List Oper} {o:Oper} {a:Act} {Q:Exit→Act→World→Prop} {K:Act→World→Prop} {E:Prop} (hgd:o.guard=none) (s x:Operand) (ho:o.op = .call { callee:=.builtin .append,args:=#[s,x],argTypes:=#[23,23] })
include hgd ho
theorem kcj {base b:Nat} {G:Nat→Prop} {u:Value} {L:List EvX} {X:EvX} (hs:a.eval s=u) (hx:a.eval x = .slice (some ⟨b,0,none⟩) 1 1) (hO:ka1 base (Fr u G) u L w) (hb:w.heap[b]? = some (.cells X.arr 45 (0,0))) (hX:kba (Fr u G) X.val X.e w) (hl:L.length+1≤100000) (hbase:base≤w.heap.size)
 (h:∀v' w',ka1 base (Fr v' G) v' (L++[X]) w'→w.grownBy w' u.ownBlock→(∀q,v'.ownBlock=some q→u.ownBlock=some q∨w.heap.size≤q)→wpList Tryz.prog ops Q rest (a.put o.dst v') w'):wpList Tryz.prog ops Q (o :: rest) a w:=by
 obtain ⟨v',w',hr,h1,h2,h3⟩:=ksv o.type hO hb hX hl hbase;exact wpList_plain hgd fun _ hK=>kcb s x _ ho u _ v' w' hs hx hr (hK _ _ (h v' w' h1 h2 h3))
theorem kd0 {base:Nat} {G:Nat→Prop} {u v:Value} {L:List EvX} {l:List Rv.Ev} {w0:World} (hs:a.eval s=u) (hx:a.eval x=v) (hO:ka1 base (Fr u G) u L w) (hv:kbt v l w0) (hb:Below w0.heap.size w0 w) (hF:∀q,Fr u G q→w0.heap.size≤q) (hn:khn v) (hl:L.length+l.length≤100000) (hbase:base≤w.heap.size)
 (h:∀v' w' M,ka2 M=l→ka1 base (Fr v' G) v' (L++M) w'→w.grownBy w' u.ownBlock→(∀q,v'.ownBlock=some q→u.ownBlock=some q∨w.heap.size≤q)→wpList Tryz.prog ops Q rest (a.put o.dst v') w'):wpList Tryz.prog ops Q (o :: rest) a w:=by
 obtain ⟨v',w',M,hr,h0,h1,h2,h3⟩:=kkf o.type hO hv hb hF hn hl hbase;exact wpList_plain hgd fun _ hK=>kcb s x _ ho u _ v' w' hs hx hr (hK _ _ (h v' w' M h0 h1 h2 h3))
theorem kjf {base:Nat} {G:Nat→Prop} {u v:Value} {L:List EvX} {l:List Rv.Ev} {w0:World} (hs:a.eval s=u) (hx:a.eval x=v) (hO:ka1 base (Fr u G) u L w) (hv:kbt v l w0) (hb:Below w0.heap.size w0 w) (hF:∀q,Fr u G q→w0.heap.size≤q) (hn:khn v) (hl:L.length+l.length≤100000) (hbase:base≤w.heap.size)
 (h:∀v' w' M,ka2 M=l→ka1 base (Fr v' G) v' (L++M) w'→w.grownBy w' u.ownBlock→(∀q,v'.ownBlock=some q→u.ownBlock=some q∨w.heap.size≤q)→K (a.put o.dst v') w'):if Region.wanted o (yielded ops a.tmps)=true then Oper.wp Tryz.prog o a w K Q else E:=by
 rw [if_pos (by simp [Region.wanted,hgd])];obtain ⟨v',w',M,hr,h0,h1,h2,h3⟩:=kkf o.type hO hv hb hF hn hl hbase;exact kcb s x _ ho u _ v' w' hs hx hr (h v' w' M h0 h1 h2 h3)
end
theorem ka1.empty {base g:Nat} {G:Nat→Prop} (W:World) (hg:g=W.heap.size) (h:base≤g):ka1 base (Fr (.slice (some ⟨g,0,none⟩) 0 0) G) (.slice (some ⟨g,0,none⟩) 0 0) [] (W.alloc (.cells #[] 45)) :=
 ⟨⟨rfl,.inr ⟨_,0,#[],rfl,h,kak hg rfl,Nat.le_refl _,by unfold maxLen;omega,rfl,rfl⟩⟩,by simp⟩
theorem ka1.nilC {base:Nat} {F:Nat→Prop} {v:Value} {L:List EvX} {w:World} (h:ka1 base F v L w):khn v:=khn.own h.row
structure EvX.Ok (x:EvX) (w:World):Prop where
 ok:kt0 x.e
 n:IsSl x.vn (x.e.names.map vS) w
 t:IsSl x.vt (x.e.targets.map vS) w
 s:IsSl x.vs (x.e.sg.S.map vS) w
 h:IsSl x.vh (x.e.sg.H.map vS) w
 r:IsSl x.vr (x.e.sg.R.map vS) w
theorem EvX.Ok.is {x:EvX} {w:World} (h:x.Ok w):kcw x.val x.e w:=by
 obtain ⟨e,vn,vt,vs,vh,vr⟩:=x;obtain ⟨ho,h1,h2,h3,h4,h5⟩:=h;dsimp only at h1 h2 h3 h4 h5;obtain ⟨na,nc,rfl⟩:=h1.formMap;obtain ⟨ta,tc,rfl⟩:=h2.formMap;obtain ⟨sa,sc,rfl⟩:=h3.formMap;obtain ⟨ha,hc,rfl⟩:=h4.formMap;obtain ⟨ra,rc,rfl⟩:=h5.formMap;exact ⟨ho,na,nc,ta,tc,sa,sc,ha,hc,ra,rc,rfl,h1,h2,h3,h4,h5⟩
theorem EvX.ok_of {x:EvX} {w:World} (h:kcw x.val x.e w):x.Ok w:=by
 obtain ⟨ho,na,nc,ta,tc,sa,sc,ha,hc,ra,rc,hv,h1,h2,h3,h4,h5⟩:=h;have hq:=congrArg Array.toList (Value.agg.inj hv);simp only [List.cons.injEq,and_true,true_and] at hq;obtain ⟨e1,e2,e3,e4,e5⟩:=hq;exact ⟨ho,e1 ▸ h1,e2 ▸ h2,e3 ▸ h3,e4 ▸ h4,e5 ▸ h5⟩
theorem kba.alter {F:Nat→Prop} {x y:EvX} {w:World} (h:kba F x.val x.e w) (k:∀W:World,(∀q,q<w.heap.size→¬ F q→W.heap[q]? = w.heap[q]?)→x.Ok W→y.Ok W):kba F y.val y.e w :=
 fun W hW=>(k W hW (EvX.ok_of (h W hW))).is
theorem kie {F:Nat→Prop} {w W:World} {base lo:Nat} {v:Value} {xs:List Bs} (h:w.ownsRow base 9 1 v xs.length (xs.map vS)) (hF:∀q,F q→q<lo) (hb:lo≤base) (hl:xs.length≤100000) (hW:∀q,q<w.heap.size→¬ F q→W.heap[q]? = w.heap[q]?):IsSl v (xs.map vS) W :=
 kdr (kal h fun q hq=>hW q (h.lt q hq).2 (fun hf=>by have:=hF q hf;have:=(h.lt q hq).1;omega)) hl
theorem ka1.block {base:Nat} {F:Nat→Prop} {g n cap:Nat} {L:List EvX} {w:World} (h:ka1 base F (.slice (some ⟨g,0,none⟩) n cap) L w):∃cur:Array Value,w.heap[g]? = some (.cells cur 45 (0,0))∧L.length*18≤cur.size∧n=L.length∧base≤g∧n≤cap∧cap≤maxLen∧cur.size=cap*18∧cur.toList.take (L.length*18)=evL L:=by
 have hn:=h.row.1;rcases h.row.2 with ⟨e,_⟩|⟨g',cap',cur,e,h1,h2,h3,h4,h5,h6⟩
 ·cases e
 ·simp only [Value.slice.injEq,Option.some.injEq,Addr.mk.injEq,and_true] at e
  obtain ⟨rfl,hn2,rfl⟩:=e;subst hn2;exact ⟨cur,h2,by rw [h5];exact Nat.mul_le_mul_right _ h3,rfl,h1,h3,h4,h5,h6⟩
theorem knr (L:List EvX) (t:Nat):(evL L)[t]? = (L[t / 18]?).bind fun x=>x.cells[t % 18]?:=kdt (k:=18) (enc:=EvX.cells) EvX.len (by omega) L t
theorem ka1.set {base:Nat} {F:Nat→Prop} {g n cap:Nat} {L:List EvX} {w w':World} {cur:Array Value} (h:ka1 base F (.slice (some ⟨g,0,none⟩) n cap) L w) (hF:F g) {i:Nat} (hi:i<L.length) {x:EvX} (hx:kba F x.val x.e w) (hcur:w.heap[g]? = some (.cells cur 45 (0,0)))
 (hw:w'.heap[g]? = some (.cells (kms cur (i*18) x.cells) 45 (0,0))) (hk:ka7 (Licit.One g) w w'):ka1 base F (.slice (some ⟨g,0,none⟩) n cap) (L.set i x) w':=by
 obtain ⟨cur',hc,hz,rfl,h1,h3,h4,h5,h6⟩:=h.block;rw [hcur] at hc
 cases hc;have hkk:∀q,q<w.heap.size→¬ F q→w'.heap[q]? = w.heap[q]?:=fun q hq hn=>hk.block q hq (fun e=>hn (by have:q=g:=e;rw [this];exact hF))
 refine ⟨⟨by rw [kf3,List.length_set],.inr ⟨g,cap,kms cur (i*18) x.cells,by rw [List.length_set],h1,hw,by rw [List.length_set];exact h3,h4,by rw [kiz];exact h5,?_⟩⟩,fun y hy=>?_⟩
 ·rw [List.length_set]
  apply List.ext_getElem?
  intro t;rw [knr];have hcell:(evL L)[t]? = (L[t / 18]?).bind fun x=>x.cells[t % 18]?:=knr L t
  rw [←h6] at hcell;rcases Nat.lt_or_ge t (L.length*18) with c|c
  ·rw [List.getElem?_take_of_lt c,Array.getElem?_toList] at hcell ⊢
   by_cases e:t / 18=i
   ·have ht:t=i*18+t % 18:=by omega
    rw [List.getElem?_set,if_pos e.symm,if_pos hi]
    conv=>lhs;rw [ht]
    rw [kle _ _ _ _ (by rw [EvX.len];omega) (by rw [EvX.len];omega)];rfl
   ·rw [List.getElem?_set,if_neg (Ne.symm e),←hcell]
    exact kgx _ _ _ _ (by rw [EvX.len];omega)
  ·rw [List.getElem?_take_eq_none c,List.getElem?_eq_none (by rw [List.length_set];omega)]
   rfl
 ·rcases List.mem_or_eq_of_mem_set hy with hy|rfl
  ·exact (h.safe y hy).step hk.size hkk (fun _ h=>.inl h)
  ·exact hx.step hk.size hkk (fun _ h=>.inl h)
theorem ka1.take {base:Nat} {F:Nat→Prop} {g n cap:Nat} {L:List EvX} {w:World} (h:ka1 base F (.slice (some ⟨g,0,none⟩) n cap) L w) {k:Nat} (hk:k≤L.length):ka1 base F (.slice (some ⟨g,0,none⟩) k cap) (L.take k) w:=by
 obtain ⟨cur,hc,hz,rfl,h1,h3,h4,h5,h6⟩:=h.block;have hl:(L.take k).length=k:=by rw [List.length_take];omega
 refine ⟨⟨by rw [kf3],.inr ⟨g,cap,cur,by rw [hl],h1,hc,by rw [hl];omega,h4,h5,?_⟩⟩,fun y hy=>h.safe y (List.mem_of_mem_take hy)⟩;rw [hl];have e:evL L=evL (L.take k)++evL (L.drop k):=by rw [←kmz,List.take_append_drop]
 have e2:cur.toList.take (k*18)=(cur.toList.take (L.length*18)).take (k*18):=by rw [List.take_take];congr 1;omega
 rw [e2,h6,e];have e3:k*18=(evL (L.take k)).length:=by rw [kf3,hl]
 rw [e3,List.take_left]
theorem ka1.behind {base:Nat} {F:Nat→Prop} {g n cap:Nat} {L:List EvX} {w:World} (h:ka1 base F (.slice (some ⟨g,0,none⟩) n cap) L w) (k:Nat):∀j u,(evL (L.drop k))[j]? = some u→w.cell? ((⟨g,k*18,none⟩:Addr).add j)=some u:=by
 intro j u hu
 have h1:(evL L)[k*18+j]? = some u:=by
  rw [knr] at hu ⊢;rw [show (k*18+j) / 18=k+j / 18 by omega,show (k*18+j) % 18=j % 18 by omega,←List.getElem?_drop];exact hu
 have h2:=h.row.cells (g:=g) rfl _ u h1;rw [Addr.add_lit,Nat.zero_add] at h2;rw [Addr.add_lit];exact h2
theorem kj7 (ty:TypeId) {base:Nat} {u v:Value} {xs ys:List Bs} {w0 w:World} (hO:w.ownsRow base 9 1 u xs.length (xs.map vS)) (hv:IsSl v (ys.map vS) w0) (hb:Below w0.heap.size w0 w) (hn:khn v) (hl:xs.length+ys.length≤100000) (hbase:base≤w.heap.size) :
 ∃v' w',(Builtin.append_ #[39,39] ty #[u,v]).run Tryz.prog w = .ok v' w'∧w'.ownsRow base 9 1 v' (xs++ys).length ((xs++ys).map vS)∧w.grownBy w' u.ownBlock∧(∀q,v'.ownBlock=some q→u.ownBlock=some q∨w.heap.size≤q):=by
 obtain ⟨i0,hi0,hz0,hz1,hz2⟩:=info_parts Tryz.infoStr
 have hcase:(v = .slice none 0 0∧ys=[])∨∃ad c,v = .slice (some ad) ys.length c∧∀j z,(ys.map vS)[j]? = some z→w0.cell? (ad.add j)=some z:=by
  rcases hv.2 with ⟨a,c,rfl,he⟩|⟨b,off,c,rfl,h0,hc⟩
  ·obtain rfl:ys=[]:=by simpa using he
   cases a with
   |none=>left;obtain rfl:=hn _ _ rfl;exact ⟨rfl,rfl⟩
   |some ad=>right;exact ⟨ad,c,rfl,by simp⟩
  ·right
   exact ⟨⟨b,off,none⟩,c,by rw [List.length_map],krw hv rfl rfl⟩
 rcases hcase with ⟨rfl,rfl⟩|⟨ad,c,rfl,hc⟩
 ·have hrun:=run_append_owned_none (P:=Tryz.prog) (w:=w) base 39 ty 9 i0 1 Tryz.underlying39 hi0 u xs.length (xs.map vS) hO
  exact ⟨u,w,hrun,by rw [List.append_nil];exact hO,⟨rfl,rfl,rfl,Nat.le_refl _,fun _ _ _=>rfl⟩,fun q h=>.inl h⟩
 ·obtain ⟨v',w',hr,ho,hg,hq⟩:=kgt (P:=Tryz.prog) w base 39 ty 9 i0 (.string ⟨#[]⟩) 1 16 Tryz.underlying39 hi0 hz0 hz1 hz2 rfl (by decide) u xs.length (xs.map vS) hO ad ys.length c (ys.map vS) (by rw [List.length_map,Nat.mul_one]) (fun j z hj=>by
   have h1:=hc j z hj;exact (hb.cell (World.block_lt_of_cell? w0 _ h1)).trans h1) (kc2 _) (by unfold maxLen;omega) (by omega) hbase
  exact ⟨v',w',hr,by rw [List.length_append,List.map_append];exact ho,hg,hq⟩
section
variable {w:World} {ops:Array Oper} {rest:List Oper} {o:Oper} {a:Act} {Q:Exit→Act→World→Prop} {K:Act→World→Prop} {E:Prop} (hgd:o.guard=none) (s x:Operand) (ho:o.op = .call { callee:=.builtin .append,args:=#[s,x],argTypes:=#[39,39] })
include hgd ho
theorem khl {base:Nat} {u v:Value} {xs ys:List Bs} {w0:World} (hs:a.eval s=u) (hx:a.eval x=v) (hO:w.ownsRow base 9 1 u xs.length (xs.map vS)) (hv:IsSl v (ys.map vS) w0) (hb:Below w0.heap.size w0 w) (hn:khn v) (hl:xs.length+ys.length≤100000) (hbase:base≤w.heap.size)
 (h:∀v' w',w'.ownsRow base 9 1 v' (xs++ys).length ((xs++ys).map vS)→w.grownBy w' u.ownBlock→(∀q,v'.ownBlock=some q→u.ownBlock=some q∨w.heap.size≤q)→wpList Tryz.prog ops Q rest (a.put o.dst v') w'):wpList Tryz.prog ops Q (o :: rest) a w:=by
 obtain ⟨v',w',hr,h1,h2,h3⟩:=kj7 o.type hO hv hb hn hl hbase;exact wpList_plain hgd fun _ hK=>kcb s x _ ho u _ v' w' hs hx hr (hK _ _ (h v' w' h1 h2 h3))
theorem kfb {base:Nat} {u v:Value} {xs ys:List Bs} {w0:World} (hs:a.eval s=u) (hx:a.eval x=v) (hO:w.ownsRow base 9 1 u xs.length (xs.map vS)) (hv:IsSl v (ys.map vS) w0) (hb:Below w0.heap.size w0 w) (hn:khn v) (hl:xs.length+ys.length≤100000) (hbase:base≤w.heap.size)
 (h:∀v' w',w'.ownsRow base 9 1 v' (xs++ys).length ((xs++ys).map vS)→w.grownBy w' u.ownBlock→(∀q,v'.ownBlock=some q→u.ownBlock=some q∨w.heap.size≤q)→K (a.put o.dst v') w'):if Region.wanted o (yielded ops a.tmps)=true then Oper.wp Tryz.prog o a w K Q else E:=by
 rw [if_pos (by simp [Region.wanted,hgd])];obtain ⟨v',w',hr,h1,h2,h3⟩:=kj7 o.type hO hv hb hn hl hbase;exact kcb s x _ ho u _ v' w' hs hx hr (h v' w' h1 h2 h3)
end
structure kjq (v:Value):Prop where
 nil:khn v
 cap:∀a n c,v = .slice a n c→n≤c
theorem kjq.own {w:World} {base:Nat} {e:TypeId} {size:Nat} {v:Value} {n:Nat} {xs:List Value} (h:w.ownsRow base e size v n xs):kjq v:=by
 refine ⟨khn.own h,fun a n' c e=>?_⟩;rcases h.2 with ⟨rfl,h0⟩|⟨g,cap,cur,rfl,h1,h2,h3,h4⟩
 ·cases e;exact Nat.le_refl _
 ·cases e;exact h3
theorem kjq.none:kjq kaf:=⟨fun n c e=>by cases e;rfl,fun a n c e=>by cases e;exact Nat.le_refl _⟩
structure EvX.Nice (x:EvX):Prop where
 n:kjq x.vn
 t:kjq x.vt
structure kdz (c:Nat) (e:Rv.Ev):Prop where
 answer:e.answer.length≤c
 names:e.names.length≤c
 targets:e.targets.length≤c
 S:e.sg.S.length≤50000
 H:e.sg.H.length≤50000
 R:e.sg.R.length≤50000
theorem kdz.len {c:Nat} {e:Rv.Ev} (h:kdz c e) (hc:c≤100000):km9 e :=
 ⟨Nat.le_trans h.names hc,Nat.le_trans h.targets hc,Nat.le_trans h.S (by omega),Nat.le_trans h.H (by omega),Nat.le_trans h.R (by omega)⟩
theorem kdz.mono {c c':Nat} {e:Rv.Ev} (h:kdz c e) (hc:c≤c'):kdz c' e:=⟨Nat.le_trans h.answer hc,Nat.le_trans h.names hc,Nat.le_trans h.targets hc,h.S,h.H,h.R⟩
theorem kxv {b off n c:Nat} {xs:List Bs} {w:World} {ad:Addr} (h:IsSl (.slice (some ⟨b,off,none⟩) n c) (xs.map vS) w) (hn:xs.length=n) (h0:0<n) (had:1<n→ad=⟨b,off+1,none⟩):IsSl (.slice (some ad) (n - 1) (c - 1)) ((xs.drop 1).map vS) w:=by
 have hm:=h.1;rw [List.length_map] at hm;have hl:((xs.drop 1).map vS).length=n - 1:=by rw [List.length_map,List.length_drop,hn]
 refine ⟨by rw [hl];omega,?_⟩;rcases Nat.lt_or_ge 1 n with c1|c1
 ·right
  rcases h.2 with ⟨a,c,e,hx⟩|⟨b',off',c',e,h1,hc⟩
  ·simp at hx;subst hx;simp at hn;omega
  ·simp only [Value.slice.injEq,Option.some.injEq,Addr.mk.injEq,and_true] at e
   obtain ⟨⟨rfl,rfl⟩,-,rfl⟩:=e;refine ⟨b,off+1,c - 1,by rw [hl,had c1],by omega,fun i hi=>?_⟩;rw [hl] at hi
   have:=hc (1+i) (by rw [List.length_map];omega)
   rw [List.map_drop,List.getElem?_drop,←this,Nat.add_assoc]
 ·left
  have:n=1:=by omega
  subst this;exact ⟨_,_,rfl,List.eq_nil_of_length_eq_zero hl⟩
end Go.Proofs.YtknpbekoenbphaaGreatDoor
