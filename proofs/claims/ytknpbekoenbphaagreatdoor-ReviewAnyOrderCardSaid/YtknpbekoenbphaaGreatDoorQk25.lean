/- Parts of the proofs: WkRvO. No condition beyond those at each theorem. -/
import Derived.Test.YtknpbekoenbphaaGreatDoorQk23
import Derived.Test.YtknpbekoenbphaaGreatDoorQk24
set_option linter.unusedVariables false
set_option linter.unusedSimpArgs false
set_option maxHeartbeats 16000000
set_option maxRecDepth 100000
namespace Go.Proofs.YtknpbekoenbphaaGreatDoor
open Go Go.RowKit Licit
theorem kh6 {w:World} {p q:Nat} {cs cs':Array Value} {fr fr':Nat × Nat} (h1:w.heap[p]? = some (.cells cs 45 fr)) (h2:w.heap[q]? = some (.cells cs' 9 fr')):¬ Licit.One p q:=fun e=>by
 have e2:q=p:=e;rw [e2,h1] at h2;simp only [Option.some.injEq,Obj.cells.injEq] at h2;exact absurd h2.2.1 (by decide)
theorem kgq {P:Program} {ops:Array Oper} {rest:List Oper} {o:Oper} {a:Act} {w:World} {Q:Exit→Act→World→Prop} (d:Nat) (_:o.dst=some d) (h:wpList P ops Q (o :: rest) a w):wpList P ops Q (o :: rest) a w:=h
theorem kch (w:World):IsSl kaf ([].map vS) w:=⟨by simp,.inl ⟨none,0,rfl,rfl⟩⟩
theorem kwk {w:World} {b:Nat} {x:Bs} {fr:Nat × Nat} (h:w.heap[b]? = some (.cells #[.string (B x)] 9 fr)):IsSl (.slice (some ⟨b,0,none⟩) 1 1) ([x].map vS) w :=
 kgj (cap:=1) h rfl (by simp [maxLen]) (by simp)
theorem kqz (w:World):kcw (.agg (evC Rv.evAnn kaf kaf kaf kaf kaf)) Rv.evAnn w :=
 ⟨⟨by decide,by decide,by decide,by decide,by decide,by decide,by decide,by decide,by decide⟩,none,0,none,0,none,0,none,0,none,0,rfl,kch w,kch w,kch w,kch w,kch w⟩
theorem ks0 (w:World):kcw (.agg (evC Rv.evBen kaf kaf kaf kaf kaf)) Rv.evBen w :=
 ⟨⟨by decide,by decide,by decide,by decide,by decide,by decide,by decide,by decide,by decide⟩,none,0,none,0,none,0,none,0,none,0,rfl,kch w,kch w,kch w,kch w,kch w⟩
theorem kzp (w:World) (ht:Tab w):kcy 51 #[.agg (evC Rv.evAnn kaf kaf kaf kaf kaf)] w (.string (B Rv.awAnn)):=by
 have:=kol _ _ w (kqz w) ht
 rwa [Rv.id_Ann] at this
theorem kzx (w:World) (ht:Tab w):kcy 51 #[.agg (evC Rv.evBen kaf kaf kaf kaf kaf)] w (.string (B Rv.awBen)):=by
 have:=kol _ _ w (ks0 w) ht
 rwa [Rv.id_Ben] at this
abbrev evN (a x:Bs) (n:Int) (p:Nat):Array Value:=evC (evD a x n) (.slice (some ⟨p,0,none⟩) 1 1) kaf kaf kaf kaf
structure EvV where
 e:Rv.Ev
 vn:Value
 vt:Value
 vs:Value
 vh:Value
 vr:Value
def EvV.c (x:EvV):Array Value:=evC x.e x.vn x.vt x.vs x.vh x.vr
theorem koc {W:World} {b:Nat} {L:List EvV} {cs:Array Value} {fr:Nat × Nat} (h:W.heap[b]? = some (.cells cs 45 fr)) (hc:cs.toList=(L.map fun x=>x.c.toList).flatten) (hE:∀x∈L,kcw (.agg x.c) x.e W) (hn:0<L.length) (hm:L.length≤1000) :
 kbt (.slice (some ⟨b,0,none⟩) L.length L.length) (L.map EvV.e) W:=by
 refine ⟨by rw [List.length_map];omega,.inr ⟨b,0,L.length,by rw [List.length_map],by rw [List.length_map];exact hn,kad h,fun i hi=>?_⟩⟩;rw [List.length_map] at hi;have he:(L.map EvV.e).getD i Rv.ev0=L[i].e:=by rw [List.getD_eq_getElem?_getD,List.getElem?_map,List.getElem?_eq_getElem hi];rfl
 rw [he];have hx:=hE L[i] (List.getElem_mem hi);obtain ⟨ho,na,nc,ta,tc,sa,sc,ha,hc',ra,rc,heq,h1,h2,h3,h4,h5⟩:=hx;refine ⟨na,nc,ta,tc,sa,sc,ha,hc',ra,rc,⟨ho,na,nc,ta,tc,sa,sc,ha,hc',ra,rc,rfl,h1,h2,h3,h4,h5⟩,fun j v hj=>?_⟩;have hcs:L[i].c=_:=Value.agg.inj heq;have hj18:j<18:=by have:=(List.getElem?_eq_some_iff.1 hj).1;simpa using this
 rw [kaa h,←Array.getElem?_toList,hc];have hf:=kdt (enc:=fun x:EvV=>x.c.toList) (k:=18) (fun _=>rfl) (by omega) L (0+i*18+j);have e1:(0+i*18+j) / 18=i:=by omega
 have e2:(0+i*18+j) % 18=j:=by omega
 rw [e1,e2,List.getElem?_eq_getElem hi] at hf;refine hf.trans ?_;show L[i].c.toList[j]? = some v;rw [hcs];exact hj
theorem kkh {α:Type} {enc:α→List Value} {k:Nat} (hk:∀x,(enc x).length=k) (h0:0<k) {w:World} {base g n cap:Nat} {t:TypeId} {l:List α} (h:w.ownsRow base t k (.slice (some ⟨g,0,none⟩) n cap) n ((l.map enc).flatten)) {i j:Nat} (hi:i<l.length) (hj:j<k) :
 w.cell? ⟨g,i*k+j,none⟩=(enc l[i])[j]?:=by
 have hl:=h.1;rw [kgp hk] at hl;rcases h.2 with ⟨h0,_⟩|⟨g',cap',cur,h1,h2,h3,h4,h5,h6,h7⟩
 ·cases h0
 ·cases h1
  rw [kaa h3,←Array.getElem?_toList];have hln:l.length=n:=Nat.eq_of_mul_eq_mul_right h0 hl
  have hlt:i*k+j<n*k:=by
   have:(i+1)*k≤n*k:=Nat.mul_le_mul_right _ (by omega)
   rw [Nat.add_mul] at this;omega
  have e:(cur.toList.take (n*k))[i*k+j]? = ((l.map enc).flatten)[i*k+j]?:=by rw [h7]
  rw [List.getElem?_take_of_lt hlt] at e;rw [e,kdt hk h0];have e1:(i*k+j) / k=i:=by rw [Nat.add_comm,Nat.add_mul_div_right _ _ h0,Nat.div_eq_of_lt hj,Nat.zero_add]
  have e2:(i*k+j) % k=j:=by rw [Nat.add_comm,Nat.add_mul_mod_self_right,Nat.mod_eq_of_lt hj]
  rw [e1,e2,List.getElem?_eq_getElem hi];rfl
theorem kwy {w:World} {b:Nat} {x y:Bs} {fr:Nat × Nat} (h:w.heap[b]? = some (.cells #[.string (B x),.string (B y)] 9 fr)):IsSl (.slice (some ⟨b,0,none⟩) 2 2) ([x,y].map vS) w :=
 kgj (cap:=2) h rfl (by simp [maxLen]) (by simp)
abbrev cX (n:Nat):Array Value:=evC Rv.evX (.slice (some ⟨n,0,none⟩) 1 1) kaf kaf kaf kaf
abbrev cY (n:Nat):Array Value:=evC Rv.evY (.slice (some ⟨n,0,none⟩) 1 1) kaf kaf kaf kaf
abbrev cZ (n m:Nat):Array Value:=evC Rv.evZ (.slice (some ⟨n,0,none⟩) 2 2) (.slice (some ⟨m,0,none⟩) 2 2) kaf kaf kaf
theorem k0f {w:World} {n:Nat} (h:w.heap[n]? = some (.cells #[.string (B Rv.awAnn)] 9 (0,0))):kcw (.agg (cX n)) Rv.evX w :=
 ⟨⟨by decide,by decide,by decide,by decide,by decide,by decide,by decide,by decide,by decide⟩,some ⟨n,0,none⟩,1,none,0,none,0,none,0,none,0,rfl,kwk h,kch w,kch w,kch w,kch w⟩
theorem k0l {w:World} {n:Nat} (h:w.heap[n]? = some (.cells #[.string (B Rv.awBen)] 9 (0,0))):kcw (.agg (cY n)) Rv.evY w :=
 ⟨⟨by decide,by decide,by decide,by decide,by decide,by decide,by decide,by decide,by decide⟩,some ⟨n,0,none⟩,1,none,0,none,0,none,0,none,0,rfl,kwk h,kch w,kch w,kch w,kch w⟩
theorem k05 {w:World} {n m:Nat} (h:w.heap[n]? = some (.cells #[.string (B Rv.awX),.string (B Rv.awY)] 9 (0,0))) (h':w.heap[m]? = some (.cells #[.string (B Rv.awY),.string (B Rv.awX)] 9 (0,0))):kcw (.agg (cZ n m)) Rv.evZ w :=
 ⟨⟨by decide,by decide,by decide,by decide,by decide,by decide,by decide,by decide,by decide⟩,some ⟨n,0,none⟩,2,some ⟨m,0,none⟩,2,none,0,none,0,none,0,rfl,kwy h,kwy h',kch w,kch w,kch w⟩
theorem kv3 {w:World} {n:Nat} (h:w.heap[n]? = some (.cells #[.string (B Rv.awAnn)] 9 (0,0))) (ht:Tab w):kcy 51 #[.agg (cX n)] w (.string (B Rv.awX)):=by
 have:=kol _ _ w (k0f h) ht
 rwa [Rv.id_X] at this
theorem kxh {w:World} {n:Nat} (h:w.heap[n]? = some (.cells #[.string (B Rv.awBen)] 9 (0,0))) (ht:Tab w):kcy 51 #[.agg (cY n)] w (.string (B Rv.awY)):=by
 have:=kol _ _ w (k0l h) ht
 rwa [Rv.id_Y] at this
theorem fd4 {W:World} {en:Ending} {w':World} (h:ki9 [Rv.evY,Rv.evBen,Rv.evX,Rv.evAnn] W en w'):Below W.heap.size W w'∧∃a1 l1 c1 a2 l2 c2 a3 l3 c3 a4 c4,en = .returned (.tuple #[.agg #[.slice a1 l1 c1,.slice a2 l2 c2,.slice a3 l3 c3,.slice a4 1 c4],.int .i64 (-1),.int .i64 0]):=by
 unfold ki9 at h;obtain ⟨hb,vp,vk,vd,vq,rfl,h1,h2,h3,h4⟩:=h;obtain ⟨f1,f2⟩:=Rv.fold4;generalize Rv.foldE [Rv.evY,Rv.evBen,Rv.evX,Rv.evAnn]=F at *;obtain ⟨⟨P,K,D,Q⟩,i,f⟩:=F;dsimp only at f1 f2 h1 h2 h3 h4
 cases f1;obtain ⟨a1,c1,rfl⟩:=kag h1;obtain ⟨a2,c2,rfl⟩:=kag h2;obtain ⟨a3,c3,rfl⟩:=kag h3;obtain ⟨a4,c4,rfl⟩:=kag h4;exact ⟨hb,a1,P.length,c1,a2,K.length,c2,a3,D.length,c3,a4,c4,by rw [f2]⟩
theorem koy {α:Type} {l:List α} (h:l.length=2):∃x y,l=[x,y]:=by
 match l,h with
 | [x,y],_=>exact ⟨x,y,rfl⟩
theorem fd5 {W:World} {en:Ending} {w':World} (h:ki9 [Rv.evZ,Rv.evY,Rv.evBen,Rv.evX,Rv.evAnn] W en w'):Below W.heap.size W w'∧∃g1 c1 a2 l2 c2 g3 c3 a4 c4,en = .returned (.tuple #[.agg #[.slice (some ⟨g1,0,none⟩) 2 c1,.slice a2 l2 c2,.slice (some ⟨g3,0,none⟩) 2 c3,.slice a4 0 c4],.int .i64 (-1),.int .i64 0]) ∧
 w'.cell? ⟨g1,4,none⟩=some (.int .i64 3)∧w'.cell? ⟨g3,8,none⟩=some (.bool true)∧w'.cell? ⟨g3,18,none⟩=some (.bool false):=by
 unfold ki9 at h;obtain ⟨hb,vp,vk,vd,vq,rfl,h1,h2,h3,h4⟩:=h;obtain ⟨f1,f2,f3,f4⟩:=Rv.fold5;generalize Rv.foldE [Rv.evZ,Rv.evY,Rv.evBen,Rv.evX,Rv.evAnn]=F at *;obtain ⟨⟨P,K,D,Q⟩,i,f⟩:=F;dsimp only at f1 f2 f3 f4 h1 h2 h3 h4
 cases f1;obtain ⟨r0,r1,rfl⟩:=koy (l:=P) (by have:=congrArg List.length f4;simpa using this);obtain ⟨d0,d1,rfl⟩:=koy (l:=D) (by have:=congrArg List.length f3;simpa using this);simp only [List.map_cons,List.map_nil,List.cons.injEq,and_true] at f3 f4;obtain ⟨g1,c1,rfl,-⟩:=kax h1 (by simp);obtain ⟨a2,c2,rfl⟩:=kag h2;obtain ⟨g3,c3,rfl,-⟩:=kax h3 (by simp);obtain ⟨a4,c4,rfl⟩:=kag h4;have e1:=kkh (enc:=fun r:Rv.Rw=>(rwC r).toList) (k:=5) (fun _=>rfl) (by omega) h1 (i:=0) (j:=4) (by simp) (by omega);have e2:=kkh (enc:=fun d:Rv.Dc=>(dvC d).toList) (k:=10) (fun _=>rfl) (by omega) h3 (i:=0) (j:=8) (by simp) (by omega);have e3:=kkh (enc:=fun d:Rv.Dc=>(dvC d).toList) (k:=10) (fun _=>rfl) (by omega) h3 (i:=1) (j:=8) (by simp) (by omega);refine ⟨hb,g1,c1,a2,K.length,c2,g3,c3,a4,c4,?_,?_,?_,?_⟩
 ·rw [f2];rfl
 ·refine e1.trans ?_
  show some (Value.int .i64 r0.next)=_;rw [f4.1]
 ·refine e2.trans ?_
  show some (Value.bool d0.ov)=_;rw [f3.1]
 ·refine e3.trans ?_
  show some (Value.bool d1.ov)=_;rw [f3.2]
def AwZ (w8:World) (n3:Nat) (s6:Value) (wx:World):Prop:=∃p6 n4:Nat,s6=ptr p6∧w8.heap.size≤p6∧Below w8.heap.size w8 wx∧wx.heap[p6]? = some (.cells (cZ n3 n4) 45 (0,0))∧wx.heap[n4]? = some (.cells #[.string (B Rv.awY),.string (B Rv.awX)] 9 (0,0))
theorem drn {B:Nat} {w w':World} (h:Below B w w') (n:Nat):Below B w (w'.drewN n):=⟨h.os,h.tape,h.output,h.size,h.block⟩
def AwR (w5:World) (s3 s4:Value) (wx:World):Prop:=∃p3 p4 n1 n2:Nat,s3=ptr p3∧s4=ptr p4∧p3≠p4∧w5.heap.size≤p3∧w5.heap.size≤p4∧Below w5.heap.size w5 wx ∧
 wx.heap[p3]? = some (.cells (evN Rv.kAnn Rv.awAnn 1 n1) 45 (0,0))∧wx.heap[p4]? = some (.cells (evN Rv.kBen Rv.awBen 1 n2) 45 (0,0)) ∧
 wx.heap[n1]? = some (.cells #[.string (B Rv.awAnn)] 9 (0,0))∧wx.heap[n2]? = some (.cells #[.string (B Rv.awBen)] 9 (0,0))
theorem ken (w:World) (ht:Tab w):Calls Tryz.prog 14 #[] w fun en w'=>en = .returned (.bool true)∧Below w.heap.size w w':=by
 have hH:=fun W=>kcy.alloc (kg5 (l:=[Rv.kRoot]) (cs:=#[.string ⟨#[114,111,111,116]⟩]) 1 rfl (by decide) rfl (by decide) (by
  intro x hx;simp only [List.mem_cons,List.not_mem_nil,or_false] at hx;subst hx;unfold maxLen
  decide) W)
 rw [Rv.h_root] at hH;have HH:=hdd hH;have HTab:=hdd ht;clear hH ht
 go_enter Tryz.func14,Tryz.ntmps14
 go_upto_region 2 with (first
  |(go_at_call 48;refine (HH.out _).mono ?_;rintro en w1 ⟨rfl,hb1⟩;have HB1:=hdd hb1;clear hb1)
  |(go_at_call 49;refine (ko3 _).mono ?_;rintro en w2 ⟨rfl,hb2⟩;have HB2:=hdd (HB1.out.next hb2);clear hb2)
  |(refine kac rfl 45 _ _ rfl w2.heap.size rfl (evC Rv.evAnn kaf kaf kaf kaf kaf) rfl 45 evZ (kak rfl rfl) (by kernel_rfl) rfl (kbe _ _ _ _ _ _ rfl rfl rfl rfl rfl) ?_
    intro w3 hw3 hk3;have HW3:=hdd hw3;have HB3:=hdd (HB2.out.trans (((Below.refl _ _).alloc (Nat.le_refl _) _).trans (hk3.below (B:=w2.heap.size) (by simp) (fun q hq e=>by have:q=w2.heap.size:=e;omega)) |>.mono HB2.out.size));clear hw3 hk3)
  |fail)
 obtain ⟨p1,hp1⟩:∃p,w2.heap.size=p:=⟨_,rfl⟩;rw [hp1] at HW3 ⊢;clear hp1
 go_upto_region 4 with (first
  |(refine wpList_load_row rfl 45 _ rfl p1 rfl 45 (evC Rv.evAnn kaf kaf kaf kaf kaf) (0,0) _ HW3.out rfl rfl (by kernel_rfl) ?_)
  |(refine kac rfl 45 _ _ rfl w3.heap.size rfl (evC Rv.evAnn kaf kaf kaf kaf kaf) rfl 45 evZ (kak rfl rfl) (by kernel_rfl) rfl (kbe _ _ _ _ _ _ rfl rfl rfl rfl rfl) ?_
    intro w4 hw4 hk4;have HW4:=hdd hw4;have HB4:=hdd (show Below w3.heap.size w3 w4 from ((Below.refl _ _).alloc (Nat.le_refl _) _).trans (hk4.below (B:=w3.heap.size) (by simp) (fun q hq e=>by have:q=w3.heap.size:=e;omega)));clear hw4 hk4)
  |(refine kae rfl 9 _ _ rfl w3.heap.size 1 rfl (.string (B Rv.kBen)) rfl rfl rfl _ 45 HW4.out (by simp) (by kernel_rfl) ?_
    intro w5 hw5 hk5;have HW5:=hdd (show w5.heap[w3.heap.size]? = some (.cells (evC Rv.evBen kaf kaf kaf kaf kaf) 45 (0,0)) from hw5);have HB5:=hdd (show Below w3.heap.size w3 w5 from HB4.out.trans (hk5.below HB4.out.size (fun q hq e=>by have:q=w3.heap.size:=e;omega)));clear hw5 hk5)
  |fail)
 have HX1:=bhh HB5.out HW3;obtain ⟨p2,hp2⟩:∃p,w3.heap.size=p:=⟨_,rfl⟩;have HB6:=hdd (HB3.out.next HB5.out);rw [hp2] at HW5 ⊢;clear hp2 HB4 HB5 HW4 HW3;have HS:=hdd (fun (W:World) (hb:Below w5.heap.size w5 W)=>And.intro (kap (kab hb (kad HX1.out) HX1.out)) (kap (kab hb (kad HW5.out) HW5.out)));have HTW:=hdd (fun (W:World) (hb:Below w5.heap.size w5 W)=>HTab.out.same (HB6.out.next hb));simp only [Act.put]
 go_cut [3,4] from 19 to 26 (fun s3 s4 wx=>AwR w5 s3 s4 wx)
 case first =>
  refine kaj (S:=fun W:World=>W.rangeAt p1 0 (evC Rv.evAnn kaf kaf kaf kaf kaf).toList∧W.rangeAt p2 0 (evC Rv.evBen kaf kaf kaf kaf kaf).toList) (by kernel_rfl) (HS.out _ (Below.refl _ _).drew) (fun hHeld=>?_);simp only [List.toList_toArray,len,kat];have hF0:Below w5.heap.size w5 w5.drew:=(Below.refl _ _).drew;generalize w5.drew=u0 at *;have HF0:=hdd hF0;clear hF0;refine tkx 0 (.agg (evC Rv.evAnn kaf kaf kaf kaf kaf)) rfl rfl (by kernel_rfl) (fun _ _ _ h=>h) (by assumption) ?_ ?_
  ·intro W hW;exact ka6 rfl rfl rfl hW.1
  simp only [Act.put,s1,s2,s3];refine tkx 4 (.agg (evC Rv.evBen kaf kaf kaf kaf kaf)) rfl rfl (by kernel_rfl) (fun _ _ _ h=>h) (by assumption) ?_ ?_
  ·intro W hW;exact ka6 rfl rfl rfl hW.2
  simp only [Act.put,s1,s2,s3];have HF:=HF0;clear HF0;obtain ⟨u,rfl⟩:∃x,x=u0:=⟨_,rfl⟩;have c0:Nat:=0;have x8:Nat:=0;have x9:Nat:=0
  iterate 8 (all_goals (
   first
    |(have h0:=c0;clear h0;have h0:=x8;clear h0;have h0:=x9;clear h0;refine wpAnyH_ready (rs:=[1,8,9]) (by kernel_rfl) (by simp) ?_)
    |(have h0:=c0;clear h0;have h0:=x8;clear h0;refine wpAnyH_ready (rs:=[1,8]) (by kernel_rfl) (by simp) ?_)
    |(have h0:=c0;clear h0;have h0:=x9;clear h0;refine wpAnyH_ready (rs:=[1,9]) (by kernel_rfl) (by simp) ?_)
    |(have h0:=c0;clear h0;refine wpAnyH_ready (rs:=[1]) (by kernel_rfl) (by simp) ?_)
    |(have h0:=c1;clear h0;have h0:=x8;clear h0;have h0:=x9;clear h0;refine wpAnyH_ready (rs:=[2,8,9]) (by kernel_rfl) (by simp) ?_)
    |(have h0:=c1;clear h0;have h0:=x8;clear h0;refine wpAnyH_ready (rs:=[2,8]) (by kernel_rfl) (by simp) ?_)
    |(have h0:=c1;clear h0;have h0:=x9;clear h0;refine wpAnyH_ready (rs:=[2,9]) (by kernel_rfl) (by simp) ?_)
    |(have h0:=c1;clear h0;refine wpAnyH_ready (rs:=[2]) (by kernel_rfl) (by simp) ?_)
    |(have h0:=c2;clear h0;have h0:=x8;clear h0;have h0:=x9;clear h0;refine wpAnyH_ready (rs:=[3,8,9]) (by kernel_rfl) (by simp) ?_)
    |(have h0:=c2;clear h0;have h0:=x8;clear h0;refine wpAnyH_ready (rs:=[3,8]) (by kernel_rfl) (by simp) ?_)
    |(have h0:=c2;clear h0;have h0:=x9;clear h0;refine wpAnyH_ready (rs:=[3,9]) (by kernel_rfl) (by simp) ?_)
    |(have h0:=c2;clear h0;refine wpAnyH_ready (rs:=[3]) (by kernel_rfl) (by simp) ?_)
    |(have h0:=c3;clear h0;have h0:=x8;clear h0;have h0:=x9;clear h0;refine wpAnyH_ready (rs:=[5,8,9]) (by kernel_rfl) (by simp) ?_)
    |(have h0:=c3;clear h0;have h0:=x8;clear h0;refine wpAnyH_ready (rs:=[5,8]) (by kernel_rfl) (by simp) ?_)
    |(have h0:=c3;clear h0;have h0:=x9;clear h0;refine wpAnyH_ready (rs:=[5,9]) (by kernel_rfl) (by simp) ?_)
    |(have h0:=c3;clear h0;refine wpAnyH_ready (rs:=[5]) (by kernel_rfl) (by simp) ?_)
    |(have h0:=c4;clear h0;have h0:=x8;clear h0;have h0:=x9;clear h0;refine wpAnyH_ready (rs:=[6,8,9]) (by kernel_rfl) (by simp) ?_)
    |(have h0:=c4;clear h0;have h0:=x8;clear h0;refine wpAnyH_ready (rs:=[6,8]) (by kernel_rfl) (by simp) ?_)
    |(have h0:=c4;clear h0;have h0:=x9;clear h0;refine wpAnyH_ready (rs:=[6,9]) (by kernel_rfl) (by simp) ?_)
    |(have h0:=c4;clear h0;refine wpAnyH_ready (rs:=[6]) (by kernel_rfl) (by simp) ?_)
    |(have h0:=c5;clear h0;have h0:=x8;clear h0;have h0:=x9;clear h0;refine wpAnyH_ready (rs:=[7,8,9]) (by kernel_rfl) (by simp) ?_)
    |(have h0:=c5;clear h0;have h0:=x8;clear h0;refine wpAnyH_ready (rs:=[7,8]) (by kernel_rfl) (by simp) ?_)
    |(have h0:=c5;clear h0;have h0:=x9;clear h0;refine wpAnyH_ready (rs:=[7,9]) (by kernel_rfl) (by simp) ?_)
    |(have h0:=c5;clear h0;refine wpAnyH_ready (rs:=[7]) (by kernel_rfl) (by simp) ?_)
    |(have h0:=c6;clear h0;have h0:=x8;clear h0;have h0:=x9;clear h0;refine wpAnyH_ready (rs:=[8,9]) (by kernel_rfl) (by simp) ?_)
    |(have h0:=c6;clear h0;have h0:=x8;clear h0;refine wpAnyH_ready (rs:=[8]) (by kernel_rfl) (by simp) ?_)
    |(have h0:=c6;clear h0;have h0:=x9;clear h0;refine wpAnyH_ready (rs:=[9]) (by kernel_rfl) (by simp) ?_)
   first
    |(have h0:=c6;clear h0;have h0:=x8;clear h0;have h0:=x9;clear h0;refine AllReadyH.cons rfl (fun K hK=>?_) (ar1 rfl (fun K hK=>?_));have m8:Nat:=0;rotate_left;have m9:Nat:=0;rotate_left)
    |(have h0:=c6;clear h0;have h0:=x8;clear h0;refine ar1 rfl (fun K hK=>?_);have m8:Nat:=0;rotate_left)
    |(have h0:=c6;clear h0;have h0:=x9;clear h0;refine ar1 rfl (fun K hK=>?_);have m9:Nat:=0;rotate_left)
    |(have h0:=x8;clear h0;have h0:=x9;clear h0;refine AllReadyH.cons rfl (fun K hK=>?_) (AllReadyH.cons rfl (fun K hK=>?_) (ar1 rfl (fun K hK=>?_)));have mc:Nat:=0;rotate_left;have m8:Nat:=0;rotate_left;have m9:Nat:=0;rotate_left)
    |(have h0:=x8;clear h0;refine AllReadyH.cons rfl (fun K hK=>?_) (ar1 rfl (fun K hK=>?_));have mc:Nat:=0;rotate_left;have m8:Nat:=0;rotate_left)
    |(have h0:=x9;clear h0;refine AllReadyH.cons rfl (fun K hK=>?_) (ar1 rfl (fun K hK=>?_));have mc:Nat:=0;rotate_left;have m9:Nat:=0;rotate_left)
    |(refine ar1 rfl (fun K hK=>?_);have mc:Nat:=0;rotate_left)
   all_goals (
    go_simp
    first
     |(clear mc c0
       have c1:Nat:=0;refine (kzp _ (HTW.out _ HF.out)).mono ?_;rintro en u ⟨rfl,hb⟩;have h0:=hdd (HF.out.trans (hb.mono HF.out.size));clear HF;have HF:=h0;clear h0
       try (have h0:=bhh hb Hn1;clear Hn1;have Hn1:=h0;clear h0)
       try (have h0:=bhh hb Hn2;clear Hn2;have Hn2:=h0;clear h0)
       try (have h0:=bhh hb Hx;clear Hx;have Hx:=h0;clear h0)
       try (have h0:=bhh hb Hy;clear Hy;have Hy:=h0;clear h0)
       refine hK.out _ _ (HS.out _ HF.out) (fun hHeld=>?_);clear hK K hb)
     |(clear mc c1
       have c2:Nat:=0;have hn:=kai u (.cells (#[.string (B Rv.awAnn)]) 9);have hb:Below u.heap.size u (u.alloc (.cells (#[.string (B Rv.awAnn)]) 9)):=(Below.refl _ _).alloc (Nat.le_refl _) _;have h0:=hdd (HF.out.trans (hb.mono HF.out.size));have HL:=hdd HF.out.size;refine hK.out _ (u.alloc (.cells (#[.string (B Rv.awAnn)]) 9)) (HS.out _ h0.out) (fun hHeld=>?_);clear HF;have HF:=h0;clear hK K h0
       try (have h0:=bhh hb Hn1;clear Hn1;have Hn1:=h0;clear h0)
       try (have h0:=bhh hb Hn2;clear Hn2;have Hn2:=h0;clear h0)
       try (have h0:=bhh hb Hx;clear Hx;have Hx:=h0;clear h0)
       try (have h0:=bhh hb Hy;clear Hy;have Hy:=h0;clear h0)
       generalize (u.alloc (.cells (#[.string (B Rv.awAnn)]) 9))=u at *;have Hn1:=hdd hn;clear hn hb HL)
     |(clear mc c2
       have c3:Nat:=0;refine (kmh Rv.kAnn Rv.awAnn 1 _ _ Hn1.out).mono ?_;rintro en u ⟨rfl,hb⟩;have h0:=hdd (HF.out.trans (hb.mono HF.out.size));clear HF;have HF:=h0;clear h0
       try (have h0:=bhh hb Hn1;clear Hn1;have Hn1:=h0;clear h0)
       try (have h0:=bhh hb Hn2;clear Hn2;have Hn2:=h0;clear h0)
       try (have h0:=bhh hb Hx;clear Hx;have Hx:=h0;clear h0)
       try (have h0:=bhh hb Hy;clear Hy;have Hy:=h0;clear h0)
       refine hK.out _ _ (HS.out _ HF.out) (fun hHeld=>?_);clear hK K hb)
     |(clear mc c3
       have c4:Nat:=0;refine (kzx _ (HTW.out _ HF.out)).mono ?_;rintro en u ⟨rfl,hb⟩;have h0:=hdd (HF.out.trans (hb.mono HF.out.size));clear HF;have HF:=h0;clear h0
       try (have h0:=bhh hb Hn1;clear Hn1;have Hn1:=h0;clear h0)
       try (have h0:=bhh hb Hn2;clear Hn2;have Hn2:=h0;clear h0)
       try (have h0:=bhh hb Hx;clear Hx;have Hx:=h0;clear h0)
       try (have h0:=bhh hb Hy;clear Hy;have Hy:=h0;clear h0)
       refine hK.out _ _ (HS.out _ HF.out) (fun hHeld=>?_);clear hK K hb)
     |(clear mc c4
       have c5:Nat:=0;have hn:=kai u (.cells (#[.string (B Rv.awBen)]) 9);have hb:Below u.heap.size u (u.alloc (.cells (#[.string (B Rv.awBen)]) 9)):=(Below.refl _ _).alloc (Nat.le_refl _) _;have h0:=hdd (HF.out.trans (hb.mono HF.out.size));have HL:=hdd HF.out.size;refine hK.out _ (u.alloc (.cells (#[.string (B Rv.awBen)]) 9)) (HS.out _ h0.out) (fun hHeld=>?_);clear HF;have HF:=h0;clear hK K h0
       try (have h0:=bhh hb Hn1;clear Hn1;have Hn1:=h0;clear h0)
       try (have h0:=bhh hb Hn2;clear Hn2;have Hn2:=h0;clear h0)
       try (have h0:=bhh hb Hx;clear Hx;have Hx:=h0;clear h0)
       try (have h0:=bhh hb Hy;clear Hy;have Hy:=h0;clear h0)
       generalize (u.alloc (.cells (#[.string (B Rv.awBen)]) 9))=u at *;have Hn2:=hdd hn;clear hn hb HL)
     |(clear mc c5
       have c6:Nat:=0;refine (kmh Rv.kBen Rv.awBen 1 _ _ Hn2.out).mono ?_;rintro en u ⟨rfl,hb⟩;have h0:=hdd (HF.out.trans (hb.mono HF.out.size));clear HF;have HF:=h0;clear h0
       try (have h0:=bhh hb Hn1;clear Hn1;have Hn1:=h0;clear h0)
       try (have h0:=bhh hb Hn2;clear Hn2;have Hn2:=h0;clear h0)
       try (have h0:=bhh hb Hx;clear Hx;have Hx:=h0;clear h0)
       try (have h0:=bhh hb Hy;clear Hy;have Hy:=h0;clear h0)
       refine hK.out _ _ (HS.out _ HF.out) (fun hHeld=>?_);clear hK K hb)
     |(clear m8 x8
       have hn:=kai u (.cells (evZ) 45);have hb:Below u.heap.size u (u.alloc (.cells (evZ) 45)):=(Below.refl _ _).alloc (Nat.le_refl _) _;have h0:=hdd (HF.out.trans (hb.mono HF.out.size));have HL:=hdd HF.out.size;refine hK.out _ (u.alloc (.cells (evZ) 45)) (HS.out _ h0.out) (fun hHeld=>?_);clear HF;have HF:=h0;clear hK K h0
       first
        |(have h0:=x9
          clear h0
          try (have h0:=bhh hb Hn1;clear Hn1;have Hn1:=h0;clear h0)
          try (have h0:=bhh hb Hn2;clear Hn2;have Hn2:=h0;clear h0)
          try (have h0:=bhh hb Hx;clear Hx;have Hx:=h0;clear h0)
          try (have h0:=bhh hb Hy;clear Hy;have Hy:=h0;clear h0)
          generalize (u.alloc (.cells (evZ) 45))=u at *;have Hx:=hdd hn;have HLx:=HL;clear hn hb HL)
        |(have hne:=Nat.ne_of_lt (kad Hx.out)
          have HNe:=hdd hne;clear hne
          try (have h0:=bhh hb Hn1;clear Hn1;have Hn1:=h0;clear h0)
          try (have h0:=bhh hb Hn2;clear Hn2;have Hn2:=h0;clear h0)
          try (have h0:=bhh hb Hx;clear Hx;have Hx:=h0;clear h0)
          try (have h0:=bhh hb Hy;clear Hy;have Hy:=h0;clear h0)
          generalize (u.alloc (.cells (evZ) 45))=u at *;have Hy:=hdd hn;have HLy:=HL;clear hn hb HL))
     |(clear m9 x9
       have hn:=kai u (.cells (evZ) 45);have hb:Below u.heap.size u (u.alloc (.cells (evZ) 45)):=(Below.refl _ _).alloc (Nat.le_refl _) _;have h0:=hdd (HF.out.trans (hb.mono HF.out.size));have HL:=hdd HF.out.size;refine hK.out _ (u.alloc (.cells (evZ) 45)) (HS.out _ h0.out) (fun hHeld=>?_);clear HF;have HF:=h0;clear hK K h0
       first
        |(have h0:=x8
          clear h0
          try (have h0:=bhh hb Hn1;clear Hn1;have Hn1:=h0;clear h0)
          try (have h0:=bhh hb Hn2;clear Hn2;have Hn2:=h0;clear h0)
          try (have h0:=bhh hb Hx;clear Hx;have Hx:=h0;clear h0)
          try (have h0:=bhh hb Hy;clear Hy;have Hy:=h0;clear h0)
          generalize (u.alloc (.cells (evZ) 45))=u at *;have Hx:=hdd hn;have HLx:=HL;clear hn hb HL)
        |(have hne:=Nat.ne_of_lt (kad Hx.out)
          have HNe:=hdd hne;clear hne
          try (have h0:=bhh hb Hn1;clear Hn1;have Hn1:=h0;clear h0)
          try (have h0:=bhh hb Hn2;clear Hn2;have Hn2:=h0;clear h0)
          try (have h0:=bhh hb Hx;clear Hx;have Hx:=h0;clear h0)
          try (have h0:=bhh hb Hy;clear Hy;have Hy:=h0;clear h0)
          generalize (u.alloc (.cells (evZ) 45))=u at *;have Hy:=hdd hn;have HLy:=HL;clear hn hb HL))
    try simp only [Act.put,s4,s5,s6,s1,s2,s3])))
  all_goals (
   refine ar2 10 (by kernel_rfl) rfl (fun K hK=>?_)
   first
    |(refine kam rfl 45 _ _ rfl _ rfl (evC (evD Rv.kAnn Rv.awAnn 1) (.slice (some ⟨_,0,none⟩) 1 1) kaf kaf kaf kaf) rfl 45 evZ Hx.out (by kernel_rfl) rfl (kbe _ _ _ _ _ _ rfl rfl rfl rfl rfl) ?_
      intro v1 hv1 kv1;have Q1:=hdd ((kv1.block _ (kad Hy.out) (fun e=>HNe.out (Eq.symm e))).trans Hy.out);have HM:=Hx;have HLa:=HLx;have HLb:=HLy;have HN:=HNe)
    |(refine kam rfl 45 _ _ rfl _ rfl (evC (evD Rv.kAnn Rv.awAnn 1) (.slice (some ⟨_,0,none⟩) 1 1) kaf kaf kaf kaf) rfl 45 evZ Hy.out (by kernel_rfl) rfl (kbe _ _ _ _ _ _ rfl rfl rfl rfl rfl) ?_
      intro v1 hv1 kv1;have Q1:=hdd ((kv1.block _ (kad Hx.out) (fun e=>HNe.out e)).trans Hx.out);have HM:=Hy;have HLa:=HLy;have HLb:=HLx;have HN:=hdd (Ne.symm HNe.out))
   have Q2:=hdd ((kv1.block _ (kad Hn1.out) (kh6 HM.out Hn1.out)).trans Hn1.out);have Q3:=hdd ((kv1.block _ (kad Hn2.out) (kh6 HM.out Hn2.out)).trans Hn2.out);have QF:=hdd (HF.out.trans (kv1.below HF.out.size (fun q hq e=>by have:q=_:=e;have:=HLx.out;have:=HLy.out;omega)));have QV:=hdd hv1;refine hK.out _ _ (HS.out _ QF.out) (fun hHeld=>?_);clear hK K hv1 kv1
   try simp only [Act.put,s4,s5,s6,s1,s2,s3]
   refine ar2 11 (by kernel_rfl) rfl (fun K hK=>?_);refine kam rfl 45 _ _ rfl _ rfl (evC (evD Rv.kBen Rv.awBen 1) (.slice (some ⟨_,0,none⟩) 1 1) kaf kaf kaf kaf) rfl 45 evZ Q1.out (by kernel_rfl) rfl (kbe _ _ _ _ _ _ rfl rfl rfl rfl rfl) ?_;intro v2 hv2 kv2;have R1:=hdd ((kv2.block _ (kad QV.out) (fun e=>HN.out e)).trans QV.out);have R2:=hdd ((kv2.block _ (kad Q2.out) (kh6 Q1.out Q2.out)).trans Q2.out);have R3:=hdd ((kv2.block _ (kad Q3.out) (kh6 Q1.out Q3.out)).trans Q3.out);have RF:=hdd (QF.out.trans (kv2.below QF.out.size (fun q hq e=>by have:q=_:=e;have:=HLx.out;have:=HLy.out;omega)));have RV:=hdd hv2;refine hK.out _ _ (HS.out _ RF.out) (fun hHeld=>?_);clear hK K hv2 kv2
   try simp only [Act.put,s4,s5,s6,s1,s2,s3]
   refine wpAnyH_done (by kernel_rfl) ?_ _
   try simp only [Exit.then]
   go_wp2_with fail
   go_meet
   unfold AwR;exact ⟨_,_,_,_,rfl,rfl,HN.out,HLa.out,HLb.out,RF.out,R1.out,RV.out,R2.out,R3.out⟩)
 case rest =>
  unfold AwR at hcut;obtain ⟨p3,p4,n1,n2,rfl,rfl,hne,hl3,hl4,hb,h3,h4,hn1,hn2⟩:=hcut;obtain ⟨w6,rfl⟩:∃W,W=wc:=⟨_,rfl⟩;have HNe:=hdd hne;have HL3:=hdd hl3;have HL4:=hdd hl4;have HBc:=hdd hb;have H3:=hdd h3;have H4:=hdd h4;have HN1:=hdd hn1;have HN2:=hdd hn2;clear hne hl3 hl4 hb h3 h4 hn1 hn2
  go_upto_region 6 with (first
   |(refine kae rfl 9 _ _ rfl p3 11 rfl (.string (B Rv.kMit)) rfl rfl rfl _ 45 H3.out (by simp) (by kernel_rfl) ?_
     intro w7 hw7 hk7;have H3x:=hdd (show w7.heap[p3]? = some (.cells (cX n1) 45 (0,0)) from hw7);have H4x:=hdd ((hk7.block _ (kad H4.out) (fun e=>HNe.out (Eq.symm e))).trans H4.out);have HN1x:=hdd ((hk7.block _ (kad HN1.out) (kh6 H3.out HN1.out)).trans HN1.out);have HN2x:=hdd ((hk7.block _ (kad HN2.out) (kh6 H3.out HN2.out)).trans HN2.out);have HB7:=hdd (HBc.out.trans (hk7.below HBc.out.size (fun q hq e=>by have:q=p3:=e;have:=HL3.out;omega)));clear hw7 hk7)
   |(refine kae rfl 9 _ _ rfl p4 11 rfl (.string (B Rv.kGpl)) rfl rfl rfl _ 45 H4x.out (by simp) (by kernel_rfl) ?_
     intro w8 hw8 hk8;have H4y:=hdd (show w8.heap[p4]? = some (.cells (cY n2) 45 (0,0)) from hw8);have H3y:=hdd ((hk8.block _ (kad H3x.out) (fun e=>HNe.out e)).trans H3x.out);have HN1y:=hdd ((hk8.block _ (kad HN1x.out) (kh6 H4x.out HN1x.out)).trans HN1x.out);have HN2y:=hdd ((hk8.block _ (kad HN2x.out) (kh6 H4x.out HN2x.out)).trans HN2x.out);have HB8:=hdd (HB7.out.trans (hk8.below HB7.out.size (fun q hq e=>by have:q=p4:=e;have:=HL4.out;omega)));clear hw8 hk8)
   |fail)
  simp only [Act.put];have HP1:=bhh HB8.out HX1;have HP2:=bhh HB8.out HW5;have HBw:=hdd (HB6.out.next HB8.out);have HTx:=hdd (fun (W:World) (hb:Below w8.heap.size w8 W)=>HTab.out.same (HBw.out.next hb));have HSx:=hdd (fun (W:World) (hb:Below w8.heap.size w8 W)=>And.intro (kap (kab hb (kad H3y.out) H3y.out)) (kap (kab hb (kad H4y.out) H4y.out)));clear HS HTW HB6 HX1 HW5 HBc H3 H4 HN1 HN2 H3x H4x HN1x HN2x HB7 HB8 HL3 HL4;refine kaj (S:=fun W:World=>W.rangeAt p3 0 (cX n1).toList∧W.rangeAt p4 0 (cY n2).toList) (by kernel_rfl) (HSx.out _ (Below.refl _ _).drew) (fun hHeld=>?_);simp only [List.toList_toArray,len,kat];have hF0:Below w8.heap.size w8 w8.drew:=(Below.refl _ _).drew;generalize w8.drew=u0 at *;have HF0:=hdd hF0;clear hF0;refine tkx 0 (.agg (cX n1)) rfl rfl (by kernel_rfl) (fun _ _ _ h=>h) (by assumption) ?_ ?_
  ·intro W hW;exact ka6 rfl rfl rfl hW.1
  simp only [Act.put,s1,s2,s3];refine tkx 2 (.agg (cY n2)) rfl rfl (by kernel_rfl) (fun _ _ _ h=>h) (by assumption) ?_ ?_
  ·intro W hW;exact ka6 rfl rfl rfl hW.2
  simp only [Act.put,s1,s2,s3];have Hn1_0:=bhh HF0.out HN1y;have Hn2_0:=bhh HF0.out HN2y;refine ar2 1 (by kernel_rfl) rfl (fun K hK=>?_);go_simp
  refine (kv3 Hn1_0.out (HTx.out _ HF0.out)).mono ?_;rintro en u1 ⟨rfl,hb⟩;have HF1:=hdd (HF0.out.trans (hb.mono HF0.out.size));have Hn1_1:=bhh hb Hn1_0;have Hn2_1:=bhh hb Hn2_0;refine hK.out _ _ (HSx.out _ HF1.out) (fun hHeld=>?_);clear hK K hb HF0 Hn1_0 Hn2_0
  try simp only [Act.put,s4,s5,s6,s1,s2,s3]
  refine ar2 3 (by kernel_rfl) rfl (fun K hK=>?_);go_simp
  refine (kxh Hn2_1.out (HTx.out _ HF1.out)).mono ?_;rintro en u2 ⟨rfl,hb⟩;have HF2:=hdd (HF1.out.trans (hb.mono HF1.out.size));have Hn1_2:=bhh hb Hn1_1;have Hn2_2:=bhh hb Hn2_1;refine hK.out _ _ (HSx.out _ HF2.out) (fun hHeld=>?_);clear hK K hb HF1 Hn1_1 Hn2_1
  try simp only [Act.put,s4,s5,s6,s1,s2,s3]
  refine ar2 4 (by kernel_rfl) rfl (fun K hK=>?_);go_simp
  have hb:Below u2.heap.size u2 (u2.alloc (.cells (#[.string (B Rv.awX),.string (B Rv.awY)]) 9)):=(Below.refl _ _).alloc (Nat.le_refl _) _;have hn:=kai u2 (.cells (#[.string (B Rv.awX),.string (B Rv.awY)]) 9);have HF3:=hdd (HF2.out.trans (hb.mono HF2.out.size));have Hn1_3:=bhh hb Hn1_2;have Hn2_3:=bhh hb Hn2_2;refine hK.out _ (u2.alloc (.cells (#[.string (B Rv.awX),.string (B Rv.awY)]) 9)) (HSx.out _ HF3.out) (fun hHeld=>?_);clear hK K HF2 Hn1_2 Hn2_2;generalize (u2.alloc (.cells (#[.string (B Rv.awX),.string (B Rv.awY)]) 9))=u3 at *;have Hn3_3:=hdd hn;clear hn hb
  try simp only [Act.put,s4,s5,s6,s1,s2,s3]
  (refine tz 5 ?_;simp only [Act.put,s1,s2,s3])
  refine wpAnyH_done (by kernel_rfl) ?_ _
  try simp only [Exit.then]
  have HF3:=hdd (HF3.out)
  go_upto_region 7 with fail
  have cn0:u3.cell? ⟨u2.heap.size,0,none⟩=some (.string (B Rv.awX)):=by rw [kaa Hn3_3.out];rfl
  have cn1:u3.cell? ⟨u2.heap.size,1,none⟩=some (.string (B Rv.awY)):=by rw [kaa Hn3_3.out];rfl
  have hx32:(B Rv.awX).size=32:=rfl;have hxy:((B Rv.awX).toList == (B Rv.awY).toList)=false:=kby (by decide)
  go_quiet (fail)
  go_upto_region 9 with fail
  have hq:Below u3.heap.size u3 (u3.drewN nq):=drn (Below.refl _ _) _;generalize u3.drewN nq=u4 at *;have HQ:=hdd hq;have HN3:=bhh hq Hn3_3;clear hq cn0 cn1 hx32 hxy;obtain ⟨n3,hn3⟩:∃n,u2.heap.size=n:=⟨_,rfl⟩;rw [hn3] at HN3 ⊢;clear hn3;have HSo:=hdd (kiy n3 2 [Rv.awX,Rv.awY] u4 _ HN3.out rfl (by decide +kernel) (by simp))
  go_upto_region 10 with (first|(go_at_call 52;refine (HSo.out).mono ?_;rintro en u5 ⟨rfl,hb⟩;have HB5:=hdd hb;clear hb)|fail)
  have HF5:=hdd (HF3.out.trans ((HQ.out.next HB5.out).mono HF3.out.size));have HN5:=bhh HB5.out HN3;have hlow:Below w8.heap.size w8 u5:=HF5.out;have HP3:=bhh hlow H3y;have HP4:=bhh hlow H4y;have HM1:=bhh hlow HN1y;have HM2:=bhh hlow HN2y;have HQ1:=bhh hlow HP1;have HQ2:=bhh hlow HP2;have HBu:=hdd (HBw.out.next hlow);have HTz:=hdd (fun (W:World) (hb:Below u5.heap.size u5 W)=>HTab.out.same (HBu.out.next hb));have HSz:=hdd (fun (W:World) (hb:Below u5.heap.size u5 W)=>And.intro (kap (kab hb (kad HP3.out) HP3.out)) (kap (kab hb (kad HP4.out) HP4.out)));clear hlow HSx HTx HBw HF3 HQ HB5 HF5 HN3 HSo Hn1_3 Hn2_3 Hn3_3 H3y H4y HN1y HN2y HP1 HP2
  try simp only [Act.put]
  go_cut [6] from 50 to 56 (fun s6 wx=>AwZ u5 n3 s6 wx)
  case first =>
   refine kaj (S:=fun W:World=>W.rangeAt p3 0 (cX n1).toList∧W.rangeAt p4 0 (cY n2).toList) (by kernel_rfl) (HSz.out _ (Below.refl _ _).drew) (fun hHeld=>?_);simp only [List.toList_toArray,len,kat];have hF0:Below u5.heap.size u5 u5.drew:=(Below.refl _ _).drew;generalize u5.drew=u0 at *;have HF0:=hdd hF0;have Hn1_0:=bhh hF0 HM1;have Hn2_0:=bhh hF0 HM2;clear hF0
   (refine tz 0 ?_;simp only [Act.put,s1,s2,s3])
   refine tkx 1 (.agg (cY n2)) rfl rfl (by kernel_rfl) (fun _ _ _ h=>h) (by assumption) ?_ ?_
   ·intro W hW;exact ka6 rfl rfl rfl hW.2
   simp only [Act.put,s1,s2,s3];refine tkx 3 (.agg (cX n1)) rfl rfl (by kernel_rfl) (fun _ _ _ h=>h) (by assumption) ?_ ?_
   ·intro W hW;exact ka6 rfl rfl rfl hW.1
   simp only [Act.put,s1,s2,s3];refine wpAnyH_ready (rs:=[2,7]) (by kernel_rfl) (by simp) ?_;refine AllReadyH.cons rfl (fun K hK=>?_) (ar1 rfl (fun K hK=>?_))
   ·go_simp
    refine (kxh Hn2_0.out (HTz.out _ HF0.out)).mono ?_;rintro en u1 ⟨rfl,hb⟩;have HF1:=hdd (HF0.out.trans (hb.mono HF0.out.size));have Hn1_1:=bhh hb Hn1_0;have Hn2_1:=bhh hb Hn2_0;refine hK.out _ _ (HSz.out _ HF1.out) (fun hHeld=>?_);clear hK K hb HF0 Hn1_0 Hn2_0
    try simp only [Act.put,s4,s5,s6,s1,s2,s3]
    refine wpAnyH_ready (rs:=[4,7]) (by kernel_rfl) (by simp) ?_;refine AllReadyH.cons rfl (fun K hK=>?_) (ar1 rfl (fun K hK=>?_))
    ·go_simp
     refine (kv3 Hn1_1.out (HTz.out _ HF1.out)).mono ?_;rintro en u2 ⟨rfl,hb⟩;have HF2:=hdd (HF1.out.trans (hb.mono HF1.out.size));have Hn1_2:=bhh hb Hn1_1;have Hn2_2:=bhh hb Hn2_1;refine hK.out _ _ (HSz.out _ HF2.out) (fun hHeld=>?_);clear hK K hb HF1 Hn1_1 Hn2_1
     try simp only [Act.put,s4,s5,s6,s1,s2,s3]
     refine wpAnyH_ready (rs:=[5,7]) (by kernel_rfl) (by simp) ?_;refine AllReadyH.cons rfl (fun K hK=>?_) (ar1 rfl (fun K hK=>?_))
     ·go_simp
      have hb:Below u2.heap.size u2 (u2.alloc (.cells (#[.string (B Rv.awY),.string (B Rv.awX)]) 9)):=(Below.refl _ _).alloc (Nat.le_refl _) _;have hn:=kai u2 (.cells (#[.string (B Rv.awY),.string (B Rv.awX)]) 9);have HF3:=hdd (HF2.out.trans (hb.mono HF2.out.size));have Hn1_3:=bhh hb Hn1_2;have Hn2_3:=bhh hb Hn2_2;refine hK.out _ (u2.alloc (.cells (#[.string (B Rv.awY),.string (B Rv.awX)]) 9)) (HSz.out _ HF3.out) (fun hHeld=>?_);clear hK K HF2 Hn1_2 Hn2_2;generalize (u2.alloc (.cells (#[.string (B Rv.awY),.string (B Rv.awX)]) 9))=u3 at *;have Hn4_3:=hdd hn;clear hn hb
      try simp only [Act.put,s4,s5,s6,s1,s2,s3]
      (refine tz 6 ?_;simp only [Act.put,s1,s2,s3])
      refine ar2 7 (by kernel_rfl) rfl (fun K hK=>?_);go_simp
      have HLz:=hdd HF3.out.size;have hb:Below u3.heap.size u3 (u3.alloc (.cells (evZ) 45)):=(Below.refl _ _).alloc (Nat.le_refl _) _;have hn:=kai u3 (.cells (evZ) 45);have HF4:=hdd (HF3.out.trans (hb.mono HF3.out.size));have Hn1_4:=bhh hb Hn1_3;have Hn2_4:=bhh hb Hn2_3;have Hn4_4:=bhh hb Hn4_3;refine hK.out _ (u3.alloc (.cells (evZ) 45)) (HSz.out _ HF4.out) (fun hHeld=>?_);clear hK K HF3 Hn1_3 Hn2_3 Hn4_3;generalize (u3.alloc (.cells (evZ) 45))=u4 at *;have Hz_4:=hdd hn;clear hn hb
      try simp only [Act.put,s4,s5,s6,s1,s2,s3]
      refine ar2 8 (by kernel_rfl) rfl (fun K hK=>?_);refine kam rfl 45 _ _ rfl (u3.heap.size) rfl (cZ n3 (u2.heap.size)) rfl 45 evZ Hz_4.out (by kernel_rfl) rfl (kbe _ _ _ _ _ _ rfl rfl rfl rfl rfl) ?_;intro v1 hv1 kv1;have R2:=hdd ((kv1.block _ (kad Hn4_4.out) (kh6 Hz_4.out Hn4_4.out)).trans Hn4_4.out);have RF:=hdd (HF4.out.trans (kv1.below HF4.out.size (fun q hq e=>by have:q=u3.heap.size:=e;have:=HLz.out;omega)));have RV:=hdd hv1;refine hK.out _ _ (HSz.out _ RF.out) (fun hHeld=>?_);clear hK K hv1 kv1
      try simp only [Act.put,s4,s5,s6,s1,s2,s3]
      refine wpAnyH_done (by kernel_rfl) ?_ _
      try simp only [Exit.then]
      go_wp2_with fail
      go_meet
      unfold AwZ;exact ⟨_,_,rfl,HLz.out,RF.out,RV.out,R2.out⟩
     ·go_simp
      have HLz:=hdd HF2.out.size;have hb:Below u2.heap.size u2 (u2.alloc (.cells (evZ) 45)):=(Below.refl _ _).alloc (Nat.le_refl _) _;have hn:=kai u2 (.cells (evZ) 45);have HF3:=hdd (HF2.out.trans (hb.mono HF2.out.size));have Hn1_3:=bhh hb Hn1_2;have Hn2_3:=bhh hb Hn2_2;refine hK.out _ (u2.alloc (.cells (evZ) 45)) (HSz.out _ HF3.out) (fun hHeld=>?_);clear hK K HF2 Hn1_2 Hn2_2;generalize (u2.alloc (.cells (evZ) 45))=u3 at *;have Hz_3:=hdd hn;clear hn hb
      try simp only [Act.put,s4,s5,s6,s1,s2,s3]
      refine ar2 5 (by kernel_rfl) rfl (fun K hK=>?_);go_simp
      have hb:Below u3.heap.size u3 (u3.alloc (.cells (#[.string (B Rv.awY),.string (B Rv.awX)]) 9)):=(Below.refl _ _).alloc (Nat.le_refl _) _;have hn:=kai u3 (.cells (#[.string (B Rv.awY),.string (B Rv.awX)]) 9);have HF4:=hdd (HF3.out.trans (hb.mono HF3.out.size));have Hn1_4:=bhh hb Hn1_3;have Hn2_4:=bhh hb Hn2_3;have Hz_4:=bhh hb Hz_3;refine hK.out _ (u3.alloc (.cells (#[.string (B Rv.awY),.string (B Rv.awX)]) 9)) (HSz.out _ HF4.out) (fun hHeld=>?_);clear hK K HF3 Hn1_3 Hn2_3 Hz_3;generalize (u3.alloc (.cells (#[.string (B Rv.awY),.string (B Rv.awX)]) 9))=u4 at *;have Hn4_4:=hdd hn;clear hn hb
      try simp only [Act.put,s4,s5,s6,s1,s2,s3]
      (refine tz 6 ?_;simp only [Act.put,s1,s2,s3])
      refine ar2 8 (by kernel_rfl) rfl (fun K hK=>?_);refine kam rfl 45 _ _ rfl (u2.heap.size) rfl (cZ n3 (u3.heap.size)) rfl 45 evZ Hz_4.out (by kernel_rfl) rfl (kbe _ _ _ _ _ _ rfl rfl rfl rfl rfl) ?_;intro v1 hv1 kv1;have R2:=hdd ((kv1.block _ (kad Hn4_4.out) (kh6 Hz_4.out Hn4_4.out)).trans Hn4_4.out);have RF:=hdd (HF4.out.trans (kv1.below HF4.out.size (fun q hq e=>by have:q=u2.heap.size:=e;have:=HLz.out;omega)));have RV:=hdd hv1;refine hK.out _ _ (HSz.out _ RF.out) (fun hHeld=>?_);clear hK K hv1 kv1
      try simp only [Act.put,s4,s5,s6,s1,s2,s3]
      refine wpAnyH_done (by kernel_rfl) ?_ _
      try simp only [Exit.then]
      go_wp2_with fail
      go_meet
      unfold AwZ;exact ⟨_,_,rfl,HLz.out,RF.out,RV.out,R2.out⟩
    ·go_simp
     have HLz:=hdd HF1.out.size;have hb:Below u1.heap.size u1 (u1.alloc (.cells (evZ) 45)):=(Below.refl _ _).alloc (Nat.le_refl _) _;have hn:=kai u1 (.cells (evZ) 45);have HF2:=hdd (HF1.out.trans (hb.mono HF1.out.size));have Hn1_2:=bhh hb Hn1_1;have Hn2_2:=bhh hb Hn2_1;refine hK.out _ (u1.alloc (.cells (evZ) 45)) (HSz.out _ HF2.out) (fun hHeld=>?_);clear hK K HF1 Hn1_1 Hn2_1;generalize (u1.alloc (.cells (evZ) 45))=u2 at *;have Hz_2:=hdd hn;clear hn hb
     try simp only [Act.put,s4,s5,s6,s1,s2,s3]
     refine ar2 4 (by kernel_rfl) rfl (fun K hK=>?_);go_simp
     refine (kv3 Hn1_2.out (HTz.out _ HF2.out)).mono ?_;rintro en u3 ⟨rfl,hb⟩;have HF3:=hdd (HF2.out.trans (hb.mono HF2.out.size));have Hn1_3:=bhh hb Hn1_2;have Hn2_3:=bhh hb Hn2_2;have Hz_3:=bhh hb Hz_2;refine hK.out _ _ (HSz.out _ HF3.out) (fun hHeld=>?_);clear hK K hb HF2 Hn1_2 Hn2_2 Hz_2
     try simp only [Act.put,s4,s5,s6,s1,s2,s3]
     refine ar2 5 (by kernel_rfl) rfl (fun K hK=>?_);go_simp
     have hb:Below u3.heap.size u3 (u3.alloc (.cells (#[.string (B Rv.awY),.string (B Rv.awX)]) 9)):=(Below.refl _ _).alloc (Nat.le_refl _) _;have hn:=kai u3 (.cells (#[.string (B Rv.awY),.string (B Rv.awX)]) 9);have HF4:=hdd (HF3.out.trans (hb.mono HF3.out.size));have Hn1_4:=bhh hb Hn1_3;have Hn2_4:=bhh hb Hn2_3;have Hz_4:=bhh hb Hz_3;refine hK.out _ (u3.alloc (.cells (#[.string (B Rv.awY),.string (B Rv.awX)]) 9)) (HSz.out _ HF4.out) (fun hHeld=>?_);clear hK K HF3 Hn1_3 Hn2_3 Hz_3;generalize (u3.alloc (.cells (#[.string (B Rv.awY),.string (B Rv.awX)]) 9))=u4 at *;have Hn4_4:=hdd hn;clear hn hb
     try simp only [Act.put,s4,s5,s6,s1,s2,s3]
     (refine tz 6 ?_;simp only [Act.put,s1,s2,s3])
     refine ar2 8 (by kernel_rfl) rfl (fun K hK=>?_);refine kam rfl 45 _ _ rfl (u1.heap.size) rfl (cZ n3 (u3.heap.size)) rfl 45 evZ Hz_4.out (by kernel_rfl) rfl (kbe _ _ _ _ _ _ rfl rfl rfl rfl rfl) ?_;intro v1 hv1 kv1;have R2:=hdd ((kv1.block _ (kad Hn4_4.out) (kh6 Hz_4.out Hn4_4.out)).trans Hn4_4.out);have RF:=hdd (HF4.out.trans (kv1.below HF4.out.size (fun q hq e=>by have:q=u1.heap.size:=e;have:=HLz.out;omega)));have RV:=hdd hv1;refine hK.out _ _ (HSz.out _ RF.out) (fun hHeld=>?_);clear hK K hv1 kv1
     try simp only [Act.put,s4,s5,s6,s1,s2,s3]
     refine wpAnyH_done (by kernel_rfl) ?_ _
     try simp only [Exit.then]
     go_wp2_with fail
     go_meet
     unfold AwZ;exact ⟨_,_,rfl,HLz.out,RF.out,RV.out,R2.out⟩
   ·go_simp
    have HLz:=hdd HF0.out.size;have hb:Below u0.heap.size u0 (u0.alloc (.cells (evZ) 45)):=(Below.refl _ _).alloc (Nat.le_refl _) _;have hn:=kai u0 (.cells (evZ) 45);have HF1:=hdd (HF0.out.trans (hb.mono HF0.out.size));have Hn1_1:=bhh hb Hn1_0;have Hn2_1:=bhh hb Hn2_0;refine hK.out _ (u0.alloc (.cells (evZ) 45)) (HSz.out _ HF1.out) (fun hHeld=>?_);clear hK K HF0 Hn1_0 Hn2_0;generalize (u0.alloc (.cells (evZ) 45))=u1 at *;have Hz_1:=hdd hn;clear hn hb
    try simp only [Act.put,s4,s5,s6,s1,s2,s3]
    refine ar2 2 (by kernel_rfl) rfl (fun K hK=>?_);go_simp
    refine (kxh Hn2_1.out (HTz.out _ HF1.out)).mono ?_;rintro en u2 ⟨rfl,hb⟩;have HF2:=hdd (HF1.out.trans (hb.mono HF1.out.size));have Hn1_2:=bhh hb Hn1_1;have Hn2_2:=bhh hb Hn2_1;have Hz_2:=bhh hb Hz_1;refine hK.out _ _ (HSz.out _ HF2.out) (fun hHeld=>?_);clear hK K hb HF1 Hn1_1 Hn2_1 Hz_1
    try simp only [Act.put,s4,s5,s6,s1,s2,s3]
    refine ar2 4 (by kernel_rfl) rfl (fun K hK=>?_);go_simp
    refine (kv3 Hn1_2.out (HTz.out _ HF2.out)).mono ?_;rintro en u3 ⟨rfl,hb⟩;have HF3:=hdd (HF2.out.trans (hb.mono HF2.out.size));have Hn1_3:=bhh hb Hn1_2;have Hn2_3:=bhh hb Hn2_2;have Hz_3:=bhh hb Hz_2;refine hK.out _ _ (HSz.out _ HF3.out) (fun hHeld=>?_);clear hK K hb HF2 Hn1_2 Hn2_2 Hz_2
    try simp only [Act.put,s4,s5,s6,s1,s2,s3]
    refine ar2 5 (by kernel_rfl) rfl (fun K hK=>?_);go_simp
    have hb:Below u3.heap.size u3 (u3.alloc (.cells (#[.string (B Rv.awY),.string (B Rv.awX)]) 9)):=(Below.refl _ _).alloc (Nat.le_refl _) _;have hn:=kai u3 (.cells (#[.string (B Rv.awY),.string (B Rv.awX)]) 9);have HF4:=hdd (HF3.out.trans (hb.mono HF3.out.size));have Hn1_4:=bhh hb Hn1_3;have Hn2_4:=bhh hb Hn2_3;have Hz_4:=bhh hb Hz_3;refine hK.out _ (u3.alloc (.cells (#[.string (B Rv.awY),.string (B Rv.awX)]) 9)) (HSz.out _ HF4.out) (fun hHeld=>?_);clear hK K HF3 Hn1_3 Hn2_3 Hz_3;generalize (u3.alloc (.cells (#[.string (B Rv.awY),.string (B Rv.awX)]) 9))=u4 at *;have Hn4_4:=hdd hn;clear hn hb
    try simp only [Act.put,s4,s5,s6,s1,s2,s3]
    (refine tz 6 ?_;simp only [Act.put,s1,s2,s3])
    refine ar2 8 (by kernel_rfl) rfl (fun K hK=>?_);refine kam rfl 45 _ _ rfl (u0.heap.size) rfl (cZ n3 (u3.heap.size)) rfl 45 evZ Hz_4.out (by kernel_rfl) rfl (kbe _ _ _ _ _ _ rfl rfl rfl rfl rfl) ?_;intro v1 hv1 kv1;have R2:=hdd ((kv1.block _ (kad Hn4_4.out) (kh6 Hz_4.out Hn4_4.out)).trans Hn4_4.out);have RF:=hdd (HF4.out.trans (kv1.below HF4.out.size (fun q hq e=>by have:q=u0.heap.size:=e;have:=HLz.out;omega)));have RV:=hdd hv1;refine hK.out _ _ (HSz.out _ RF.out) (fun hHeld=>?_);clear hK K hv1 kv1
    try simp only [Act.put,s4,s5,s6,s1,s2,s3]
    refine wpAnyH_done (by kernel_rfl) ?_ _
    try simp only [Exit.then]
    go_wp2_with fail
    go_meet
    unfold AwZ;exact ⟨_,_,rfl,HLz.out,RF.out,RV.out,R2.out⟩
  case rest =>
   unfold AwZ at hcut;obtain ⟨p6,n4,rfl,hl6,hb,h6,hn4⟩:=hcut;obtain ⟨wz,rfl⟩:∃W,W=wc:=⟨_,rfl⟩;have HL6:=hdd hl6;have HBz:=hdd (HBu.out.next hb);have HTt:=hdd (HTz.out wz hb);have HE6:=hdd h6;have HE4:=bhh hb HP4;have HE3:=bhh hb HP3;have HE2:=bhh hb HQ2;have HE1:=bhh hb HQ1;have HO1:=bhh hb HM1;have HO2:=bhh hb HM2;have HO3:=bhh hb HN5;have HO4:=hdd hn4;clear hl6 hb h6 hn4 HP3 HP4 HQ1 HQ2 HM1 HM2 HN5 HBu HTz HSz
   have HFo:=hdd (fun (cs:Array Value) (hc:cs.toList=([EvV.mk Rv.evY (.slice (some ⟨n2,0,none⟩) 1 1) kaf kaf kaf kaf,EvV.mk Rv.evBen kaf kaf kaf kaf kaf,EvV.mk Rv.evX (.slice (some ⟨n1,0,none⟩) 1 1) kaf kaf kaf kaf,EvV.mk Rv.evAnn kaf kaf kaf kaf kaf].map fun x=>x.c.toList).flatten)=>by
    have hb1:Below wz.heap.size wz (wz.alloc (.cells cs 45)):=(Below.refl _ _).alloc (Nat.le_refl _) _
    have hE:=koc (kai wz (.cells cs 45)) hc (fun x hx=>by
     simp only [List.mem_cons,List.not_mem_nil,or_false] at hx;rcases hx with rfl|rfl|rfl|rfl
     ·exact k0l (kah HO2.out)
     ·exact ks0 _
     ·exact k0f (kah HO1.out)
     ·exact kqz _) (by simp) (by simp)
    exact (kfm _ _ _ hE (HTt.out.same hb1)).mono fun en w' hp=>(show Below wz.heap.size wz w'∧_ from And.intro (hb1.trans ((fd4 hp).1.mono hb1.size)) (fd4 hp).2))
   go_upto_region 12 with (first
    |(refine kgq 58 rfl ?_;refine wpList_load_row rfl 45 _ rfl p4 rfl 45 (cY n2) (0,0) _ HE4.out rfl rfl (by kernel_rfl) ?_)
    |(refine kgq 59 rfl ?_;refine wpList_load_row rfl 45 _ rfl p2 rfl 45 (evC Rv.evBen kaf kaf kaf kaf kaf) (0,0) _ HE2.out rfl rfl (by kernel_rfl) ?_)
    |(refine kgq 60 rfl ?_;refine wpList_load_row rfl 45 _ rfl p3 rfl 45 (cX n1) (0,0) _ HE3.out rfl rfl (by kernel_rfl) ?_)
    |(refine kgq 61 rfl ?_;refine wpList_load_row rfl 45 _ rfl p1 rfl 45 (evC Rv.evAnn kaf kaf kaf kaf kaf) (0,0) _ HE1.out rfl rfl (by kernel_rfl) ?_)
    |(go_at_call 15;refine (HFo.out _ rfl).mono ?_
      rintro en w9 ⟨hb9,a1,l1,c1,a2,l2,c2,a3,l3,c3,a4,c4,rfl⟩;have HB9:=hdd hb9;clear hb9)
    |(refine kac rfl 34 _ _ rfl w9.heap.size rfl #[.slice a1 l1 c1,.slice a2 l2 c2,.slice a3 l3 c3,.slice a4 1 c4] rfl 34 kn6 (kak rfl rfl) (by kernel_rfl) rfl (by simp [Value.oneCell']) ?_
      intro w10 hw10 hk10;have HW10:=hdd hw10;have HB10:=hdd (show Below w9.heap.size w9 w10 from ((Below.refl _ _).alloc (Nat.le_refl _) _).trans (hk10.below (B:=w9.heap.size) (by simp) (fun q hq e=>by have:q=w9.heap.size:=e;omega)));clear hw10 hk10)
    |fail)
   have hb10:Below wz.heap.size wz w10:=HB9.out.trans (HB10.out.mono HB9.out.size);have HG6:=bhh hb10 HE6;have HG4:=bhh hb10 HE4;have HG3:=bhh hb10 HE3;have HG2:=bhh hb10 HE2;have HG1:=bhh hb10 HE1;have HO1':=bhh hb10 HO1;have HO2':=bhh hb10 HO2;have HO3':=bhh hb10 HO3;have HO4':=bhh hb10 HO4;have HBt:=hdd (HBz.out.next hb10);have HTu:=hdd (HTt.out.same hb10);obtain ⟨q7,hq7⟩:∃q,w9.heap.size=q:=⟨_,rfl⟩;rw [hq7] at HW10 ⊢;clear hb10 HE6 HE4 HE3 HE2 HE1 HO1 HO2 HO3 HO4 HFo HB9 HB10 hq7 HBz HTt
   have HFo:=hdd (fun (cs:Array Value) (hc:cs.toList=([EvV.mk Rv.evZ (.slice (some ⟨n3,0,none⟩) 2 2) (.slice (some ⟨n4,0,none⟩) 2 2) kaf kaf kaf,EvV.mk Rv.evY (.slice (some ⟨n2,0,none⟩) 1 1) kaf kaf kaf kaf,EvV.mk Rv.evBen kaf kaf kaf kaf kaf,EvV.mk Rv.evX (.slice (some ⟨n1,0,none⟩) 1 1) kaf kaf kaf kaf,EvV.mk Rv.evAnn kaf kaf kaf kaf kaf].map fun x=>x.c.toList).flatten)=>by
    have hb1:Below w10.heap.size w10 (w10.alloc (.cells cs 45)):=(Below.refl _ _).alloc (Nat.le_refl _) _
    have hE:=koc (kai w10 (.cells cs 45)) hc (fun x hx=>by
     simp only [List.mem_cons,List.not_mem_nil,or_false] at hx;rcases hx with rfl|rfl|rfl|rfl|rfl
     ·exact k05 (kah HO3'.out) (kah HO4'.out)
     ·exact k0l (kah HO2'.out)
     ·exact ks0 _
     ·exact k0f (kah HO1'.out)
     ·exact kqz _) (by simp) (by simp)
    exact (kfm _ _ _ hE (HTu.out.same hb1)).mono fun en w' hp=>(show Below w10.heap.size w10 w'∧_ from And.intro (hb1.trans ((fd5 hp).1.mono hb1.size)) (fd5 hp).2))
   go_upto_region 13 with (first
    |(refine kgq 68 rfl ?_;refine wpList_load_row rfl 45 _ rfl p6 rfl 45 (cZ n3 n4) (0,0) _ HG6.out rfl rfl (by kernel_rfl) ?_)
    |(refine kgq 69 rfl ?_;refine wpList_load_row rfl 45 _ rfl p4 rfl 45 (cY n2) (0,0) _ HG4.out rfl rfl (by kernel_rfl) ?_)
    |(refine kgq 70 rfl ?_;refine wpList_load_row rfl 45 _ rfl p2 rfl 45 (evC Rv.evBen kaf kaf kaf kaf kaf) (0,0) _ HG2.out rfl rfl (by kernel_rfl) ?_)
    |(refine kgq 71 rfl ?_;refine wpList_load_row rfl 45 _ rfl p3 rfl 45 (cX n1) (0,0) _ HG3.out rfl rfl (by kernel_rfl) ?_)
    |(refine kgq 72 rfl ?_;refine wpList_load_row rfl 45 _ rfl p1 rfl 45 (evC Rv.evAnn kaf kaf kaf kaf kaf) (0,0) _ HG1.out rfl rfl (by kernel_rfl) ?_)
    |(go_at_call 15;refine (HFo.out _ rfl).mono ?_
      rintro en w11 ⟨hb11,g1,d1,a6,l6,c6,g3,d3,a8,c8,rfl,k1,k2,k3⟩;have HB11:=hdd hb11;have HK1:=hdd k1;have HK2:=hdd k2;have HK3:=hdd k3;clear hb11 k1 k2 k3)
    |(refine kac rfl 34 _ _ rfl w11.heap.size rfl #[.slice (some ⟨g1,0,none⟩) 2 d1,.slice a6 l6 c6,.slice (some ⟨g3,0,none⟩) 2 d3,.slice a8 0 c8] rfl 34 kn6 (kak rfl rfl) (by kernel_rfl) rfl (by simp [Value.oneCell']) ?_
      intro w12 hw12 hk12;have HW12:=hdd hw12;have HB12:=hdd (show Below w11.heap.size w11 w12 from ((Below.refl _ _).alloc (Nat.le_refl _) _).trans (hk12.below (B:=w11.heap.size) (by simp) (fun q hq e=>by have:q=w11.heap.size:=e;omega)));clear hw12 hk12)
    |fail)
   have hw7:=kab (HB11.out.trans (HB12.out.mono HB11.out.size)) (kad HW10.out) HW10.out;have k1:=(HB12.out.cell (p:=⟨g1,4,none⟩) (World.block_lt_of_cell? _ _ HK1.out)).trans HK1.out;have k2:=(HB12.out.cell (p:=⟨g3,8,none⟩) (World.block_lt_of_cell? _ _ HK2.out)).trans HK2.out;have k3:=(HB12.out.cell (p:=⟨g3,18,none⟩) (World.block_lt_of_cell? _ _ HK3.out)).trans HK3.out;have m3:w12.cell? ⟨q7,3,none⟩=some (.slice a4 1 c4):=by rw [kaa hw7];rfl
   have r0:w12.cell? ⟨w11.heap.size,0,none⟩=some (.slice (some ⟨g1,0,none⟩) 2 d1):=by rw [kaa HW12.out];rfl
   have r2:w12.cell? ⟨w11.heap.size,2,none⟩=some (.slice (some ⟨g3,0,none⟩) 2 d3):=by rw [kaa HW12.out];rfl
   have r3:w12.cell? ⟨w11.heap.size,3,none⟩=some (.slice a8 0 c8):=by rw [kaa HW12.out];rfl
   have HBe:=hdd (HBt.out.next (HB11.out.trans (HB12.out.mono HB11.out.size)));clear hw7
   go_quiet (fail)
   go_wp2
   go_ret
   exact ⟨rfl,drn HBe.out _⟩
end Go.Proofs.YtknpbekoenbphaaGreatDoor
