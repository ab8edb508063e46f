/- Parts of the proofs: PlainEn, FrmPrs, FrmRws, LawKitP, WkSSt, PlainAo. No condition beyond those at each theorem. -/
import Derived.WideShapes
import Derived.Test.YtknpbekoenbphaaGreatDoorQk41
import Derived.Test.YtknpbekoenbphaaGreatDoorQk42
set_option linter.unusedVariables false
set_option linter.unusedSimpArgs false
set_option maxHeartbeats 16000000
set_option maxRecDepth 100000
namespace Licit.Rv
open Go Licit
theorem kjl {α:Type} {l₁ l₂:List α} (h1:l₁.Nodup) (h2:l₂.Nodup) (hs:l₁ ⊆ l₂) (hl:l₂.length≤l₁.length):l₁.Perm l₂:=by
 refine (List.perm_ext_iff_of_nodup h1 h2).2 fun x=>⟨fun h=>hs h,fun hx=>Classical.byContradiction fun hn=>?_⟩
 have h3:(x :: l₁).Nodup:=List.nodup_cons.2 ⟨hn,h1⟩
 have:=h3.length_le_of_subset (l₂:=l₂) fun y hy=>by
  rcases List.mem_cons.1 hy with rfl|hy
  ·exact hx
  ·exact hs hy
 simp only [List.length_cons] at this;omega
theorem kqa {f:Nat→Nat} {m l:List Ev} (h:Emb f m l) (hl:kej l) {Sl:Stt} (hS:arrS l (idsOf l)=some Sl) (hlen:m.length=l.length) :
 (foldE m).1=(foldE l).1∧(foldE m).2.2=(foldE l).2.2∧(((foldE l).2.2=0∧(foldE m).2.1 = -1∧(foldE l).2.1 = -1)∨((foldE l).2.2≠0∧∃i,i<m.length∧(foldE m).2.1=(i:Int)∧(foldE l).2.1=((f i:Nat):Int))):=by
 obtain ⟨Sm,hm⟩:=h.arr hl hS;have ll:Sl.length=l.length:=(arrS_lower hS).2.1;have lm:Sm.length=m.length:=(arrS_lower hm).2.1;have hsub:=h.sub hl hm hS
 have hnd:((List.range m.length).map f).Nodup:=by
  rw [List.Nodup,List.pairwise_map];exact List.Pairwise.imp_of_mem (fun {a b} ha hb hab e=>hab (h.inj a b (List.mem_range.1 ha) (List.mem_range.1 hb) e)) List.nodup_range
 have hsubset:((List.range m.length).map f) ⊆ List.range l.length:=fun x hx=>by
  obtain ⟨i,h1,rfl⟩:=List.mem_map.1 hx;exact List.mem_range.2 (h.lt i (List.mem_range.1 h1))
 have hperm:((List.range m.length).map f).Perm (List.range l.length):=kjl hnd List.nodup_range hsubset (by simp [hlen]);have ho:=h.order hl hm hS (O:=ordI Sl (idsOf l)) ((ordI_perm Sl _).trans (by rw [ll];exact hperm.symm)) (kc1 Sl _);have hlt:∀x∈ordI Sm (idsOf m),x<m.length:=fun x hx=>by have:=List.mem_range.1 ((ordI_perm Sm _).mem_iff.1 hx);omega
 have hr:=hsub.replay (ordI Sm (idsOf m)) [] (fun _ h=>by cases h) hlt;have hst:=hsub.state (A:=ordI Sm (idsOf m)) hlt;rw [List.map_nil,ho] at hr;rw [ho] at hst;rw [kgi hl hS,kgi (h.pre hl) hm,hr]
 cases hq:(Cx.mk m (idsOf m) Sm).replay [] (ordI Sm (idsOf m)) with
 |none=>exact ⟨hst.symm,rfl,.inl ⟨rfl,rfl,rfl⟩⟩
 |some x =>
  obtain ⟨i,e⟩:=x;obtain ⟨h1,h2⟩:=kfn hq;exact ⟨rfl,rfl,.inr ⟨h1,i,hlt i h2,rfl,rfl⟩⟩
end Licit.Rv
namespace Licit
open Go Go.RowKit
theorem kjx.form {v:Value} {D:List (Nat × Nat)} {w:World} (h:kjx v D w):∃a cap,v = .slice a D.length cap:=by
 rcases h.2.2 with ⟨a,cap,rfl,rfl⟩|⟨b,off,cap,rfl,_⟩
 ·exact ⟨a,cap,rfl⟩
 ·exact ⟨_,cap,rfl⟩
variable {α:Type} {k:Nat} {enc:α→List Value}
theorem kei.form {v:Value} {l:List α} {w:World} (h:kei k enc v l w):∃a cap,v = .slice a l.length cap:=by
 rcases h.2 with ⟨a,cap,rfl,rfl⟩|⟨b,off,cap,rfl,_⟩
 ·exact ⟨a,cap,rfl⟩
 ·exact ⟨_,cap,rfl⟩
theorem kei.own {base:Nat} {T:TypeId} {v:Value} {l:List α} {w:World} (hk:∀x,(enc x).length=k) (h0:0<k) (h:w.ownsRow base T k v l.length ((l.map enc).flatten)) (hm:l.length≤maxLen):kei k enc v l w:=by
 refine ⟨hm,?_⟩;rcases h.2 with ⟨rfl,h1⟩|⟨g,cap,cur,rfl,h2,h3,h4,h5,h6,h7⟩
 ·exact .inl ⟨none,0,rfl,List.eq_nil_of_length_eq_zero h1⟩
 ·rcases Nat.eq_zero_or_pos l.length with c|c
  ·exact .inl ⟨_,cap,by rw [c],List.eq_nil_of_length_eq_zero c⟩
  ·refine .inr ⟨g,0,cap,rfl,c,kad h3,fun i hi j v hj=>?_⟩
   have hjk:j<k:=by have:=(List.getElem?_eq_some_iff.1 hj).1;rwa [hk] at this
   rw [Nat.zero_add,kaa h3,←Array.getElem?_toList]
   have hlt:i*k+j<l.length*k:=by
    have h8:(i+1)*k≤l.length*k:=Nat.mul_le_mul_right k hi;rw [Nat.succ_mul] at h8;omega
   have e:(cur.toList.take (l.length*k))[i*k+j]? = ((l.map enc).flatten)[i*k+j]?:=by rw [h7]
   rw [List.getElem?_take_of_lt hlt] at e;rw [e];have hf:=kdt (enc:=enc) (k:=k) hk h0 l (i*k+j);have e1:(i*k+j) / k=i:=by rw [Nat.add_comm,Nat.add_mul_div_right _ _ h0,Nat.div_eq_of_lt hjk,Nat.zero_add]
   have e2:(i*k+j) % k=j:=by rw [Nat.add_comm,Nat.add_mul_mod_self_right,Nat.mod_eq_of_lt hjk]
   rw [e1,e2,List.getElem?_eq_getElem hi] at hf;exact hf.trans hj
end Licit
namespace Go.Proofs.YtknpbekoenbphaaGreatDoor
open Go Go.RowKit Licit
open Go.ChangeShapes Go.WideShapes Go.ChangeAt
section
variable {H:Type} {enc:TypeId × Value→H} {W:World} {base:Nat} {held:Bool} {v:Value}
theorem kty {fuel:Nat} {cs:List Value} {x:DataW H × List MemPlace} (hf:DataW.trod enc Tryz.prog W base (fun _=>true) held fuel 51 cs=some x):∃p:Nat × Nat,cs=pbC p∧p.1<256∧p.2<256:=by
 have e1:Tryz.prog.cellsOf 5=1:=by kernel_rfl
 obtain ⟨xs,m,_,_,hcl,hxl,hx⟩:=DataW.trod_array Tryz.underlying51 hf;have x0:=hx 0 (by decide);have x1:=hx 1 (by decide);rw [List.getElem?_eq_getElem (by omega)] at x0 x1
 have hl2:cs.length=2:=by
  have e2:Tryz.prog.cellsOf 51=2:=by kernel_rfl
  first|omega|(rw [e1] at hcl;omega)|(simp at hcl;omega)
 match cs,hl2 with
 | [c0,c1],_ =>
   simp only [e1,Nat.zero_mul,Nat.one_mul,List.drop_zero,List.drop_succ_cons,List.take_succ_cons,List.take_zero] at x0 x1;obtain ⟨i6,g6,_,b6⟩:=DataW.trod_int Tryz.underlying5 x0;obtain ⟨i7,g7,_,b7⟩:=DataW.trod_int Tryz.underlying5 x1;simp only [List.cons.injEq,and_true] at g6 g7;obtain ⟨n6,rfl,l6⟩:=kc8 (n:=256) b6 rfl (by decide);obtain ⟨n7,rfl,l7⟩:=kc8 (n:=256) b7 rfl (by decide);exact ⟨(n6,n7),by rw [g6,g7];rfl,l6,l7⟩
theorem kpw {fuel:Nat} {y:DataW H × List MemPlace} (hf:DataW.trod enc Tryz.prog W base (fun _=>true) held fuel 48 [v]=some y):∃D,kjx v D W:=by
 rcases kjm Tryz.underlying48 (by kernel_rfl:Tryz.prog.cellsOf 51=2) (by decide) hf with rfl|⟨a,n,cap,rfl,hn,hc,h⟩
 ·exact ⟨[],by simp,by simp,.inl ⟨none,0,rfl,rfl⟩⟩
 ·rcases Nat.eq_zero_or_pos n with h0|h0
  ·subst h0
   exact ⟨[],by simp,by simp,.inl ⟨_,cap,rfl,rfl⟩⟩
  ·obtain ⟨b,off,rfl,hb,he⟩:=h h0
   have hx:∀i:Nat,∃d:Nat × Nat,(d.1<256∧d.2<256)∧(i<n→W.rangeAt b (off+i*2) (pbC d)):=fun i=>by
    by_cases c:i<n
    ·obtain ⟨cs,m,x,hl,hcell,hx⟩:=he i c
     obtain ⟨d,hd,h1,h2⟩:=kty hx;exact ⟨d,⟨h1,h2⟩,fun _ j u hu=>hcell j u (by rw [hd];exact hu)⟩
    ·exact ⟨(0,0),by decide,fun h=>absurd h c⟩
   obtain ⟨g,hg⟩:=Classical.axiomOfChoice hx;refine ⟨(List.range n).map g,by rw [List.length_map,List.length_range];omega,fun p hp=>?_,.inr ⟨b,off,cap,by rw [List.length_map,List.length_range],by rw [List.length_map,List.length_range];exact h0,hb,fun i hi=>?_⟩⟩
   ·obtain ⟨i,-,rfl⟩:=List.mem_map.1 hp
    exact (hg i).1
   ·rw [List.length_map,List.length_range] at hi
    have:((List.range n).map g)[i]'(by rw [List.length_map,List.length_range];exact hi)=g i:=by simp
    rw [this];exact (hg i).2 hi
theorem kvm {r:Reach} {b0:Nat} {d:DataW H} {ps:List MemPlace} (hval:Value.okWide Tryz.prog W r b0 48 v) (hd:DataW.Trod enc Tryz.prog W base (fun _=>true) held 48 v d ps):∃D,kjx v D W:=by
 obtain ⟨a,n,c,rfl⟩:=okWide_slice Tryz.underlying48 hval;obtain ⟨fuel,hf⟩:=hd;exact kpw hf
end
end Go.Proofs.YtknpbekoenbphaaGreatDoor
namespace Go.Proofs.YtknpbekoenbphaaGreatDoor
open Go Go.RowKit Licit
def kyp (st:Rv.St) (va vb vc vd:Value) (w:World):Prop:=kei 5 (fun r=>(rwC r).toList) va st.people w∧kei 3 (fun r=>(pkC r).toList) vb st.packs w∧kei 10 (fun r=>(dvC r).toList) vc st.decs w∧kei 2 (fun r=>(prC r).toList) vd st.disps w
theorem kyp.below {st:Rv.St} {va vb vc vd:Value} {w w':World} (h:kyp st va vb vc vd w) (hb:Below w.heap.size w w'):kyp st va vb vc vd w':=⟨h.1.below hb,h.2.1.below hb,h.2.2.1.below hb,h.2.2.2.below hb⟩
theorem k0n.rd {st:Rv.St} {va vb vc vd:Value} {base:Nat} {w:World} (h:k0n st va vb vc vd base w):kyp st va vb vc vd w :=
 ⟨kei.own (fun _=>rfl) (by decide) h.1 (kji h.1),kei.own (fun _=>rfl) (by decide) h.2.1 (kji h.2.1),kei.own (fun _=>rfl) (by decide) h.2.2.1 (kji h.2.2.1),kei.own (fun _=>rfl) (by decide) h.2.2.2 (kji h.2.2.2)⟩
theorem krh (s:ByteArray):(s == s)=true:=by
 obtain ⟨d⟩:=s;show (d == d)=true;simp
theorem kox (d:Nat) (s:ByteArray) (w:World):(Op.equalIn (d+1) 9 (.string s) (.string s)).run Tryz.prog w = .ok true w:=by
 simp [Op.equalIn,go_sem,krh]
theorem kob (d:Nat) (n:Int) (w:World):(Op.equalIn (d+1) 3 (.int .i64 n) (.int .i64 n)).run Tryz.prog w = .ok true w:=by
 simp [Op.equalIn,go_sem]
theorem kyb (d:Nat) (n:Bool) (w:World):(Op.equalIn (d+1) 4 (.bool n) (.bool n)).run Tryz.prog w = .ok true w:=by
 simp [Op.equalIn,go_sem]
theorem kzw (d:Nat) (a b:Int) (w:World):(Op.equalIn (d+2) 41 (.agg #[.int .i64 a,.int .i64 b]) (.agg #[.int .i64 a,.int .i64 b])).run Tryz.prog w = .ok true w:=by
 unfold Op.equalIn;simp [go_sem,kob]
theorem k0o (d:Nat) (x:Rv.Pk) (w:World):(Op.equalIn (d+2) 96 (.agg (pkC x)) (.agg (pkC x))).run Tryz.prog w = .ok true w:=by
 unfold Op.equalIn;simp [go_sem,kox,kob]
theorem k0m (d:Nat) (x:Bs × Bs) (w:World):(Op.equalIn (d+2) 116 (.agg (prC x)) (.agg (prC x))).run Tryz.prog w = .ok true w:=by
 unfold Op.equalIn;simp [go_sem,kox]
theorem k0d (d:Nat) (x:Rv.Dc) (w:World):(Op.equalIn (d+2) 56 (.agg (dvC x)) (.agg (dvC x))).run Tryz.prog w = .ok true w:=by
 unfold Op.equalIn;simp [go_sem,kox,kob,kyb]
theorem k0q (d:Nat) (x:Rv.Rw) (w:World):(Op.equalIn (d+3) 84 (.agg (rwC x)) (.agg (rwC x))).run Tryz.prog w = .ok true w:=by
 unfold Op.equalIn;simp [go_sem,kox,kob,kzw]
theorem kkl {o:Oper} {ev:Operand→Value} {T U:TypeId} {x y:Operand} {W:World} {cs:Array Value} (ho:o.op = .binOp .neq T x y U) (hx:ev x = .agg cs) (hy:ev y = .agg cs) (hg:Tryz.prog.eqGuardType Tryz.prog.depth T=false) (h:∀w,(Op.equalIn Op.maxDepth T (.agg cs) (.agg cs)).run Tryz.prog w = .ok true w):(execOp ev o).run Tryz.prog W = .ok (.value (.bool false)) W:=by
 unfold execOp;simp [ho,hx,hy,eqGuard,hg,binOp,Op.equal,h,go_sem]
theorem kbr {T:TypeId} {fs:Array Field} {o:Oper} {ev:Operand→Value} {x:Operand} (ho:o.op = .load T x) (hT:Tryz.prog.underlying T=some (.struct fs)) {W:World} {b k:Nat} {cs:List Value} (hi:(Tryz.prog.info? T).map (·.size)=some cs.length) (hx:ev x = .pointer (some ⟨b,k,none⟩)) (h:W.rangeAt b k cs):(execOp ev o).run Tryz.prog W = .ok (.value (.agg cs.toArray)) W:=by
 unfold execOp;simp only [ho,hx,Instr.loadAt,Instr.sureAddr,Sem.run_bind,Sem.run_pure,Result.andThen_ok,run_loadVar_mid W b k T cs _ h hT rfl hi]
theorem kpa (st:Rv.St) (va vb vc vd va' vb' vc' vd':Value) (w:World) (h:kyp st va vb vc vd w) (h':kyp st va' vb' vc' vd' w) :
 Calls Tryz.prog 18 #[.agg #[va,vb,vc,vd],.agg #[va',vb',vc',vd']] w fun en w'=>en = .returned (.bool true)∧Below w.heap.size w w':=by
 obtain ⟨aa,ca,rfl⟩:=h.1.form;obtain ⟨ab,cb,rfl⟩:=h.2.1.form;obtain ⟨ac,cc,rfl⟩:=h.2.2.1.form;obtain ⟨ad,cd,rfl⟩:=h.2.2.2.form;obtain ⟨aa',ca',rfl⟩:=h'.1.form;obtain ⟨ab',cb',rfl⟩:=h'.2.1.form;obtain ⟨ac',cc',rfl⟩:=h'.2.2.1.form;obtain ⟨ad',cd',rfl⟩:=h'.2.2.2.form;have hm1:=h.1.1;have hm2:=h.2.1.1;have hm3:=h.2.2.1.1;have hm4:=h.2.2.2.1;unfold maxLen at hm1 hm2 hm3 hm4;obtain ⟨t,htt⟩:∃t,w.heap.size=t:=⟨_,rfl⟩;obtain ⟨u,huu⟩:∃u,t+1=u:=⟨_,rfl⟩
 have hF:∀W,W=(w.alloc (.cells #[.slice aa st.people.length ca,.slice ab st.packs.length cb,.slice ac st.decs.length cc,.slice ad st.disps.length cd] 34)).alloc (.cells #[.slice aa' st.people.length ca',.slice ab' st.packs.length cb',.slice ac' st.decs.length cc',.slice ad' st.disps.length cd'] 34)→Below w.heap.size w W∧W.heap[t]? = some (.cells #[.slice aa st.people.length ca,.slice ab st.packs.length cb,.slice ac st.decs.length cc,.slice ad st.disps.length cd] 34 (0,0))∧W.heap[u]? = some (.cells #[.slice aa' st.people.length ca',.slice ab' st.packs.length cb',.slice ac' st.decs.length cc',.slice ad' st.disps.length cd'] 34 (0,0)):=by
  rintro _ rfl;have hb1:Below w.heap.size w (w.alloc (.cells #[.slice aa st.people.length ca,.slice ab st.packs.length cb,.slice ac st.decs.length cc,.slice ad st.disps.length cd] 34)):=(Below.refl _ _).alloc (Nat.le_refl _) _;have hz:(w.alloc (.cells #[.slice aa st.people.length ca,.slice ab st.packs.length cb,.slice ac st.decs.length cc,.slice ad st.disps.length cd] 34)).heap.size=w.heap.size+1:=World.size_alloc _ _;refine ⟨hb1.alloc (by omega) _,?_,?_⟩
  ·rw [←htt]
   exact kab ((Below.refl _ _).alloc (Nat.le_refl _) _) (by omega) (kai _ _)
  ·rw [←huu,←htt,←hz]
   exact kai _ _
 have HRd:=hdd (fun (W:World) (hb:Below w.heap.size w W)=>And.intro (h.below hb) (h'.below hb));have HTt:=hdd htt;have HUu:=hdd huu;clear h h' htt huu
 go_enter Tryz.func18,Tryz.ntmps18
 go_upto_region 1 with fail
 rw [HTt.out];generalize hw1:(w.alloc (.cells #[.slice aa st.people.length ca,.slice ab st.packs.length cb,.slice ac st.decs.length cc,.slice ad st.disps.length cd] 34)).alloc (.cells #[.slice aa' st.people.length ca',.slice ab' st.packs.length cb',.slice ac' st.decs.length cc',.slice ad' st.disps.length cd'] 34)=w1;obtain ⟨hb1,hT1,hU1⟩:=hF w1 hw1.symm;simp only [HUu.out];have HB1:=hdd hb1;have HF:=hdd (fun (W:World) (hb:Below w1.heap.size w1 W)=>And.intro (kab hb (kad hT1) hT1) (kab hb (kad hU1) hU1));have HR1:=hdd (fun (W:World) (hb:Below w1.heap.size w1 W)=>HRd.out W (HB1.out.next hb));have c0:w1.cell? ⟨t,0,none⟩=some (.slice aa st.people.length ca):=by rw [kaa hT1];rfl
 have c1:w1.cell? ⟨t,1,none⟩=some (.slice ab st.packs.length cb):=by rw [kaa hT1];rfl
 have c2:w1.cell? ⟨t,2,none⟩=some (.slice ac st.decs.length cc):=by rw [kaa hT1];rfl
 have c3:w1.cell? ⟨t,3,none⟩=some (.slice ad st.disps.length cd):=by rw [kaa hT1];rfl
 have e0:w1.cell? ⟨u,0,none⟩=some (.slice aa' st.people.length ca'):=by rw [kaa hU1];rfl
 have e1:w1.cell? ⟨u,1,none⟩=some (.slice ab' st.packs.length cb'):=by rw [kaa hU1];rfl
 have e2:w1.cell? ⟨u,2,none⟩=some (.slice ac' st.decs.length cc'):=by rw [kaa hU1];rfl
 have e3:w1.cell? ⟨u,3,none⟩=some (.slice ad' st.disps.length cd'):=by rw [kaa hU1];rfl
 clear hF hw1 hb1 hT1 hU1
 go_upto_region 4 with fail
 clear c0 c1 c2 c3 e0 e1 e2 e3
 go_loopw [5] (fun s wr=>∃i:Nat,i≤st.people.length∧s = .int .i64 i∧Below w1.heap.size w1 wr) (fun s _=>st.people.length - (intOf s).toNat)
 case atStart=>exact ⟨0,Nat.zero_le _,rfl,Below.refl _ _⟩
 case round =>
  obtain ⟨i,hi,rfl,hb⟩:=hrel;have HB:=hdd hb;have c0:wr.cell? ⟨t,0,none⟩=some (.slice aa st.people.length ca):=by rw [kaa (HF.out wr hb).1];rfl
  clear hb
  by_cases hlt:i<st.people.length
  ·have d0:((i:Int)<(st.people.length:Int)):=by omega
   obtain ⟨b,off,hbv,hbl,hr⟩:=((HR1.out wr HB.out).1.1).at hlt;obtain ⟨b',off',hbv',hbl',hr'⟩:=((HR1.out wr HB.out).2.1).at hlt;subst hbv hbv';obtain ⟨x,hx⟩:∃x,st.people[i]=x:=⟨_,rfl⟩;rw [hx] at hr hr';have HR:=hdd (fun (W:World) (hB:Below wr.heap.size wr W)=>And.intro (show W.cell? ⟨t,0,none⟩=some (.slice (some ⟨b,off,none⟩) st.people.length ca) by rw [kaa (HF.out W (HB.out.next hB)).1];rfl) (And.intro (show W.cell? ⟨u,0,none⟩=some (.slice (some ⟨b',off',none⟩) st.people.length ca') by rw [kaa (HF.out W (HB.out.next hB)).2];rfl) (And.intro (kft hr hB hbl) (kft hr' hB hbl'))));clear hr hr' hx hbl hbl'
   go_upto_region 6 with fail
   refine kaj (S:=fun W=>W.cell? ⟨t,0,none⟩=some (.slice (some ⟨b,off,none⟩) st.people.length ca)∧W.cell? ⟨u,0,none⟩=some (.slice (some ⟨b',off',none⟩) st.people.length ca')∧W.rangeAt b (off+i*5) (rwC x).toList∧W.rangeAt b' (off'+i*5) (rwC x).toList) (by kernel_rfl) (HR.out wr.drew (Below.refl _ _).drew) (fun hHeld=>?_);have hbz:Below wr.heap.size wr wr.drew:=(Below.refl _ _).drew;generalize wr.drew=wz at hbz hHeld ⊢;simp only [List.toList_toArray,len,kat]
   iterate 4 (refine tz 0 ?_;simp only [Act.put,s1,s2,s3])
   refine tkx 4 (.agg (rwC x)) rfl rfl (by kernel_rfl) (fun _ _ _ h=>h) (by assumption) ?_ ?_
   ·intro W hW;exact kbr (T:=84) rfl Tryz.underlying84 (by kernel_rfl) rfl hW.2.2.1
   simp only [Act.put,s1,s2,s3]
   iterate 4 (refine tz 5 ?_;simp only [Act.put,s1,s2,s3])
   refine tkx 9 (.agg (rwC x)) rfl rfl (by kernel_rfl) (fun _ _ _ h=>h) (by assumption) ?_ ?_
   ·intro W hW;exact kbr (T:=84) rfl Tryz.underlying84 (by kernel_rfl) rfl hW.2.2.2
   simp only [Act.put,s1,s2,s3];refine tkx 10 (.bool false) rfl rfl (by kernel_rfl) (fun _ _ _ h=>h) (by assumption) ?_ ?_
   ·intro W hW;exact kkl rfl rfl rfl (by kernel_rfl) (k0q 9997 x)
   simp only [Act.put,s1,s2,s3];refine wpAnyH_done (by kernel_rfl) ?_ _
   try simp only [Exit.then]
   have HB3:=hdd (HB.out.next hbz);clear hHeld hbz d0
   go_wp2_with fail
   have hF:∃k:Nat,k≤st.people.length∧(Value.int .i64 ((i+1:Nat):Int)) = .int .i64 k∧Below w1.heap.size w1 wz:=⟨i+1,by omega,rfl,HB3.out⟩;refine ⟨?_,?_⟩
   ·first|exact hF|((repeat apply Exists.intro);exact ⟨hF,rfl⟩)
   ·simp [intOf];omega
  have d0:¬ ((i:Int)<(st.people.length:Int)):=by omega
  go_upto_region 9 with fail
  clear c0 d0 hlt;obtain ⟨w1x,hw1x⟩:∃x,x=wr:=⟨_,rfl⟩;rw [←hw1x] at HB ⊢;clear hw1x
  go_loopw [6] (fun s wr=>∃i:Nat,i≤st.packs.length∧s = .int .i64 i∧Below w1.heap.size w1 wr) (fun s _=>st.packs.length - (intOf s).toNat)
  case atStart=>exact ⟨0,Nat.zero_le _,rfl,HB.out⟩
  clear HB
  case round =>
   obtain ⟨i,hi,rfl,hb⟩:=hrel;have HB:=hdd hb;have c0:wr.cell? ⟨t,1,none⟩=some (.slice ab st.packs.length cb):=by rw [kaa (HF.out wr hb).1];rfl
   clear hb
   by_cases hlt:i<st.packs.length
   ·have d0:((i:Int)<(st.packs.length:Int)):=by omega
    obtain ⟨b,off,hbv,hbl,hr⟩:=((HR1.out wr HB.out).1.2.1).at hlt;obtain ⟨b',off',hbv',hbl',hr'⟩:=((HR1.out wr HB.out).2.2.1).at hlt;subst hbv hbv';obtain ⟨x,hx⟩:∃x,st.packs[i]=x:=⟨_,rfl⟩;rw [hx] at hr hr';have HR:=hdd (fun (W:World) (hB:Below wr.heap.size wr W)=>And.intro (show W.cell? ⟨t,1,none⟩=some (.slice (some ⟨b,off,none⟩) st.packs.length cb) by rw [kaa (HF.out W (HB.out.next hB)).1];rfl) (And.intro (show W.cell? ⟨u,1,none⟩=some (.slice (some ⟨b',off',none⟩) st.packs.length cb') by rw [kaa (HF.out W (HB.out.next hB)).2];rfl) (And.intro (kft hr hB hbl) (kft hr' hB hbl'))));clear hr hr' hx hbl hbl'
    go_upto_region 11 with fail
    refine kaj (S:=fun W=>W.cell? ⟨t,1,none⟩=some (.slice (some ⟨b,off,none⟩) st.packs.length cb)∧W.cell? ⟨u,1,none⟩=some (.slice (some ⟨b',off',none⟩) st.packs.length cb')∧W.rangeAt b (off+i*3) (pkC x).toList∧W.rangeAt b' (off'+i*3) (pkC x).toList) (by kernel_rfl) (HR.out wr.drew (Below.refl _ _).drew) (fun hHeld=>?_);have hbz:Below wr.heap.size wr wr.drew:=(Below.refl _ _).drew;generalize wr.drew=wz at hbz hHeld ⊢;simp only [List.toList_toArray,len,kat]
    iterate 4 (refine tz 0 ?_;simp only [Act.put,s1,s2,s3])
    refine tkx 4 (.agg (pkC x)) rfl rfl (by kernel_rfl) (fun _ _ _ h=>h) (by assumption) ?_ ?_
    ·intro W hW;exact kbr (T:=96) rfl Tryz.underlying96 (by kernel_rfl) rfl hW.2.2.1
    simp only [Act.put,s1,s2,s3]
    iterate 4 (refine tz 5 ?_;simp only [Act.put,s1,s2,s3])
    refine tkx 9 (.agg (pkC x)) rfl rfl (by kernel_rfl) (fun _ _ _ h=>h) (by assumption) ?_ ?_
    ·intro W hW;exact kbr (T:=96) rfl Tryz.underlying96 (by kernel_rfl) rfl hW.2.2.2
    simp only [Act.put,s1,s2,s3];refine tkx 10 (.bool false) rfl rfl (by kernel_rfl) (fun _ _ _ h=>h) (by assumption) ?_ ?_
    ·intro W hW;exact kkl rfl rfl rfl (by kernel_rfl) (k0o 9998 x)
    simp only [Act.put,s1,s2,s3];refine wpAnyH_done (by kernel_rfl) ?_ _
    try simp only [Exit.then]
    have HB3:=hdd (HB.out.next hbz);clear hHeld hbz d0
    go_wp2_with fail
    have hF:∃k:Nat,k≤st.packs.length∧(Value.int .i64 ((i+1:Nat):Int)) = .int .i64 k∧Below w1.heap.size w1 wz:=⟨i+1,by omega,rfl,HB3.out⟩;refine ⟨?_,?_⟩
    ·first|exact hF|((repeat apply Exists.intro);exact ⟨hF,rfl⟩)
    ·simp [intOf];omega
   have d0:¬ ((i:Int)<(st.packs.length:Int)):=by omega
   go_upto_region 14 with fail
   clear c0 d0 hlt;obtain ⟨w1x,hw1x⟩:∃x,x=wr:=⟨_,rfl⟩;rw [←hw1x] at HB ⊢;clear hw1x
   go_loopw [7] (fun s wr=>∃i:Nat,i≤st.decs.length∧s = .int .i64 i∧Below w1.heap.size w1 wr) (fun s _=>st.decs.length - (intOf s).toNat)
   case atStart=>exact ⟨0,Nat.zero_le _,rfl,HB.out⟩
   clear HB
   case round =>
    obtain ⟨i,hi,rfl,hb⟩:=hrel;have HB:=hdd hb;have c0:wr.cell? ⟨t,2,none⟩=some (.slice ac st.decs.length cc):=by rw [kaa (HF.out wr hb).1];rfl
    clear hb
    by_cases hlt:i<st.decs.length
    ·have d0:((i:Int)<(st.decs.length:Int)):=by omega
     obtain ⟨b,off,hbv,hbl,hr⟩:=((HR1.out wr HB.out).1.2.2.1).at hlt;obtain ⟨b',off',hbv',hbl',hr'⟩:=((HR1.out wr HB.out).2.2.2.1).at hlt;subst hbv hbv';obtain ⟨x,hx⟩:∃x,st.decs[i]=x:=⟨_,rfl⟩;rw [hx] at hr hr';have HR:=hdd (fun (W:World) (hB:Below wr.heap.size wr W)=>And.intro (show W.cell? ⟨t,2,none⟩=some (.slice (some ⟨b,off,none⟩) st.decs.length cc) by rw [kaa (HF.out W (HB.out.next hB)).1];rfl) (And.intro (show W.cell? ⟨u,2,none⟩=some (.slice (some ⟨b',off',none⟩) st.decs.length cc') by rw [kaa (HF.out W (HB.out.next hB)).2];rfl) (And.intro (kft hr hB hbl) (kft hr' hB hbl'))));clear hr hr' hx hbl hbl'
     go_upto_region 16 with fail
     refine kaj (S:=fun W=>W.cell? ⟨t,2,none⟩=some (.slice (some ⟨b,off,none⟩) st.decs.length cc)∧W.cell? ⟨u,2,none⟩=some (.slice (some ⟨b',off',none⟩) st.decs.length cc')∧W.rangeAt b (off+i*10) (dvC x).toList∧W.rangeAt b' (off'+i*10) (dvC x).toList) (by kernel_rfl) (HR.out wr.drew (Below.refl _ _).drew) (fun hHeld=>?_);have hbz:Below wr.heap.size wr wr.drew:=(Below.refl _ _).drew;generalize wr.drew=wz at hbz hHeld ⊢;simp only [List.toList_toArray,len,kat]
     iterate 4 (refine tz 0 ?_;simp only [Act.put,s1,s2,s3])
     refine tkx 4 (.agg (dvC x)) rfl rfl (by kernel_rfl) (fun _ _ _ h=>h) (by assumption) ?_ ?_
     ·intro W hW;exact kbr (T:=56) rfl Tryz.underlying56 (by kernel_rfl) rfl hW.2.2.1
     simp only [Act.put,s1,s2,s3]
     iterate 4 (refine tz 5 ?_;simp only [Act.put,s1,s2,s3])
     refine tkx 9 (.agg (dvC x)) rfl rfl (by kernel_rfl) (fun _ _ _ h=>h) (by assumption) ?_ ?_
     ·intro W hW;exact kbr (T:=56) rfl Tryz.underlying56 (by kernel_rfl) rfl hW.2.2.2
     simp only [Act.put,s1,s2,s3];refine tkx 10 (.bool false) rfl rfl (by kernel_rfl) (fun _ _ _ h=>h) (by assumption) ?_ ?_
     ·intro W hW;exact kkl rfl rfl rfl (by kernel_rfl) (k0d 9998 x)
     simp only [Act.put,s1,s2,s3];refine wpAnyH_done (by kernel_rfl) ?_ _
     try simp only [Exit.then]
     have HB3:=hdd (HB.out.next hbz);clear hHeld hbz d0
     go_wp2_with fail
     have hF:∃k:Nat,k≤st.decs.length∧(Value.int .i64 ((i+1:Nat):Int)) = .int .i64 k∧Below w1.heap.size w1 wz:=⟨i+1,by omega,rfl,HB3.out⟩;refine ⟨?_,?_⟩
     ·first|exact hF|((repeat apply Exists.intro);exact ⟨hF,rfl⟩)
     ·simp [intOf];omega
    have d0:¬ ((i:Int)<(st.decs.length:Int)):=by omega
    go_upto_region 19 with fail
    clear c0 d0 hlt;obtain ⟨w1x,hw1x⟩:∃x,x=wr:=⟨_,rfl⟩;rw [←hw1x] at HB ⊢;clear hw1x
    go_loopw [8] (fun s wr=>∃i:Nat,i≤st.disps.length∧s = .int .i64 i∧Below w1.heap.size w1 wr) (fun s _=>st.disps.length - (intOf s).toNat)
    case atStart=>exact ⟨0,Nat.zero_le _,rfl,HB.out⟩
    clear HB
    case round =>
     obtain ⟨i,hi,rfl,hb⟩:=hrel;have HB:=hdd hb;have c0:wr.cell? ⟨t,3,none⟩=some (.slice ad st.disps.length cd):=by rw [kaa (HF.out wr hb).1];rfl
     clear hb
     by_cases hlt:i<st.disps.length
     ·have d0:((i:Int)<(st.disps.length:Int)):=by omega
      obtain ⟨b,off,hbv,hbl,hr⟩:=((HR1.out wr HB.out).1.2.2.2).at hlt;obtain ⟨b',off',hbv',hbl',hr'⟩:=((HR1.out wr HB.out).2.2.2.2).at hlt;subst hbv hbv';obtain ⟨x,hx⟩:∃x,st.disps[i]=x:=⟨_,rfl⟩;rw [hx] at hr hr';have HR:=hdd (fun (W:World) (hB:Below wr.heap.size wr W)=>And.intro (show W.cell? ⟨t,3,none⟩=some (.slice (some ⟨b,off,none⟩) st.disps.length cd) by rw [kaa (HF.out W (HB.out.next hB)).1];rfl) (And.intro (show W.cell? ⟨u,3,none⟩=some (.slice (some ⟨b',off',none⟩) st.disps.length cd') by rw [kaa (HF.out W (HB.out.next hB)).2];rfl) (And.intro (kft hr hB hbl) (kft hr' hB hbl'))));clear hr hr' hx hbl hbl'
      go_upto_region 21 with fail
      refine kaj (S:=fun W=>W.cell? ⟨t,3,none⟩=some (.slice (some ⟨b,off,none⟩) st.disps.length cd)∧W.cell? ⟨u,3,none⟩=some (.slice (some ⟨b',off',none⟩) st.disps.length cd')∧W.rangeAt b (off+i*2) (prC x).toList∧W.rangeAt b' (off'+i*2) (prC x).toList) (by kernel_rfl) (HR.out wr.drew (Below.refl _ _).drew) (fun hHeld=>?_);have hbz:Below wr.heap.size wr wr.drew:=(Below.refl _ _).drew;generalize wr.drew=wz at hbz hHeld ⊢;simp only [List.toList_toArray,len,kat]
      iterate 4 (refine tz 0 ?_;simp only [Act.put,s1,s2,s3])
      refine tkx 4 (.agg (prC x)) rfl rfl (by kernel_rfl) (fun _ _ _ h=>h) (by assumption) ?_ ?_
      ·intro W hW;exact kbr (T:=116) rfl Tryz.underlying116 (by kernel_rfl) rfl hW.2.2.1
      simp only [Act.put,s1,s2,s3]
      iterate 4 (refine tz 5 ?_;simp only [Act.put,s1,s2,s3])
      refine tkx 9 (.agg (prC x)) rfl rfl (by kernel_rfl) (fun _ _ _ h=>h) (by assumption) ?_ ?_
      ·intro W hW;exact kbr (T:=116) rfl Tryz.underlying116 (by kernel_rfl) rfl hW.2.2.2
      simp only [Act.put,s1,s2,s3];refine tkx 10 (.bool false) rfl rfl (by kernel_rfl) (fun _ _ _ h=>h) (by assumption) ?_ ?_
      ·intro W hW;exact kkl rfl rfl rfl (by kernel_rfl) (k0m 9998 x)
      simp only [Act.put,s1,s2,s3];refine wpAnyH_done (by kernel_rfl) ?_ _
      try simp only [Exit.then]
      have HB3:=hdd (HB.out.next hbz);clear hHeld hbz d0
      go_wp2_with fail
      have hF:∃k:Nat,k≤st.disps.length∧(Value.int .i64 ((i+1:Nat):Int)) = .int .i64 k∧Below w1.heap.size w1 wz:=⟨i+1,by omega,rfl,HB3.out⟩;refine ⟨?_,?_⟩
      ·first|exact hF|((repeat apply Exists.intro);exact ⟨hF,rfl⟩)
      ·simp [intOf];omega
     have d0:¬ ((i:Int)<(st.disps.length:Int)):=by omega
     go_wp2_with fail
     go_ret
     exact ⟨rfl,HB1.out.next HB.out⟩
end Go.Proofs.YtknpbekoenbphaaGreatDoor
namespace Licit.Rv
open Go Licit
def Shuf (m l:List Ev):Prop:=m.length=l.length∧∃f:Nat→Nat,(∀i,i<l.length→f i<l.length)∧(∀i k,i<l.length→k<l.length→f i=f k→i=k)∧∀i,i<l.length→m.getD i ev0=l.getD (f i) ev0
theorem Shuf.refl (l:List Ev):Shuf l l:=⟨rfl,id,fun _ h=>h,fun _ _ _ _ e=>e,fun _ _=>rfl⟩
def swapL (l:List Ev) (i k:Nat):List Ev:=(l.set i (l.getD k ev0)).set k (l.getD i ev0)
theorem ksd (l:List Ev) (i k:Nat):(swapL l i k).length=l.length:=by simp [swapL]
theorem kvu {l:List Ev} {i k j:Nat} (hi:i<l.length) (hk:k<l.length) (hj:j<l.length):(swapL l i k).getD j ev0=l.getD (if j=k then i else if j=i then k else j) ev0:=by
 unfold swapL
 by_cases h1:j=k
 ·subst h1
  rw [if_pos rfl,List.getD_eq_getElem?_getD,List.getElem?_set_self (by simpa using hj),Option.getD_some]
 ·rw [if_neg h1,List.getD_eq_getElem?_getD,List.getElem?_set_ne (fun e=>h1 e.symm)]
  by_cases h2:j=i
  ·subst h2
   rw [if_pos rfl,List.getElem?_set_self hj,Option.getD_some]
  ·rw [if_neg h2,List.getElem?_set_ne (fun e=>h2 e.symm),List.getD_eq_getElem?_getD]
theorem Shuf.swap {m l:List Ev} (h:Shuf m l) {i k:Nat} (hi:i<l.length) (hk:k<l.length):Shuf (swapL m i k) l:=by
 obtain ⟨hl,f,h1,h2,h3⟩:=h;have hg:∀j,j<l.length→(if j=k then i else if j=i then k else j)<l.length:=fun j hj=>by split <;> first|exact hi|(split <;> first|exact hk|exact hj)
 refine ⟨by rw [ksd,hl],fun j=>f (if j=k then i else if j=i then k else j),fun j hj=>h1 _ (hg j hj),fun a b ha hb e=>?_,fun j hj=>?_⟩
 ·have:=h2 _ _ (hg a ha) (hg b hb) e
  revert this
  split <;> split <;> try split
  all_goals (try split)
  all_goals omega
 ·rw [kvu (by omega) (by omega) (by omega),h3 _ (hg j hj)]
theorem Shuf.emb {m l:List Ev} (h:Shuf m l) (hl:kej l):∃f,Emb f m l∧∀i,i<l.length→f i<l.length:=by
 obtain ⟨hn,f,h1,h2,h3⟩:=h;refine ⟨f,⟨fun i hi=>h1 i (by omega),fun i hi=>h3 i (by omega),fun i k hi hk e=>h2 i k (by omega) (by omega) e,fun i hi s hs=>?_⟩,h1⟩;rw [h3 i (by omega)] at hs;have hs':=hl.names _ (h1 i (by omega)) s hs;obtain ⟨e,he,hes⟩:=List.mem_map.1 hs';obtain ⟨j,hj,hje⟩:=List.getElem_of_mem he
 have hnd:((List.range l.length).map f).Nodup:=by
  rw [List.Nodup,List.pairwise_map];exact List.Pairwise.imp_of_mem (fun {a b} ha hb hab e=>hab (h2 a b (List.mem_range.1 ha) (List.mem_range.1 hb) e)) List.nodup_range
 have hsub:((List.range l.length).map f) ⊆ List.range l.length:=fun x hx=>by
  obtain ⟨i,q1,rfl⟩:=List.mem_map.1 hx;exact List.mem_range.2 (h1 i (List.mem_range.1 q1))
 have hperm:=kjl hnd List.nodup_range hsub (by simp);have hm:=hperm.mem_iff.2 (List.mem_range.2 hj);obtain ⟨q,hq,hqj⟩:=List.mem_map.1 hm;have hq':=List.mem_range.1 hq;have h4:=h3 q hq';rw [hqj,List.getD_eq_getElem?_getD,List.getD_eq_getElem?_getD,List.getElem?_eq_getElem (show q<m.length by omega),List.getElem?_eq_getElem hj,Option.getD_some,Option.getD_some,hje] at h4;refine List.mem_map.2 ⟨m[q],List.getElem_mem _,?_⟩;rw [h4,hes]
theorem any_order {m l:List Ev} (h:Shuf m l) (ho:(setE l (idsOf l)).2=0):(foldE m).1=(foldE l).1∧(foldE m).2.2=(foldE l).2.2∧(((foldE l).2.2=0∧(foldE m).2.1 = -1∧(foldE l).2.1 = -1) ∨
 ((foldE l).2.2≠0∧∃i k,i<l.length∧k<l.length∧(foldE l).2.1=(i:Int)∧(foldE m).2.1=(k:Int)∧m.getD k ev0=l.getD i ev0)):=by
 obtain ⟨hl,S,hS⟩:=set_ok.1 ho;obtain ⟨f,he,hlt⟩:=h.emb hl;obtain ⟨h1,h2,h3⟩:=kqa he hl hS h.1;refine ⟨h1,h2,?_⟩;rcases h3 with h3|⟨h3,i,hi,h4,h5⟩
 ·exact .inl h3
 ·have hil:i<l.length:=by rw [←h.1];exact hi
  exact .inr ⟨h3,f i,i,hlt i hil,hil,h5,h4,he.ev i hi⟩
end Licit.Rv
