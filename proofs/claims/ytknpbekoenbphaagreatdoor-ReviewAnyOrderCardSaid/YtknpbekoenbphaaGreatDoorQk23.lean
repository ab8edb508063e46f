/- Parts of the proofs: WkRvM. No condition beyond those at each theorem. -/
import Derived.Test.YtknpbekoenbphaaGreatDoorQk21
import Derived.Test.YtknpbekoenbphaaGreatDoorQk22
set_option linter.unusedVariables false
set_option linter.unusedSimpArgs false
set_option maxHeartbeats 16000000
set_option maxRecDepth 100000
namespace Go.Proofs.YtknpbekoenbphaaGreatDoor
open Go Go.RowKit Licit
abbrev rwC (r:Rv.Rw):Array Value:=#[.string (B r.name),.string (B r.root),.int .i64 r.bits,.int .i64 r.height,.int .i64 r.next]
abbrev pkC (p:Rv.Pk):Array Value:=#[.string (B p.name),.string (B p.digest),.int .i64 p.ups]
def rwL (l:List Rv.Rw):List Value:=(l.map fun r=>(rwC r).toList).flatten
def pkL (l:List Rv.Pk):List Value:=(l.map fun r=>(pkC r).toList).flatten
def k0n (st:Rv.St) (vp vk vd vq:Value) (base:Nat) (w:World):Prop :=
 w.ownsRow base 84 5 vp st.people.length (rwL st.people)∧w.ownsRow base 96 3 vk st.packs.length (pkL st.packs)∧w.ownsRow base 56 10 vd st.decs.length (dsL st.decs)∧w.ownsRow base 116 2 vq st.disps.length (prL st.disps)
def ki9 (l:List Rv.Ev) (w:World) (en:Ending) (w':World):Prop:=Below w.heap.size w w'∧∃vp vk vd vq,en = .returned (.tuple #[.agg #[vp,vk,vd,vq],.int .i64 (Rv.foldE l).2.1,.int .i64 (Rv.foldE l).2.2])∧k0n (Rv.foldE l).1 vp vk vd vq w.heap.size w'
theorem kqk (l:List Rv.Ev) (h:(Rv.foldE l).2.2≠0):(Rv.foldE l).1=Rv.st0:=by
 unfold Rv.foldE Rv.foldI at h ⊢
 by_cases c:(Rv.setE l (Rv.idsOf l)).2=0
 ·rw [if_pos c] at h ⊢
  cases hS:Rv.arrS l (Rv.idsOf l) with
  |none=>rfl
  |some S =>
   rw [hS] at h;dsimp only at h ⊢
   cases hr:(Rv.Cx.mk l (Rv.idsOf l) S).replay [] (Rv.ordI S (Rv.idsOf l)) with
   |none=>rw [hr] at h;exact absurd rfl h
   |some p=>rfl
 ·rw [if_neg c]
theorem khj {P:Program} {fn:Func} {p t1 t2:Tmp} {ty:TypeId} (h:fn.results = #[.cell p ty,.tmp t1,.tmp t2]) (tmps:Array Value) (w:World) (g:Nat) (t:TypeId) (cs:Array Value) (fr:Nat × Nat) (d:TypeDesc)
 (hp:tmps.getD p undef = .pointer (some ⟨g,0,none⟩)) (hg:w.heap[g]? = some (.cells cs t fr)) (hu:P.underlying ty=some d) (hd:(match d with|.struct _|.array _ _=>true|_=>false)=true) (hi:(P.info? ty).map (·.size)=some cs.size) :
 (results fn tmps).run P w = .ok (.tuple #[.agg cs,tmps.getD t1 undef,tmps.getD t2 undef]) w:=by
 have hp':tmps[p]?.getD undef = .pointer (some ⟨g,0,none⟩):=by simpa using hp
 simp [results,h,hp',asAddr,run_loadVar_row w g t ty cs fr d hg hu hd hi]
theorem kcp {P:Program} {fn:Func} {p t1 t2:Tmp} {ty:TypeId} (h:fn.results = #[.cell p ty,.tmp t1,.tmp t2]) {a:Act} {w:World} {R:Ending→World→Prop} (g:Nat) (t:TypeId) (cs:Array Value) (fr:Nat × Nat) (d:TypeDesc)
 (hp:a.tmps.getD p undef = .pointer (some ⟨g,0,none⟩)) (hg:w.heap[g]? = some (.cells cs t fr)) (hu:P.underlying ty=some d) (hd:(match d with|.struct _|.array _ _=>true|_=>false)=true) (hi:(P.info? ty).map (·.size)=some cs.size)
 (hde:a.defers=[]) (hR:R (.returned (.tuple #[.agg cs,a.tmps.getD t1 undef,a.tmps.getD t2 undef])) w):bodyPost P fn R .ret a w :=
 bodyPost_ret (khj h _ w g t cs fr d hp hg hu hd hi) hde hR
abbrev kn6:Array Value:=#[.slice none 0 0,.slice none 0 0,.slice none 0 0,.slice none 0 0]
theorem kwt (w:World):(zeroValue 84).run Tryz.prog w = .ok (.agg (rwC ⟨[],[],0,0,0⟩)) w:=by kernel_rfl
def kmw (c:Rv.Cx) (A:List Nat) (b:Nat) (w:World):Prop:=∃Lp,kbi Tryz.prog 9 kS w b Lp∧(∀s,s∈kbc Lp ↔ ∃k∈A,(c.ev k).author=s)∧∀s,(kb2 Lp s).getD (.agg (rwC ⟨[],[],0,0,0⟩)) = .agg (rwC (c.person A s))
def kh5 (c:Rv.Cx) (A:List Nat) (b:Nat) (w:World):Prop:=∃Li,kbi Tryz.prog 9 kS w b Li∧(∀s,s∈kbc Li ↔ ∃k∈A,(c.ev k).kind=2∧(c.ev k).pkg=s)∧(∀s,s∈kbc Li→kb2 Li s=some (.agg (pkC (c.pack A s))))∧∀s,s ∉ kbc Li→(c.pack A s).ups=0
theorem kmw.step {c:Rv.Cx} {A:List Nat} {i b:Nat} {w':World} {Lp:List (Bs × Value)} {R:Rv.Rw} (hm:kbi Tryz.prog 9 kS w' b (ki0 Lp (c.ev i).author (.agg (rwC R)))) (hk:∀s,s∈kbc Lp ↔ ∃k∈A,(c.ev k).author=s) (hv:∀s,(kb2 Lp s).getD (.agg (rwC ⟨[],[],0,0,0⟩)) = .agg (rwC (c.person A s))) (hR:c.person (A++[i]) (c.ev i).author=R):kmw c (A++[i]) b w':=by
 refine ⟨_,hm,fun s=>?_,fun s=>?_⟩
 ·rw [kcs,hk]
  constructor
  ·rintro (rfl|⟨k,h1,h2⟩)
   ·exact ⟨i,by simp,rfl⟩
   ·exact ⟨k,by simp [h1],h2⟩
  ·rintro ⟨k,h1,h2⟩
   rcases List.mem_append.1 h1 with h1|h1
   ·exact .inr ⟨k,h1,h2⟩
   ·simp at h1;subst h1;exact .inl h2.symm
 ·rw [kfa]
  by_cases h:(c.ev i).author=s
  ·rw [if_pos h,←h,hR];rfl
  ·rw [if_neg h,hv,Rv.person_other c A i s h]
theorem kh5.other {T:Nat→Prop} {c:Rv.Cx} {A:List Nat} {i b:Nat} {w w':World} (h:kh5 c A b w) (hk:(c.ev i).kind≠2) (hK:ka7 T w w') (hT:¬ T b):kh5 c (A++[i]) b w':=by
 obtain ⟨Li,h1,h2,h3,h4⟩:=h;refine ⟨Li,h1.kept hK hT,fun s=>?_,fun s hs=>?_,fun s hs=>?_⟩
 ·rw [h2]
  constructor
  ·rintro ⟨k,q1,q2⟩;exact ⟨k,by simp [q1],q2⟩
  ·rintro ⟨k,q1,q2⟩
   rcases List.mem_append.1 q1 with q1|q1
   ·exact ⟨k,q1,q2⟩
   ·simp at q1;subst q1;exact absurd q2.1 hk
 ·rw [Rv.pack_no c A i s (fun q=>hk q.1)];exact h3 s hs
 ·rw [Rv.pack_no c A i s (fun q=>hk q.1)];exact h4 s hs
theorem kh5.step {c:Rv.Cx} {A:List Nat} {i b:Nat} {w':World} {Li:List (Bs × Value)} (hm:kbi Tryz.prog 9 kS w' b (ki0 Li (c.ev i).pkg (.agg (pkC (c.pack (A++[i]) (c.ev i).pkg))))) (h2:∀s,s∈kbc Li ↔ ∃k∈A,(c.ev k).kind=2∧(c.ev k).pkg=s) (h3:∀s,s∈kbc Li→kb2 Li s=some (.agg (pkC (c.pack A s)))) (h4:∀s,s ∉ kbc Li→(c.pack A s).ups=0) (hk:(c.ev i).kind=2):kh5 c (A++[i]) b w':=by
 refine ⟨_,hm,fun s=>?_,fun s hs=>?_,fun s hs=>?_⟩
 ·rw [kcs,h2]
  constructor
  ·rintro (rfl|⟨k,q1,q2⟩)
   ·exact ⟨i,by simp,hk,rfl⟩
   ·exact ⟨k,by simp [q1],q2⟩
  ·rintro ⟨k,q1,q2⟩
   rcases List.mem_append.1 q1 with q1|q1
   ·exact .inr ⟨k,q1,q2⟩
   ·simp at q1;subst q1;exact .inl q2.2.symm
 ·rw [kfa]
  by_cases h:(c.ev i).pkg=s
  ·rw [if_pos h,h]
  ·rw [if_neg h,Rv.pack_no c A i s (fun q=>h q.2)]
   exact h3 s ((kcs.1 hs).resolve_left (Ne.symm h))
 ·have h:¬ ((c.ev i).kind=2∧(c.ev i).pkg=s):=fun q=>hs (kcs.2 (.inl q.2.symm))
  rw [Rv.pack_no c A i s h];exact h4 s (fun q=>hs (kcs.2 (.inr q)))
theorem kh5.lt2 {c:Rv.Cx} {A:List Nat} {b:Nat} {w:World} (h:kh5 c A b w):b<w.heap.size:=by
 obtain ⟨Li,h1,_⟩:=h;exact h1.lt
theorem kld {P:Program} {w:World} {ops:Array Oper} {rest:List Oper} {o:Oper} {a:Act} {Q:Exit→Act→World→Prop} (hg:o.guard=none) (t:TypeId) (x:Operand) (i:Nat) (hop:o.op=Op.field t x i) (u:Value) (hx:a.eval x=u) (v:Value) (hr:(Instr.field t u i).run P w = .ok v w)
 (hK:wpList P ops Q rest (a.put o.dst v) w):wpList P ops Q (o :: rest) a w:=by
 refine wpList_plain hg fun K' hK'=>?_
 unfold Oper.wp;simp only [execOp,hop,hx,Sem.run_bind,hr,Result.andThen,Sem.run_pure];exact hK' _ _ hK
theorem kvo (a b:Bs) (n:Int) (w:World):(Instr.field 96 (.agg #[.string (B a),.string (B b),.int .i64 n]) 2).run Tryz.prog w = .ok (.int .i64 n) w:=by kernel_rfl
theorem kkp {o:Oper} {ev:Operand→Value} {x:Operand} (ho:o.op = .load 41 x) {W:World} {b k:Nat} {cs:List Value} (hl:cs.length=2) (hx:ev x = .pointer (some ⟨b,k,none⟩)) (h:W.rangeAt b k cs):(execOp ev o).run Tryz.prog W = .ok (.value (.agg cs.toArray)) W:=by
 have hi:(Tryz.prog.info? 41).map (·.size)=some cs.length:=by rw [hl];kernel_rfl
 unfold execOp;simp only [ho,hx,Instr.loadAt,Instr.sureAddr,Sem.run_bind,Sem.run_pure,Result.andThen_ok,run_loadVar_mid W b k 41 cs _ h Tryz.underlying41 rfl hi]
theorem kwn (w:World):(zeroValue 96).run Tryz.prog w = .ok (.agg (pkC ⟨[],[],0⟩)) w:=by kernel_rfl
theorem kdm {P:Program} {ops:Array Oper} {op:Oper} {a:Act} {w:World} {K:Act→World→Prop} {Q:Exit→Act→World→Prop} {E:Prop} (hgd:op.guard=none) (ty:TypeId) (x y:Operand) (ho:op.op = .store ty x y)
 (b o:Nat) (cells:Array Value) (hx:a.eval x = .pointer (some ⟨b,o,none⟩)) (hy:a.eval y = .agg cells) (C:Array Value) (T:TypeId) (hg:w.heap[b]? = some (.cells C T (0,0))) (hn:o+cells.size≤C.size)
 (hi:(P.info? ty).map (·.size)=some cells.size) (h1:cells.all (·.oneCell')=true)
 (h:∀w',w'.heap[b]? = some (.cells (kms C o cells.toList) T (0,0))→ka7 (Licit.One b) w w'→K (a.put op.dst undef) w'):if Region.wanted op (yielded ops a.tmps)=true then Oper.wp P op a w K Q else E:=by
 rw [if_pos (by simp [Region.wanted,hgd])];exact wp_store_mid ty x y ho b o cells hx hy (kfl hg o _ hn) hi h1 (h _ (kcu _ _ _ _ hg) (kb9 _ _ _ _ (ka7.refl _ _) (.inr rfl)))
theorem kuq (l:List Rv.Rw) (r:Rv.Rw):rwL (l++[r])=rwL l++(rwC r).toList:=by simp [rwL]
theorem kvx (l:List Rv.Pk) (r:Rv.Pk):pkL (l++[r])=pkL l++(pkC r).toList:=by simp [pkL]
theorem ko2 {α β:Type} (f:α→β) (l:List α) {k:Nat} (h:k<l.length):(l.take (k+1)).map f=(l.take k).map f++[f l[k]]:=by
 rw [List.take_succ_eq_append_getElem h,List.map_append];rfl
def FdA (c:Rv.Cx) (O:List Nat) (ks:List Bs) (rb:Nat) (w3:World) (n:Value) (wx:World):Prop:=∃k:Nat,k≤ks.length∧n = .int .i64 k∧ka7 (Licit.One rb) w3 wx∧∃v,wx.heap[rb]? = some (.cells #[v,.slice none 0 0,.slice none 0 0,.slice none 0 0] 34 (0,0))∧wx.ownsRow w3.heap.size 84 5 v k (rwL ((ks.take k).map (c.person O)))
def FdB (c:Rv.Cx) (O:List Nat) (ks:List Bs) (rb:Nat) (v:Value) (w3:World) (n:Value) (wx:World):Prop:=∃k:Nat,k≤ks.length∧n = .int .i64 k∧ka7 (Licit.One rb) w3 wx∧∃v2,wx.heap[rb]? = some (.cells #[v,v2,.slice none 0 0,.slice none 0 0] 34 (0,0))∧wx.ownsRow w3.heap.size 96 3 v2 k (pkL ((ks.take k).map (c.pack O)))
theorem kdj {rb:Nat} {w w':World} {base:Nat} {e:TypeId} {size:Nat} {v:Value} {n:Nat} {xs:List Value} (h:w.ownsRow base e size v n xs) (hk:ka7 (Licit.One rb) w w') (hb:rb<base):w'.ownsRow base e size v n xs:=kay h hk fun k h1 e=>by have:k=rb:=e;omega
theorem klg {l l':List Bs} (hn:l.Nodup) (h:∀z∈l,z∈l'):l.length≤l'.length:=hn.length_le_of_subset h
theorem ksb (l:List (Bs × Bs)):(Rv.sortP l).length=l.length:=by rw [Rv.sortP_eq];exact (Rv.sortG_perm _ _).length_eq
def kra (c:Rv.Cx) (O:List Nat) (w1:World) (n:Value) (wr:World):Prop:=∃k:Nat,k≤O.length∧n = .int .i64 k∧Below w1.heap.size w1 wr∧kmw c (O.take k) w1.heap.size wr∧kh5 c (O.take k) (w1.heap.size+1) wr
theorem kfm (v:Value) (l:List Rv.Ev) (w:World) (h:kbt v l w) (ht:Tab w):Calls Tryz.prog 15 #[v] w (ki9 l w):=by
 have HA:=hdd (fun (W:World) (hb:Below w.heap.size w W)=>kpz v l W (h.below hb) (ht.same hb));have hmm:=@run_makeMap Tryz.prog;clear h ht
 by_cases hE:(Rv.foldE l).2.2=0
 rotate_left
 ·have d1:((Rv.foldE l).2.2 == 0)=false:=beq_eq_false_iff_ne.2 hE
  have d2:((Rv.foldE l).2.2 != 0)=true:=by rw [bne,d1];rfl
  have HF:=hdd (kqk l hE);clear hE
  go_enter Tryz.func15,Tryz.ntmps15
  go_wp2_with fail
  have hb0:Below w.heap.size w (w.alloc (.cells kn6 34)):=(Below.refl _ _).alloc (Nat.le_refl _) _;refine (HA.out _ hb0).mono ?_;intro en w1 hpost;unfold kg2 at hpost;obtain ⟨hb1,jv,nv,rfl,-⟩:=hpost;have hw1:w1.heap[w.heap.size]? = some (.cells kn6 34 (0,0)):=kab hb1 (by simp) (kai w _);have HB1:=hdd (hb0.next hb1);have HW1:=hdd hw1;clear hb0 hb1 hw1
  go_wp2_with (first
   |(refine kac rfl 34 _ _ rfl w.heap.size rfl kn6 rfl 34 kn6 HW1.out (by kernel_rfl) rfl (by simp [kn6,Value.oneCell']) ?_
     intro w2 hw2 hk2;have HW2:=hdd hw2;have HB2:=hdd (HB1.out.trans (hk2.below HB1.out.size (fun q hq e=>by have:q=w.heap.size:=e;omega)));clear hw2 hk2)
   |fail)
  refine kcp rfl w.heap.size 34 _ (0,0) _ rfl HW2.out rfl rfl (by kernel_rfl) rfl ?_;unfold ki9;refine ⟨HB2.out,_,_,_,_,rfl,?_⟩;rw [HF.out];exact ⟨World.ownsRow_nil _ _ _ _,World.ownsRow_nil _ _ _ _,World.ownsRow_nil _ _ _ _,World.ownsRow_nil _ _ _ _⟩
 ·go_enter Tryz.func15,Tryz.ntmps15
  go_wp2_with fail
  have hb0:Below w.heap.size w (w.alloc (.cells kn6 34)):=(Below.refl _ _).alloc (Nat.le_refl _) _;refine (HA.out _ hb0).mono ?_;intro en w1 hpost;unfold kg2 at hpost;obtain ⟨hb1,jv,nv,rfl,hok⟩:=hpost;obtain ⟨S,pt,pb,bj,bE,bT,bN,wa,hS,hfe,rfl,hN,hJ,hown⟩:=hok hE;obtain ⟨c,hc⟩:∃c:Rv.Cx,c=Rv.Cx.mk l (Rv.idsOf l) S:=⟨_,rfl⟩;obtain ⟨O,hO⟩:∃O,Rv.ordI S (Rv.idsOf l)=O:=⟨_,rfl⟩;rw [←hc,hO] at hfe hJ;rw [←hc] at hN;rw [hO] at hown;obtain ⟨a,cap,rfl⟩:=kag hown;have hw1:w1.heap[w.heap.size]? = some (.cells kn6 34 (0,0)):=kab hb1 (by simp) (kai w _)
  have hOl:O.length=l.length:=by
   have h1:=(Rv.arrS_lower hS).2.1;rw [←hO,(Rv.ordI_perm S _).length_eq,List.length_range,h1]
  have HFe:=hdd hfe;have HB1:=hdd (hb0.next hb1);have HW1:=hdd hw1;have HN:=hdd hN;have HJ:=hdd hJ;have HOw:=hdd hown;have HOl:=hdd hOl;have hle:l.length≤1024:=by have:=hN.ok.le;rw [hc] at this;exact this
  have hcl:c.l=l:=by rw [hc]
  have HC:=hdd hcl;rw [hfe];clear hfe hb0 hb1 hw1 hN hJ hown hOl hok hE HA hS hO hc hcl;have hm2:Below w1.heap.size w1 ((w1.alloc (.map #[] 0)).alloc (.map #[] 0)):=((Below.refl _ _).alloc (Nat.le_refl _) _).alloc (by simp) _;have hpp:kmw c (O.take 0) w1.heap.size ((w1.alloc (.map #[] 0)).alloc (.map #[] 0)):=⟨[],(kbi.made w1).below (B:=(w1.alloc (.map #[] 0)).heap.size) ((Below.refl _ _).alloc (Nat.le_refl _) _) (by simp),fun s=>by simp [kbc],fun s=>by rw [List.take_zero,Rv.person_zero];rfl⟩
  have hpk:kh5 c (O.take 0) (w1.heap.size+1) ((w1.alloc (.map #[] 0)).alloc (.map #[] 0)):=by
   have h:=kbi.made (P:=Tryz.prog) (k:=9) (kv:=kS) (w1.alloc (.map #[] 0));rw [World.size_alloc] at h;exact ⟨[],h,fun s=>by simp [kbc],fun s hs=>by simp [kbc] at hs,fun s _=>by rw [List.take_zero];rfl⟩
  have HM2:=hdd hm2;have HPp:=hdd hpp;have HPk:=hdd hpk;clear hm2 hpp hpk
  go_wp2
  go_loopw [12,13,14,36] (fun _ _ _ n wr=>kra c O w1 n wr) (fun _ _ _ n _=>l.length - (intOf n).toNat)
  case atStart=>unfold kra;exact ⟨0,Nat.zero_le _,rfl,HM2.out,HPp.out,HPk.out⟩
  case round =>
   obtain ⟨k,hk,rfl,hb,hp,hi⟩:=hrel;have HB:=hdd hb;have HP:=hdd hp;have HI:=hdd hi;have hol:=HOl.out;clear hb hp hi
   by_cases hlt:k<l.length
   ·obtain ⟨g0,cv,hve,-,-,-⟩:=kax HOw.out (by omega)
    simp only [Value.slice.injEq,true_and] at hve;obtain ⟨rfl,rfl⟩:=hve;obtain ⟨i,hi⟩:∃i,O[k]=i:=⟨_,rfl⟩;have hiO:i∈O:=by rw [←hi];exact List.getElem_mem _
    have hil:i<c.l.length:=HJ.out.mem i hiO;have how:=kci HOw.out (w':=wr) fun q hq=>HB.out.block q (HOw.out.lt q hq).2
    have cd:wr.cell? ⟨g0,k,none⟩=some (ptr (pt i)):=by
     rw [kce how (by rw [List.length_map];omega),List.getElem?_map,List.getElem?_eq_getElem (by omega),hi];rfl
    have cd':wr.cell? ⟨g0,0+k,none⟩=some (ptr (pt i)):=by rw [Nat.zero_add];exact cd
    obtain ⟨⟨r2,na,nc,ta,tc,sa,sc,ha,hc,ra,rc,-,hnd⟩,-,-⟩:=HN.out.at (HJ.out.below.trans (HB.out.mono HJ.out.below.size)) hil;have htk:O.take (k+1)=O.take k++[i]:=by rw [List.take_succ_eq_append_getElem (by omega),hi]
    have HRg:=hdd (keh hnd);have HOd:=hdd (evS1 (c.ev i) na nc ta tc sa sc ha hc ra rc);have HTk:=hdd htk;have HIl:=hdd hil
    have hjn:(c.ev i).kind=1→∀q∈O.take k,¬ ((c.ev q).kind=1∧(c.ev q).author=(c.ev i).author):=fun h1 q hq hqk=>by
     have hz:∀m,m<c.l.length→(c.ev m).kind=1→(c.ev m).number=0:=fun m hm hk1=>by
      have hv:=HN.out.ok.valid m hm;have hv2:Rv.validB (c.ev m)=true:=hv;unfold Rv.validB Rv.kindB at hv2;rw [if_pos hk1] at hv2;simp only [Bool.and_eq_true,decide_eq_true_eq] at hv2;exact hv2.1.1.2.1.1
     obtain ⟨j,hj,hjq⟩:=List.mem_iff_getElem.1 hq;rw [List.length_take] at hj;rw [List.getElem_take] at hjq;have hnd:=HJ.out.trn.nodup kj2;rw [kbc,List.map_map] at hnd;have hqO:q∈O:=List.mem_of_mem_take hq
     have hji:j=k:=by
      refine (List.getElem_inj (i:=j) (j:=k) (h₀:=by simp;omega) (h₁:=by simp;omega) hnd).1 ?_;rw [List.getElem_map,List.getElem_map,hjq,hi];show ((c.ev q).author,(c.ev q).number)=((c.ev i).author,(c.ev i).number);rw [hqk.2,hz q (HJ.out.mem q hqO) hqk.1,hz i hil h1]
     omega
    have HJn0:=hdd hjn;clear hjn
    have hau:(c.ev i).author.length≤maxLen:=by
     have h1:=(kda (HN.out.ok.valid i hil)).2.2.2.2;exact Nat.le_trans h1 (by decide)
    obtain ⟨Lp,hLp,hLk,hLv⟩:=HP.out;have HLp:=hdd hLp;have HLk:=hdd hLk;have HLv:=hdd hLv
    have hnx:0≤(c.person (O.take k) (c.ev i).author).next∧(c.person (O.take k) (c.ev i).author).next≤1024:=by
     have h1:(c.person (O.take k) (c.ev i).author).next=(((O.take k).filter fun q=>decide ((c.ev q).author=(c.ev i).author)).length:Int):=by unfold Rv.Cx.person;split <;> rfl
     have h2:=List.length_filter_le (fun q=>decide ((c.ev q).author=(c.ev i).author)) (O.take k);have h3:(O.take k).length≤O.length:=by rw [List.length_take];omega
     omega
    obtain ⟨R,hR⟩:∃R,R=c.person (O.take k) (c.ev i).author:=⟨_,rfl⟩;rw [←hR] at hnx;have HR:=hdd hR;have HRv:=hdd (show (kb2 Lp (c.ev i).author).getD (.agg (rwC ⟨[],[],0,0,0⟩)) = .agg (rwC R) by rw [hLv,hR]);obtain ⟨hn0,hn1⟩:=hnx;clear hiO hil how hnd htk hLp hLk hLv hR hi
    go_upto_region 9 with (first
     |(refine wpList_load_mid rfl 45 _ rfl (pt i) _ rfl (evS (c.ev i) na nc ta tc sa sc ha hc ra rc).toList _ HRg.out rfl rfl (by kernel_rfl) ?_)
     |(refine kac rfl 45 _ _ rfl wr.heap.size rfl (evS (c.ev i) na nc ta tc sa sc ha hc ra rc) rfl 45 evZ (kak rfl rfl) (by kernel_rfl) rfl HOd.out ?_
       intro w2 hw2 hk2;have HW2:=hdd hw2;have HB2:=hdd (show Below wr.heap.size wr w2 from ((Below.refl wr.heap.size wr).alloc (Nat.le_refl _) _).trans (hk2.below (B:=wr.heap.size) (by simp) (fun q hq e=>by have:q=wr.heap.size:=e;omega)));clear hw2 hk2)
     |fail)
    obtain ⟨e0,e1,-⟩:=ka3 HW2.out;have HL2:=hdd (HLp.out.below HB2.out HLp.out.lt);clear cd cd'
    go_upto_region 11 with (first
     |(at_lookup;refine kbl _ rfl _ _ 89 false rfl 9 84 kS kcx Tryz.underlying89 (.agg (rwC ⟨[],[],0,0,0⟩)) kwt w1.heap.size Lp rfl HL2.out (c.ev i).author rfl (kbp hau) ?_;rw [HRv.out];simp only [Bool.false_eq_true,if_false])
     |(refine kac rfl 84 _ _ rfl w2.heap.size rfl (rwC R) rfl 84 (rwC ⟨[],[],0,0,0⟩) (kak rfl rfl) (by kernel_rfl) rfl (by simp [rwC,Value.oneCell']) ?_
       intro w3 hw3 hk3;have HW3:=hdd hw3;have HB3:=hdd (show Below w2.heap.size w2 w3 from ((Below.refl w2.heap.size w2).alloc (Nat.le_refl _) _).trans (hk3.below (B:=w2.heap.size) (by simp) (fun q hq e=>by have:q=w2.heap.size:=e;omega)));have cr4:w3.cell? ⟨w2.heap.size,4,none⟩=some (.int .i64 R.next):=(by rw [kaa hw3];rfl);clear hw3 hk3)
     |(refine kae rfl 3 _ _ rfl w2.heap.size 4 rfl (.int .i64 (R.next+1)) rfl rfl rfl _ 84 HW3.out (by simp) (by kernel_rfl) ?_
       intro w4 hw4 hk4;have HW4:=hdd (show w4.heap[w2.heap.size]? = some (.cells (rwC { R with next:=R.next+1 }) 84 (0,0)) from hw4);have HB4:=hdd (show Below w2.heap.size w2 w4 from HB3.out.trans (hk4.below (B:=w2.heap.size) HB3.out.size (fun q hq e=>by have:q=w2.heap.size:=e;omega)));clear hw4 hk4)
     |fail)
    have f0:=(HB4.out.cell (p:=⟨wr.heap.size,0,none⟩) (kad HW2.out)).trans e0;have f1:=(HB4.out.cell (p:=⟨wr.heap.size,1,none⟩) (kad HW2.out)).trans e1;have HL4:=hdd (HL2.out.below HB4.out HL2.out.lt);have HB14:=hdd (show Below w1.heap.size w1 w4 from HB.out.trans ((HB2.out.trans (HB4.out.mono HB2.out.size)).mono HB.out.size));have HBr4:=hdd (show Below wr.heap.size wr w4 from HB2.out.trans (HB4.out.mono HB2.out.size));clear e0 e1 cr4
    by_cases h1:(c.ev i).kind=1
    ·have HJn:=hdd (HJn0.out h1)
     obtain ⟨-,-,-,-,f4,f5,f6,-⟩:=ka3 (kab HB4.out (kad HW2.out) HW2.out)
     have hky:∀W:World,ka7 (Licit.One w2.heap.size) w4 W→(W.cell? ⟨wr.heap.size,1,none⟩=some (.string (B (c.ev i).author))∧W.cell? ⟨wr.heap.size,4,none⟩=some (.string (B (c.ev i).root)))∧W.rangeAt wr.heap.size 5 [.int .i64 (c.ev i).bits,.int .i64 (c.ev i).height]:=fun W hk=>by
      have hlt:=kad (kab HB4.out (kad HW2.out) HW2.out);have hne:¬ Licit.One w2.heap.size wr.heap.size:=fun e=>by have:wr.heap.size=w2.heap.size:=e;have:=kad HW2.out;omega
      refine ⟨⟨(hk.cell hlt hne).trans f1,(hk.cell hlt hne).trans f4⟩,fun j u hu=>?_⟩
      match j,hu with
      |0,hu=>cases hu;exact (hk.cell hlt hne).trans f5
      |1,hu=>cases hu;exact (hk.cell hlt hne).trans f6
     have HKy:=hdd hky;rw [h1] at f0;clear hky f4 f5 f6
     go_upto_region 13 with fail
     refine kaj (S:=fun W:World=>(W.cell? ⟨wr.heap.size,1,none⟩=some (.string (B (c.ev i).author))∧W.cell? ⟨wr.heap.size,4,none⟩=some (.string (B (c.ev i).root)))∧W.rangeAt wr.heap.size 5 [.int .i64 (c.ev i).bits,.int .i64 (c.ev i).height]) (by kernel_rfl) (HKy.out _ (ka7.of_below (Below.refl _ _).drew)) (fun hHeld=>?_);simp only [List.toList_toArray,len,kat]
     iterate 5 (refine tz 0 ?_;simp only [Act.put,s1,s2,s3])
     refine tkx 5 (.agg #[.int .i64 (c.ev i).bits,.int .i64 (c.ev i).height]) rfl rfl (by kernel_rfl) (fun _ _ _ h=>h) (by assumption) ?_ ?_
     ·intro W hW;exact kkp rfl rfl rfl hW.2
     simp only [Act.put,s1,s2,s3]
     (refine tz 6 ?_;simp only [Act.put,s1,s2,s3])
     have h7x:=(show w4.drew.heap[w2.heap.size]? = _ from HW4.out);have Hh7:=hdd h7x;clear h7x;refine ar2 7 (by kernel_rfl) rfl (fun K hK=>?_);refine kan rfl 9 _ _ rfl w2.heap.size 0 rfl (.string (B (c.ev i).author)) rfl rfl rfl _ 84 Hh7.out (by simp) (by kernel_rfl) ?_;intro x7 hy7 kx7;have Hh8:=hdd (show x7.heap[w2.heap.size]? = some (.cells #[.string (B (c.ev i).author),.string (B R.root),.int .i64 R.bits,.int .i64 R.height,.int .i64 (R.next+1)] 84 (0,0)) from hy7);have Hk8:=hdd (show ka7 (Licit.One w2.heap.size) w4 x7 from (ka7.of_below (Below.refl _ _).drew).trans kx7);refine hK.out _ _ (HKy.out _ Hk8.out) (fun hHeld=>?_);clear hK K Hh7 kx7 hy7;simp only [Act.put,s4,s5,s6,s1,s2,s3]
     (refine tz 8 ?_;simp only [Act.put,s1,s2,s3])
     refine ar2 9 (by kernel_rfl) rfl (fun K hK=>?_);refine kan rfl 9 _ _ rfl w2.heap.size 1 rfl (.string (B (c.ev i).root)) rfl rfl rfl _ 84 Hh8.out (by simp) (by kernel_rfl) ?_;intro x9 hy9 kx9;have Hh9:=hdd (show x9.heap[w2.heap.size]? = some (.cells #[.string (B (c.ev i).author),.string (B (c.ev i).root),.int .i64 R.bits,.int .i64 R.height,.int .i64 (R.next+1)] 84 (0,0)) from hy9);have Hk9:=hdd (Hk8.out.trans kx9);refine hK.out _ _ (HKy.out _ Hk9.out) (fun hHeld=>?_);clear hK K Hh8 kx9 hy9;simp only [Act.put,s4,s5,s6,s1,s2,s3]
     (refine tz 10 ?_;simp only [Act.put,s1,s2,s3])
     refine ar2 11 (by kernel_rfl) rfl (fun K hK=>?_);refine kdm rfl 41 _ _ rfl w2.heap.size 2 #[.int .i64 (c.ev i).bits,.int .i64 (c.ev i).height] rfl rfl _ 84 Hh9.out (by simp) (by kernel_rfl) (by simp [Value.oneCell']) ?_;intro x11 hy11 kx11;have HW6:=hdd (show x11.heap[w2.heap.size]? = some (.cells (rwC ⟨(c.ev i).author,(c.ev i).root,(c.ev i).bits,(c.ev i).height,R.next+1⟩) 84 (0,0)) from hy11);have HK6:=hdd (Hk9.out.trans kx11);refine hK.out _ _ (HKy.out _ HK6.out) (fun hHeld=>?_);clear hK K Hh9 kx11 hy11 Hk8 Hk9
     try simp only [Act.put,s4,s5,s6,s1,s2,s3]
     refine wpAnyH_done (by kernel_rfl) ?_ _
     try simp only [Exit.then]
     obtain ⟨⟨g1,-⟩,-⟩:=HKy.out _ HK6.out;have hw2l:=HB2.out.size;have HL6:=hdd (HL4.out.kept HK6.out (fun e=>by have:w1.heap.size=w2.heap.size:=e;have:=HLp.out.lt;omega));have HB6:=hdd (show Below w1.heap.size w1 x11 from HB14.out.trans (HK6.out.below HB14.out.size (fun q hq e=>by have:q=w2.heap.size:=e;have:=HB.out.size;omega)))
     have HRn:=hdd (show c.person (O.take k++[i]) (c.ev i).author=⟨(c.ev i).author,(c.ev i).root,(c.ev i).bits,(c.ev i).height,R.next+1⟩ by
      rw [Rv.person_join c (O.take k) i _ rfl h1 HJn.out,HR.out])
     have HK2:=hdd (show (c.ev i).kind≠2 by omega);have HKr:=hdd (show ka7 (Licit.One w2.heap.size) wr x11 from (ka7.of_below HBr4.out).trans HK6.out);clear hHeld h1
     go_wp2_with (first
      |(refine wpList_load_mid rfl 84 _ rfl w2.heap.size 0 rfl (rwC ⟨(c.ev i).author,(c.ev i).root,(c.ev i).bits,(c.ev i).height,R.next+1⟩).toList _ (kap HW6.out) rfl rfl (by kernel_rfl) ?_)
      |(at_mapUpdate;refine kbb _ rfl _ _ _ 89 rfl 9 84 kS kcx Tryz.underlying89 w1.heap.size Lp rfl HL6.out (c.ev i).author rfl (.agg (rwC ⟨(c.ev i).author,(c.ev i).root,(c.ev i).bits,(c.ev i).height,R.next+1⟩)) rfl (kbp hau) ?_
        intro w5 hm5 hk5 hs5;have HM5:=hdd hm5;have HK5:=hdd hk5;clear hm5 hk5 hs5)
      |fail)
     go_roundw
     case rel =>
      unfold kra;exact ⟨k+1,by omega,by go_num,HB6.out.trans (HK5.out.below HB6.out.size (fun q hq e=>by have:q=w1.heap.size:=e;omega)),by rw [HTk.out];exact kmw.step HM5.out HLk.out HLv.out HRn.out,by rw [HTk.out];exact kh5.other HI.out HK2.out (T:=fun q=>q=w2.heap.size∨q=w1.heap.size) ((HKr.out.mono (fun q _ e=>.inl e)).trans (HK5.out.mono (fun q _ e=>.inr e))) (fun e=>by rcases e with e|e <;> have:=(HI.out).lt2 <;> omega)⟩
     case measure=>simp [intOf];omega
    ·by_cases h2:(c.ev i).kind=2
     ·have d1:((c.ev i).kind == 1)=false:=beq_eq_false_iff_ne.2 h1
      have HRn:=hdd (show c.person (O.take k++[i]) (c.ev i).author = { R with next:=R.next+1 } by rw [Rv.person_more c (O.take k) i _ rfl h1,HR.out]);obtain ⟨-,-,-,-,-,-,-,f7,f8,-⟩:=ka3 (kab HB4.out (kad HW2.out) HW2.out);obtain ⟨Li,hLi,hI2,hI3,hI4⟩:=HI.out
      have hpl:(c.ev i).pkg.length≤maxLen:=by
       obtain ⟨⟨_,na9,nc9,ta9,tc9,sa9,sc9,ha9,hc9,ra9,rc9,hev9,-⟩,-,-⟩:=HN.out.at (HJ.out.below.trans (HB.out.mono HJ.out.below.size)) HIl.out;exact Nat.le_trans hev9.1.pkg (by unfold maxLen;omega)
      obtain ⟨P0,hP0,hU0⟩:∃P0:Rv.Pk,(kb2 Li (c.ev i).pkg).getD (.agg (pkC ⟨[],[],0⟩)) = .agg (pkC P0)∧P0.ups=(c.pack (O.take k) (c.ev i).pkg).ups:=by
       by_cases hm:(c.ev i).pkg∈kbc Li
       ·exact ⟨_,by rw [hI3 _ hm];rfl,rfl⟩
       ·exact ⟨⟨[],[],0⟩,by rw [kea.2 hm];rfl,(hI4 _ hm).symm⟩
      have hub:0≤P0.ups∧P0.ups≤1024:=by
       rw [hU0];have h2:=List.length_filter_le (fun q=>decide ((c.ev q).kind=2) && decide ((c.ev q).pkg=(c.ev i).pkg)) (O.take k);have h3:(O.take k).length≤O.length:=by rw [List.length_take];omega
       have h4:(c.pack (O.take k) (c.ev i).pkg).ups=(((O.take k).filter fun q=>decide ((c.ev q).kind=2) && decide ((c.ev q).pkg=(c.ev i).pkg)).length:Int):=rfl;omega
      obtain ⟨hu0,hu1⟩:=hub;have HPk2:=hdd (show c.pack (O.take k++[i]) (c.ev i).pkg=⟨(c.ev i).pkg,(c.ev i).digest,P0.ups+1⟩ by rw [Rv.pack_yes c _ i _ h2 rfl,hU0]);have HP0:=hdd (show (kb2 Li (c.ev i).pkg).getD (.agg (pkC ⟨[],[],0⟩)) = .agg #[.string (B P0.name),.string (B P0.digest),.int .i64 P0.ups] from hP0);have HI2:=hdd hI2;have HI3:=hdd hI3;have HI4:=hdd hI4;have HLi4:=hdd (hLi.below HBr4.out hLi.lt);have HK2:=hdd h2;rw [h2] at f0;clear h1 h2 hLi hI2 hI3 hI4 hP0 hU0
      go_wp2_with (first
       |(refine kld rfl 96 _ 2 rfl _ rfl (.int .i64 P0.ups) (kvo _ _ _ _) ?_)
       |(at_lookup;refine kbl _ rfl _ _ 90 false rfl 9 96 kS kcx Tryz.underlying90 (.agg (pkC ⟨[],[],0⟩)) kwn (w1.heap.size+1) Li rfl HLi4.out (c.ev i).pkg rfl (kbp hpl) ?_;rw [HP0.out];simp only [Bool.false_eq_true,if_false])
       |(at_mapUpdate;refine kbb _ rfl _ _ _ 90 rfl 9 96 kS kcx Tryz.underlying90 (w1.heap.size+1) Li rfl HLi4.out (c.ev i).pkg rfl (.agg (pkC ⟨(c.ev i).pkg,(c.ev i).digest,P0.ups+1⟩)) rfl (kbp hpl) ?_
         intro w6 hm6 hk6 hs6;have HM6:=hdd hm6;have HK6:=hdd hk6;have hneI:¬ Licit.One (w1.heap.size+1) w1.heap.size:=fun e=>by have:w1.heap.size=w1.heap.size+1:=e;omega
         have hneR:¬ Licit.One (w1.heap.size+1) w2.heap.size:=fun e=>by have:w2.heap.size=w1.heap.size+1:=e;have:=HLi4.out.lt;have:=HB2.out.size;have:=HB.out.size;have:=HLp.out.lt;have:=(HI.out).lt2;omega
         have HW6:=hdd ((hk6.block _ (kad HW4.out) hneR).trans HW4.out);have HL6:=hdd (HL4.out.kept hk6 hneI);have g1:=(hk6.cell (b:=wr.heap.size) (o:=1) (World.block_lt_of_cell? _ _ f1) (fun e=>by have:wr.heap.size=w1.heap.size+1:=e;have:=(HI.out).lt2;omega)).trans f1;clear hm6 hk6 hs6 hneI hneR)
       |(refine wpList_load_mid rfl 84 _ rfl w2.heap.size 0 rfl (rwC { R with next:=R.next+1 }).toList _ (kap HW6.out) rfl rfl (by kernel_rfl) ?_)
       |(at_mapUpdate;refine kbb _ rfl _ _ _ 89 rfl 9 84 kS kcx Tryz.underlying89 w1.heap.size Lp rfl HL6.out (c.ev i).author rfl (.agg (rwC { R with next:=R.next+1 })) rfl (kbp hau) ?_
         intro w5 hm5 hk5 hs5;have HM5:=hdd hm5;have HK5:=hdd hk5;clear hm5 hk5 hs5)
       |fail)
      have hB6:Below w1.heap.size w1 w6:=HB14.out.trans (HK6.out.below HB14.out.size (fun q hq e=>by have:q=w1.heap.size+1:=e;omega));have HB6:=hdd hB6;clear hB6
      go_roundw
      case rel =>
       unfold kra;exact ⟨k+1,by omega,by go_num,HB6.out.trans (HK5.out.below HB6.out.size (fun q hq e=>by have:q=w1.heap.size:=e;omega)),by rw [HTk.out];exact kmw.step HM5.out HLk.out HLv.out HRn.out,by rw [HTk.out];exact kh5.step (by rw [HPk2.out];exact HM6.out.kept HK5.out (fun e=>by have:w1.heap.size+1=w1.heap.size:=e;omega)) HI2.out HI3.out HI4.out HK2.out⟩
      case measure=>simp [intOf];omega
     ·have d1:((c.ev i).kind == 1)=false:=beq_eq_false_iff_ne.2 h1
      have d2:((c.ev i).kind == 2)=false:=beq_eq_false_iff_ne.2 h2;have HRn:=hdd (show c.person (O.take k++[i]) (c.ev i).author = { R with next:=R.next+1 } by rw [Rv.person_more c (O.take k) i _ rfl h1,HR.out]);have HK2:=hdd h2;clear h1 h2
      go_wp2_with (first
       |(refine wpList_load_mid rfl 84 _ rfl w2.heap.size 0 rfl (rwC { R with next:=R.next+1 }).toList _ (kap HW4.out) rfl rfl (by kernel_rfl) ?_)
       |(at_mapUpdate;refine kbb _ rfl _ _ _ 89 rfl 9 84 kS kcx Tryz.underlying89 w1.heap.size Lp rfl HL4.out (c.ev i).author rfl (.agg (rwC { R with next:=R.next+1 })) rfl (kbp hau) ?_
         intro w5 hm5 hk5 hs5;have HM5:=hdd hm5;have HK5:=hdd hk5;clear hm5 hk5 hs5)
       |fail)
      go_roundw
      case rel =>
       unfold kra;exact ⟨k+1,by omega,by go_num,HB14.out.trans (HK5.out.below HB14.out.size (fun q hq e=>by have:q=w1.heap.size:=e;omega)),by rw [HTk.out];exact kmw.step HM5.out HLk.out HLv.out HRn.out,by rw [HTk.out];exact kh5.other HI.out HK2.out ((ka7.of_below HBr4.out).trans HK5.out) (fun e=>by have:w1.heap.size+1=w1.heap.size:=e;omega)⟩
      case measure=>simp [intOf];omega
   ·have hkl:k=l.length:=by omega
    subst hkl;have hO:O.take l.length=O:=List.take_of_length_le (by omega);have hp2:=HP.out;have hi2:=HI.out;rw [hO] at hp2 hi2;obtain ⟨Lp,hLp,hLk,hLv⟩:=hp2;obtain ⟨Li,hLi,hIk,hIv,-⟩:=hi2;have hbr:=HB.out.size;have hlp1:=hLp.lt;have hli1:=hLi.lt
    have hcp:Lp.length≤1024:=by
     have h1:=klg (l':=O.map fun k=>(c.ev k).author) (hLp.nodup kcx) fun z hz=>by obtain ⟨k,q1,q2⟩:=(hLk z).1 hz;exact List.mem_map.2 ⟨k,q1,q2⟩
     simp only [kbc,List.length_map] at h1;omega
    have hci:Li.length≤1024:=by
     have h1:=klg (l':=O.map fun k=>(c.ev k).pkg) (hLi.nodup kcx) fun z hz=>by obtain ⟨k,q1,-,q2⟩:=(hIk z).1 hz;exact List.mem_map.2 ⟨k,q1,q2⟩
     simp only [kbc,List.length_map] at h1;omega
    have hsk:Rv.sortB (kbc Lp)=Rv.sortB (O.map fun k=>(c.ev k).author):=Rv.sortB_congr fun z=>by rw [hLk,List.mem_map]
    have hsi:Rv.sortB (kbc Li)=Rv.sortB ((O.filter fun k=>decide ((c.ev k).kind=2)).map fun k=>(c.ev k).pkg):=Rv.sortB_congr fun z=>by
     rw [hIk,List.mem_map];constructor
     ·rintro ⟨k,q1,q2,q3⟩;exact ⟨k,List.mem_filter.2 ⟨q1,by simpa using q2⟩,q3⟩
     ·rintro ⟨k,q1,q3⟩;obtain ⟨q1,q2⟩:=List.mem_filter.1 q1;exact ⟨k,q1,by simpa using q2,q3⟩
    obtain ⟨ks,hks⟩:∃ks,Rv.sortB (kbc Lp)=ks:=⟨_,rfl⟩;obtain ⟨qs,hqs⟩:∃qs,Rv.sortB (kbc Li)=qs:=⟨_,rfl⟩;have hkm:∀s∈ks,s∈kbc Lp:=fun s hs=>by rw [←hks] at hs;exact (Rv.sortB_mem _ _).1 hs
    have hqm:∀s∈qs,s∈kbc Li:=fun s hs=>by rw [←hqs] at hs;exact (Rv.sortB_mem _ _).1 hs
    have hkn:ks.length≤1024:=by
     have h1:=klg (l:=ks) (l':=kbc Lp) (by rw [←hks];exact Rv.strict_nodup (Rv.sortB_strict _)) hkm;simp only [kbc,List.length_map] at h1;omega
    have hqn:qs.length≤1024:=by
     have h1:=klg (l:=qs) (l':=kbc Li) (by rw [←hqs];exact Rv.strict_nodup (Rv.sortB_strict _)) hqm;simp only [kbc,List.length_map] at h1;omega
    have hkb:∀s∈ks,s.length≤maxLen:=fun s hs=>by
     obtain ⟨q,q1,q2⟩:=(hLk s).1 (hkm s hs);have h1:=(kda (HN.out.ok.valid q (HJ.out.mem q q1))).2.2.2.2;rw [←q2];exact Nat.le_trans h1 (by decide)
    have hqb:∀s∈qs,s.length≤maxLen:=fun s hs=>by
     obtain ⟨q,q1,-,q2⟩:=(hIk s).1 (hqm s hs);obtain ⟨⟨_,na9,nc9,ta9,tc9,sa9,sc9,ha9,hc9,ra9,rc9,hev9,-⟩,-,-⟩:=HN.out.at (HJ.out.below.trans (HB.out.mono HJ.out.below.size)) (HJ.out.mem q q1);rw [←q2];exact Nat.le_trans hev9.1.pkg (by unfold maxLen;omega)
    have HLp:=hdd hLp;have HLi:=hdd hLi;have HLv:=hdd hLv;have HIv:=hdd (fun s hs=>hIv s (hqm s hs));have HKs:=hdd hks;have HQs:=hdd hqs;have HSk:=hdd (show c.people O=ks.map (c.person O) by rw [←hks,hsk];rfl);have HSi:=hdd (show c.packs O=qs.map (c.pack O) by rw [←hqs,hsi];rfl);have HKb:=hdd hkb;have HQb:=hdd hqb;have HZ:=hdd hbr;have HZ1:=hdd hlp1;have HZ2:=hdd hli1;have HCp:=hdd hcp;have HCi:=hdd hci;clear hO hLp hLk hLv hLi hIk hIv hsk hsi hks hqs hkm hqm hkb hqb hlt hk hol hbr hlp1 hli1 hcp hci
    go_upto_region 19 with fail
    have hnew:∀W,W=wr.alloc (.cells kn6 34)→W.heap[wr.heap.size]? = some (.cells kn6 34 (0,0))∧Below wr.heap.size wr W∧wr.heap.size<W.heap.size:=by rintro _ rfl;exact ⟨kai _ _,(Below.refl _ _).alloc (Nat.le_refl _) _,by simp⟩
    generalize hwa:wr.alloc (.cells kn6 34)=wA;obtain ⟨hA1,hA2,hA3⟩:=hnew wA hwa.symm;clear hwa hnew;have HA1:=hdd hA1;have HA2:=hdd hA2;have HA3:=hdd hA3;obtain ⟨rb,hrb⟩:∃rb,wr.heap.size=rb:=⟨_,rfl⟩;have hmA:=HLp.out.below hA2 HLp.out.lt;rw [hrb] at hA1 hA3 ⊢;have HR0:=hdd hA1;have HR1:=hdd hA3;have HRb:=hdd hrb;have HMA:=hdd hmA;clear hA1 hA2 hA3 hmA hrb
    go_upto_region 20 with (first
     |(go_at_call 55;refine (ktd _ _).mono ?_;rintro en w2 ⟨rfl,rfl⟩)
     |(go_at_call 54;refine (knz w1.heap.size Lp wA HMA.out (Nat.le_trans HCp.out (by decide))).mono ?_
       rintro en w3 ⟨v3,rfl,ho3,hb3⟩;rw [HKs.out] at ho3;obtain ⟨a3,c3,rfl⟩:=kag ho3;have HO3:=hdd ho3;have HB3:=hdd (show Below wA.heap.size wA w3 from ((Below.refl _ _).alloc (Nat.le_refl _) _).trans (hb3.mono (Nat.le_succ _)));clear ho3 hb3)
     |fail)
    have HX3:=hdd (show w3.heap[rb]? = some (.cells kn6 34 (0,0)) from kab HB3.out HR1.out HR0.out);obtain ⟨i0,hi0,hz0,hz1,hz2⟩:∃i,Tryz.prog.info? 84=some i∧i.zero=some (.agg (rwC ⟨[],[],0,0,0⟩))∧i.size=5∧i.bytes=56:=⟨_,rfl,by kernel_rfl,rfl,rfl⟩;have Hi:=hdd hi0;have Hz0:=hdd hz0;have Hz1:=hdd hz1;have Hz2:=hdd hz2;clear hi0 hz0 hz1 hz2;obtain ⟨wl,rfl⟩:∃wl:World,wl=wr:=⟨_,rfl⟩
    go_loopw [17,90] (fun _ n wx=>FdA c O ks rb w3 n wx) (fun _ n _=>ks.length - (intOf n).toNat)
    case atStart=>unfold FdA;exact ⟨0,Nat.zero_le _,rfl,ka7.refl _ _,_,HX3.out,World.ownsRow_nil _ _ _ _⟩
    case round =>
     unfold FdA at hrel;obtain ⟨wx,rfl⟩:∃wx:World,wx=wr:=⟨_,rfl⟩;obtain ⟨k,hk,rfl,hkp,v,hrow,hown⟩:=hrel;have HKp:=hdd hkp;have HRow:=hdd hrow;have HOwn:=hdd hown;clear hkp hrow hown;have HMx:=hdd (show kbi Tryz.prog 9 kS wx w1.heap.size Lp from (HMA.out.below HB3.out HMA.out.lt).kept HKp.out (fun e=>by have:w1.heap.size=rb:=e;have:=HRb.out;have:=HZ1.out;omega))
     by_cases hlt:k<ks.length
     ·obtain ⟨g0,cv,hve,-,-,-⟩:=kax HO3.out (by omega)
      simp only [Value.slice.injEq,true_and] at hve;obtain ⟨rfl,rfl⟩:=hve;obtain ⟨s,hs⟩:∃s,ks[k]=s:=⟨_,rfl⟩;have hsm:s∈ks:=by rw [←hs];exact List.getElem_mem hlt
      have ho3x:=kdj HO3.out HKp.out (by have:=HR1.out;omega)
      have cd:wx.cell? ⟨g0,k,none⟩=some (.string (B s)):=by
       rw [kce ho3x (by rw [List.length_map];exact hlt),List.getElem?_map,List.getElem?_eq_getElem hlt,hs];rfl
      have cd':wx.cell? ⟨g0,0+k,none⟩=some (.string (B s)):=by rw [Nat.zero_add];exact cd
      obtain ⟨av,cv2,rfl⟩:=kag HOwn.out;have cr0:wx.cell? ⟨rb,0,none⟩=some (.slice av k cv2):=by rw [kaa HRow.out];rfl
      have HGt:=hdd (HLv.out s);have HSm:=hdd hsm;have HTk:=hdd (show (ks.take (k+1)).map (c.person O)=(ks.take k).map (c.person O)++[c.person O s] by rw [ko2 _ _ hlt,hs]);clear ho3x hsm hs
      go_wp2_with (first
       |(at_lookup;refine kbl _ rfl _ _ 89 false rfl 9 84 kS kcx Tryz.underlying89 (.agg (rwC ⟨[],[],0,0,0⟩)) kwt w1.heap.size Lp rfl HMx.out s rfl (kbp (HKb.out s HSm.out)) ?_;rw [HGt.out];simp only [Bool.false_eq_true,if_false])
       |(at_builtin
         refine wpList_append_own _ rfl _ _ 29 rfl w3.heap.size 84 i0 (.agg (rwC ⟨[],[],0,0,0⟩)) 5 56 Tryz.underlying29 Hi.out Hz0.out Hz1.out Hz2.out rfl (by decide) _ k (rwL ((ks.take k).map (c.person O))) rfl (HOwn.out.alloc _) ⟨wx.heap.size,0,none⟩ 1 1 (rwC (c.person O s)).toList rfl rfl (kin (kai wx (.cells (rwC (c.person O s)) 84))) (by simp [rwC,Value.oneCell']) (by unfold maxLen;omega) (by omega) (by have:=HKp.out.size;simp;omega) ?_;intro v8 w8 ho8 hg8 _;obtain ⟨a8,c8,rfl⟩:=kag ho8;have HO8:=hdd ho8;have HG8:=hdd hg8;have HH8:=hdd ((hg8.block rb (by have:=kad HRow.out;simp;omega) (fun e=>by have h1:=(HOwn.out.lt rb (Eq.symm e)).1;have h2:=HB3.out.size;have h3:=HR1.out;omega)).trans (kah HRow.out));clear ho8 hg8)
       |(refine kae rfl 29 _ _ rfl rb 0 rfl (.slice a8 (k+1) c8) rfl rfl rfl _ 34 HH8.out (by simp) (by kernel_rfl) ?_
         intro w9 hw9 hk9;have HW9:=hdd (show w9.heap[rb]? = some (.cells #[.slice a8 (k+1) c8,.slice none 0 0,.slice none 0 0,.slice none 0 0] 34 (0,0)) from hw9);have HK9:=hdd hk9;clear hw9 hk9)
       |fail)
      go_roundw
      case rel =>
       unfold FdA;exact ⟨k+1,by omega,by go_num,((HKp.out.alloc _).grown HG8.out (fun q hq=>.inl (HOwn.out.lt q hq).1)).trans HK9.out,_,HW9.out,by rw [HTk.out,kuq];exact kdj HO8.out HK9.out (by have h2:=HB3.out.size;have h3:=HR1.out;omega)⟩
      case measure=>simp [intOf];omega
     ·have hkl:k=ks.length:=by omega
      subst hkl;have hv:=HOwn.out;rw [List.take_length,←HSk.out] at hv;have hpl:ks.length=(c.people O).length:=by rw [HSk.out,List.length_map]
      rw [hpl] at hv;have HV:=hdd hv;have HRw:=hdd HRow.out;clear hv hpl hk hlt HOwn;have HLx:=hdd (show kbi Tryz.prog 9 kS wx (w1.heap.size+1) Li from ((HLi.out.below HA2.out HLi.out.lt).below HB3.out (Nat.lt_of_lt_of_le HLi.out.lt HA2.out.size)).kept HKp.out (fun e=>by have:w1.heap.size+1=rb:=e;have:=HRb.out;have:=HZ2.out;omega))
      go_upto_region 25 with (first
       |(go_at_call 56;refine (kr5 _ _).mono ?_;rintro en w2 ⟨rfl,rfl⟩)
       |(go_at_call 54;refine (knq (w1.heap.size+1) Li wx HLx.out (Nat.le_trans HCi.out (by decide))).mono ?_
         rintro en w5 ⟨v5,rfl,ho5,hb5⟩;rw [HQs.out] at ho5;obtain ⟨a5,c5,rfl⟩:=kag ho5;have HO5:=hdd ho5;have HB5:=hdd (show Below wx.heap.size wx w5 from ((Below.refl _ _).alloc (Nat.le_refl _) _).trans (hb5.mono (Nat.le_succ _)));clear ho5 hb5)
       |fail)
      have hrx:=kad HRw.out;have HX5:=hdd (show w5.heap[rb]? = some (.cells #[v,.slice none 0 0,.slice none 0 0,.slice none 0 0] 34 (0,0)) from kab HB5.out hrx HRw.out);have HV5:=hdd (kci HV.out (w':=w5) fun q hq=>HB5.out.block q (HV.out.lt q hq).2);have HRx:=hdd hrx;obtain ⟨j0,hi0,hz0,hz1,hz2⟩:∃i,Tryz.prog.info? 96=some i∧i.zero=some (.agg (pkC ⟨[],[],0⟩))∧i.size=3∧i.bytes=40:=⟨_,rfl,by kernel_rfl,rfl,rfl⟩;have Ji:=hdd hi0;have Jz0:=hdd hz0;have Jz1:=hdd hz1;have Jz2:=hdd hz2;clear hi0 hz0 hz1 hz2 hrx
      go_loopw [19,107] (fun _ n wy=>FdB c O qs rb v w5 n wy) (fun _ n _=>qs.length - (intOf n).toNat)
      case atStart=>unfold FdB;exact ⟨0,Nat.zero_le _,rfl,ka7.refl _ _,_,HX5.out,World.ownsRow_nil _ _ _ _⟩
      case round =>
       unfold FdB at hrel;obtain ⟨wy,rfl⟩:∃wy:World,wy=wr:=⟨_,rfl⟩;obtain ⟨k,hk,rfl,hkp,v2,hrow,hown⟩:=hrel;have HKy:=hdd hkp;have HRy:=hdd hrow;have HOy:=hdd hown;clear hkp hrow hown;have HMy:=hdd (show kbi Tryz.prog 9 kS wy (w1.heap.size+1) Li from (HLx.out.below HB5.out HLx.out.lt).kept HKy.out (fun e=>by have:w1.heap.size+1=rb:=e;have:=HRb.out;have:=HZ2.out;omega))
       by_cases hlt:k<qs.length
       ·obtain ⟨g0,cv,hve,-,-,-⟩:=kax HO5.out (by omega)
        simp only [Value.slice.injEq,true_and] at hve;obtain ⟨rfl,rfl⟩:=hve;obtain ⟨s,hs⟩:∃s,qs[k]=s:=⟨_,rfl⟩;have hsm:s∈qs:=by rw [←hs];exact List.getElem_mem hlt
        have ho5x:=kdj HO5.out HKy.out (by have:=HRx.out;omega)
        have cd:wy.cell? ⟨g0,k,none⟩=some (.string (B s)):=by
         rw [kce ho5x (by rw [List.length_map];exact hlt),List.getElem?_map,List.getElem?_eq_getElem hlt,hs];rfl
        have cd':wy.cell? ⟨g0,0+k,none⟩=some (.string (B s)):=by rw [Nat.zero_add];exact cd
        obtain ⟨av,cv2,rfl⟩:=kag HOy.out;have cr0:wy.cell? ⟨rb,1,none⟩=some (.slice av k cv2):=by rw [kaa HRy.out];rfl
        have HGt:=hdd (show (kb2 Li s).getD (.agg (pkC ⟨[],[],0⟩)) = .agg (pkC (c.pack O s)) by rw [HIv.out s hsm];rfl);have HSm:=hdd hsm;have HTk:=hdd (show (qs.take (k+1)).map (c.pack O)=(qs.take k).map (c.pack O)++[c.pack O s] by rw [ko2 _ _ hlt,hs]);clear ho5x hsm hs
        go_wp2_with (first
         |(at_lookup;refine kbl _ rfl _ _ 90 false rfl 9 96 kS kcx Tryz.underlying90 (.agg (pkC ⟨[],[],0⟩)) kwn (w1.heap.size+1) Li rfl HMy.out s rfl (kbp (HQb.out s HSm.out)) ?_;rw [HGt.out];simp only [Bool.false_eq_true,if_false])
         |(at_builtin
           refine wpList_append_own _ rfl _ _ 30 rfl w5.heap.size 96 j0 (.agg (pkC ⟨[],[],0⟩)) 3 40 Tryz.underlying30 Ji.out Jz0.out Jz1.out Jz2.out rfl (by decide) _ k (pkL ((qs.take k).map (c.pack O))) rfl (HOy.out.alloc _) ⟨wy.heap.size,0,none⟩ 1 1 (pkC (c.pack O s)).toList rfl rfl (kin (kai wy (.cells (pkC (c.pack O s)) 96))) (by simp [pkC,Value.oneCell']) (by unfold maxLen;omega) (by omega) (by have:=HKy.out.size;simp;omega) ?_;intro v8 w8 ho8 hg8 _;obtain ⟨a8,c8,rfl⟩:=kag ho8;have HO8:=hdd ho8;have HG8:=hdd hg8;have HH8:=hdd ((hg8.block rb (by have:=kad HRy.out;simp;omega) (fun e=>by have h1:=(HOy.out.lt rb (Eq.symm e)).1;have h2:=HB5.out.size;have h3:=HRx.out;omega)).trans (kah HRy.out));clear ho8 hg8)
         |(refine kae rfl 30 _ _ rfl rb 1 rfl (.slice a8 (k+1) c8) rfl rfl rfl _ 34 HH8.out (by simp) (by kernel_rfl) ?_
           intro w9 hw9 hk9;have HW9:=hdd (show w9.heap[rb]? = some (.cells #[v,.slice a8 (k+1) c8,.slice none 0 0,.slice none 0 0] 34 (0,0)) from hw9);have HK9:=hdd hk9;clear hw9 hk9)
         |fail)
        go_roundw
        case rel =>
         unfold FdB;exact ⟨k+1,by omega,by go_num,((HKy.out.alloc _).grown HG8.out (fun q hq=>.inl (HOy.out.lt q hq).1)).trans HK9.out,_,HW9.out,by rw [HTk.out,kvx];exact kdj HO8.out HK9.out (by have h2:=HB5.out.size;have h3:=HRx.out;omega)⟩
        case measure=>simp [intOf];omega
       ·have hkl:k=qs.length:=by omega
        subst hkl;have hv:=HOy.out;rw [List.take_length,←HSi.out] at hv;have hpl:qs.length=(c.packs O).length:=by rw [HSi.out,List.length_map]
        rw [hpl] at hv;obtain ⟨av1,cv1,rfl⟩:=kag HV5.out;obtain ⟨av2,cv2,rfl⟩:=kag hv;have HP2:=hdd hv;have HP1:=hdd (kdj HV5.out HKy.out (by have h2:=HB3.out.size;have h3:=HR1.out;omega));have HRz:=hdd HRy.out;have hbz:Below w1.heap.size w1 wy:=((HB.out.trans (HA2.out.mono HB.out.size)).trans (HB3.out.mono (Nat.le_trans HB.out.size HA2.out.size))).trans ((HKp.out.below (B:=w1.heap.size) (Nat.le_trans (Nat.le_trans HB.out.size HA2.out.size) HB3.out.size) (fun q hq e=>by have:q=rb:=e;have:=HRb.out;have:=HZ.out;omega)).trans ((HB5.out.mono (Nat.le_trans (Nat.le_trans (Nat.le_trans HB.out.size HA2.out.size) HB3.out.size) HKp.out.size)).trans (HKy.out.below (B:=w1.heap.size) (Nat.le_trans (Nat.le_trans (Nat.le_trans (Nat.le_trans HB.out.size HA2.out.size) HB3.out.size) HKp.out.size) HB5.out.size) (fun q hq e=>by have:q=rb:=e;have:=HRb.out;have:=HZ.out;omega))));have HBz:=hdd hbz;have HRzl:=hdd (kad HRy.out);have HJz:=hdd (HJ.out.grow (w':=wy) hbz);have hOn:O.length≤1024:=by have:=HOl.out;omega
        clear hv hpl hk hlt hbz HOy
        go_upto_region 30 with (first
         |(go_at_call 57;refine (kkv c pt pb O bj bE bT bN _ _ _ HN.out HJz.out hOn).mono ?_
           rintro en w6 ⟨v6,rfl,hb6,ho6⟩;obtain ⟨a6,c6,rfl⟩:=kag ho6;have HO6:=hdd ho6;have HB6:=hdd hb6;have HX6:=hdd (kab hb6 HRzl.out HRz.out);clear ho6 hb6)
         |(refine kae rfl 31 _ _ rfl rb 2 rfl (.slice a6 (c.decs O).length c6) rfl rfl rfl _ 34 HX6.out (by simp) (by kernel_rfl) ?_
           intro w7 hw7 hk7;have HW7:=hdd (show w7.heap[rb]? = some (.cells #[.slice av1 (c.people O).length cv1,.slice av2 (c.packs O).length cv2,.slice a6 (c.decs O).length c6,.slice none 0 0] 34 (0,0)) from hw7);have HK7:=hdd hk7;clear hw7 hk7)
         |fail)
        have hdl:(c.decs O).length≤1024:=by
         have h1:(c.decs O).length=(O.filter fun k=>decide ((c.ev k).kind=3)).length:=List.length_map _;have h2:=List.length_filter_le (fun k=>decide ((c.ev k).kind=3)) O;omega
        have HD7:=hdd (kdj HO6.out HK7.out HRzl.out);have cr2:w7.cell? ⟨rb,2,none⟩=some (.slice a6 (c.decs O).length c6):=by rw [kaa HW7.out];rfl
        go_upto_region 31 with (first
         |(go_at_call 58;refine (klu (c.decs O) a6 c6 w7 wy.heap.size HD7.out hdl).mono ?_
           rintro en w8 ⟨v8,rfl,hb8,ho8⟩;obtain ⟨a8,c8,rfl⟩:=kag ho8;have HO8:=hdd ho8;have HB8:=hdd hb8;have HX8:=bhh hb8 HW7;clear ho8 hb8)
         |(refine kae rfl 32 _ _ rfl rb 3 rfl (.slice a8 (Rv.dispsOf (c.decs O)).length c8) rfl rfl rfl _ 34 HX8.out (by simp) (by kernel_rfl) ?_
           intro w9 hw9 hk9;have HW9:=hdd (show w9.heap[rb]? = some (.cells #[.slice av1 (c.people O).length cv1,.slice av2 (c.packs O).length cv2,.slice a6 (c.decs O).length c6,.slice a8 (Rv.dispsOf (c.decs O)).length c8] 34 (0,0)) from hw9);have HK9:=hdd hk9;clear hw9 hk9)
         |fail)
        have hz1:ka7 (Licit.One rb) wy w9:=(((ka7.of_below HB6.out).trans HK7.out).trans ((ka7.of_below HB8.out).trans HK9.out));have hrbw:w1.heap.size≤rb:=by have:=HRb.out;have:=HZ.out;omega
        have hb9:Below w1.heap.size w1 w9:=HBz.out.trans (hz1.below HBz.out.size (fun q hq e=>by have:q=rb:=e;omega));have HW1z:=bhh hb9 HW1;have HB9:=hdd hb9;have HZ9:=hdd hz1;have HRw1:=hdd hrbw;have HWl:=hdd (kad HW1.out);have cr2b:w9.heap[rb]? = some (.cells #[.slice av1 (c.people O).length cv1,.slice av2 (c.packs O).length cv2,.slice a6 (c.decs O).length c6,.slice a8 (Rv.dispsOf (c.decs O)).length c8] 34 (0,0)):=HW9.out;have HCr:=hdd cr2b;clear hz1 hrbw hb9 cr2 cr2b
        go_wp2_with (first
         |(refine wpList_load_mid rfl 34 _ rfl rb 0 rfl [.slice av1 (c.people O).length cv1,.slice av2 (c.packs O).length cv2,.slice a6 (c.decs O).length c6,.slice a8 (Rv.dispsOf (c.decs O)).length c8] _ (kap HCr.out) rfl rfl (by kernel_rfl) ?_)
         |(refine kac rfl 34 _ _ rfl w.heap.size rfl #[.slice av1 (c.people O).length cv1,.slice av2 (c.packs O).length cv2,.slice a6 (c.decs O).length c6,.slice a8 (Rv.dispsOf (c.decs O)).length c8] rfl 34 kn6 HW1z.out (by kernel_rfl) rfl (by simp [Value.oneCell']) ?_
           intro wE hwE hkE;have HWE:=hdd hwE;have HKE:=hdd hkE;clear hwE hkE)
         |fail)
        refine kcp rfl w.heap.size 34 _ (0,0) _ rfl HWE.out rfl rfl (by kernel_rfl) rfl ?_;unfold ki9;rw [HFe.out];have hwl:=HWl.out;have hbE:Below w.heap.size w wE:=(HB1.out.trans (HB9.out.mono HB1.out.size)).trans (HKE.out.below (Nat.le_trans HB1.out.size HB9.out.size) (fun q hq e=>by have:q=w.heap.size:=e;omega));have hstep:∀{b:Nat} {t:TypeId} {size:Nat} {v:Value} {n:Nat} {xs:List Value},w9.ownsRow b t size v n xs→w.heap.size<b→wE.ownsRow w.heap.size t size v n xs:=fun h hb=>kbh (kdj h HKE.out hb) (by omega)
        have h31:=HB3.out.size;have h32:=HR1.out;have h33:=HB5.out.size;have h34:=HRx.out;have h35:=HRw1.out;have h36:=HKp.out.size;have h37:=HKy.out.size;have h38:=HB6.out.size;have h39:=HK7.out.size;have hsl:=ksb (Rv.dispsOf (c.decs O));refine ⟨hbE,_,_,_,_,rfl,hstep (kdj HP1.out HZ9.out (by omega)) (by omega),hstep (kdj HP2.out HZ9.out (by omega)) (by omega),hstep (kdj (kci HD7.out fun q hq=>HB8.out.block q (HD7.out.lt q hq).2) HK9.out (by omega)) (by omega),?_⟩;show wE.ownsRow w.heap.size 116 2 _ (Rv.sortP (Rv.dispsOf (c.decs O))).length (prL (Rv.sortP (Rv.dispsOf (c.decs O))));rw [hsl];exact hstep (kdj HO8.out HK9.out (by omega)) (by omega)
end Go.Proofs.YtknpbekoenbphaaGreatDoor
