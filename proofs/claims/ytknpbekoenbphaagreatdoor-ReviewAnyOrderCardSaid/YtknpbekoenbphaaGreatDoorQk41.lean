/- Parts of the proofs: PlainEm, PlainEn, FrmPrs, FrmRws. No condition beyond those at each theorem. -/
import Derived.Test.YtknpbekoenbphaaGreatDoorQk31
import Derived.Test.YtknpbekoenbphaaGreatDoorQk36
set_option linter.unusedVariables false
set_option linter.unusedSimpArgs false
set_option maxHeartbeats 16000000
set_option maxRecDepth 100000
namespace Licit.Rv
open Go Licit
def Ext (S T:Stt):Prop:=∀i r,S.getD i none=some r→T.getD i none=some r
theorem khh {S T:Stt} (h:Ext S T):∀(x:Row) (js:List Nat) (y:Row),readyL S x js=some y→readyL T x js=some y
 |x,[],y,hy=>hy
 |x,a :: r,y,hy=>by
  unfold readyL at hy ⊢
  cases hq:S.getD a none with
  |none=>rw [hq] at hy;cases hy
  |some z =>
   rw [hq] at hy;rw [h a z hq];exact khh h _ r y hy
def Fix (J:List (List Nat)) (S:Stt):Prop:=∀i row,S.getD i none=some row→readyL S (0,List.replicate S.length false) (J.getD i [])=some row
theorem kgk (J:List (List Nat)) (S:Stt) (i:Nat):Ext S (stepS J S i):=by
 unfold stepS
 cases hq:S.getD i none with
 |some _=>exact fun _ _ h=>h
 |none =>
  simp only []
  cases readyL S (0,List.replicate S.length false) (J.getD i []) with
  |none=>exact fun _ _ h=>h
  |some x =>
   intro k r hk;rw [getD_set_ne]
   ·exact hk
   ·intro e;rw [←e,hq] at hk;cases hk
theorem ks3 (J:List (List Nat)) {S:Stt} (hS:Fix J S) (i:Nat):Fix J (stepS J S i):=by
 intro k row hk;rw [kls];have hx:=kgk J S i
 cases hq:S.getD k none with
 |some r =>
  have e:r=row:=Option.some.inj ((hx k r hq).symm.trans hk);rw [←e];exact khh hx _ _ _ (hS k r hq)
 |none =>
  unfold stepS at hk
  cases hi:S.getD i none with
  |some _=>rw [hi] at hk;simp only [] at hk;rw [hq] at hk;cases hk
  |none =>
   rw [hi] at hk;simp only [] at hk
   cases hr:readyL S (0,List.replicate S.length false) (J.getD i []) with
   |none=>rw [hr] at hk;simp only [] at hk;rw [hq] at hk;cases hk
   |some x =>
    rw [hr] at hk;simp only [] at hk
    by_cases e:i=k
    ·subst e
     rcases Nat.lt_or_ge i S.length with c|c
     ·rw [kf5 _ c] at hk
      cases hk;exact khh hx _ _ _ hr
     ·rw [List.getD_eq_getElem?_getD,List.getElem?_eq_none (by simpa using c)] at hk;cases hk
    ·rw [getD_set_ne _ e,hq] at hk;cases hk
theorem kjb (J:List (List Nat)) (S:Stt):∀k,Ext S (passS J S k)
 |0=>fun _ _ h=>h
 |k+1=>by rw [passS_succ];exact fun i r h=>kgk J _ k i r (kjb J S k i r h)
theorem kl6 (J:List (List Nat)) {S:Stt} (hS:Fix J S):∀k,Fix J (passS J S k)
 |0=>hS
 |k+1=>by rw [passS_succ];exact ks3 J (kl6 J hS k) k
theorem kjn (J:List (List Nat)):∀(f:Nat) (S T:Stt),Fix J S→roundsS J f S=some T→Fix J T
 |0,_,_,_,h=>by cases h
 |f+1,S,T,hS,h=>by
  unfold roundsS at h
  by_cases c:S.length≤cntS S
  ·rw [if_pos c] at h;cases h;exact hS
  ·rw [if_neg c] at h
   by_cases d:cntS (passS J S S.length)=cntS S
   ·rw [if_pos d] at h;cases h
   ·rw [if_neg d] at h
    exact kjn J f _ T (kl6 J hS _) h
theorem kij {l:List Ev} {ids:List Bs} {S:Stt} (h:arrS l ids=some S):Fix (namesJ l ids) S :=
 kjn _ _ _ _ (fun i r hr=>by rw [none_at] at hr;cases hr) h
theorem kvk {S T:Stt} (hl:S.length=T.length) (h:Ext S T):cntS S≤cntS T:=by
 unfold cntS
 induction S generalizing T with
 |nil=>simp
 |cons a r ih =>
  cases T with
  |nil=>simp at hl
  |cons b q =>
   have hr:Ext r q:=fun i x hx=>by have:=h (i+1) x (by simpa using hx);simpa using this
   have:=ih (by simpa using hl) hr
   have h0:=h 0;simp only [List.getD_cons_zero] at h0
   cases a with
   |none=>cases b <;> simp only [List.filter_cons,Option.isSome_none,Option.isSome_some,Bool.false_eq_true,if_false,if_true,List.length_cons] <;> omega
   |some x=>rw [h0 x rfl];simp only [List.filter_cons,Option.isSome_some,if_true,List.length_cons];omega
theorem ktl {S T:Stt} (hl:S.length=T.length) (h:Ext S T) {i:Nat} (h1:S.getD i none=none) {x:Row} (h2:T.getD i none=some x):cntS S<cntS T:=by
 unfold cntS
 induction S generalizing T i with
 |nil =>
  cases T with
  |nil=>simp at h2
  |cons b q=>simp at hl
 |cons a r ih =>
  cases T with
  |nil=>simp at hl
  |cons b q =>
   have hr:Ext r q:=fun i x hx=>by have:=h (i+1) x (by simpa using hx);simpa using this
   cases i with
   |zero =>
    simp only [List.getD_cons_zero] at h1 h2;subst h1;subst h2
    have:=kvk (by simpa using hl) hr
    unfold cntS at this;simp only [List.filter_cons,Option.isSome_none,Bool.false_eq_true,if_false,Option.isSome_some,if_true,List.length_cons];omega
   |succ i =>
    have:=ih (T:=q) (by simpa using hl) hr (i:=i) (by simpa using h1) (by simpa using h2)
    have h0:=h 0;simp only [List.getD_cons_zero] at h0
    cases a with
    |none=>cases b <;> simp only [List.filter_cons,Option.isSome_none,Option.isSome_some,Bool.false_eq_true,if_false,if_true,List.length_cons] <;> omega
    |some y=>rw [h0 y rfl];simp only [List.filter_cons,Option.isSome_some,if_true,List.length_cons];omega
theorem kzi {S:Stt} (h:¬ S.length≤cntS S):∃i,i<S.length∧S.getD i none=none:=by
 induction S with
 |nil=>simp at h
 |cons a r ih =>
  cases a with
  |none=>exact ⟨0,by simp,rfl⟩
  |some x =>
   obtain ⟨i,h1,h2⟩:=ih (by simp only [cntS,List.filter_cons,Option.isSome_some,if_true,List.length_cons] at h;unfold cntS;omega);exact ⟨i+1,by simpa using h1,by simpa using h2⟩
theorem ku7 (ρ:Nat→Nat) (p:Nat→Prop):∀(b i:Nat),ρ i≤b→p i→∃k,p k∧∀j,p j→ρ k≤ρ j:=by
 intro b
 induction b with
 |zero=>intro i hi hp;exact ⟨i,hp,fun j _=>by omega⟩
 |succ b ih =>
  intro i hi hp
  by_cases h:∃j,p j∧ρ j≤b
  ·obtain ⟨j,h1,h2⟩:=h;exact ih j h2 h1
  ·exact ⟨i,hp,fun j hj=>by
    rcases Nat.lt_or_ge (ρ j) (b+1) with c|c
    ·exact absurd ⟨j,hj,by omega⟩ h
    ·omega⟩
theorem kh0 {J:List (List Nat)} {n:Nat} {ρ:Nat→Nat} (hJ:∀i,i<n→∀j∈J.getD i [],j<n∧ρ j<ρ i):∀(f:Nat) (S:Stt),S.length=n→n+1≤f+cntS S→∃T,roundsS J f S=some T
 |0,S,hl,hf=>by have:=cntS_le S;omega
 |f+1,S,hl,hf=>by
  unfold roundsS
  by_cases c:S.length≤cntS S
  ·rw [if_pos c];exact ⟨S,rfl⟩
  ·rw [if_neg c]
   obtain ⟨i0,hi0,hn0⟩:=kzi c;obtain ⟨i,⟨hi,hn⟩,hmin⟩:=ku7 ρ (fun i=>i<S.length∧S.getD i none=none) _ i0 (Nat.le_refl _) ⟨hi0,hn0⟩
   have hall:∀j∈J.getD i [],∃z,S.getD j none=some z:=fun j hj=>by
    obtain ⟨h1,h2⟩:=hJ i (by omega) j hj
    cases hq:S.getD j none with
    |some z=>exact ⟨z,rfl⟩
    |none=>have:=hmin j ⟨by omega,hq⟩;omega
   have hdone:∃x,(passS J S S.length).getD i none=some x:=by
    have hs:∃x,(passS J S (i+1)).getD i none=some x:=by
     rw [passS_succ]
     cases hq:(passS J S i).getD i none with
     |some x=>exact ⟨x,kgk J _ i i x hq⟩
     |none =>
      cases hr:readyL (passS J S i) (0,List.replicate (passS J S i).length false) (J.getD i []) with
      |none =>
       obtain ⟨j,h1,h2⟩:=(readyL_none _ _ _).1 hr;obtain ⟨z,hz⟩:=hall j h1;rw [kjb J S i j z hz] at h2;cases h2
      |some x =>
       refine ⟨x,?_⟩;unfold stepS;rw [hq];simp only [hr];exact kf5 _ (by rw [ke1];exact hi)
    obtain ⟨x,hx⟩:=hs
    have hmono:∀k,i+1≤k→(passS J S k).getD i none=some x:=fun k hk=>by
     induction k with
     |zero=>omega
     |succ k ih =>
      rcases Nat.lt_or_ge k (i+1) with c2|c2
      ·have:k=i:=by omega
       subst this;exact hx
      ·rw [passS_succ];exact kgk J _ k i x (ih c2)
    exact ⟨x,hmono _ (by omega)⟩
   obtain ⟨x,hx⟩:=hdone;have hmore:=ktl (ke1 J S S.length).symm (kjb J S S.length) hn hx;rw [if_neg (by omega)];exact kh0 hJ f _ (by rw [ke1];exact hl) (by omega)
theorem kir {S:Stt} (hS:Fits S):∀(js:List Nat) (x y:Row),x.2.length=S.length→readyL S x js=some y→∀k,x.2.getD k false=true→y.2.getD k false=true
 | [],x,y,_,h,k,hk=>by simp [readyL] at h;rw [←h];exact hk
 |a :: r,x,y,hl,h,k,hk=>by
  unfold readyL at h
  cases hq:S.getD a none with
  |none=>rw [hq] at h;cases h
  |some z =>
   rw [hq] at h;have hz:=hS a z hq
   have ha:a<S.length:=by
    rcases Nat.lt_or_ge a S.length with c|c
    ·exact c
    ·rw [List.getD_eq_getElem?_getD,List.getElem?_eq_none c] at hq;cases hq
   refine kir hS r _ y (by rw [orL_len _ _ (by simp [hl,hz])];simp [hl]) h k ?_;show (orL (x.2.set a true) z.2).getD k false=true;rw [orL_at _ _ (by simp [hl,hz]),set_at _ _ _ (by omega),hk];simp
theorem ke2 {S:Stt} (hS:Fits S):∀{js:List Nat} {x y:Row},readyL S x js=some y→∀{j:Nat},j∈js→x.2.length=S.length→j<S.length→y.2.getD j false=true
 |a :: r,x,y,h,j,hj,hl,hjl=>by
  unfold readyL at h
  cases hq:S.getD a none with
  |none=>rw [hq] at h;cases h
  |some z =>
   rw [hq] at h;have hz:=hS a z hq
   have ha:a<S.length:=by
    rcases Nat.lt_or_ge a S.length with c|c
    ·exact c
    ·rw [List.getD_eq_getElem?_getD,List.getElem?_eq_none c] at hq;cases hq
   have hl2:(orL (x.2.set a true) z.2).length=S.length:=by rw [orL_len _ _ (by simp [hl,hz])];simp [hl]
   rcases List.mem_cons.1 hj with rfl|hj
   ·refine kir hS r _ y hl2 h j ?_
    show (orL (x.2.set j true) z.2).getD j false=true;rw [orL_at _ _ (by simp [hl,hz]),set_at _ _ _ (by omega)];simp
   ·exact ke2 hS h hj hl2 hjl
section
variable {f:Nat→Nat} {m l:List Ev}
theorem Emb.pre (h:Emb f m l) (hl:kej l):kej m:=by
 refine ⟨?_,fun i hi=>by rw [h.ev i hi];exact hl.valid _ (h.lt i hi),fun i k hi hk e=>h.inj i k hi hk (hl.inj _ _ (h.lt i hi) (h.lt k hk) (by rw [←h.id hi,←h.id hk,e])),h.names⟩
 have hnd:((List.range m.length).map f).Nodup:=by
  rw [List.Nodup,List.pairwise_map];refine List.Pairwise.imp_of_mem (fun {a b} ha hb hab e=>hab (h.inj a b (List.mem_range.1 ha) (List.mem_range.1 hb) e)) List.nodup_range
 have hsub:((List.range m.length).map f) ⊆ List.range l.length:=fun x hx=>by
  obtain ⟨i,h1,rfl⟩:=List.mem_map.1 hx;exact List.mem_range.2 (h.lt i (List.mem_range.1 h1))
 have:=hnd.length_le_of_subset hsub
 simp only [List.length_map,List.length_range] at this
 have:=hl.le
 omega
theorem Emb.find (h:Emb f m l) (hl:kej l) {s:Bs} (hs:s∈idsOf m):findI (idsOf m) s<m.length∧findI (idsOf l) s=f (findI (idsOf m) s):=by
 have h1:=findI_mem.2 hs;rw [ids_len] at h1;refine ⟨h1,?_⟩;have h2:(idsOf m).getD (findI (idsOf m) s) []=s:=findI_at (by rw [ids_len];exact h1);rw [h.id h1] at h2
 have:=kof (ids:=idsOf l) (k:=f (findI (idsOf m) s)) (fun a b ha hb=>hl.inj a b (by rwa [ids_len] at ha) (by rwa [ids_len] at hb)) (by rw [ids_len];exact h.lt _ h1)
 rw [h2] at this;exact this
theorem Emb.js (h:Emb f m l) (hl:kej l) {i:Nat} (hi:i<m.length):(namesJ l (idsOf l)).getD (f i) []=((namesJ m (idsOf m)).getD i []).map f∧∀j∈(namesJ m (idsOf m)).getD i [],j<m.length:=by
 rw [namesJ_at _ _ hi,namesJ_at _ _ (h.lt i hi),←h.ev i hi,List.map_map];constructor
 ·exact List.map_congr_left fun s hs=>(h.find hl (h.names i hi s hs)).2
 ·intro j hj
  obtain ⟨s,hs,rfl⟩:=List.mem_map.1 hj;exact (h.find hl (h.names i hi s hs)).1
def kyq (f:Nat→Nat) (n:Nat) (x y:Row):Prop:=x.1=y.1∧(∀k,k<n→x.2.getD k false=y.2.getD (f k) false)∧∀q,y.2.getD q false=true→∃k,k<n∧f k=q
theorem kq4 {n:Nat} {S T:Stt} (hn:S.length=n) (hT:∀i,i<n→f i<T.length) (hinj:∀i k,i<n→k<n→f i=f k→i=k) (hfS:Fits S) (hfT:Fits T) :
 ∀(js:List Nat) (x y x':Row),(∀j∈js,j<n∧∃a b,S.getD j none=some a∧T.getD (f j) none=some b∧kyq f n a b)→x.2.length=S.length→y.2.length=T.length→kyq f n x y→readyL S x js=some x'→∃y',readyL T y (js.map f)=some y'∧kyq f n x' y'
 | [],x,y,x',_,_,_,hR,hx=>⟨y,rfl,by simp [readyL] at hx;rw [←hx];exact hR⟩
 |j :: r,x,y,x',hj,lx,ly,hR,hx=>by
  obtain ⟨hjn,a,b,ha,hb,hab⟩:=hj j (by simp);have la:=hfS j a ha;have lb:=hfT (f j) b hb;unfold readyL at hx;rw [ha] at hx;simp only [List.map_cons];unfold readyL;rw [hb];refine kq4 hn hT hinj hfS hfT r _ _ x' (fun k hk=>hj k (by simp [hk])) (by rw [orL_len _ _ (by simp [lx,la])];simp [lx]) (by rw [orL_len _ _ (by simp [ly,lb])];simp [ly]) ⟨?_,fun k hk=>?_,fun q hq=>?_⟩ hx
  ·show max x.1 (a.1+1)=max y.1 (b.1+1)
   rw [hR.1,hab.1]
  ·show (orL (x.2.set j true) a.2).getD k false=(orL (y.2.set (f j) true) b.2).getD (f k) false
   rw [orL_at _ _ (by simp [lx,la]),orL_at _ _ (by simp [ly,lb]),set_at _ _ _ (by omega),set_at _ _ _ (by have:=hT j hjn;omega),hR.2.1 k hk,hab.2.1 k hk]
   congr 2
   rw [Bool.eq_iff_iff,decide_eq_true_eq,decide_eq_true_eq];exact ⟨fun e=>by rw [e],fun e=>hinj k j hk hjn e⟩
  ·have hq':(orL (y.2.set (f j) true) b.2).getD q false=true:=hq
   rw [orL_at _ _ (by simp [ly,lb]),set_at _ _ _ (by have:=hT j hjn;omega),Bool.or_eq_true,Bool.or_eq_true,decide_eq_true_eq] at hq';rcases hq' with (rfl|hq')|hq'
   ·exact ⟨j,hjn,rfl⟩
   ·exact hR.2.2 q hq'
   ·exact hab.2.2 q hq'
theorem kg6 (n k:Nat):(List.replicate n false).getD k false=false:=by
 rw [List.getD_eq_getElem?_getD,List.getElem?_replicate];split <;> rfl
theorem Emb.rows (h:Emb f m l) (hl:kej l) {Sm Sl:Stt} (hm:arrS m (idsOf m)=some Sm) (hS:arrS l (idsOf l)=some Sl):∀(b i:Nat),i<m.length→rankI Sm i≤b→∃x y,Sm.getD i none=some x∧Sl.getD (f i) none=some y∧kyq f m.length x y:=by
 obtain ⟨lm,em,tm⟩:=arrS_lower hm;obtain ⟨ll,el,tl⟩:=arrS_lower hS;have fm:=kij hm;have fl:=kij hS;intro b
 induction b with
 |zero =>
  intro i hi hb;obtain ⟨x,hx⟩:=tm i (by omega);obtain ⟨y,hy⟩:=tl (f i) (by have:=h.lt i hi;omega);refine ⟨x,y,hx,hy,?_⟩;obtain ⟨hj1,hj2⟩:=h.js hl hi;have r1:=fm i x hx;have r2:=fl (f i) y hy;rw [hj1] at r2;have hrk:rankI Sm i=x.1:=by unfold rankI;rw [hx];rfl
  cases hjs:(namesJ m (idsOf m)).getD i [] with
  |nil =>
   rw [hjs] at r1 r2;simp only [List.map_nil,readyL,Option.some.injEq] at r1 r2;subst r1;subst r2;exact ⟨rfl,fun k _=>by rw [kg6,kg6],fun q hq=>by rw [kg6] at hq;cases hq⟩
  |cons j r =>
   exfalso
   have hjl:j<m.length:=hj2 j (by rw [hjs];simp)
   have hp:pastI Sm i j=true:=by
    unfold pastI;rw [hx];show x.2.getD j false=true;rw [hjs] at r1;exact ke2 (js:=j :: r) lm.1 r1 (by simp) (by simp) (by omega)
   have:=kdh lm hp
   omega
 |succ b ih =>
  intro i hi hb;obtain ⟨x,hx⟩:=tm i (by omega);obtain ⟨y,hy⟩:=tl (f i) (by have:=h.lt i hi;omega);refine ⟨x,y,hx,hy,?_⟩;obtain ⟨hj1,hj2⟩:=h.js hl hi;have r1:=fm i x hx;have r2:=fl (f i) y hy;rw [hj1] at r2
  have hrow:∀j∈(namesJ m (idsOf m)).getD i [],j<m.length∧∃a b,Sm.getD j none=some a∧Sl.getD (f j) none=some b∧kyq f m.length a b:=fun j hj=>by
   have hjl:=hj2 j hj
   have hp:pastI Sm i j=true:=by
    unfold pastI;rw [hx];exact ke2 lm.1 r1 hj (by simp) (by omega)
   have:=kdh lm hp
   obtain ⟨a,b',h1,h2,h3⟩:=ih j hjl (by omega);exact ⟨hjl,a,b',h1,h2,h3⟩
  obtain ⟨y',h1,h2⟩:=kq4 (T:=Sl) em (fun i hi=>by rw [el];exact h.lt i hi) h.inj lm.1 ll.1 _ (0,List.replicate Sm.length false) (0,List.replicate Sl.length false) x hrow (by simp) (by simp) ⟨rfl,fun k _=>by rw [kg6,kg6],fun q hq=>by rw [kg6] at hq;cases hq⟩ r1;rw [r2] at h1
  cases h1;exact h2
end
section
variable {f:Nat→Nat} {n:Nat} {A:List Nat}
theorem koh {p q:Nat→Bool} (h:∀k∈A,q (f k)=p k):(A.map f).any q=A.any p:=by
 induction A with
 |nil=>rfl
 |cons a r ih=>rw [List.map_cons,List.any_cons,List.any_cons,h a (by simp),ih fun k hk=>h k (by simp [hk])]
theorem kg1 {p q:Nat→Bool} (h:∀k∈A,q (f k)=p k):(A.map f).filter q=(A.filter p).map f:=by
 induction A with
 |nil=>rfl
 |cons a r ih =>
  rw [List.map_cons,List.filter_cons,List.filter_cons,h a (by simp),ih fun k hk=>h k (by simp [hk])]
  cases p a <;> simp
end
section
variable {f:Nat→Nat} {cm cl:Cx} {A:List Nat}
theorem Sub.replay (h:Sub f cm cl):∀(r A:List Nat),(∀k∈A,k<cm.l.length)→(∀k∈r,k<cm.l.length)→cl.replay (A.map f) (r.map f)=(cm.replay A r).map fun x=>(f x.1,x.2)
 | [],A,_,_=>rfl
 |i :: r,A,hA,hr=>by
  have hi:=hr i (by simp);rw [List.map_cons];unfold Cx.replay;rw [h.apply hA hi]
  by_cases c:cm.apply A i=0
  ·rw [if_pos c,if_pos c]
   have:=h.replay r (A++[i]) (fun k hk=>by
    rcases List.mem_append.1 hk with hk|hk
    ·exact hA k hk
    ·simp at hk;subst hk;exact hi) (fun k hk=>hr k (by simp [hk]))
   rw [List.map_append] at this;exact this
  ·rw [if_neg c,if_neg c];rfl
theorem Sub.person (h:Sub f cm cl) (hA:∀k∈A,k<cm.l.length) (a:Bs):cl.person (A.map f) a=cm.person A a:=by
 unfold Cx.person
 rw [km4 (p:=fun k=>decide ((cm.ev k).kind=1) && decide ((cm.ev k).author=a)) fun k hk=>by rw [h.ev k (hA k hk)],
  kg1 (p:=fun k=>decide ((cm.ev k).author=a)) fun k hk=>by rw [h.ev k (hA k hk)],List.length_map]
 cases hj:A.find? fun k=>decide ((cm.ev k).kind=1) && decide ((cm.ev k).author=a) with
 |none=>rfl
 |some j=>simp only [Option.map_some];rw [h.ev j (hA j (List.mem_of_find?_eq_some hj))]
theorem Sub.pack (h:Sub f cm cl) (hA:∀k∈A,k<cm.l.length) (p:Bs):cl.pack (A.map f) p=cm.pack A p:=by
 have e:cl.upsOf (A.map f) p=(cm.upsOf A p).map f:=kg1 fun k hk=>by rw [h.ev k (hA k hk)]
 unfold Cx.pack;rw [e,List.length_map,List.getLast?_map,Option.map_map]
 congr 2
 cases hl:(cm.upsOf A p).getLast? with
 |none=>rfl
 |some j =>
  have hj:j∈A:=(List.mem_filter.1 (List.mem_of_getLast? hl)).1;simp only [Option.map_some,Function.comp,h.ev j (hA j hj)]
theorem Sub.decOf (h:Sub f cm cl) (hA:∀k∈A,k<cm.l.length) {i:Nat} (hi:i<cm.l.length):cl.decOf (A.map f) (f i)=cm.decOf A i:=by
 have e1:∀s,cl.wd (A.map f) s=cm.wd A s:=fun s=>koh fun k hk=>by rw [h.ev k (hA k hk)]
 have e2:∀s,cl.ov (A.map f) s=cm.ov A s:=fun s=>koh fun k hk=>by rw [h.ev k (hA k hk)]
 have e3:∀s,cl.rp (A.map f) s=cm.rp A s:=fun s=>koh fun k hk=>by
  rw [h.ev k (hA k hk)]
  congr 1
  exact koh fun d hd=>by rw [h.ev d (hA d hd),h.id d (hA d hd),h.past k d (hA k hk) (hA d hd)]
 unfold Cx.decOf;rw [h.ev i hi,h.id i hi,e1,e2,e3]
theorem Sub.decs (h:Sub f cm cl) (hA:∀k∈A,k<cm.l.length):cl.decs (A.map f)=cm.decs A:=by
 unfold Cx.decs;rw [kg1 (p:=fun k=>decide ((cm.ev k).kind=3)) fun k hk=>by rw [h.ev k (hA k hk)],List.map_map];exact List.map_congr_left fun k hk=>h.decOf hA (hA k (List.mem_filter.1 hk).1)
theorem Sub.state (h:Sub f cm cl) (hA:∀k∈A,k<cm.l.length):cl.state (A.map f)=cm.state A:=by
 have e1:cl.people (A.map f)=cm.people A:=by
  unfold Cx.people;rw [List.map_map,List.map_congr_left (g:=fun k=>(cm.ev k).author) fun k hk=>by show (cl.ev (f k)).author=_;rw [h.ev k (hA k hk)]];exact List.map_congr_left fun s _=>h.person hA s
 have e2:cl.packs (A.map f)=cm.packs A:=by
  unfold Cx.packs;rw [kg1 (p:=fun k=>decide ((cm.ev k).kind=2)) fun k hk=>by rw [h.ev k (hA k hk)],List.map_map,List.map_congr_left (l:=A.filter _) (g:=fun k=>(cm.ev k).pkg) fun k hk=>by show (cl.ev (f k)).pkg=_;rw [h.ev k (hA k (List.mem_filter.1 hk).1)]];exact List.map_congr_left fun s _=>h.pack hA s
 unfold Cx.state;rw [e1,e2,h.decs hA]
end
section
variable {f:Nat→Nat} {m l:List Ev}
theorem Emb.arr (h:Emb f m l) (hl:kej l) {Sl:Stt} (hS:arrS l (idsOf l)=some Sl):∃Sm,arrS m (idsOf m)=some Sm:=by
 obtain ⟨ll,el,tl⟩:=arrS_lower hS;have fl:=kij hS;refine kh0 (n:=m.length) (ρ:=fun i=>rankI Sl (f i)) (fun i hi j hj=>?_) _ _ (by simp) (by omega);obtain ⟨hj1,hj2⟩:=h.js hl hi;have hjl:=hj2 j hj;refine ⟨hjl,?_⟩;obtain ⟨y,hy⟩:=tl (f i) (by have:=h.lt i hi;omega);have r2:=fl (f i) y hy;refine kdh ll ?_;unfold pastI;rw [hy];exact ke2 ll.1 r2 (by rw [hj1];exact List.mem_map.2 ⟨j,hj,rfl⟩) (by simp) (by have:=h.lt j hjl;omega)
theorem Emb.row (h:Emb f m l) (hl:kej l) {Sm Sl:Stt} (hm:arrS m (idsOf m)=some Sm) (hS:arrS l (idsOf l)=some Sl) {i:Nat} (hi:i<m.length):∃x y,Sm.getD i none=some x∧Sl.getD (f i) none=some y∧kyq f m.length x y:=h.rows hl hm hS _ i hi (Nat.le_refl _)
theorem Emb.rank (h:Emb f m l) (hl:kej l) {Sm Sl:Stt} (hm:arrS m (idsOf m)=some Sm) (hS:arrS l (idsOf l)=some Sl) {i:Nat} (hi:i<m.length):rankI Sl (f i)=rankI Sm i:=by
 obtain ⟨x,y,h1,h2,h3⟩:=h.row hl hm hS hi;unfold rankI;rw [h1,h2];exact h3.1.symm
theorem Emb.sub (h:Emb f m l) (hl:kej l) {Sm Sl:Stt} (hm:arrS m (idsOf m)=some Sm) (hS:arrS l (idsOf l)=some Sl):Sub f (Cx.mk m (idsOf m) Sm) (Cx.mk l (idsOf l) Sl):=by
 refine ⟨fun i hi=>(h.ev i hi).symm,fun i hi=>(h.id hi).symm,fun i k hi hk=>?_⟩;obtain ⟨x,y,h1,h2,h3⟩:=h.row hl hm hS hi;show pastI Sl (f i) (f k)=pastI Sm i k;unfold pastI;rw [h1,h2];exact (h3.2.1 k hk).symm
theorem Emb.order (h:Emb f m l) (hl:kej l) {Sm Sl:Stt} (hm:arrS m (idsOf m)=some Sm) (hS:arrS l (idsOf l)=some Sl) {O:List Nat} (hp:O.Perm ((List.range m.length).map f)) (hs:kcf (befI Sl (idsOf l)) O):(ordI Sm (idsOf m)).map f=O:=by
 have lm:Sm.length=m.length:=(arrS_lower hm).2.1;have hperm:=ordI_perm Sm (idsOf m);have hlt:∀x∈ordI Sm (idsOf m),x<m.length:=fun x hx=>by have:=List.mem_range.1 (hperm.mem_iff.1 hx);omega
 refine kek (b:=befI Sl (idsOf l)) ((hperm.map f).trans (by rw [lm];exact hp.symm)) (fun x hx y hy h1 h2=>?_) ?_ hs
 ·obtain ⟨i,hi,rfl⟩:=List.mem_map.1 hx
  obtain ⟨k,hk,rfl⟩:=List.mem_map.1 hy;exact hl.inj _ _ (h.lt i (hlt i hi)) (h.lt k (hlt k hk)) (befN_tot h1 h2).2
 ·unfold kcf
  rw [List.pairwise_map];refine List.Pairwise.imp_of_mem (fun {a b} ha hb hab=>?_) (kc1 Sm (idsOf m));rw [kkt,h.rank hl hm hS (hlt b hb),h.rank hl hm hS (hlt a ha),←h.id (hlt b hb),←h.id (hlt a ha)];rw [kkt] at hab;exact hab
end
theorem kgi {l:List Ev} {S:Stt} (hl:kej l) (hS:arrS l (idsOf l)=some S):foldE l=match (Cx.mk l (idsOf l) S).replay [] (ordI S (idsOf l)) with
 |some (i,f)=>(st0,(i:Int),f)
 |none=>((Cx.mk l (idsOf l) S).state (ordI S (idsOf l)),-1,0):=by
 unfold foldE foldI;rw [if_pos (set_ok.2 ⟨hl,S,hS⟩),hS];rfl
theorem kfn {c:Cx}:∀{r A:List Nat} {i:Nat} {e:Int},c.replay A r=some (i,e)→e≠0∧i∈r
 | [],A,i,e,h=>by cases h
 |k :: r,A,i,e,h=>by
  unfold Cx.replay at h
  by_cases c':c.apply A k=0
  ·rw [if_pos c'] at h
   obtain ⟨h1,h2⟩:=kfn h;exact ⟨h1,by simp [h2]⟩
  ·rw [if_neg c'] at h
   simp only [Option.some.injEq,Prod.mk.injEq] at h;exact ⟨by rw [←h.2];exact c',by simp [h.1]⟩
end Licit.Rv
namespace Licit
open Go Go.RowKit
theorem kft {w w':World} {b o:Nat} {cs:List Value} (h:w.rangeAt b o cs) (hb:Below w.heap.size w w') (hlt:b<w.heap.size):w'.rangeAt b o cs:=fun j v hj=>by
 rw [hb.cell (p:=⟨b,o+j,none⟩) hlt];exact h j v hj
theorem kjx.below {v:Value} {D:List (Nat × Nat)} {w w':World} (h:kjx v D w) (hb:Below w.heap.size w w'):kjx v D w':=by
 refine ⟨h.1,h.2.1,?_⟩;rcases h.2.2 with h|⟨b,off,cap,rfl,h0,hlt,hc⟩
 ·exact .inl h
 ·exact .inr ⟨b,off,cap,rfl,h0,Nat.lt_of_lt_of_le hlt hb.size,fun i hi=>kft (hc i hi) hb hlt⟩
variable {α:Type} {k:Nat} {enc:α→List Value}
def kei (k:Nat) (enc:α→List Value) (v:Value) (l:List α) (w:World):Prop:=l.length≤maxLen∧((∃a cap,v = .slice a 0 cap∧l=[]) ∨
 ∃b off cap,v = .slice (some ⟨b,off,none⟩) l.length cap∧0<l.length∧b<w.heap.size∧∀i (h:i<l.length),w.rangeAt b (off+i*k) (enc l[i]))
theorem kei.below {v:Value} {l:List α} {w w':World} (h:kei k enc v l w) (hb:Below w.heap.size w w'):kei k enc v l w':=by
 refine ⟨h.1,?_⟩;rcases h.2 with h|⟨b,off,cap,rfl,h0,hlt,hc⟩
 ·exact .inl h
 ·exact .inr ⟨b,off,cap,rfl,h0,Nat.lt_of_lt_of_le hlt hb.size,fun i hi=>kft (hc i hi) hb hlt⟩
theorem kei.at {a:Option Addr} {n cap:Nat} {l:List α} {w:World} (h:kei k enc (.slice a n cap) l w) {i:Nat} (hi:i<l.length):∃b off,a=some ⟨b,off,none⟩∧b<w.heap.size∧w.rangeAt b (off+i*k) (enc l[i]):=by
 rcases h.2 with ⟨a,cap,e,rfl⟩|⟨b,off,cap,e,h0,hlt,hc⟩
 ·simp at hi
 ·simp only [Value.slice.injEq] at e
  obtain ⟨rfl,-,-⟩:=e;exact ⟨b,off,rfl,hlt,hc i hi⟩
theorem kji {w:World} {base:Nat} {e:TypeId} {size:Nat} {v:Value} {n:Nat} {xs:List Value} (h:w.ownsRow base e size v n xs):n≤maxLen:=by
 rcases h.2 with ⟨rfl,h1⟩|⟨g,cap,cur,rfl,h2,h3,h4,h5,h6,h7⟩
 ·omega
 ·unfold maxLen at *;omega
end Licit
