/- Parts of the proofs: WkRs4. No condition beyond those at each theorem. -/
import Derived.Deep.CutRange
import Derived.Test.YtknpbekoenbphaaGreatDoorQk27
set_option linter.unusedVariables false
set_option linter.unusedSimpArgs false
set_option maxHeartbeats 16000000
set_option maxRecDepth 100000
namespace Go.Proofs.YtknpbekoenbphaaGreatDoor
open Go Go.RowKit Licit
structure Dd where
 k:Nat
 a:Nat
 q:Nat
 n:Nat
 u:Nat
 f:Nat
 t0:Nat
 t1:Nat
 hk:k<256
 ha:a<256
 hq:q<256
 hn:n<256
 hu:u<256
 hf:f<65536
 h0:t0<256
 h1:t1<256
abbrev ddC (d:Dd):Array Value:=#[.int .u8 (d.k:Int),.int .u8 (d.a:Int),.int .u8 (d.q:Int),.int .u8 (d.n:Int),.int .u8 (d.u:Int),.int .u16 (d.f:Int),.int .u8 (d.t0:Int),.int .u8 (d.t1:Int)]
abbrev evP (k:Int) (a:Bs) (n:Int) (xs:List Bs):Rv.Ev:=⟨k,a,n,xs,[],0,0,[],[],[],[],[],0,[],Rv.sg0⟩
theorem kh7 {P:Program} {w:World} {K:Act→World→Prop} {Q:Exit→Act→World→Prop} {ops:Array Oper} {o:Oper} {a:Act} {E:Prop} (d:Nat) (_:o.dst=some d) (h:if Region.wanted o (yielded ops a.tmps)=true then Oper.wp P o a w K Q else E):if Region.wanted o (yielded ops a.tmps)=true then Oper.wp P o a w K Q else E:=h
theorem kk5 {W:World} {b:Nat} {cs:Array Value} (l:List Bs) (n:Nat) (hb:W.heap[b]? = some (.cells cs 9 (0,0))) (hn:l.length=n) (hc:l.map vS=cs.toList) (h0:0<n) (hm:n≤1000) (hl:∀x∈l,x.length≤maxLen) :
 kcy 48 #[.slice (some ⟨b,0,none⟩) n n] W (.string (B (hsh l))):=by
 subst hn;refine kz0 _ l _ ?_ hl
 have:=kgj (cap:=l.length) hb hc (by rw [List.length_map];unfold maxLen;omega) (by rw [List.length_map];exact h0)
 rw [List.length_map] at this;exact this
def khy (C K:Nat) (d:Dd) (a:Bs) (n:Int) (xs:List Bs) (na:Option Addr) (nc t u m:Nat) (w:World) (i1:Value) (wr:World):Prop:=∃(i:Nat) (T:List Bs) (v:Value),i≤C∧i1 = .int .i64 i∧T.length=i∧(∀x∈T,x.length≤1000)∧Below w.heap.size w wr∧wr.heap[t]? = some (.cells (evC ⟨(K:Int),a,n,xs,[],0,0,[],[],[],[],[],0,T,Rv.sg0⟩ (.slice na xs.length nc) v kaf kaf kaf) 45 (0,0))∧wr.heap[u]? = some (.cells (ddC d) 129 (0,0))∧wr.heap[m]? = some (.cells evZ 45 (0,0))∧wr.ownsRow (m+1) 9 1 v T.length (T.map vS)
def kfi (xs:List Bs) (vn:Value) (w:World) (en:Ending) (w':World):Prop:=∃(e:Rv.Ev) (vt:Value),en = .returned (.agg (evC e vn vt kaf kaf kaf))∧e.names=xs∧e.sg=Rv.sg0∧kt0 e∧e.targets.length≤2∧w'.ownsRow w.heap.size 9 1 vt e.targets.length (e.targets.map vS)∧Below w.heap.size w w'
theorem kur (d:Dd) (a:Bs) (n:Int) (xs ids:List Bs) (na:Option Addr) (nc:Nat) (vb vi:Value) (w:World) (ha:a.length≤1000) (hxs:∀x∈xs,x.length≤1000) (hids:∀x∈ids,x.length≤1000) (hI:IsSl vi (ids.map vS) w) :
 Calls Tryz.prog 74 #[.agg (evC (evP (1:Nat) a n xs) (.slice na xs.length nc) kaf kaf kaf kaf),.agg (ddC d),vb,vi] w (kfi xs (.slice na xs.length nc) w):=by
 obtain ⟨t,ht⟩:∃t,w.heap.size=t:=⟨_,rfl⟩;obtain ⟨u,hu⟩:∃u,t+1=u:=⟨_,rfl⟩;obtain ⟨m,hm⟩:∃m,u+1=m:=⟨_,rfl⟩
 have hA:∀W,W=((w.alloc (.cells (evC (evP (1:Nat) a n xs) (.slice na xs.length nc) kaf kaf kaf kaf) 45)).alloc (.cells (ddC d) 129)).alloc (.cells evZ 45)→Below w.heap.size w W∧W.heap[t]? = some (.cells (evC (evP (1:Nat) a n xs) (.slice na xs.length nc) kaf kaf kaf kaf) 45 (0,0))∧W.heap[u]? = some (.cells (ddC d) 129 (0,0))∧W.heap[m]? = some (.cells evZ 45 (0,0)):=by
  rintro _ rfl;subst hm;subst hu;subst ht;exact ⟨(((Below.refl _ _).alloc (Nat.le_refl _) _).alloc (by simp) _).alloc (by simp;omega) _,kah (kah (kai _ _)),kah (kak (by simp) rfl),kak (by simp) rfl⟩
 have HN:=hdd (And.intro hxs (And.intro hids (And.intro hI ha)));clear hxs hids hI ha
 go_enter Tryz.func74,Tryz.ntmps74
 go_upto_region 1 with fail
 try simp only [World.size_alloc]
 have hu':w.heap.size+1=u:=by omega
 have hm':w.heap.size+1+1=m:=by omega
 try simp only [hm',hu',ht]
 show Code.wp _ _ _ _ (((w.alloc (.cells (evC (evP (1:Nat) a n xs) (.slice na xs.length nc) kaf kaf kaf kaf) 45)).alloc (.cells (ddC d) 129)).alloc (.cells evZ 45));generalize hw1:((w.alloc (.cells (evC (evP (1:Nat) a n xs) (.slice na xs.length nc) kaf kaf kaf kaf) 45)).alloc (.cells (ddC d) 129)).alloc (.cells evZ 45)=w1;obtain ⟨hb1,hE1,hD1,hR1⟩:=hA w1 hw1.symm;have HBT:=hdd (And.intro ht (And.intro hu hm));clear hw1 hA hu' hm' ht hu hm;obtain ⟨r,hr⟩:∃r,d.q % 3=r:=⟨_,rfl⟩;have hr3:r<3:=by omega
 have hrm:(d.q:Int).tmod 3=(r:Int):=by rw [Int.tmod_eq_emod_of_nonneg (by omega)];omega
 have hDq:w1.cell? ⟨u,2,none⟩=some (.int .u8 (d.q:Int)):=by rw [kaa hD1];rfl
 obtain ⟨qx,hqx,hql⟩:∃qx:Bs,([[108,105,99,101,110,115,101,58,97,112,112,47,97,46,115,114,99],[108,105,99,101,110,115,101,58,108,105,98,47,98,46,115,114,99],[114,101,108,97,116,105,111,110,58,97,112,112,47,97,46,115,114,99]]:List Bs)[r]? = some qx∧qx.length≤100:=by
  rcases (show r=0∨r=1∨r=2 by omega) with rfl|rfl|rfl <;> exact ⟨_,rfl,by decide⟩
 have hpick:(w1.alloc (.cells #[.string ⟨#[108,105,99,101,110,115,101,58,97,112,112,47,97,46,115,114,99]⟩,.string ⟨#[108,105,99,101,110,115,101,58,108,105,98,47,98,46,115,114,99]⟩,.string ⟨#[114,101,108,97,116,105,111,110,58,97,112,112,47,97,46,115,114,99]⟩] 9)).cell? ⟨w1.heap.size,r,none⟩=some (.string (B qx)):=by
  rw [kaa (kai _ _),show (#[.string ⟨#[108,105,99,101,110,115,101,58,97,112,112,47,97,46,115,114,99]⟩,.string ⟨#[108,105,99,101,110,115,101,58,108,105,98,47,98,46,115,114,99]⟩,.string ⟨#[114,101,108,97,116,105,111,110,58,97,112,112,47,97,46,115,114,99]⟩]:Array Value)=(([[108,105,99,101,110,115,101,58,97,112,112,47,97,46,115,114,99],[108,105,99,101,110,115,101,58,108,105,98,47,98,46,115,114,99],[114,101,108,97,116,105,111,110,58,97,112,112,47,97,46,115,114,99]]:List Bs).map vS).toArray from rfl,List.getElem?_toArray,List.getElem?_map,hqx];rfl
 have hul:=kad hD1;have HF1:=hdd (And.intro hb1 (And.intro hE1 (And.intro hD1 hR1)));clear hqx hb1 hE1 hD1 hR1 hr
 go_upto_region 2 with fail
 have hF2:Below w.heap.size w (w1.alloc (.cells #[.string ⟨#[108,105,99,101,110,115,101,58,97,112,112,47,97,46,115,114,99]⟩,.string ⟨#[108,105,99,101,110,115,101,58,108,105,98,47,98,46,115,114,99]⟩,.string ⟨#[114,101,108,97,116,105,111,110,58,97,112,112,47,97,46,115,114,99]⟩] 9))∧(w1.alloc (.cells #[.string ⟨#[108,105,99,101,110,115,101,58,97,112,112,47,97,46,115,114,99]⟩,.string ⟨#[108,105,99,101,110,115,101,58,108,105,98,47,98,46,115,114,99]⟩,.string ⟨#[114,101,108,97,116,105,111,110,58,97,112,112,47,97,46,115,114,99]⟩] 9)).heap[t]? = some (.cells (evC (evP (1:Nat) a n xs) (.slice na xs.length nc) kaf kaf kaf kaf) 45 (0,0))∧(w1.alloc (.cells #[.string ⟨#[108,105,99,101,110,115,101,58,97,112,112,47,97,46,115,114,99]⟩,.string ⟨#[108,105,99,101,110,115,101,58,108,105,98,47,98,46,115,114,99]⟩,.string ⟨#[114,101,108,97,116,105,111,110,58,97,112,112,47,97,46,115,114,99]⟩] 9)).heap[u]? = some (.cells (ddC d) 129 (0,0))∧(w1.alloc (.cells #[.string ⟨#[108,105,99,101,110,115,101,58,97,112,112,47,97,46,115,114,99]⟩,.string ⟨#[108,105,99,101,110,115,101,58,108,105,98,47,98,46,115,114,99]⟩,.string ⟨#[114,101,108,97,116,105,111,110,58,97,112,112,47,97,46,115,114,99]⟩] 9)).heap[m]? = some (.cells evZ 45 (0,0)):=by
  obtain ⟨h1,h2,h3,h4⟩:=HF1.out;exact ⟨h1.alloc h1.size _,kah h2,kah h3,kah h4⟩
 clear hpick hDq HF1 hul hr3 hrm;show Code.wp _ _ _ _ (w1.alloc (.cells #[.string ⟨#[108,105,99,101,110,115,101,58,97,112,112,47,97,46,115,114,99]⟩,.string ⟨#[108,105,99,101,110,115,101,58,108,105,98,47,98,46,115,114,99]⟩,.string ⟨#[114,101,108,97,116,105,111,110,58,97,112,112,47,97,46,115,114,99]⟩] 9));generalize w1.alloc (.cells #[.string ⟨#[108,105,99,101,110,115,101,58,97,112,112,47,97,46,115,114,99]⟩,.string ⟨#[108,105,99,101,110,115,101,58,108,105,98,47,98,46,115,114,99]⟩,.string ⟨#[114,101,108,97,116,105,111,110,58,97,112,112,47,97,46,115,114,99]⟩] 9)=w2 at hF2 ⊢;obtain ⟨hb2,hE2,hD2,hR2⟩:=hF2;have HB2:=hdd hb2;have HE2:=hdd hE2;have HD2:=hdd hD2;have HR2:=hdd hR2;have hz:=hb2.size;have htl:=kad hE2;have hml:=kad hR2;have hul:=kad hD2;have hk0:w2.cell? ⟨t,0,none⟩=some (.int .i64 ((1:Nat):Int)):=by rw [kaa hE2];rfl
 have hk1:w2.cell? ⟨t,1,none⟩=some (.string (B a)):=by rw [kaa hE2];rfl
 clear hb2 hE2 hD2 hR2
 have HH:=hdd (fun W=>kcy.alloc (kg5 (l:=[([114,111,111,116]:Bs),a]) (cs:=#[.string ⟨#[114,111,111,116]⟩,.string (B a)]) 2 rfl (by decide) rfl (by decide) (by
  intro x hx;have ha:=HN.out.2.2.2;simp only [List.mem_cons,List.not_mem_nil,or_false] at hx;rcases hx with rfl|rfl
  ·unfold maxLen;decide
  ·unfold maxLen;omega) W))
 obtain ⟨rt,hh⟩:∃rt,hsh [([114,111,111,116]:Bs),a]=rt:=⟨_,rfl⟩;have hhl:rt.length=32:=by rw [←hh,kf6]
 rw [hh] at HH;clear hh
 go_upto_region 17 with (first
  |(go_at_call 48
    refine (HH.out _).mono ?_;rintro en w3 ⟨rfl,hb3⟩;have HB3:=hdd (HB2.out.next hb3);have HE3:=hdd (kab hb3 htl HE2.out);have HR3:=hdd (kab hb3 hml HR2.out);clear hb3)
  |(go_at_call 49
    refine (ko3 _).mono ?_;rintro en w4 ⟨rfl,hb4⟩;have HB4:=hdd (HB3.out.next hb4);have HE4:=bhh hb4 HE3;have HR4:=bhh hb4 HR3;clear hb4)
  |(refine kae rfl 9 _ _ rfl t 4 rfl (.string (B rt)) rfl rfl rfl _ 45 HE4.out (by simp) (by kernel_rfl) ?_
    intro w5 hw5 hk5;have HE5:=hdd hw5;have HK5:=hdd hk5;clear hw5 hk5)
  |(refine kaz rfl 41 _ _ rfl t 5 #[.int .i64 8,.int .i64 2] rfl rfl _ 45 HE5.out (by simp) (by kernel_rfl) (by simp [Value.oneCell']) ?_
    go_loud (
    intro w6 hw6 hk6;have HE6:=hdd (show w6.heap[t]? = some (.cells (evC ⟨1,a,n,xs,rt,8,2,[],[],[],[],[],0,[],Rv.sg0⟩ (.slice na xs.length nc) kaf kaf kaf kaf) 45 (0,0)) from hw6);have HK6:=hdd (HK5.out.trans hk6);have HR6:=hdd ((HK6.out.block m (kad HR4.out) (fun e=>by have:m=t:=e;have:=HBT.out;omega)).trans HR4.out);have HB6:=hdd (HB4.out.trans (HK6.out.below HB4.out.size (fun q hq e=>by have:q=t:=e;have:=HBT.out.1;omega)));clear hw6 hk6))
  |fail)
 have HOne:=hdd (kbe ⟨1,a,n,xs,rt,8,2,[],[],[],[],[],0,[],Rv.sg0⟩ (.slice na xs.length nc) kaf kaf kaf kaf rfl rfl rfl rfl rfl)
 go_wp2_with (first
  |(refine wpList_load_row rfl 45 _ rfl t rfl 45 (evC ⟨1,a,n,xs,rt,8,2,[],[],[],[],[],0,[],Rv.sg0⟩ (.slice na xs.length nc) kaf kaf kaf kaf) (0,0) _ HE6.out rfl rfl (by kernel_rfl) ?_)
  |(refine kac rfl 45 _ _ rfl m rfl (evC ⟨1,a,n,xs,rt,8,2,[],[],[],[],[],0,[],Rv.sg0⟩ (.slice na xs.length nc) kaf kaf kaf kaf) rfl 45 evZ HR6.out (by kernel_rfl) rfl HOne.out ?_
    intro w7 hw7 hk7;have HW7:=hdd hw7;have HK7:=hdd hk7;have HB7:=hdd (HB6.out.trans (HK7.out.below HB6.out.size (fun q hq e=>by have:q=m:=e;have:=HBT.out;omega)));clear hw7 hk7)
  |fail)
 refine kbv rfl m 45 _ (0,0) _ rfl HW7.out rfl rfl (by kernel_rfl) rfl ?_;refine ⟨_,kaf,rfl,rfl,rfl,⟨?_,?_,?_,?_,?_,?_,?_,?_,?_⟩,by simp,World.ownsRow_nil _ _ _ _,HB7.out⟩
 all_goals first|(simp;done)|(simp;omega)|(have:=HN.out.2.2.2;show List.length a≤_;omega)|exact fun x hx=>by have:=HN.out.1 x hx;omega
theorem kus (d:Dd) (a:Bs) (n:Int) (xs ids:List Bs) (na:Option Addr) (nc:Nat) (vb vi:Value) (w:World) (ha:a.length≤1000) (hxs:∀x∈xs,x.length≤1000) (hids:∀x∈ids,x.length≤1000) (hI:IsSl vi (ids.map vS) w) :
 Calls Tryz.prog 74 #[.agg (evC (evP (2:Nat) a n xs) (.slice na xs.length nc) kaf kaf kaf kaf),.agg (ddC d),vb,vi] w (kfi xs (.slice na xs.length nc) w):=by
 obtain ⟨t,ht⟩:∃t,w.heap.size=t:=⟨_,rfl⟩;obtain ⟨u,hu⟩:∃u,t+1=u:=⟨_,rfl⟩;obtain ⟨m,hm⟩:∃m,u+1=m:=⟨_,rfl⟩
 have hA:∀W,W=((w.alloc (.cells (evC (evP (2:Nat) a n xs) (.slice na xs.length nc) kaf kaf kaf kaf) 45)).alloc (.cells (ddC d) 129)).alloc (.cells evZ 45)→Below w.heap.size w W∧W.heap[t]? = some (.cells (evC (evP (2:Nat) a n xs) (.slice na xs.length nc) kaf kaf kaf kaf) 45 (0,0))∧W.heap[u]? = some (.cells (ddC d) 129 (0,0))∧W.heap[m]? = some (.cells evZ 45 (0,0)):=by
  rintro _ rfl;subst hm;subst hu;subst ht;exact ⟨(((Below.refl _ _).alloc (Nat.le_refl _) _).alloc (by simp) _).alloc (by simp;omega) _,kah (kah (kai _ _)),kah (kak (by simp) rfl),kak (by simp) rfl⟩
 have HN:=hdd (And.intro hxs (And.intro hids (And.intro hI ha)));clear hxs hids hI ha
 go_enter Tryz.func74,Tryz.ntmps74
 go_upto_region 1 with fail
 try simp only [World.size_alloc]
 have hu':w.heap.size+1=u:=by omega
 have hm':w.heap.size+1+1=m:=by omega
 try simp only [hm',hu',ht]
 show Code.wp _ _ _ _ (((w.alloc (.cells (evC (evP (2:Nat) a n xs) (.slice na xs.length nc) kaf kaf kaf kaf) 45)).alloc (.cells (ddC d) 129)).alloc (.cells evZ 45));generalize hw1:((w.alloc (.cells (evC (evP (2:Nat) a n xs) (.slice na xs.length nc) kaf kaf kaf kaf) 45)).alloc (.cells (ddC d) 129)).alloc (.cells evZ 45)=w1;obtain ⟨hb1,hE1,hD1,hR1⟩:=hA w1 hw1.symm;have HBT:=hdd (And.intro ht (And.intro hu hm));clear hw1 hA hu' hm' ht hu hm;obtain ⟨r,hr⟩:∃r,d.q % 3=r:=⟨_,rfl⟩;have hr3:r<3:=by omega
 have hrm:(d.q:Int).tmod 3=(r:Int):=by rw [Int.tmod_eq_emod_of_nonneg (by omega)];omega
 have hDq:w1.cell? ⟨u,2,none⟩=some (.int .u8 (d.q:Int)):=by rw [kaa hD1];rfl
 obtain ⟨qx,hqx,hql⟩:∃qx:Bs,([[108,105,99,101,110,115,101,58,97,112,112,47,97,46,115,114,99],[108,105,99,101,110,115,101,58,108,105,98,47,98,46,115,114,99],[114,101,108,97,116,105,111,110,58,97,112,112,47,97,46,115,114,99]]:List Bs)[r]? = some qx∧qx.length≤100:=by
  rcases (show r=0∨r=1∨r=2 by omega) with rfl|rfl|rfl <;> exact ⟨_,rfl,by decide⟩
 have hpick:(w1.alloc (.cells #[.string ⟨#[108,105,99,101,110,115,101,58,97,112,112,47,97,46,115,114,99]⟩,.string ⟨#[108,105,99,101,110,115,101,58,108,105,98,47,98,46,115,114,99]⟩,.string ⟨#[114,101,108,97,116,105,111,110,58,97,112,112,47,97,46,115,114,99]⟩] 9)).cell? ⟨w1.heap.size,r,none⟩=some (.string (B qx)):=by
  rw [kaa (kai _ _),show (#[.string ⟨#[108,105,99,101,110,115,101,58,97,112,112,47,97,46,115,114,99]⟩,.string ⟨#[108,105,99,101,110,115,101,58,108,105,98,47,98,46,115,114,99]⟩,.string ⟨#[114,101,108,97,116,105,111,110,58,97,112,112,47,97,46,115,114,99]⟩]:Array Value)=(([[108,105,99,101,110,115,101,58,97,112,112,47,97,46,115,114,99],[108,105,99,101,110,115,101,58,108,105,98,47,98,46,115,114,99],[114,101,108,97,116,105,111,110,58,97,112,112,47,97,46,115,114,99]]:List Bs).map vS).toArray from rfl,List.getElem?_toArray,List.getElem?_map,hqx];rfl
 have hul:=kad hD1;have HF1:=hdd (And.intro hb1 (And.intro hE1 (And.intro hD1 hR1)));clear hqx hb1 hE1 hD1 hR1 hr
 go_upto_region 2 with fail
 have hF2:Below w.heap.size w (w1.alloc (.cells #[.string ⟨#[108,105,99,101,110,115,101,58,97,112,112,47,97,46,115,114,99]⟩,.string ⟨#[108,105,99,101,110,115,101,58,108,105,98,47,98,46,115,114,99]⟩,.string ⟨#[114,101,108,97,116,105,111,110,58,97,112,112,47,97,46,115,114,99]⟩] 9))∧(w1.alloc (.cells #[.string ⟨#[108,105,99,101,110,115,101,58,97,112,112,47,97,46,115,114,99]⟩,.string ⟨#[108,105,99,101,110,115,101,58,108,105,98,47,98,46,115,114,99]⟩,.string ⟨#[114,101,108,97,116,105,111,110,58,97,112,112,47,97,46,115,114,99]⟩] 9)).heap[t]? = some (.cells (evC (evP (2:Nat) a n xs) (.slice na xs.length nc) kaf kaf kaf kaf) 45 (0,0))∧(w1.alloc (.cells #[.string ⟨#[108,105,99,101,110,115,101,58,97,112,112,47,97,46,115,114,99]⟩,.string ⟨#[108,105,99,101,110,115,101,58,108,105,98,47,98,46,115,114,99]⟩,.string ⟨#[114,101,108,97,116,105,111,110,58,97,112,112,47,97,46,115,114,99]⟩] 9)).heap[u]? = some (.cells (ddC d) 129 (0,0))∧(w1.alloc (.cells #[.string ⟨#[108,105,99,101,110,115,101,58,97,112,112,47,97,46,115,114,99]⟩,.string ⟨#[108,105,99,101,110,115,101,58,108,105,98,47,98,46,115,114,99]⟩,.string ⟨#[114,101,108,97,116,105,111,110,58,97,112,112,47,97,46,115,114,99]⟩] 9)).heap[m]? = some (.cells evZ 45 (0,0)):=by
  obtain ⟨h1,h2,h3,h4⟩:=HF1.out;exact ⟨h1.alloc h1.size _,kah h2,kah h3,kah h4⟩
 clear hpick hDq HF1 hul hr3 hrm;show Code.wp _ _ _ _ (w1.alloc (.cells #[.string ⟨#[108,105,99,101,110,115,101,58,97,112,112,47,97,46,115,114,99]⟩,.string ⟨#[108,105,99,101,110,115,101,58,108,105,98,47,98,46,115,114,99]⟩,.string ⟨#[114,101,108,97,116,105,111,110,58,97,112,112,47,97,46,115,114,99]⟩] 9));generalize w1.alloc (.cells #[.string ⟨#[108,105,99,101,110,115,101,58,97,112,112,47,97,46,115,114,99]⟩,.string ⟨#[108,105,99,101,110,115,101,58,108,105,98,47,98,46,115,114,99]⟩,.string ⟨#[114,101,108,97,116,105,111,110,58,97,112,112,47,97,46,115,114,99]⟩] 9)=w2 at hF2 ⊢;obtain ⟨hb2,hE2,hD2,hR2⟩:=hF2;have HB2:=hdd hb2;have HE2:=hdd hE2;have HD2:=hdd hD2;have HR2:=hdd hR2;have hz:=hb2.size;have htl:=kad hE2;have hml:=kad hR2;have hul:=kad hD2;have hk0:w2.cell? ⟨t,0,none⟩=some (.int .i64 ((2:Nat):Int)):=by rw [kaa hE2];rfl
 have hk1:w2.cell? ⟨t,1,none⟩=some (.string (B a)):=by rw [kaa hE2];rfl
 clear hb2 hE2 hD2 hR2;obtain ⟨r2,hr2⟩:∃r2,d.q % 2=r2:=⟨_,rfl⟩;have hr22:r2<2:=by omega
 have hr22i:(r2:Int)<2:=by omega
 have hr2m:(d.q:Int).tmod 2=(r2:Int):=by rw [Int.tmod_eq_emod_of_nonneg (by omega)];omega
 obtain ⟨r4,hr4⟩:∃r4,d.n % 3=r4:=⟨_,rfl⟩;have hr43:r4<3:=by omega
 have hr43i:(r4:Int)<3:=by omega
 have hr4m:(d.n:Int).tmod 3=(r4:Int):=by rw [Int.tmod_eq_emod_of_nonneg (by omega)];omega
 have hw4:IntKind.i64.wrap (r4:Int)=(r4:Int):=by rw [IntKind.wrap_i64];omega
 obtain ⟨px,hpx,hpl⟩:∃px:Bs,([[97,112,112],[108,105,98]]:List Bs)[r2]? = some px∧px.length≤100:=by
  rcases (show r2=0∨r2=1 by omega) with rfl|rfl <;> exact ⟨_,rfl,by decide⟩
 have HPX:=hdd (show (#[.string ⟨#[97,112,112]⟩,.string ⟨#[108,105,98]⟩]:Array Value)[r2]? = some (.string (B px)) by
  rw [show (#[.string ⟨#[97,112,112]⟩,.string ⟨#[108,105,98]⟩]:Array Value)=(([[97,112,112],[108,105,98]]:List Bs).map vS).toArray from rfl,List.getElem?_toArray,List.getElem?_map,hpx];rfl)
 obtain ⟨nm,hnm⟩:∃nm,num (r4:Int)=nm:=⟨_,rfl⟩;have hNl:nm.length≤maxLen:=by rw [←hnm];exact kkk _
 have HNm:=hdd hnm;obtain ⟨dg,hdg⟩:∃dg,hsh [([116,114,101,101]:Bs),nm]=dg:=⟨_,rfl⟩;have hdl:dg.length=32:=by rw [←hdg,kf6]
 have HH:=hdd (fun (W:World) (b:Nat) (hb:W.heap[b]? = some (.cells #[.string ⟨#[116,114,101,101]⟩,.string (B nm)] 9 (0,0)))=>show kcy 48 #[.slice (some ⟨b,0,none⟩) 2 2] W (.string (B dg)) by
  rw [←hdg]
  exact kk5 [([116,114,101,101]:Bs),nm] 2 hb rfl rfl (by decide) (by decide) (by
   intro x hx;simp only [List.mem_cons,List.not_mem_nil,or_false] at hx;rcases hx with rfl|rfl
   ·unfold maxLen;decide
   ·exact hNl))
 have HNN:=hdd (fun W=>show Calls Tryz.prog 86 #[.int .i64 (r4:Int)] W _ from HNm.out ▸ kli (r4:Int) W);clear hpx hr2 hr4 hnm hdg
 go_upto_region 13 with fail
 have HS:=hdd (fun (W:World) (hD:W.heap[u]? = some (.cells (ddC d) 129 (0,0)))=>And.intro ((kaa hD 2).trans rfl:W.cell? ⟨u,2,none⟩=some (.int .u8 (d.q:Int))) ((kaa hD 3).trans rfl:W.cell? ⟨u,3,none⟩=some (.int .u8 (d.n:Int))));have hb0:Below w.heap.size w w2.drew:=dr HB2.out;have hE0:w2.drew.heap[t]? = some (.cells (evC (evP 2 a n xs) (.slice na xs.length nc) kaf kaf kaf kaf) 45 (0,0)):=HE2.out;have hD0:w2.drew.heap[u]? = some (.cells (ddC d) 129 (0,0)):=HD2.out;have hR0:w2.drew.heap[m]? = some (.cells evZ 45 (0,0)):=HR2.out;refine kaj (S:=fun W=>W.cell? ⟨u,2,none⟩=some (.int .u8 (d.q:Int))∧W.cell? ⟨u,3,none⟩=some (.int .u8 (d.n:Int))) (by kernel_rfl) (HS.out _ hD0) (fun hHeld=>?_);generalize w2.drew=wz at hb0 hE0 hD0 hR0 hHeld ⊢;simp only [List.toList_toArray,len,kat]
 iterate 3 (refine tz 1 ?_;simp only [Act.put,s1,s2,s3])
 iterate 4 (refine tz 6 ?_;simp only [Act.put,s1,s2,s3])
 have hF:=And.intro hb0 (And.intro hE0 (And.intro hD0 hR0));have HG:=hdd (fun (W:World) (o:Obj) (h:Below w.heap.size w W∧(W).heap[t]? = some (.cells (evC (evP 2 a n xs) (.slice na xs.length nc) kaf kaf kaf kaf) 45 (0,0))∧(W).heap[u]? = some (.cells (ddC d) 129 (0,0))∧(W).heap[m]? = some (.cells evZ 45 (0,0)))=>show Below w.heap.size w (W.alloc o)∧(W.alloc o).heap[t]? = some (.cells (evC (evP 2 a n xs) (.slice na xs.length nc) kaf kaf kaf kaf) 45 (0,0))∧(W.alloc o).heap[u]? = some (.cells (ddC d) 129 (0,0))∧(W.alloc o).heap[m]? = some (.cells evZ 45 (0,0)) from ⟨h.1.alloc h.1.size _,kah h.2.1,kah h.2.2.1,kah h.2.2.2⟩);have HC:=hdd (fun (W W':World) (hb:Below W.heap.size W W') (h:Below w.heap.size w W∧(W).heap[t]? = some (.cells (evC (evP 2 a n xs) (.slice na xs.length nc) kaf kaf kaf kaf) 45 (0,0))∧(W).heap[u]? = some (.cells (ddC d) 129 (0,0))∧(W).heap[m]? = some (.cells evZ 45 (0,0)))=>show Below w.heap.size w W'∧(W').heap[t]? = some (.cells (evC (evP 2 a n xs) (.slice na xs.length nc) kaf kaf kaf kaf) 45 (0,0))∧(W').heap[u]? = some (.cells (ddC d) 129 (0,0))∧(W').heap[m]? = some (.cells evZ 45 (0,0)) from ⟨h.1.next hb,kab hb (kad h.2.1) h.2.1,kab hb (kad h.2.2.1) h.2.2.1,kab hb (kad h.2.2.2) h.2.2.2⟩);clear hb0 hE0 hD0 hR0;have tA0:=trivial;have tB0:=trivial
 iterate 5 (all_goals (
  first
  |(have _t:=tA2;have _t:=tB3)
  |(have _t:=tA2;have _t:=tB2;clear _t;refine wpAnyH_ready (rs:=[12]) (by kernel_rfl) (by simp) ?_;refine ar1 rfl (fun K hK=>?_))
  |(have _t:=tA2;have _t:=tB1;clear _t;refine wpAnyH_ready (rs:=[11]) (by kernel_rfl) (by simp) ?_;refine ar1 rfl (fun K hK=>?_))
  |(have _t:=tA2;have _t:=tB0;clear _t;refine wpAnyH_ready (rs:=[10]) (by kernel_rfl) (by simp) ?_;refine ar1 rfl (fun K hK=>?_))
  |(have _t:=tA1;have _t:=tB3;clear _t;refine wpAnyH_ready (rs:=[5]) (by kernel_rfl) (by simp) ?_;refine ar1 rfl (fun K hK=>?_))
  |(have _t:=tA1;have _t:=tB2;clear _t;refine wpAnyH_ready (rs:=[5,12]) (by kernel_rfl) (by simp) ?_;refine AllReadyH.cons rfl (fun K hK=>?_) (ar1 rfl (fun K hK=>?_)))
  |(have _t:=tA1;have _t:=tB1;clear _t;refine wpAnyH_ready (rs:=[5,11]) (by kernel_rfl) (by simp) ?_;refine AllReadyH.cons rfl (fun K hK=>?_) (ar1 rfl (fun K hK=>?_)))
  |(have _t:=tA1;have _t:=tB0;clear _t;refine wpAnyH_ready (rs:=[5,10]) (by kernel_rfl) (by simp) ?_;refine AllReadyH.cons rfl (fun K hK=>?_) (ar1 rfl (fun K hK=>?_)))
  |(have _t:=tA0;have _t:=tB3;clear _t;refine wpAnyH_ready (rs:=[0]) (by kernel_rfl) (by simp) ?_;refine ar1 rfl (fun K hK=>?_))
  |(have _t:=tA0;have _t:=tB2;clear _t;refine wpAnyH_ready (rs:=[0,12]) (by kernel_rfl) (by simp) ?_;refine AllReadyH.cons rfl (fun K hK=>?_) (ar1 rfl (fun K hK=>?_)))
  |(have _t:=tA0;have _t:=tB1;clear _t;refine wpAnyH_ready (rs:=[0,11]) (by kernel_rfl) (by simp) ?_;refine AllReadyH.cons rfl (fun K hK=>?_) (ar1 rfl (fun K hK=>?_)))
  |(have _t:=tA0;have _t:=tB0;clear _t;refine wpAnyH_ready (rs:=[0,10]) (by kernel_rfl) (by simp) ?_;refine AllReadyH.cons rfl (fun K hK=>?_) (ar1 rfl (fun K hK=>?_)))
  all_goals first
  |(refine kh7 63 rfl ?_
    go_loud (
    go_simp
    have hF2:=HG.out _ (.cells #[.string ⟨#[97,112,112]⟩,.string ⟨#[108,105,98]⟩] 9) hF;have hP:=kai wz (.cells #[.string ⟨#[97,112,112]⟩,.string ⟨#[108,105,98]⟩] 9)
    first
     |(have hQ2:(wz.alloc (.cells #[.string ⟨#[97,112,112]⟩,.string ⟨#[108,105,98]⟩] 9)).heap[_]? = _:=kah hQ
       clear hQ hF;have hQ:=hQ2;have hF:=hF2;clear hQ2 hF2;generalize wz.alloc (.cells #[.string ⟨#[97,112,112]⟩,.string ⟨#[108,105,98]⟩] 9)=wz at hF hP hQ ⊢)
     |(clear hF
       have hF:=hF2;clear hF2;generalize wz.alloc (.cells #[.string ⟨#[97,112,112]⟩,.string ⟨#[108,105,98]⟩] 9)=wz at hF hP ⊢)
    clear hHeld;refine hK.out _ _ (HS.out _ hF.2.2.1) (fun hHeld=>?_);clear hK K
    try simp only [Act.put,s1,s2,s3,s4,s5,s6]
    (refine tz 4 ?_;simp only [Act.put,s1,s2,s3])
    clear tA0;have tA1:=trivial))
  |(refine kh7 68 rfl ?_
    go_loud (
    have hc:=(kaa hP r2).trans HPX.out;go_simp
    clear hc hP;clear hHeld;refine hK.out _ _ (HS.out _ hF.2.2.1) (fun hHeld=>?_);clear hK K
    try simp only [Act.put,s1,s2,s3,s4,s5,s6]
    (refine tz 13 ?_;simp only [Act.put,s1,s2,s3])
    clear tA1;have tA2:=trivial))
  |(refine kh7 73 rfl ?_
    go_loud (
    go_simp
    refine (HNN.out _).mono ?_;rintro en wz ⟨rfl,hb⟩;have hF2:=HC.out _ _ hb hF
    try (have hP2:=kab hb (kad hP) hP;clear hP;have hP:=hP2;clear hP2)
    clear hF;have hF:=hF2;clear hF2 hb;clear hHeld;refine hK.out _ _ (HS.out _ hF.2.2.1) (fun hHeld=>?_);clear hK K
    try simp only [Act.put,s1,s2,s3,s4,s5,s6]
    clear tB0;have tB1:=trivial))
  |(refine kh7 74 rfl ?_
    go_loud (
    go_simp
    have hF2:=HG.out _ (.cells #[.string ⟨#[116,114,101,101]⟩,.string (B nm)] 9) hF;have hQ:=kai wz (.cells #[.string ⟨#[116,114,101,101]⟩,.string (B nm)] 9)
    first
     |(have hP2:(wz.alloc (.cells #[.string ⟨#[116,114,101,101]⟩,.string (B nm)] 9)).heap[_]? = _:=kah hP
       clear hP hF;have hP:=hP2;have hF:=hF2;clear hP2 hF2;generalize wz.alloc (.cells #[.string ⟨#[116,114,101,101]⟩,.string (B nm)] 9)=wz at hF hQ hP ⊢)
     |(clear hF
       have hF:=hF2;clear hF2;generalize wz.alloc (.cells #[.string ⟨#[116,114,101,101]⟩,.string (B nm)] 9)=wz at hF hQ ⊢)
    clear hHeld;refine hK.out _ _ (HS.out _ hF.2.2.1) (fun hHeld=>?_);clear hK K
    try simp only [Act.put,s1,s2,s3,s4,s5,s6]
    clear tB1;have tB2:=trivial))
  |(refine kh7 75 rfl ?_
    go_loud (
    go_simp
    refine (HH.out _ _ hQ).mono ?_;rintro en wz ⟨rfl,hb⟩;have hF2:=HC.out _ _ hb hF
    try (have hP2:=kab hb (kad hP) hP;clear hP;have hP:=hP2;clear hP2)
    clear hF hQ;have hF:=hF2;clear hF2 hb;clear hHeld;refine hK.out _ _ (HS.out _ hF.2.2.1) (fun hHeld=>?_);clear hK K
    try simp only [Act.put,s1,s2,s3,s4,s5,s6]
    clear tB2;have tB3:=trivial))))
 all_goals
  obtain ⟨hbz,hEz,hDz,hRz⟩:=hF;clear HG HC tA2 tB3;refine ar2 14 (by kernel_rfl) rfl (fun K hK=>?_);refine kan rfl 9 _ _ rfl t 7 rfl (.string (B px)) rfl rfl rfl _ 45 hEz (by simp) (by kernel_rfl) ?_;intro w5 hw5 hk5;have hD5:=(hk5.block u (kad hDz) (fun e=>by have:u=t:=e;have:=HBT.out;omega)).trans hDz;refine hK.out _ _ (HS.out _ hD5) (fun hHeld=>?_);clear hK K
  try simp only [Act.put,s1,s2,s3,s4,s5,s6]
  (refine tz 15 ?_;simp only [Act.put,s1,s2,s3])
  refine ar2 16 (by kernel_rfl) rfl (fun K hK=>?_);refine kan rfl 9 _ _ rfl t 8 rfl (.string (B dg)) rfl rfl rfl _ 45 hw5 (by simp) (by kernel_rfl) ?_;intro w6 hw6 hk6;have hD6:=(hk6.block u (kad hD5) (fun e=>by have:u=t:=e;have:=HBT.out;omega)).trans hD5;refine hK.out _ _ (HS.out _ hD6) (fun hHeld=>?_);have HE6:=hdd (show w6.heap[t]? = some (.cells (evC ⟨2,a,n,xs,[],0,0,px,dg,[],[],[],0,[],Rv.sg0⟩ (.slice na xs.length nc) kaf kaf kaf kaf) 45 (0,0)) from hw6);have hk56:=hk5.trans hk6;have HR6:=hdd ((hk56.block m (kad hRz) (fun e=>by have:m=t:=e;have:=HBT.out;omega)).trans hRz);have HB6:=hdd (hbz.trans (hk56.below hbz.size (fun q hq e=>by have:q=t:=e;have:=HBT.out.1;omega)));clear hK K hw6 hk6 hk56 hk5 hw5 hD5 hD6 hbz hEz hDz hRz hHeld;refine wpAnyH_done (by kernel_rfl) ?_ _
  try simp only [Exit.then]
  go_upto_region 17 with fail
  have HOne:=hdd (kbe ⟨2,a,n,xs,[],0,0,px,dg,[],[],[],0,[],Rv.sg0⟩ (.slice na xs.length nc) kaf kaf kaf kaf rfl rfl rfl rfl rfl)
  go_wp2_with (first
   |(refine wpList_load_row rfl 45 _ rfl t rfl 45 (evC ⟨2,a,n,xs,[],0,0,px,dg,[],[],[],0,[],Rv.sg0⟩ (.slice na xs.length nc) kaf kaf kaf kaf) (0,0) _ HE6.out rfl rfl (by kernel_rfl) ?_)
   |(refine kac rfl 45 _ _ rfl m rfl (evC ⟨2,a,n,xs,[],0,0,px,dg,[],[],[],0,[],Rv.sg0⟩ (.slice na xs.length nc) kaf kaf kaf kaf) rfl 45 evZ HR6.out (by kernel_rfl) rfl HOne.out ?_
     intro w7 hw7 hk7;have HW7:=hdd hw7;have HK7:=hdd hk7;have HB7:=hdd (HB6.out.trans (HK7.out.below HB6.out.size (fun q hq e=>by have:q=m:=e;have:=HBT.out;omega)));clear hw7 hk7)
   |fail)
  refine kbv rfl m 45 _ (0,0) _ rfl HW7.out rfl rfl (by kernel_rfl) rfl ?_;refine ⟨_,kaf,rfl,rfl,rfl,⟨?_,?_,?_,?_,?_,?_,?_,?_,?_⟩,by simp,World.ownsRow_nil _ _ _ _,HB7.out⟩
  all_goals first|(simp;done)|(simp;omega)|(have:=HN.out.2.2.2;show List.length a≤_;omega)|exact fun x hx=>by have:=HN.out.1 x hx;omega
theorem kqr (d:Dd) (a:Bs) (n:Int) (xs ids:List Bs) (na:Option Addr) (nc:Nat) (vb vi:Value) (w:World) (ha:a.length≤1000) (hxs:∀x∈xs,x.length≤1000) (hids:∀x∈ids,x.length≤1000) (hI:IsSl vi (ids.map vS) w) :
 Calls Tryz.prog 74 #[.agg (evC (evP (3:Nat) a n xs) (.slice na xs.length nc) kaf kaf kaf kaf),.agg (ddC d),vb,vi] w (kfi xs (.slice na xs.length nc) w):=by
 obtain ⟨t,ht⟩:∃t,w.heap.size=t:=⟨_,rfl⟩;obtain ⟨u,hu⟩:∃u,t+1=u:=⟨_,rfl⟩;obtain ⟨m,hm⟩:∃m,u+1=m:=⟨_,rfl⟩
 have hA:∀W,W=((w.alloc (.cells (evC (evP (3:Nat) a n xs) (.slice na xs.length nc) kaf kaf kaf kaf) 45)).alloc (.cells (ddC d) 129)).alloc (.cells evZ 45)→Below w.heap.size w W∧W.heap[t]? = some (.cells (evC (evP (3:Nat) a n xs) (.slice na xs.length nc) kaf kaf kaf kaf) 45 (0,0))∧W.heap[u]? = some (.cells (ddC d) 129 (0,0))∧W.heap[m]? = some (.cells evZ 45 (0,0)):=by
  rintro _ rfl;subst hm;subst hu;subst ht;exact ⟨(((Below.refl _ _).alloc (Nat.le_refl _) _).alloc (by simp) _).alloc (by simp;omega) _,kah (kah (kai _ _)),kah (kak (by simp) rfl),kak (by simp) rfl⟩
 have HN:=hdd (And.intro hxs (And.intro hids (And.intro hI ha)));clear hxs hids hI ha
 go_enter Tryz.func74,Tryz.ntmps74
 go_upto_region 1 with fail
 try simp only [World.size_alloc]
 have hu':w.heap.size+1=u:=by omega
 have hm':w.heap.size+1+1=m:=by omega
 try simp only [hm',hu',ht]
 show Code.wp _ _ _ _ (((w.alloc (.cells (evC (evP (3:Nat) a n xs) (.slice na xs.length nc) kaf kaf kaf kaf) 45)).alloc (.cells (ddC d) 129)).alloc (.cells evZ 45));generalize hw1:((w.alloc (.cells (evC (evP (3:Nat) a n xs) (.slice na xs.length nc) kaf kaf kaf kaf) 45)).alloc (.cells (ddC d) 129)).alloc (.cells evZ 45)=w1;obtain ⟨hb1,hE1,hD1,hR1⟩:=hA w1 hw1.symm;have HBT:=hdd (And.intro ht (And.intro hu hm));clear hw1 hA hu' hm' ht hu hm;obtain ⟨r,hr⟩:∃r,d.q % 3=r:=⟨_,rfl⟩;have hr3:r<3:=by omega
 have hrm:(d.q:Int).tmod 3=(r:Int):=by rw [Int.tmod_eq_emod_of_nonneg (by omega)];omega
 have hDq:w1.cell? ⟨u,2,none⟩=some (.int .u8 (d.q:Int)):=by rw [kaa hD1];rfl
 obtain ⟨qx,hqx,hql⟩:∃qx:Bs,([[108,105,99,101,110,115,101,58,97,112,112,47,97,46,115,114,99],[108,105,99,101,110,115,101,58,108,105,98,47,98,46,115,114,99],[114,101,108,97,116,105,111,110,58,97,112,112,47,97,46,115,114,99]]:List Bs)[r]? = some qx∧qx.length≤100:=by
  rcases (show r=0∨r=1∨r=2 by omega) with rfl|rfl|rfl <;> exact ⟨_,rfl,by decide⟩
 have hpick:(w1.alloc (.cells #[.string ⟨#[108,105,99,101,110,115,101,58,97,112,112,47,97,46,115,114,99]⟩,.string ⟨#[108,105,99,101,110,115,101,58,108,105,98,47,98,46,115,114,99]⟩,.string ⟨#[114,101,108,97,116,105,111,110,58,97,112,112,47,97,46,115,114,99]⟩] 9)).cell? ⟨w1.heap.size,r,none⟩=some (.string (B qx)):=by
  rw [kaa (kai _ _),show (#[.string ⟨#[108,105,99,101,110,115,101,58,97,112,112,47,97,46,115,114,99]⟩,.string ⟨#[108,105,99,101,110,115,101,58,108,105,98,47,98,46,115,114,99]⟩,.string ⟨#[114,101,108,97,116,105,111,110,58,97,112,112,47,97,46,115,114,99]⟩]:Array Value)=(([[108,105,99,101,110,115,101,58,97,112,112,47,97,46,115,114,99],[108,105,99,101,110,115,101,58,108,105,98,47,98,46,115,114,99],[114,101,108,97,116,105,111,110,58,97,112,112,47,97,46,115,114,99]]:List Bs).map vS).toArray from rfl,List.getElem?_toArray,List.getElem?_map,hqx];rfl
 have hul:=kad hD1;have HF1:=hdd (And.intro hb1 (And.intro hE1 (And.intro hD1 hR1)));clear hqx hb1 hE1 hD1 hR1 hr
 go_upto_region 2 with fail
 have hF2:Below w.heap.size w (w1.alloc (.cells #[.string ⟨#[108,105,99,101,110,115,101,58,97,112,112,47,97,46,115,114,99]⟩,.string ⟨#[108,105,99,101,110,115,101,58,108,105,98,47,98,46,115,114,99]⟩,.string ⟨#[114,101,108,97,116,105,111,110,58,97,112,112,47,97,46,115,114,99]⟩] 9))∧(w1.alloc (.cells #[.string ⟨#[108,105,99,101,110,115,101,58,97,112,112,47,97,46,115,114,99]⟩,.string ⟨#[108,105,99,101,110,115,101,58,108,105,98,47,98,46,115,114,99]⟩,.string ⟨#[114,101,108,97,116,105,111,110,58,97,112,112,47,97,46,115,114,99]⟩] 9)).heap[t]? = some (.cells (evC (evP (3:Nat) a n xs) (.slice na xs.length nc) kaf kaf kaf kaf) 45 (0,0))∧(w1.alloc (.cells #[.string ⟨#[108,105,99,101,110,115,101,58,97,112,112,47,97,46,115,114,99]⟩,.string ⟨#[108,105,99,101,110,115,101,58,108,105,98,47,98,46,115,114,99]⟩,.string ⟨#[114,101,108,97,116,105,111,110,58,97,112,112,47,97,46,115,114,99]⟩] 9)).heap[u]? = some (.cells (ddC d) 129 (0,0))∧(w1.alloc (.cells #[.string ⟨#[108,105,99,101,110,115,101,58,97,112,112,47,97,46,115,114,99]⟩,.string ⟨#[108,105,99,101,110,115,101,58,108,105,98,47,98,46,115,114,99]⟩,.string ⟨#[114,101,108,97,116,105,111,110,58,97,112,112,47,97,46,115,114,99]⟩] 9)).heap[m]? = some (.cells evZ 45 (0,0)):=by
  obtain ⟨h1,h2,h3,h4⟩:=HF1.out;exact ⟨h1.alloc h1.size _,kah h2,kah h3,kah h4⟩
 clear hpick hDq HF1 hul hr3 hrm;show Code.wp _ _ _ _ (w1.alloc (.cells #[.string ⟨#[108,105,99,101,110,115,101,58,97,112,112,47,97,46,115,114,99]⟩,.string ⟨#[108,105,99,101,110,115,101,58,108,105,98,47,98,46,115,114,99]⟩,.string ⟨#[114,101,108,97,116,105,111,110,58,97,112,112,47,97,46,115,114,99]⟩] 9));generalize w1.alloc (.cells #[.string ⟨#[108,105,99,101,110,115,101,58,97,112,112,47,97,46,115,114,99]⟩,.string ⟨#[108,105,99,101,110,115,101,58,108,105,98,47,98,46,115,114,99]⟩,.string ⟨#[114,101,108,97,116,105,111,110,58,97,112,112,47,97,46,115,114,99]⟩] 9)=w2 at hF2 ⊢;obtain ⟨hb2,hE2,hD2,hR2⟩:=hF2;have HB2:=hdd hb2;have HE2:=hdd hE2;have HD2:=hdd hD2;have HR2:=hdd hR2;have hz:=hb2.size;have htl:=kad hE2;have hml:=kad hR2;have hul:=kad hD2;have hk0:w2.cell? ⟨t,0,none⟩=some (.int .i64 ((3:Nat):Int)):=by rw [kaa hE2];rfl
 have hk1:w2.cell? ⟨t,1,none⟩=some (.string (B a)):=by rw [kaa hE2];rfl
 clear hb2 hE2 hD2 hR2
 skip
 obtain ⟨r2,hr2⟩:∃r,d.u % 2=r:=⟨_,rfl⟩;have hr2a:r2<2:=by omega
 have hr2i:(r2:Int)<2:=by omega
 have hr2m:(d.u:Int).tmod 2=(r2:Int):=by rw [Int.tmod_eq_emod_of_nonneg (by omega)];omega
 obtain ⟨r3,hr3⟩:∃r,d.n % 3=r:=⟨_,rfl⟩;have hr3a:r3<3:=by omega
 have hr3i:(r3:Int)<3:=by omega
 have hr3m:(d.n:Int).tmod 3=(r3:Int):=by rw [Int.tmod_eq_emod_of_nonneg (by omega)];omega
 obtain ⟨r4,hr4⟩:∃r,d.n % 2=r:=⟨_,rfl⟩;have hr4a:r4<2:=by omega
 have hr4i:(r4:Int)<2:=by omega
 have hr4m:(d.n:Int).tmod 2=(r4:Int):=by rw [Int.tmod_eq_emod_of_nonneg (by omega)];omega
 obtain ⟨r5,hr5⟩:∃r,d.u % 4=r:=⟨_,rfl⟩;have hr5a:r5<4:=by omega
 have hr5i:(r5:Int)<4:=by omega
 have hr5m:(d.u:Int).tmod 4=(r5:Int):=by rw [Int.tmod_eq_emod_of_nonneg (by omega)];omega
 have hw4:IntKind.i64.wrap (r4:Int)=(r4:Int):=by rw [IntKind.wrap_i64];omega
 have hw5:IntKind.i64.wrap (r5:Int)=(r5:Int):=by rw [IntKind.wrap_i64];omega
 obtain ⟨px,hpx,hpl⟩:∃px:Bs,([[],[97,112,112,47]]:List Bs)[r2]? = some px∧px.length≤100:=by
  rcases (show r2=0∨r2=1 by omega) with rfl|rfl <;> exact ⟨_,rfl,by decide⟩
 have HPX:=hdd (show (#[.string ⟨#[]⟩,.string ⟨#[97,112,112,47]⟩]:Array Value)[r2]? = some (.string (B px)) by
  rw [show (#[.string ⟨#[]⟩,.string ⟨#[97,112,112,47]⟩]:Array Value)=(([[],[97,112,112,47]]:List Bs).map vS).toArray from rfl,List.getElem?_toArray,List.getElem?_map,hpx];rfl)
 obtain ⟨ax,hax,hal⟩:∃px:Bs,([[109,105,116],[103,112,108,32,111,114,32,109,105,116],[]]:List Bs)[r3]? = some px∧px.length≤100:=by
  rcases (show r3=0∨r3=1∨r3=2 by omega) with rfl|rfl|rfl <;> exact ⟨_,rfl,by decide⟩
 have HAX:=hdd (show (#[.string ⟨#[109,105,116]⟩,.string ⟨#[103,112,108,32,111,114,32,109,105,116]⟩,.string ⟨#[]⟩]:Array Value)[r3]? = some (.string (B ax)) by
  rw [show (#[.string ⟨#[109,105,116]⟩,.string ⟨#[103,112,108,32,111,114,32,109,105,116]⟩,.string ⟨#[]⟩]:Array Value)=(([[109,105,116],[103,112,108,32,111,114,32,109,105,116],[]]:List Bs).map vS).toArray from rfl,List.getElem?_toArray,List.getElem?_map,hax];rfl)
 obtain ⟨nm,hnm⟩:∃nm,num (r4:Int)=nm:=⟨_,rfl⟩;have hNl:nm.length≤maxLen:=by rw [←hnm];exact kkk _
 have HNm:=hdd hnm;obtain ⟨dg,hdg⟩:∃dg,hsh [([101,118,105,100,101,110,99,101]:Bs),nm]=dg:=⟨_,rfl⟩;have hdl:dg.length=32:=by rw [←hdg,kf6]
 have HH:=hdd (fun (W:World) (b:Nat) (hb:W.heap[b]? = some (.cells #[.string ⟨#[101,118,105,100,101,110,99,101]⟩,.string (B nm)] 9 (0,0)))=>show kcy 48 #[.slice (some ⟨b,0,none⟩) 2 2] W (.string (B dg)) by
  rw [←hdg]
  exact kk5 [([101,118,105,100,101,110,99,101]:Bs),nm] 2 hb rfl rfl (by decide) (by decide) (by
   intro x hx;simp only [List.mem_cons,List.not_mem_nil,or_false] at hx;rcases hx with rfl|rfl
   ·unfold maxLen;decide
   ·exact hNl))
 have HNN:=hdd (fun W=>show Calls Tryz.prog 86 #[.int .i64 (r4:Int)] W _ from HNm.out ▸ kli (r4:Int) W);clear hpx hax hr2 hr3 hr4 hr5 hnm hdg
 go_upto_region 15 with fail
 go_cut [9] from 80 to 88 (fun qv wx=>qv = .string (B qx)∧Below w.heap.size w wx∧wx.heap[t]? = some (.cells (evC ⟨3,a,n,xs,[],0,0,[],[],qx,px,[],0,[],Rv.sg0⟩ (.slice na xs.length nc) kaf kaf kaf kaf) 45 (0,0))∧wx.heap[u]? = some (.cells (ddC d) 129 (0,0))∧wx.heap[m]? = some (.cells evZ 45 (0,0)))
 case first =>
  have HS:=hdd (fun (W:World) (hD:W.heap[u]? = some (.cells (ddC d) 129 (0,0)))=>((kaa hD 4).trans rfl:W.cell? ⟨u,4,none⟩=some (.int .u8 (d.u:Int))));have hb:Below w.heap.size w w2.drew:=dr HB2.out;have hE:w2.drew.heap[t]? = some (.cells (evC (evP 3 a n xs) (.slice na xs.length nc) kaf kaf kaf kaf) 45 (0,0)):=HE2.out;have hD:w2.drew.heap[u]? = some (.cells (ddC d) 129 (0,0)):=HD2.out;have hR:w2.drew.heap[m]? = some (.cells evZ 45 (0,0)):=HR2.out;refine kaj (S:=fun W=>W.cell? ⟨u,4,none⟩=some (.int .u8 (d.u:Int))) (by kernel_rfl) (HS.out _ hD) (fun hHeld=>?_);generalize w2.drew=wz at hb hE hD hR hHeld ⊢;simp only [List.toList_toArray,len,kat]
  (refine tz 0 ?_;simp only [Act.put,s1,s2,s3])
  iterate 3 (refine tz 2 ?_;simp only [Act.put,s1,s2,s3])
  (refine tz 7 ?_;simp only [Act.put,s1,s2,s3])
  have tA0:=trivial;have tC0:=trivial
  iterate 3 (all_goals (
   first
   |(have _t:=tA2;have _t:=tC1)
   |(have _t:=tA2;have _t:=tC0;clear _t;refine wpAnyH_ready (rs:=[8]) (by kernel_rfl) (by simp) ?_;refine ar1 rfl (fun K hK=>?_))
   |(have _t:=tA1;have _t:=tC1;clear _t;refine wpAnyH_ready (rs:=[6]) (by kernel_rfl) (by simp) ?_;refine ar1 rfl (fun K hK=>?_))
   |(have _t:=tA1;have _t:=tC0;clear _t;refine wpAnyH_ready (rs:=[6,8]) (by kernel_rfl) (by simp) ?_;refine AllReadyH.cons rfl (fun K hK=>?_) (ar1 rfl (fun K hK=>?_)))
   |(have _t:=tA0;have _t:=tC1;clear _t;refine wpAnyH_ready (rs:=[1]) (by kernel_rfl) (by simp) ?_;refine ar1 rfl (fun K hK=>?_))
   |(have _t:=tA0;have _t:=tC0;clear _t;refine wpAnyH_ready (rs:=[1,8]) (by kernel_rfl) (by simp) ?_;refine AllReadyH.cons rfl (fun K hK=>?_) (ar1 rfl (fun K hK=>?_)))
   all_goals first
   |(refine kh7 81 rfl ?_
     go_loud (
     go_simp
     have hb2:=hb.alloc hb.size (.cells #[.string ⟨#[]⟩,.string ⟨#[97,112,112,47]⟩] 9);have hE2:=kah (o':=.cells #[.string ⟨#[]⟩,.string ⟨#[97,112,112,47]⟩] 9) hE;have hD2:=kah (o':=.cells #[.string ⟨#[]⟩,.string ⟨#[97,112,112,47]⟩] 9) hD;have hR2:=kah (o':=.cells #[.string ⟨#[]⟩,.string ⟨#[97,112,112,47]⟩] 9) hR;have hP:=kai wz (.cells #[.string ⟨#[]⟩,.string ⟨#[97,112,112,47]⟩] 9);have hPt:wz.heap.size≠t:=by have:=kad hE;omega
     clear hb hE hD hR;generalize wz.alloc (.cells #[.string ⟨#[]⟩,.string ⟨#[97,112,112,47]⟩] 9)=wz at hb2 hE2 hD2 hR2 hP ⊢;have hb:=hb2;have hE:=hE2;have hD:=hD2;have hR:=hR2;clear hb2 hE2 hD2 hR2;clear hHeld;refine hK.out _ _ (HS.out _ hD) (fun hHeld=>?_);clear hK K
     try simp only [Act.put,s1,s2,s3,s4,s5,s6]
     (refine tz 5 ?_;simp only [Act.put,s1,s2,s3])
     clear tA0;have tA1:=trivial))
   |(refine kh7 86 rfl ?_
     go_loud (
     have hc:=(kaa hP r2).trans HPX.out;go_simp
     clear hc hP hPt;clear hHeld;refine hK.out _ _ (HS.out _ hD) (fun hHeld=>?_);clear hK K
     try simp only [Act.put,s1,s2,s3,s4,s5,s6]
     clear tA1;have tA2:=trivial))
   |(refine kan rfl 9 _ _ rfl t 9 rfl (.string (B qx)) rfl rfl rfl _ 45 hE (by simp) (by kernel_rfl) ?_
     go_loud (
     intro wz hw hk;have hb2:=hb.trans (hk.below hb.size (fun q hq e=>by have:q=t:=e;have:=HBT.out.1;omega));have hD2:=(hk.block u (kad hD) (fun e=>by have:u=t:=e;have:=HBT.out;omega)).trans hD;have hR2:=(hk.block m (kad hR) (fun e=>by have:m=t:=e;have:=HBT.out;omega)).trans hR
     try (have hP2:=(hk.block _ (kad hP) (fun e=>hPt e)).trans hP;clear hP;have hP:=hP2;clear hP2)
     clear hb hE hD hR hk;have hb:=hb2;have hE:=hw;have hD:=hD2;have hR:=hR2;clear hb2 hw hD2 hR2;clear hHeld;refine hK.out _ _ (HS.out _ hD) (fun hHeld=>?_);clear hK K
     try simp only [Act.put,s1,s2,s3,s4,s5,s6]
     clear tC0;have tC1:=trivial))))
  all_goals
   clear tA2 tC1
   (refine tz 9 ?_;simp only [Act.put,s1,s2,s3])
   refine ar2 10 (by kernel_rfl) rfl (fun K hK=>?_);refine kan rfl 9 _ _ rfl t 10 rfl (.string (B px)) rfl rfl rfl _ 45 hE (by simp) (by kernel_rfl) ?_;intro w5 hw5 hk5;have hD5:=(hk5.block u (kad hD) (fun e=>by have:u=t:=e;have:=HBT.out;omega)).trans hD;refine hK.out _ _ (HS.out _ hD5) (fun hHeld=>?_);clear hK K
   try simp only [Act.put,s1,s2,s3,s4,s5,s6]
   have hR5:=(hk5.block m (kad hR) (fun e=>by have:m=t:=e;have:=HBT.out;omega)).trans hR;have hb5:=hb.trans (hk5.below hb.size (fun q hq e=>by have:q=t:=e;have:=HBT.out.1;omega));refine wpAnyH_done (by kernel_rfl) ?_ _
   try simp only [Exit.then]
   go_wp2_with fail
   go_meet
   exact ⟨rfl,hb5,hw5,hD5,hR5⟩
 case rest =>
  obtain ⟨rfl,hb5,hE5,hD5,hR5⟩:=hcut;have HB5:=hdd hb5;have HE5:=hdd hE5;have HD5:=hdd hD5;have HR5:=hdd hR5;clear hb5 hE5 hD5 hR5
  go_upto_region 16 with fail
  have HS:=hdd (fun (W:World) (hD:W.heap[u]? = some (.cells (ddC d) 129 (0,0)))=>And.intro ((kaa hD 3).trans rfl:W.cell? ⟨u,3,none⟩=some (.int .u8 (d.n:Int))) ((kaa hD 4).trans rfl:W.cell? ⟨u,4,none⟩=some (.int .u8 (d.u:Int))));have hb0:Below w.heap.size w wc.drew:=dr HB5.out;have hE0:wc.drew.heap[t]? = some (.cells (evC ⟨3,a,n,xs,[],0,0,[],[],qx,px,[],0,[],Rv.sg0⟩ (.slice na xs.length nc) kaf kaf kaf kaf) 45 (0,0)):=HE5.out;have hD0:wc.drew.heap[u]? = some (.cells (ddC d) 129 (0,0)):=HD5.out;have hR0:wc.drew.heap[m]? = some (.cells evZ 45 (0,0)):=HR5.out;refine kaj (S:=fun W=>W.cell? ⟨u,3,none⟩=some (.int .u8 (d.n:Int))∧W.cell? ⟨u,4,none⟩=some (.int .u8 (d.u:Int))) (by kernel_rfl) (HS.out _ hD0) (fun hHeld=>?_);generalize wc.drew=wz at hb0 hE0 hD0 hR0 hHeld ⊢;simp only [List.toList_toArray,len,kat]
  iterate 3 (refine tz 1 ?_;simp only [Act.put,s1,s2,s3])
  iterate 4 (refine tz 6 ?_;simp only [Act.put,s1,s2,s3])
  iterate 4 (refine tz 13 ?_;simp only [Act.put,s1,s2,s3])
  have hF:=And.intro hb0 (And.intro hE0 (And.intro hD0 hR0));have HG:=hdd (fun (W:World) (o:Obj) (h:Below w.heap.size w W∧(W).heap[t]? = some (.cells (evC ⟨3,a,n,xs,[],0,0,[],[],qx,px,[],0,[],Rv.sg0⟩ (.slice na xs.length nc) kaf kaf kaf kaf) 45 (0,0))∧(W).heap[u]? = some (.cells (ddC d) 129 (0,0))∧(W).heap[m]? = some (.cells evZ 45 (0,0)))=>show Below w.heap.size w (W.alloc o)∧(W.alloc o).heap[t]? = some (.cells (evC ⟨3,a,n,xs,[],0,0,[],[],qx,px,[],0,[],Rv.sg0⟩ (.slice na xs.length nc) kaf kaf kaf kaf) 45 (0,0))∧(W.alloc o).heap[u]? = some (.cells (ddC d) 129 (0,0))∧(W.alloc o).heap[m]? = some (.cells evZ 45 (0,0)) from ⟨h.1.alloc h.1.size _,kah h.2.1,kah h.2.2.1,kah h.2.2.2⟩);have HC:=hdd (fun (W W':World) (hb:Below W.heap.size W W') (h:Below w.heap.size w W∧(W).heap[t]? = some (.cells (evC ⟨3,a,n,xs,[],0,0,[],[],qx,px,[],0,[],Rv.sg0⟩ (.slice na xs.length nc) kaf kaf kaf kaf) 45 (0,0))∧(W).heap[u]? = some (.cells (ddC d) 129 (0,0))∧(W).heap[m]? = some (.cells evZ 45 (0,0)))=>show Below w.heap.size w W'∧(W').heap[t]? = some (.cells (evC ⟨3,a,n,xs,[],0,0,[],[],qx,px,[],0,[],Rv.sg0⟩ (.slice na xs.length nc) kaf kaf kaf kaf) 45 (0,0))∧(W').heap[u]? = some (.cells (ddC d) 129 (0,0))∧(W').heap[m]? = some (.cells evZ 45 (0,0)) from ⟨h.1.next hb,kab hb (kad h.2.1) h.2.1,kab hb (kad h.2.2.1) h.2.2.1,kab hb (kad h.2.2.2) h.2.2.2⟩);clear hb0 hE0 hD0 hR0;have tA0:=trivial;have tB0:=trivial
  iterate 5 (all_goals (
   first
   |(have _t:=tA2;have _t:=tB3)
   |(have _t:=tA2;have _t:=tB2;clear _t;refine wpAnyH_ready (rs:=[12]) (by kernel_rfl) (by simp) ?_;refine ar1 rfl (fun K hK=>?_))
   |(have _t:=tA2;have _t:=tB1;clear _t;refine wpAnyH_ready (rs:=[11]) (by kernel_rfl) (by simp) ?_;refine ar1 rfl (fun K hK=>?_))
   |(have _t:=tA2;have _t:=tB0;clear _t;refine wpAnyH_ready (rs:=[10]) (by kernel_rfl) (by simp) ?_;refine ar1 rfl (fun K hK=>?_))
   |(have _t:=tA1;have _t:=tB3;clear _t;refine wpAnyH_ready (rs:=[5]) (by kernel_rfl) (by simp) ?_;refine ar1 rfl (fun K hK=>?_))
   |(have _t:=tA1;have _t:=tB2;clear _t;refine wpAnyH_ready (rs:=[5,12]) (by kernel_rfl) (by simp) ?_;refine AllReadyH.cons rfl (fun K hK=>?_) (ar1 rfl (fun K hK=>?_)))
   |(have _t:=tA1;have _t:=tB1;clear _t;refine wpAnyH_ready (rs:=[5,11]) (by kernel_rfl) (by simp) ?_;refine AllReadyH.cons rfl (fun K hK=>?_) (ar1 rfl (fun K hK=>?_)))
   |(have _t:=tA1;have _t:=tB0;clear _t;refine wpAnyH_ready (rs:=[5,10]) (by kernel_rfl) (by simp) ?_;refine AllReadyH.cons rfl (fun K hK=>?_) (ar1 rfl (fun K hK=>?_)))
   |(have _t:=tA0;have _t:=tB3;clear _t;refine wpAnyH_ready (rs:=[0]) (by kernel_rfl) (by simp) ?_;refine ar1 rfl (fun K hK=>?_))
   |(have _t:=tA0;have _t:=tB2;clear _t;refine wpAnyH_ready (rs:=[0,12]) (by kernel_rfl) (by simp) ?_;refine AllReadyH.cons rfl (fun K hK=>?_) (ar1 rfl (fun K hK=>?_)))
   |(have _t:=tA0;have _t:=tB1;clear _t;refine wpAnyH_ready (rs:=[0,11]) (by kernel_rfl) (by simp) ?_;refine AllReadyH.cons rfl (fun K hK=>?_) (ar1 rfl (fun K hK=>?_)))
   |(have _t:=tA0;have _t:=tB0;clear _t;refine wpAnyH_ready (rs:=[0,10]) (by kernel_rfl) (by simp) ?_;refine AllReadyH.cons rfl (fun K hK=>?_) (ar1 rfl (fun K hK=>?_)))
   all_goals first
   |(refine kh7 89 rfl ?_
     go_loud (
     go_simp
     have hF2:=HG.out _ (.cells #[.string ⟨#[109,105,116]⟩,.string ⟨#[103,112,108,32,111,114,32,109,105,116]⟩,.string ⟨#[]⟩] 9) hF;have hP:=kai wz (.cells #[.string ⟨#[109,105,116]⟩,.string ⟨#[103,112,108,32,111,114,32,109,105,116]⟩,.string ⟨#[]⟩] 9)
     first
      |(have hQ2:(wz.alloc (.cells #[.string ⟨#[109,105,116]⟩,.string ⟨#[103,112,108,32,111,114,32,109,105,116]⟩,.string ⟨#[]⟩] 9)).heap[_]? = _:=kah hQ
        clear hQ hF;have hQ:=hQ2;have hF:=hF2;clear hQ2 hF2;generalize wz.alloc (.cells #[.string ⟨#[109,105,116]⟩,.string ⟨#[103,112,108,32,111,114,32,109,105,116]⟩,.string ⟨#[]⟩] 9)=wz at hF hP hQ ⊢)
      |(clear hF
        have hF:=hF2;clear hF2;generalize wz.alloc (.cells #[.string ⟨#[109,105,116]⟩,.string ⟨#[103,112,108,32,111,114,32,109,105,116]⟩,.string ⟨#[]⟩] 9)=wz at hF hP ⊢)
     clear hHeld;refine hK.out _ _ (HS.out _ hF.2.2.1) (fun hHeld=>?_);clear hK K
     try simp only [Act.put,s1,s2,s3,s4,s5,s6]
     (refine tz 4 ?_;simp only [Act.put,s1,s2,s3])
     clear tA0;have tA1:=trivial))
   |(refine kh7 94 rfl ?_
     go_loud (
     have hc:=(kaa hP r3).trans HAX.out;go_simp
     clear hc hP;clear hHeld;refine hK.out _ _ (HS.out _ hF.2.2.1) (fun hHeld=>?_);clear hK K
     try simp only [Act.put,s1,s2,s3,s4,s5,s6]
     (refine tz 17 ?_;simp only [Act.put,s1,s2,s3])
     clear tA1;have tA2:=trivial))
   |(refine kh7 99 rfl ?_
     go_loud (
     go_simp
     refine (HNN.out _).mono ?_;rintro en wz ⟨rfl,hb⟩;have hF2:=HC.out _ _ hb hF
     try (have hP2:=kab hb (kad hP) hP;clear hP;have hP:=hP2;clear hP2)
     clear hF;have hF:=hF2;clear hF2 hb;clear hHeld;refine hK.out _ _ (HS.out _ hF.2.2.1) (fun hHeld=>?_);clear hK K
     try simp only [Act.put,s1,s2,s3,s4,s5,s6]
     clear tB0;have tB1:=trivial))
   |(refine kh7 100 rfl ?_
     go_loud (
     go_simp
     have hF2:=HG.out _ (.cells #[.string ⟨#[101,118,105,100,101,110,99,101]⟩,.string (B nm)] 9) hF;have hQ:=kai wz (.cells #[.string ⟨#[101,118,105,100,101,110,99,101]⟩,.string (B nm)] 9)
     first
      |(have hP2:(wz.alloc (.cells #[.string ⟨#[101,118,105,100,101,110,99,101]⟩,.string (B nm)] 9)).heap[_]? = _:=kah hP
        clear hP hF;have hP:=hP2;have hF:=hF2;clear hP2 hF2;generalize wz.alloc (.cells #[.string ⟨#[101,118,105,100,101,110,99,101]⟩,.string (B nm)] 9)=wz at hF hQ hP ⊢)
      |(clear hF
        have hF:=hF2;clear hF2;generalize wz.alloc (.cells #[.string ⟨#[101,118,105,100,101,110,99,101]⟩,.string (B nm)] 9)=wz at hF hQ ⊢)
     clear hHeld;refine hK.out _ _ (HS.out _ hF.2.2.1) (fun hHeld=>?_);clear hK K
     try simp only [Act.put,s1,s2,s3,s4,s5,s6]
     clear tB1;have tB2:=trivial))
   |(refine kh7 101 rfl ?_
     go_loud (
     go_simp
     refine (HH.out _ _ hQ).mono ?_;rintro en wz ⟨rfl,hb⟩;have hF2:=HC.out _ _ hb hF
     try (have hP2:=kab hb (kad hP) hP;clear hP;have hP:=hP2;clear hP2)
     clear hF hQ;have hF:=hF2;clear hF2 hb;clear hHeld;refine hK.out _ _ (HS.out _ hF.2.2.1) (fun hHeld=>?_);clear hK K
     try simp only [Act.put,s1,s2,s3,s4,s5,s6]
     clear tB2;have tB3:=trivial))))
  all_goals
   obtain ⟨hbz,hEz,hDz,hRz⟩:=hF;clear HG HC tA2 tB3;refine ar2 18 (by kernel_rfl) rfl (fun K hK=>?_);refine kan rfl 9 _ _ rfl t 11 rfl (.string (B ax)) rfl rfl rfl _ 45 hEz (by simp) (by kernel_rfl) ?_;intro w7 hw7 hk7;have hD7:=(hk7.block u (kad hDz) (fun e=>by have:u=t:=e;have:=HBT.out;omega)).trans hDz;refine hK.out _ _ (HS.out _ hD7) (fun hHeld=>?_);clear hK K
   try simp only [Act.put,s1,s2,s3,s4,s5,s6]
   (refine tz 19 ?_;simp only [Act.put,s1,s2,s3])
   refine ar2 20 (by kernel_rfl) rfl (fun K hK=>?_);refine kan rfl 9 _ _ rfl t 8 rfl (.string (B dg)) rfl rfl rfl _ 45 hw7 (by simp) (by kernel_rfl) ?_;intro w8 hw8 hk8;have hD8:=(hk8.block u (kad hD7) (fun e=>by have:u=t:=e;have:=HBT.out;omega)).trans hD7;refine hK.out _ _ (HS.out _ hD8) (fun hHeld=>?_);clear hK K
   try simp only [Act.put,s1,s2,s3,s4,s5,s6]
   (refine tz 21 ?_;simp only [Act.put,s1,s2,s3])
   refine ar2 22 (by kernel_rfl) rfl (fun K hK=>?_);refine kan rfl 3 _ _ rfl t 12 rfl (.int .i64 (r5:Int)) rfl rfl rfl _ 45 hw8 (by simp) (by kernel_rfl) ?_;intro w6 hw6 hk6;have hD6:=(hk6.block u (kad hD8) (fun e=>by have:u=t:=e;have:=HBT.out;omega)).trans hD8;refine hK.out _ _ (HS.out _ hD6) (fun hHeld=>?_);clear hK K
   try simp only [Act.put,s1,s2,s3,s4,s5,s6]
   have HE6:=hdd (show w6.heap[t]? = some (.cells (evC ⟨3,a,n,xs,[],0,0,[],dg,qx,px,ax,(r5:Int),[],Rv.sg0⟩ (.slice na xs.length nc) kaf kaf kaf kaf) 45 (0,0)) from hw6);have hk56:=((hk7.trans hk8).trans hk6);have HR6:=hdd ((hk56.block m (kad hRz) (fun e=>by have:m=t:=e;have:=HBT.out;omega)).trans hRz);have HB6:=hdd (hbz.trans (hk56.below hbz.size (fun q hq e=>by have:q=t:=e;have:=HBT.out.1;omega)));clear hw6 hk6 hk56 hk7 hw7 hk8 hw8 hD6 hD7 hD8 hbz hEz hDz hRz hHeld;refine wpAnyH_done (by kernel_rfl) ?_ _
   try simp only [Exit.then]
   go_upto_region 17 with fail
   have HOne:=hdd (kbe ⟨3,a,n,xs,[],0,0,[],dg,qx,px,ax,(r5:Int),[],Rv.sg0⟩ (.slice na xs.length nc) kaf kaf kaf kaf rfl rfl rfl rfl rfl)
   go_wp2_with (first
    |(refine wpList_load_row rfl 45 _ rfl t rfl 45 (evC ⟨3,a,n,xs,[],0,0,[],dg,qx,px,ax,(r5:Int),[],Rv.sg0⟩ (.slice na xs.length nc) kaf kaf kaf kaf) (0,0) _ HE6.out rfl rfl (by kernel_rfl) ?_)
    |(refine kac rfl 45 _ _ rfl m rfl (evC ⟨3,a,n,xs,[],0,0,[],dg,qx,px,ax,(r5:Int),[],Rv.sg0⟩ (.slice na xs.length nc) kaf kaf kaf kaf) rfl 45 evZ HR6.out (by kernel_rfl) rfl HOne.out ?_
      intro w7 hw7 hk7;have HW7:=hdd hw7;have HK7:=hdd hk7;have HB7:=hdd (HB6.out.trans (HK7.out.below HB6.out.size (fun q hq e=>by have:q=m:=e;have:=HBT.out;omega)));clear hw7 hk7)
    |fail)
   refine kbv rfl m 45 _ (0,0) _ rfl HW7.out rfl rfl (by kernel_rfl) rfl ?_;refine ⟨_,kaf,rfl,rfl,rfl,⟨?_,?_,?_,?_,?_,?_,?_,?_,?_⟩,by simp,World.ownsRow_nil _ _ _ _,HB7.out⟩
   all_goals first|(simp;done)|(simp;omega)|(have:=HN.out.2.2.2;show List.length a≤_;omega)|exact fun x hx=>by have:=HN.out.1 x hx;omega
theorem ksn (d:Dd) (a:Bs) (n:Int) (xs ids:List Bs) (na:Option Addr) (nc:Nat) (vb vi:Value) (w:World) (ha:a.length≤1000) (hxs:∀x∈xs,x.length≤1000) (hids:∀x∈ids,x.length≤1000) (hI:IsSl vi (ids.map vS) w) :
 Calls Tryz.prog 74 #[.agg (evC (evP (4:Nat) a n xs) (.slice na xs.length nc) kaf kaf kaf kaf),.agg (ddC d),vb,vi] w (kfi xs (.slice na xs.length nc) w):=by
 obtain ⟨t,ht⟩:∃t,w.heap.size=t:=⟨_,rfl⟩;obtain ⟨u,hu⟩:∃u,t+1=u:=⟨_,rfl⟩;obtain ⟨m,hm⟩:∃m,u+1=m:=⟨_,rfl⟩
 have hA:∀W,W=((w.alloc (.cells (evC (evP (4:Nat) a n xs) (.slice na xs.length nc) kaf kaf kaf kaf) 45)).alloc (.cells (ddC d) 129)).alloc (.cells evZ 45)→Below w.heap.size w W∧W.heap[t]? = some (.cells (evC (evP (4:Nat) a n xs) (.slice na xs.length nc) kaf kaf kaf kaf) 45 (0,0))∧W.heap[u]? = some (.cells (ddC d) 129 (0,0))∧W.heap[m]? = some (.cells evZ 45 (0,0)):=by
  rintro _ rfl;subst hm;subst hu;subst ht;exact ⟨(((Below.refl _ _).alloc (Nat.le_refl _) _).alloc (by simp) _).alloc (by simp;omega) _,kah (kah (kai _ _)),kah (kak (by simp) rfl),kak (by simp) rfl⟩
 have HN:=hdd (And.intro hxs (And.intro hids (And.intro hI ha)));clear hxs hids hI ha
 go_enter Tryz.func74,Tryz.ntmps74
 go_upto_region 1 with fail
 try simp only [World.size_alloc]
 have hu':w.heap.size+1=u:=by omega
 have hm':w.heap.size+1+1=m:=by omega
 try simp only [hm',hu',ht]
 show Code.wp _ _ _ _ (((w.alloc (.cells (evC (evP (4:Nat) a n xs) (.slice na xs.length nc) kaf kaf kaf kaf) 45)).alloc (.cells (ddC d) 129)).alloc (.cells evZ 45));generalize hw1:((w.alloc (.cells (evC (evP (4:Nat) a n xs) (.slice na xs.length nc) kaf kaf kaf kaf) 45)).alloc (.cells (ddC d) 129)).alloc (.cells evZ 45)=w1;obtain ⟨hb1,hE1,hD1,hR1⟩:=hA w1 hw1.symm;have HBT:=hdd (And.intro ht (And.intro hu hm));clear hw1 hA hu' hm' ht hu hm;obtain ⟨r,hr⟩:∃r,d.q % 3=r:=⟨_,rfl⟩;have hr3:r<3:=by omega
 have hrm:(d.q:Int).tmod 3=(r:Int):=by rw [Int.tmod_eq_emod_of_nonneg (by omega)];omega
 have hDq:w1.cell? ⟨u,2,none⟩=some (.int .u8 (d.q:Int)):=by rw [kaa hD1];rfl
 obtain ⟨qx,hqx,hql⟩:∃qx:Bs,([[108,105,99,101,110,115,101,58,97,112,112,47,97,46,115,114,99],[108,105,99,101,110,115,101,58,108,105,98,47,98,46,115,114,99],[114,101,108,97,116,105,111,110,58,97,112,112,47,97,46,115,114,99]]:List Bs)[r]? = some qx∧qx.length≤100:=by
  rcases (show r=0∨r=1∨r=2 by omega) with rfl|rfl|rfl <;> exact ⟨_,rfl,by decide⟩
 have hpick:(w1.alloc (.cells #[.string ⟨#[108,105,99,101,110,115,101,58,97,112,112,47,97,46,115,114,99]⟩,.string ⟨#[108,105,99,101,110,115,101,58,108,105,98,47,98,46,115,114,99]⟩,.string ⟨#[114,101,108,97,116,105,111,110,58,97,112,112,47,97,46,115,114,99]⟩] 9)).cell? ⟨w1.heap.size,r,none⟩=some (.string (B qx)):=by
  rw [kaa (kai _ _),show (#[.string ⟨#[108,105,99,101,110,115,101,58,97,112,112,47,97,46,115,114,99]⟩,.string ⟨#[108,105,99,101,110,115,101,58,108,105,98,47,98,46,115,114,99]⟩,.string ⟨#[114,101,108,97,116,105,111,110,58,97,112,112,47,97,46,115,114,99]⟩]:Array Value)=(([[108,105,99,101,110,115,101,58,97,112,112,47,97,46,115,114,99],[108,105,99,101,110,115,101,58,108,105,98,47,98,46,115,114,99],[114,101,108,97,116,105,111,110,58,97,112,112,47,97,46,115,114,99]]:List Bs).map vS).toArray from rfl,List.getElem?_toArray,List.getElem?_map,hqx];rfl
 have hul:=kad hD1;have HF1:=hdd (And.intro hb1 (And.intro hE1 (And.intro hD1 hR1)));clear hqx hb1 hE1 hD1 hR1 hr
 go_upto_region 2 with fail
 have hF2:Below w.heap.size w (w1.alloc (.cells #[.string ⟨#[108,105,99,101,110,115,101,58,97,112,112,47,97,46,115,114,99]⟩,.string ⟨#[108,105,99,101,110,115,101,58,108,105,98,47,98,46,115,114,99]⟩,.string ⟨#[114,101,108,97,116,105,111,110,58,97,112,112,47,97,46,115,114,99]⟩] 9))∧(w1.alloc (.cells #[.string ⟨#[108,105,99,101,110,115,101,58,97,112,112,47,97,46,115,114,99]⟩,.string ⟨#[108,105,99,101,110,115,101,58,108,105,98,47,98,46,115,114,99]⟩,.string ⟨#[114,101,108,97,116,105,111,110,58,97,112,112,47,97,46,115,114,99]⟩] 9)).heap[t]? = some (.cells (evC (evP (4:Nat) a n xs) (.slice na xs.length nc) kaf kaf kaf kaf) 45 (0,0))∧(w1.alloc (.cells #[.string ⟨#[108,105,99,101,110,115,101,58,97,112,112,47,97,46,115,114,99]⟩,.string ⟨#[108,105,99,101,110,115,101,58,108,105,98,47,98,46,115,114,99]⟩,.string ⟨#[114,101,108,97,116,105,111,110,58,97,112,112,47,97,46,115,114,99]⟩] 9)).heap[u]? = some (.cells (ddC d) 129 (0,0))∧(w1.alloc (.cells #[.string ⟨#[108,105,99,101,110,115,101,58,97,112,112,47,97,46,115,114,99]⟩,.string ⟨#[108,105,99,101,110,115,101,58,108,105,98,47,98,46,115,114,99]⟩,.string ⟨#[114,101,108,97,116,105,111,110,58,97,112,112,47,97,46,115,114,99]⟩] 9)).heap[m]? = some (.cells evZ 45 (0,0)):=by
  obtain ⟨h1,h2,h3,h4⟩:=HF1.out;exact ⟨h1.alloc h1.size _,kah h2,kah h3,kah h4⟩
 clear hpick hDq HF1 hul hr3 hrm;show Code.wp _ _ _ _ (w1.alloc (.cells #[.string ⟨#[108,105,99,101,110,115,101,58,97,112,112,47,97,46,115,114,99]⟩,.string ⟨#[108,105,99,101,110,115,101,58,108,105,98,47,98,46,115,114,99]⟩,.string ⟨#[114,101,108,97,116,105,111,110,58,97,112,112,47,97,46,115,114,99]⟩] 9));generalize w1.alloc (.cells #[.string ⟨#[108,105,99,101,110,115,101,58,97,112,112,47,97,46,115,114,99]⟩,.string ⟨#[108,105,99,101,110,115,101,58,108,105,98,47,98,46,115,114,99]⟩,.string ⟨#[114,101,108,97,116,105,111,110,58,97,112,112,47,97,46,115,114,99]⟩] 9)=w2 at hF2 ⊢;obtain ⟨hb2,hE2,hD2,hR2⟩:=hF2;have HB2:=hdd hb2;have HE2:=hdd hE2;have HD2:=hdd hD2;have HR2:=hdd hR2;have hz:=hb2.size;have htl:=kad hE2;have hml:=kad hR2;have hul:=kad hD2;have hk0:w2.cell? ⟨t,0,none⟩=some (.int .i64 ((4:Nat):Int)):=by rw [kaa hE2];rfl
 have hk1:w2.cell? ⟨t,1,none⟩=some (.string (B a)):=by rw [kaa hE2];rfl
 clear hb2 hE2 hD2 hR2;obtain ⟨ai,ci,rfl⟩:=HN.out.2.2.1.formMap;obtain ⟨i0,hi0,hz0,hz1,hz2⟩:=info_parts Tryz.infoStr;have Hi:=hdd hi0;have Hz0:=hdd hz0;have Hz1:=hdd hz1;have Hz2:=hdd hz2;clear hi0 hz0 hz1 hz2;have hidl:ids.length≤maxLen:=by have:=HN.out.2.2.1.1;rwa [List.length_map] at this
 unfold maxLen at hidl
 go_wp2_with fail
 go_loopw [10,11] (fun i1 _ wr=>khy 1 4 d a n xs na nc t u m w i1 wr) (fun n _ _=>1 - (intOf n).toNat)
 case atStart=>exact ⟨0,[],kaf,by omega,rfl,rfl,by simp,HB2.out,HE2.out,HD2.out,HR2.out,World.ownsRow_nil _ _ _ _⟩
 case round =>
  unfold khy at hrel;obtain ⟨i,T,v,hi,rfl,hTi,hTl,hb,hE,hD,hR,hO⟩:=hrel;subst hTi;obtain ⟨va,vc,rfl⟩:=kag hO;have HB:=hdd hb;have HE:=hdd hE;have HD:=hdd hD;have HR:=hdd hR;have HO:=hdd hO;have HTl:=hdd hTl;have hkr:wr.cell? ⟨t,0,none⟩=some (.int .i64 4):=by rw [kaa hE];rfl
  clear hb hE hD hR hO hTl hk0 hk1
  by_cases hlt:T.length<1
  ·have hlti:(T.length:Int)<1:=by omega
   obtain ⟨nm,hnm⟩:∃nm,num (T.length:Int)=nm:=⟨_,rfl⟩;have hNl:nm.length≤maxLen:=by rw [←hnm];exact kkk _
   have HNm:=hdd hnm;obtain ⟨dg,hdg⟩:∃dg,hsh [([110,111,110,101]:Bs),nm]=dg:=⟨_,rfl⟩;have hdl:dg.length=32:=by rw [←hdg,kf6]
   have HH:=hdd (fun (W:World) (b:Nat) (hb:W.heap[b]? = some (.cells #[.string ⟨#[110,111,110,101]⟩,.string (B nm)] 9 (0,0)))=>show kcy 48 #[.slice (some ⟨b,0,none⟩) 2 2] W (.string (B dg)) by
    rw [←hdg]
    exact kk5 [([110,111,110,101]:Bs),nm] 2 hb rfl rfl (by decide) (by decide) (by
     intro x hx;simp only [List.mem_cons,List.not_mem_nil,or_false] at hx;rcases hx with rfl|rfl
     ·unfold maxLen;decide
     ·exact hNl))
   have HNN:=hdd (fun W=>show Calls Tryz.prog 86 #[.int .i64 (T.length:Int)] W _ from HNm.out ▸ kli (T.length:Int) W)
   obtain ⟨tv,htv,htc⟩:∃tv:Nat,tv<256∧(ddC d)[6+T.length]? = some (.int .u8 (tv:Int)):=by
    rcases (show T.length=0∨T.length=1 by omega) with e|e <;> rw [e]
    ·exact ⟨d.t0,d.h0,rfl⟩
    ·exact ⟨d.t1,d.h1,rfl⟩
   have HTc:=hdd htc;clear hnm hdg htc
   go_upto_region 7 with (first
    |(go_at_call 86
      refine (HNN.out _).mono ?_;rintro en w3 ⟨rfl,hb3⟩;have HB3:=hdd (HB.out.next hb3);have HK3:=hdd hb3;clear hb3)
    |(go_at_call 48
      refine (HH.out _ _ (kai _ _)).mono ?_;rintro en w4 ⟨rfl,hb4⟩;have HK4:=hdd (show Below wr.heap.size wr w4 from (HK3.out.alloc HK3.out.size _).next hb4);clear hb4)
    |fail)
   have hB4:=HB.out.next HK4.out;have hE4:=kab HK4.out (kad HE.out) HE.out;have hD4:=kab HK4.out (kad HD.out) HD.out;have hR4:=kab HK4.out (kad HR.out) HR.out;have hO4:=kcd HO.out (w':=w4) (fun q _ hq=>HK4.out.block q hq);have HB4:=hdd hB4;have HE4:=hdd hE4;have HD4:=hdd hD4;have HR4:=hdd hR4;have HO4:=hdd hO4;clear hB4 hE4 hD4 hR4 hO4 hkr
   by_cases h0:0<ids.length
   ·obtain ⟨r,hr⟩:∃r,tv % ids.length=r:=⟨_,rfl⟩
    have hrl:r<ids.length:=by rw [←hr];exact Nat.mod_lt _ h0
    have hrm:(tv:Int).tmod (ids.length:Int)=(r:Int):=by rw [Int.tmod_eq_emod_of_nonneg (by omega),←hr];rfl
    have hwt:IntKind.i64.wrap (tv:Int)=(tv:Int):=by rw [IntKind.wrap_i64];omega
    have hd6:w4.cell? ⟨u,6+T.length,none⟩=some (.int .u8 (tv:Int)):=by rw [kaa HD4.out];exact HTc.out
    obtain ⟨b,off,cap',hv,hbi,hci⟩:=(HN.out.2.2.1.below HB4.out).text rfl hrl;simp only [Value.slice.injEq,true_and] at hv;obtain ⟨rfl,rfl⟩:=hv;obtain ⟨x,hx⟩:∃x,ids.getD r []=x:=⟨_,rfl⟩;rw [hx] at hci;have hxl:x.length≤1000:=by rw [←hx,List.getD_eq_getElem?_getD,List.getElem?_eq_getElem hrl];exact HN.out.2.1 _ (List.getElem_mem hrl)
    have hi0:(0:Int)<(ids.length:Int):=by omega
    have h2:T.length<2:=by omega
    have h2i:(T.length:Int)<2:=by omega
    clear hr hx
    go_upto_region 9 with fail
    clear hci hd6;have hTm:T.length+1≤100:=by omega
    have hvt:w4.cell? ⟨t,13,none⟩=some (.slice va T.length vc):=by rw [kaa HE4.out];rfl
    go_wp2_with (first
     |(at_builtin
       refine wpList_append_own _ rfl _ _ 39 rfl (m+1) 9 i0 (.string ⟨#[]⟩) 1 16 Tryz.underlying39 Hi.out Hz0.out Hz1.out Hz2.out rfl (by decide) _ T.length (T.map vS) rfl (HO4.out.alloc _) ⟨w4.heap.size,0,none⟩ 1 1 [vS x] rfl rfl (kbj (kai _ _)) (by simp [vS,Value.oneCell']) (by unfold maxLen;omega) (by omega) (by have:=kad HR4.out;simp;omega) ?_;intro v5 w5 ho5 hg5 _;have HO5:=hdd (show w5.ownsRow (m+1) 9 1 v5 (T.length+1) ((T++[x]).map vS) by rw [List.map_append];exact ho5);have HG5:=hdd (show Below (m+1) w4 w5 from ((Below.refl _ _).alloc (by have:=kad HR4.out;omega) _).grown hg5 (by have:=kad HR4.out;simp;omega) (fun q hq=>(HO4.out.lt q hq).1));have hbt5:=HBT.out;have HE5:=hdd (kab HG5.out (show t<m+1 by omega) HE4.out);have HD5:=hdd (kab HG5.out (show u<m+1 by omega) HD4.out);have HR5:=hdd (kab HG5.out (show m<m+1 by omega) HR4.out);have HB5:=hdd (show Below w.heap.size w w5 from HB4.out.trans (HG5.out.mono (by omega)));obtain ⟨v5a,v5c,rfl⟩:=kag ho5;clear ho5 hg5 hbt5)
     |(refine kae rfl 39 _ _ rfl t 13 rfl (.slice v5a (T.length+1) v5c) rfl rfl rfl _ 45 HE5.out (by simp) (by kernel_rfl) ?_
       intro w6 hw6 hk6;have HE6:=hdd (show w6.heap[t]? = some (.cells (evC ⟨((4:Nat):Int),a,n,xs,[],0,0,[],[],[],[],[],0,T++[x],Rv.sg0⟩ (.slice na xs.length nc) (.slice v5a (T.length+1) v5c) kaf kaf kaf) 45 (0,0)) from hw6);have HK6:=hdd hk6;clear hw6 hk6)
     |fail)
    go_roundw
    case rel =>
     have hbt:=HBT.out
     have hF:khy 1 4 d a n xs na nc t u m w (.int .i64 ((T.length+1:Nat):Int)) w6:=by
      refine ⟨T.length+1,T++[x],_,by omega,rfl,by simp,?_,HB5.out.trans (HK6.out.below HB5.out.size (fun q hq e=>by have:q=t:=e;omega)),HE6.out,(HK6.out.block u (kad HD5.out) (fun e=>by have:u=t:=e;omega)).trans HD5.out,(HK6.out.block m (kad HR5.out) (fun e=>by have:m=t:=e;omega)).trans HR5.out,?_⟩
      ·intro y hy
       rcases List.mem_append.1 hy with hy|hy
       ·exact HTl.out y hy
       ·obtain rfl:=List.mem_singleton.1 hy
        exact hxl
      ·have:=kay HO5.out HK6.out (fun q hq e=>by have:q=t:=e;omega)
       simpa using this
     first|exact hF|((repeat apply Exists.intro);exact ⟨hF,rfl⟩)
    case measure=>simp [intOf];omega
   ·obtain rfl:ids=[]:=by cases ids with
     |nil=>rfl
     |cons _ _=>simp at h0
    have hxl:dg.length≤1000:=by omega
    go_upto_region 9 with fail
    have hTm:T.length+1≤100:=by omega
    have hvt:w4.cell? ⟨t,13,none⟩=some (.slice va T.length vc):=by rw [kaa HE4.out];rfl
    go_wp2_with (first
     |(at_builtin
       refine wpList_append_own _ rfl _ _ 39 rfl (m+1) 9 i0 (.string ⟨#[]⟩) 1 16 Tryz.underlying39 Hi.out Hz0.out Hz1.out Hz2.out rfl (by decide) _ T.length (T.map vS) rfl (HO4.out.alloc _) ⟨w4.heap.size,0,none⟩ 1 1 [vS dg] rfl rfl (kbj (kai _ _)) (by simp [vS,Value.oneCell']) (by unfold maxLen;omega) (by omega) (by have:=kad HR4.out;simp;omega) ?_;intro v5 w5 ho5 hg5 _;have HO5:=hdd (show w5.ownsRow (m+1) 9 1 v5 (T.length+1) ((T++[dg]).map vS) by rw [List.map_append];exact ho5);have HG5:=hdd (show Below (m+1) w4 w5 from ((Below.refl _ _).alloc (by have:=kad HR4.out;omega) _).grown hg5 (by have:=kad HR4.out;simp;omega) (fun q hq=>(HO4.out.lt q hq).1));have hbt5:=HBT.out;have HE5:=hdd (kab HG5.out (show t<m+1 by omega) HE4.out);have HD5:=hdd (kab HG5.out (show u<m+1 by omega) HD4.out);have HR5:=hdd (kab HG5.out (show m<m+1 by omega) HR4.out);have HB5:=hdd (show Below w.heap.size w w5 from HB4.out.trans (HG5.out.mono (by omega)));obtain ⟨v5a,v5c,rfl⟩:=kag ho5;clear ho5 hg5 hbt5)
     |(refine kae rfl 39 _ _ rfl t 13 rfl (.slice v5a (T.length+1) v5c) rfl rfl rfl _ 45 HE5.out (by simp) (by kernel_rfl) ?_
       intro w6 hw6 hk6;have HE6:=hdd (show w6.heap[t]? = some (.cells (evC ⟨((4:Nat):Int),a,n,xs,[],0,0,[],[],[],[],[],0,T++[dg],Rv.sg0⟩ (.slice na xs.length nc) (.slice v5a (T.length+1) v5c) kaf kaf kaf) 45 (0,0)) from hw6);have HK6:=hdd hk6;clear hw6 hk6)
     |fail)
    go_roundw
    case rel =>
     have hbt:=HBT.out
     have hF:khy 1 4 d a n xs na nc t u m w (.int .i64 ((T.length+1:Nat):Int)) w6:=by
      refine ⟨T.length+1,T++[dg],_,by omega,rfl,by simp,?_,HB5.out.trans (HK6.out.below HB5.out.size (fun q hq e=>by have:q=t:=e;omega)),HE6.out,(HK6.out.block u (kad HD5.out) (fun e=>by have:u=t:=e;omega)).trans HD5.out,(HK6.out.block m (kad HR5.out) (fun e=>by have:m=t:=e;omega)).trans HR5.out,?_⟩
      ·intro y hy
       rcases List.mem_append.1 hy with hy|hy
       ·exact HTl.out y hy
       ·obtain rfl:=List.mem_singleton.1 hy
        exact hxl
      ·have:=kay HO5.out HK6.out (fun q hq e=>by have:q=t:=e;omega)
       simpa using this
     first|exact hF|((repeat apply Exists.intro);exact ⟨hF,rfl⟩)
    case measure=>simp [intOf];omega
  ·have hle:¬ (T.length:Int)<1:=by omega
   have hT2:T.length=1:=by omega
   have HT2:=hdd hT2;clear hT2
   go_upto_region 17 with fail
   have hB6:=HB.out;have HOne:=hdd (kbe ⟨((4:Nat):Int),a,n,xs,[],0,0,[],[],[],[],[],0,T,Rv.sg0⟩ (.slice na xs.length nc) (.slice va T.length vc) kaf kaf kaf rfl rfl rfl rfl rfl)
   go_wp2_with (first
    |(refine wpList_load_row rfl 45 _ rfl t rfl 45 (evC ⟨((4:Nat):Int),a,n,xs,[],0,0,[],[],[],[],[],0,T,Rv.sg0⟩ (.slice na xs.length nc) (.slice va T.length vc) kaf kaf kaf) (0,0) _ HE.out rfl rfl (by kernel_rfl) ?_)
    |(refine kac rfl 45 _ _ rfl m rfl (evC ⟨((4:Nat):Int),a,n,xs,[],0,0,[],[],[],[],[],0,T,Rv.sg0⟩ (.slice na xs.length nc) (.slice va T.length vc) kaf kaf kaf) rfl 45 evZ HR.out (by kernel_rfl) rfl HOne.out ?_
      intro w7 hw7 hk7;have HW7:=hdd hw7;have HK7:=hdd hk7;have HB7:=hdd (HB.out.trans (HK7.out.below HB.out.size (fun q hq e=>by have:q=m:=e;have:=HBT.out;omega)));clear hw7 hk7)
    |fail)
   refine kbv rfl m 45 _ (0,0) _ rfl HW7.out rfl rfl (by kernel_rfl) rfl ?_;refine ⟨_,_,rfl,rfl,rfl,⟨?_,?_,?_,?_,?_,?_,?_,?_,?_⟩,by have:=HT2.out;show T.length≤2;omega,kbh (kay HO.out HK7.out (fun q hq e=>by have:q=m:=e;omega)) (by have:=HBT.out;omega),HB7.out⟩
   all_goals first|(simp;done)|(simp;omega)|(have:=HN.out.2.2.2;show List.length a≤_;omega)|exact fun x hx=>by have:=HN.out.1 x hx;omega|exact fun x hx=>by have:=HTl.out x hx;omega
theorem kri (d:Dd) (a:Bs) (n:Int) (xs ids:List Bs) (na:Option Addr) (nc:Nat) (vb vi:Value) (w:World) (ha:a.length≤1000) (hxs:∀x∈xs,x.length≤1000) (hids:∀x∈ids,x.length≤1000) (hI:IsSl vi (ids.map vS) w) :
 Calls Tryz.prog 74 #[.agg (evC (evP (5:Nat) a n xs) (.slice na xs.length nc) kaf kaf kaf kaf),.agg (ddC d),vb,vi] w (kfi xs (.slice na xs.length nc) w):=by
 obtain ⟨t,ht⟩:∃t,w.heap.size=t:=⟨_,rfl⟩;obtain ⟨u,hu⟩:∃u,t+1=u:=⟨_,rfl⟩;obtain ⟨m,hm⟩:∃m,u+1=m:=⟨_,rfl⟩
 have hA:∀W,W=((w.alloc (.cells (evC (evP (5:Nat) a n xs) (.slice na xs.length nc) kaf kaf kaf kaf) 45)).alloc (.cells (ddC d) 129)).alloc (.cells evZ 45)→Below w.heap.size w W∧W.heap[t]? = some (.cells (evC (evP (5:Nat) a n xs) (.slice na xs.length nc) kaf kaf kaf kaf) 45 (0,0))∧W.heap[u]? = some (.cells (ddC d) 129 (0,0))∧W.heap[m]? = some (.cells evZ 45 (0,0)):=by
  rintro _ rfl;subst hm;subst hu;subst ht;exact ⟨(((Below.refl _ _).alloc (Nat.le_refl _) _).alloc (by simp) _).alloc (by simp;omega) _,kah (kah (kai _ _)),kah (kak (by simp) rfl),kak (by simp) rfl⟩
 have HN:=hdd (And.intro hxs (And.intro hids (And.intro hI ha)));clear hxs hids hI ha
 go_enter Tryz.func74,Tryz.ntmps74
 go_upto_region 1 with fail
 try simp only [World.size_alloc]
 have hu':w.heap.size+1=u:=by omega
 have hm':w.heap.size+1+1=m:=by omega
 try simp only [hm',hu',ht]
 show Code.wp _ _ _ _ (((w.alloc (.cells (evC (evP (5:Nat) a n xs) (.slice na xs.length nc) kaf kaf kaf kaf) 45)).alloc (.cells (ddC d) 129)).alloc (.cells evZ 45));generalize hw1:((w.alloc (.cells (evC (evP (5:Nat) a n xs) (.slice na xs.length nc) kaf kaf kaf kaf) 45)).alloc (.cells (ddC d) 129)).alloc (.cells evZ 45)=w1;obtain ⟨hb1,hE1,hD1,hR1⟩:=hA w1 hw1.symm;have HBT:=hdd (And.intro ht (And.intro hu hm));clear hw1 hA hu' hm' ht hu hm;obtain ⟨r,hr⟩:∃r,d.q % 3=r:=⟨_,rfl⟩;have hr3:r<3:=by omega
 have hrm:(d.q:Int).tmod 3=(r:Int):=by rw [Int.tmod_eq_emod_of_nonneg (by omega)];omega
 have hDq:w1.cell? ⟨u,2,none⟩=some (.int .u8 (d.q:Int)):=by rw [kaa hD1];rfl
 obtain ⟨qx,hqx,hql⟩:∃qx:Bs,([[108,105,99,101,110,115,101,58,97,112,112,47,97,46,115,114,99],[108,105,99,101,110,115,101,58,108,105,98,47,98,46,115,114,99],[114,101,108,97,116,105,111,110,58,97,112,112,47,97,46,115,114,99]]:List Bs)[r]? = some qx∧qx.length≤100:=by
  rcases (show r=0∨r=1∨r=2 by omega) with rfl|rfl|rfl <;> exact ⟨_,rfl,by decide⟩
 have hpick:(w1.alloc (.cells #[.string ⟨#[108,105,99,101,110,115,101,58,97,112,112,47,97,46,115,114,99]⟩,.string ⟨#[108,105,99,101,110,115,101,58,108,105,98,47,98,46,115,114,99]⟩,.string ⟨#[114,101,108,97,116,105,111,110,58,97,112,112,47,97,46,115,114,99]⟩] 9)).cell? ⟨w1.heap.size,r,none⟩=some (.string (B qx)):=by
  rw [kaa (kai _ _),show (#[.string ⟨#[108,105,99,101,110,115,101,58,97,112,112,47,97,46,115,114,99]⟩,.string ⟨#[108,105,99,101,110,115,101,58,108,105,98,47,98,46,115,114,99]⟩,.string ⟨#[114,101,108,97,116,105,111,110,58,97,112,112,47,97,46,115,114,99]⟩]:Array Value)=(([[108,105,99,101,110,115,101,58,97,112,112,47,97,46,115,114,99],[108,105,99,101,110,115,101,58,108,105,98,47,98,46,115,114,99],[114,101,108,97,116,105,111,110,58,97,112,112,47,97,46,115,114,99]]:List Bs).map vS).toArray from rfl,List.getElem?_toArray,List.getElem?_map,hqx];rfl
 have hul:=kad hD1;have HF1:=hdd (And.intro hb1 (And.intro hE1 (And.intro hD1 hR1)));clear hqx hb1 hE1 hD1 hR1 hr
 go_upto_region 2 with fail
 have hF2:Below w.heap.size w (w1.alloc (.cells #[.string ⟨#[108,105,99,101,110,115,101,58,97,112,112,47,97,46,115,114,99]⟩,.string ⟨#[108,105,99,101,110,115,101,58,108,105,98,47,98,46,115,114,99]⟩,.string ⟨#[114,101,108,97,116,105,111,110,58,97,112,112,47,97,46,115,114,99]⟩] 9))∧(w1.alloc (.cells #[.string ⟨#[108,105,99,101,110,115,101,58,97,112,112,47,97,46,115,114,99]⟩,.string ⟨#[108,105,99,101,110,115,101,58,108,105,98,47,98,46,115,114,99]⟩,.string ⟨#[114,101,108,97,116,105,111,110,58,97,112,112,47,97,46,115,114,99]⟩] 9)).heap[t]? = some (.cells (evC (evP (5:Nat) a n xs) (.slice na xs.length nc) kaf kaf kaf kaf) 45 (0,0))∧(w1.alloc (.cells #[.string ⟨#[108,105,99,101,110,115,101,58,97,112,112,47,97,46,115,114,99]⟩,.string ⟨#[108,105,99,101,110,115,101,58,108,105,98,47,98,46,115,114,99]⟩,.string ⟨#[114,101,108,97,116,105,111,110,58,97,112,112,47,97,46,115,114,99]⟩] 9)).heap[u]? = some (.cells (ddC d) 129 (0,0))∧(w1.alloc (.cells #[.string ⟨#[108,105,99,101,110,115,101,58,97,112,112,47,97,46,115,114,99]⟩,.string ⟨#[108,105,99,101,110,115,101,58,108,105,98,47,98,46,115,114,99]⟩,.string ⟨#[114,101,108,97,116,105,111,110,58,97,112,112,47,97,46,115,114,99]⟩] 9)).heap[m]? = some (.cells evZ 45 (0,0)):=by
  obtain ⟨h1,h2,h3,h4⟩:=HF1.out;exact ⟨h1.alloc h1.size _,kah h2,kah h3,kah h4⟩
 clear hpick hDq HF1 hul hr3 hrm;show Code.wp _ _ _ _ (w1.alloc (.cells #[.string ⟨#[108,105,99,101,110,115,101,58,97,112,112,47,97,46,115,114,99]⟩,.string ⟨#[108,105,99,101,110,115,101,58,108,105,98,47,98,46,115,114,99]⟩,.string ⟨#[114,101,108,97,116,105,111,110,58,97,112,112,47,97,46,115,114,99]⟩] 9));generalize w1.alloc (.cells #[.string ⟨#[108,105,99,101,110,115,101,58,97,112,112,47,97,46,115,114,99]⟩,.string ⟨#[108,105,99,101,110,115,101,58,108,105,98,47,98,46,115,114,99]⟩,.string ⟨#[114,101,108,97,116,105,111,110,58,97,112,112,47,97,46,115,114,99]⟩] 9)=w2 at hF2 ⊢;obtain ⟨hb2,hE2,hD2,hR2⟩:=hF2;have HB2:=hdd hb2;have HE2:=hdd hE2;have HD2:=hdd hD2;have HR2:=hdd hR2;have hz:=hb2.size;have htl:=kad hE2;have hml:=kad hR2;have hul:=kad hD2;have hk0:w2.cell? ⟨t,0,none⟩=some (.int .i64 ((5:Nat):Int)):=by rw [kaa hE2];rfl
 have hk1:w2.cell? ⟨t,1,none⟩=some (.string (B a)):=by rw [kaa hE2];rfl
 clear hb2 hE2 hD2 hR2;obtain ⟨ai,ci,rfl⟩:=HN.out.2.2.1.formMap;obtain ⟨i0,hi0,hz0,hz1,hz2⟩:=info_parts Tryz.infoStr;have Hi:=hdd hi0;have Hz0:=hdd hz0;have Hz1:=hdd hz1;have Hz2:=hdd hz2;clear hi0 hz0 hz1 hz2;have hidl:ids.length≤maxLen:=by have:=HN.out.2.2.1.1;rwa [List.length_map] at this
 unfold maxLen at hidl
 go_wp2_with fail
 go_loopw [10,11] (fun i1 _ wr=>khy 2 5 d a n xs na nc t u m w i1 wr) (fun n _ _=>2 - (intOf n).toNat)
 case atStart=>exact ⟨0,[],kaf,by omega,rfl,rfl,by simp,HB2.out,HE2.out,HD2.out,HR2.out,World.ownsRow_nil _ _ _ _⟩
 case round =>
  unfold khy at hrel;obtain ⟨i,T,v,hi,rfl,hTi,hTl,hb,hE,hD,hR,hO⟩:=hrel;subst hTi;obtain ⟨va,vc,rfl⟩:=kag hO;have HB:=hdd hb;have HE:=hdd hE;have HD:=hdd hD;have HR:=hdd hR;have HO:=hdd hO;have HTl:=hdd hTl;have hkr:wr.cell? ⟨t,0,none⟩=some (.int .i64 5):=by rw [kaa hE];rfl
  clear hb hE hD hR hO hTl hk0 hk1
  by_cases hlt:T.length<2
  ·have hlti:(T.length:Int)<2:=by omega
   obtain ⟨nm,hnm⟩:∃nm,num (T.length:Int)=nm:=⟨_,rfl⟩;have hNl:nm.length≤maxLen:=by rw [←hnm];exact kkk _
   have HNm:=hdd hnm;obtain ⟨dg,hdg⟩:∃dg,hsh [([110,111,110,101]:Bs),nm]=dg:=⟨_,rfl⟩;have hdl:dg.length=32:=by rw [←hdg,kf6]
   have HH:=hdd (fun (W:World) (b:Nat) (hb:W.heap[b]? = some (.cells #[.string ⟨#[110,111,110,101]⟩,.string (B nm)] 9 (0,0)))=>show kcy 48 #[.slice (some ⟨b,0,none⟩) 2 2] W (.string (B dg)) by
    rw [←hdg]
    exact kk5 [([110,111,110,101]:Bs),nm] 2 hb rfl rfl (by decide) (by decide) (by
     intro x hx;simp only [List.mem_cons,List.not_mem_nil,or_false] at hx;rcases hx with rfl|rfl
     ·unfold maxLen;decide
     ·exact hNl))
   have HNN:=hdd (fun W=>show Calls Tryz.prog 86 #[.int .i64 (T.length:Int)] W _ from HNm.out ▸ kli (T.length:Int) W)
   obtain ⟨tv,htv,htc⟩:∃tv:Nat,tv<256∧(ddC d)[6+T.length]? = some (.int .u8 (tv:Int)):=by
    rcases (show T.length=0∨T.length=1 by omega) with e|e <;> rw [e]
    ·exact ⟨d.t0,d.h0,rfl⟩
    ·exact ⟨d.t1,d.h1,rfl⟩
   have HTc:=hdd htc;clear hnm hdg htc
   go_upto_region 7 with (first
    |(go_at_call 86
      refine (HNN.out _).mono ?_;rintro en w3 ⟨rfl,hb3⟩;have HB3:=hdd (HB.out.next hb3);have HK3:=hdd hb3;clear hb3)
    |(go_at_call 48
      refine (HH.out _ _ (kai _ _)).mono ?_;rintro en w4 ⟨rfl,hb4⟩;have HK4:=hdd (show Below wr.heap.size wr w4 from (HK3.out.alloc HK3.out.size _).next hb4);clear hb4)
    |fail)
   have hB4:=HB.out.next HK4.out;have hE4:=kab HK4.out (kad HE.out) HE.out;have hD4:=kab HK4.out (kad HD.out) HD.out;have hR4:=kab HK4.out (kad HR.out) HR.out;have hO4:=kcd HO.out (w':=w4) (fun q _ hq=>HK4.out.block q hq);have HB4:=hdd hB4;have HE4:=hdd hE4;have HD4:=hdd hD4;have HR4:=hdd hR4;have HO4:=hdd hO4;clear hB4 hE4 hD4 hR4 hO4 hkr
   by_cases h0:0<ids.length
   ·obtain ⟨r,hr⟩:∃r,tv % ids.length=r:=⟨_,rfl⟩
    have hrl:r<ids.length:=by rw [←hr];exact Nat.mod_lt _ h0
    have hrm:(tv:Int).tmod (ids.length:Int)=(r:Int):=by rw [Int.tmod_eq_emod_of_nonneg (by omega),←hr];rfl
    have hwt:IntKind.i64.wrap (tv:Int)=(tv:Int):=by rw [IntKind.wrap_i64];omega
    have hd6:w4.cell? ⟨u,6+T.length,none⟩=some (.int .u8 (tv:Int)):=by rw [kaa HD4.out];exact HTc.out
    obtain ⟨b,off,cap',hv,hbi,hci⟩:=(HN.out.2.2.1.below HB4.out).text rfl hrl;simp only [Value.slice.injEq,true_and] at hv;obtain ⟨rfl,rfl⟩:=hv;obtain ⟨x,hx⟩:∃x,ids.getD r []=x:=⟨_,rfl⟩;rw [hx] at hci;have hxl:x.length≤1000:=by rw [←hx,List.getD_eq_getElem?_getD,List.getElem?_eq_getElem hrl];exact HN.out.2.1 _ (List.getElem_mem hrl)
    have hi0:(0:Int)<(ids.length:Int):=by omega
    have h2:T.length<2:=by omega
    have h2i:(T.length:Int)<2:=by omega
    clear hr hx
    go_upto_region 9 with fail
    clear hci hd6;have hTm:T.length+1≤100:=by omega
    have hvt:w4.cell? ⟨t,13,none⟩=some (.slice va T.length vc):=by rw [kaa HE4.out];rfl
    go_wp2_with (first
     |(at_builtin
       refine wpList_append_own _ rfl _ _ 39 rfl (m+1) 9 i0 (.string ⟨#[]⟩) 1 16 Tryz.underlying39 Hi.out Hz0.out Hz1.out Hz2.out rfl (by decide) _ T.length (T.map vS) rfl (HO4.out.alloc _) ⟨w4.heap.size,0,none⟩ 1 1 [vS x] rfl rfl (kbj (kai _ _)) (by simp [vS,Value.oneCell']) (by unfold maxLen;omega) (by omega) (by have:=kad HR4.out;simp;omega) ?_;intro v5 w5 ho5 hg5 _;have HO5:=hdd (show w5.ownsRow (m+1) 9 1 v5 (T.length+1) ((T++[x]).map vS) by rw [List.map_append];exact ho5);have HG5:=hdd (show Below (m+1) w4 w5 from ((Below.refl _ _).alloc (by have:=kad HR4.out;omega) _).grown hg5 (by have:=kad HR4.out;simp;omega) (fun q hq=>(HO4.out.lt q hq).1));have hbt5:=HBT.out;have HE5:=hdd (kab HG5.out (show t<m+1 by omega) HE4.out);have HD5:=hdd (kab HG5.out (show u<m+1 by omega) HD4.out);have HR5:=hdd (kab HG5.out (show m<m+1 by omega) HR4.out);have HB5:=hdd (show Below w.heap.size w w5 from HB4.out.trans (HG5.out.mono (by omega)));obtain ⟨v5a,v5c,rfl⟩:=kag ho5;clear ho5 hg5 hbt5)
     |(refine kae rfl 39 _ _ rfl t 13 rfl (.slice v5a (T.length+1) v5c) rfl rfl rfl _ 45 HE5.out (by simp) (by kernel_rfl) ?_
       intro w6 hw6 hk6;have HE6:=hdd (show w6.heap[t]? = some (.cells (evC ⟨((5:Nat):Int),a,n,xs,[],0,0,[],[],[],[],[],0,T++[x],Rv.sg0⟩ (.slice na xs.length nc) (.slice v5a (T.length+1) v5c) kaf kaf kaf) 45 (0,0)) from hw6);have HK6:=hdd hk6;clear hw6 hk6)
     |fail)
    go_roundw
    case rel =>
     have hbt:=HBT.out
     have hF:khy 2 5 d a n xs na nc t u m w (.int .i64 ((T.length+1:Nat):Int)) w6:=by
      refine ⟨T.length+1,T++[x],_,by omega,rfl,by simp,?_,HB5.out.trans (HK6.out.below HB5.out.size (fun q hq e=>by have:q=t:=e;omega)),HE6.out,(HK6.out.block u (kad HD5.out) (fun e=>by have:u=t:=e;omega)).trans HD5.out,(HK6.out.block m (kad HR5.out) (fun e=>by have:m=t:=e;omega)).trans HR5.out,?_⟩
      ·intro y hy
       rcases List.mem_append.1 hy with hy|hy
       ·exact HTl.out y hy
       ·obtain rfl:=List.mem_singleton.1 hy
        exact hxl
      ·have:=kay HO5.out HK6.out (fun q hq e=>by have:q=t:=e;omega)
       simpa using this
     first|exact hF|((repeat apply Exists.intro);exact ⟨hF,rfl⟩)
    case measure=>simp [intOf];omega
   ·obtain rfl:ids=[]:=by cases ids with
     |nil=>rfl
     |cons _ _=>simp at h0
    have hxl:dg.length≤1000:=by omega
    go_upto_region 9 with fail
    have hTm:T.length+1≤100:=by omega
    have hvt:w4.cell? ⟨t,13,none⟩=some (.slice va T.length vc):=by rw [kaa HE4.out];rfl
    go_wp2_with (first
     |(at_builtin
       refine wpList_append_own _ rfl _ _ 39 rfl (m+1) 9 i0 (.string ⟨#[]⟩) 1 16 Tryz.underlying39 Hi.out Hz0.out Hz1.out Hz2.out rfl (by decide) _ T.length (T.map vS) rfl (HO4.out.alloc _) ⟨w4.heap.size,0,none⟩ 1 1 [vS dg] rfl rfl (kbj (kai _ _)) (by simp [vS,Value.oneCell']) (by unfold maxLen;omega) (by omega) (by have:=kad HR4.out;simp;omega) ?_;intro v5 w5 ho5 hg5 _;have HO5:=hdd (show w5.ownsRow (m+1) 9 1 v5 (T.length+1) ((T++[dg]).map vS) by rw [List.map_append];exact ho5);have HG5:=hdd (show Below (m+1) w4 w5 from ((Below.refl _ _).alloc (by have:=kad HR4.out;omega) _).grown hg5 (by have:=kad HR4.out;simp;omega) (fun q hq=>(HO4.out.lt q hq).1));have hbt5:=HBT.out;have HE5:=hdd (kab HG5.out (show t<m+1 by omega) HE4.out);have HD5:=hdd (kab HG5.out (show u<m+1 by omega) HD4.out);have HR5:=hdd (kab HG5.out (show m<m+1 by omega) HR4.out);have HB5:=hdd (show Below w.heap.size w w5 from HB4.out.trans (HG5.out.mono (by omega)));obtain ⟨v5a,v5c,rfl⟩:=kag ho5;clear ho5 hg5 hbt5)
     |(refine kae rfl 39 _ _ rfl t 13 rfl (.slice v5a (T.length+1) v5c) rfl rfl rfl _ 45 HE5.out (by simp) (by kernel_rfl) ?_
       intro w6 hw6 hk6;have HE6:=hdd (show w6.heap[t]? = some (.cells (evC ⟨((5:Nat):Int),a,n,xs,[],0,0,[],[],[],[],[],0,T++[dg],Rv.sg0⟩ (.slice na xs.length nc) (.slice v5a (T.length+1) v5c) kaf kaf kaf) 45 (0,0)) from hw6);have HK6:=hdd hk6;clear hw6 hk6)
     |fail)
    go_roundw
    case rel =>
     have hbt:=HBT.out
     have hF:khy 2 5 d a n xs na nc t u m w (.int .i64 ((T.length+1:Nat):Int)) w6:=by
      refine ⟨T.length+1,T++[dg],_,by omega,rfl,by simp,?_,HB5.out.trans (HK6.out.below HB5.out.size (fun q hq e=>by have:q=t:=e;omega)),HE6.out,(HK6.out.block u (kad HD5.out) (fun e=>by have:u=t:=e;omega)).trans HD5.out,(HK6.out.block m (kad HR5.out) (fun e=>by have:m=t:=e;omega)).trans HR5.out,?_⟩
      ·intro y hy
       rcases List.mem_append.1 hy with hy|hy
       ·exact HTl.out y hy
       ·obtain rfl:=List.mem_singleton.1 hy
        exact hxl
      ·have:=kay HO5.out HK6.out (fun q hq e=>by have:q=t:=e;omega)
       simpa using this
     first|exact hF|((repeat apply Exists.intro);exact ⟨hF,rfl⟩)
    case measure=>simp [intOf];omega
  ·have hle:¬ (T.length:Int)<2:=by omega
   have hT2:T.length=2:=by omega
   have HT2:=hdd hT2;clear hT2
   go_upto_region 17 with fail
   have hB6:=HB.out;have HOne:=hdd (kbe ⟨((5:Nat):Int),a,n,xs,[],0,0,[],[],[],[],[],0,T,Rv.sg0⟩ (.slice na xs.length nc) (.slice va T.length vc) kaf kaf kaf rfl rfl rfl rfl rfl)
   go_wp2_with (first
    |(refine wpList_load_row rfl 45 _ rfl t rfl 45 (evC ⟨((5:Nat):Int),a,n,xs,[],0,0,[],[],[],[],[],0,T,Rv.sg0⟩ (.slice na xs.length nc) (.slice va T.length vc) kaf kaf kaf) (0,0) _ HE.out rfl rfl (by kernel_rfl) ?_)
    |(refine kac rfl 45 _ _ rfl m rfl (evC ⟨((5:Nat):Int),a,n,xs,[],0,0,[],[],[],[],[],0,T,Rv.sg0⟩ (.slice na xs.length nc) (.slice va T.length vc) kaf kaf kaf) rfl 45 evZ HR.out (by kernel_rfl) rfl HOne.out ?_
      intro w7 hw7 hk7;have HW7:=hdd hw7;have HK7:=hdd hk7;have HB7:=hdd (HB.out.trans (HK7.out.below HB.out.size (fun q hq e=>by have:q=m:=e;have:=HBT.out;omega)));clear hw7 hk7)
    |fail)
   refine kbv rfl m 45 _ (0,0) _ rfl HW7.out rfl rfl (by kernel_rfl) rfl ?_;refine ⟨_,_,rfl,rfl,rfl,⟨?_,?_,?_,?_,?_,?_,?_,?_,?_⟩,by have:=HT2.out;show T.length≤2;omega,kbh (kay HO.out HK7.out (fun q hq e=>by have:q=m:=e;omega)) (by have:=HBT.out;omega),HB7.out⟩
   all_goals first|(simp;done)|(simp;omega)|(have:=HN.out.2.2.2;show List.length a≤_;omega)|exact fun x hx=>by have:=HN.out.1 x hx;omega|exact fun x hx=>by have:=HTl.out x hx;omega
theorem kvd (d:Dd) (k:Nat) (a:Bs) (n:Int) (xs ids:List Bs) (na:Option Addr) (nc:Nat) (vb vi:Value) (w:World) (hk:1≤k∧k≤5) (ha:a.length≤1000) (hxs:∀x∈xs,x.length≤1000) (hids:∀x∈ids,x.length≤1000) (hI:IsSl vi (ids.map vS) w) :
 Calls Tryz.prog 74 #[.agg (evC (evP k a n xs) (.slice na xs.length nc) kaf kaf kaf kaf),.agg (ddC d),vb,vi] w (kfi xs (.slice na xs.length nc) w):=by
 rcases (show k=1∨k=2∨k=3∨k=4∨k=5 by omega) with rfl|rfl|rfl|rfl|rfl
 ·exact kur d a n xs ids na nc vb vi w ha hxs hids hI
 ·exact kus d a n xs ids na nc vb vi w ha hxs hids hI
 ·exact kqr d a n xs ids na nc vb vi w ha hxs hids hI
 ·exact ksn d a n xs ids na nc vb vi w ha hxs hids hI
 ·exact kri d a n xs ids na nc vb vi w ha hxs hids hI
end Go.Proofs.YtknpbekoenbphaaGreatDoor
