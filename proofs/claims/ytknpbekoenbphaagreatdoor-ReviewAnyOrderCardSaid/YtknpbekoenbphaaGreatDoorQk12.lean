/- Parts of the proofs: PlainRs, WkRv6, FrmMore, WkRv7. No condition beyond those at each theorem. -/
import Derived.Carry
import Derived.Test.YtknpbekoenbphaaGreatDoorQk11
set_option linter.unusedVariables false
set_option linter.unusedSimpArgs false
set_option maxHeartbeats 16000000
set_option maxRecDepth 100000
namespace Licit.Rv
open Go Licit
def findI (l:List Bs) (s:Bs):Nat :=
 match l with
 | []=>0
 |a :: r=>if a=s then 0 else findI r s+1
abbrev Past:=List Bool
abbrev Row:=Nat × Past
abbrev Stt:=List (Option Row)
def orL (a b:Past):Past:=List.zipWith (· || ·) a b
def readyL (S:Stt):Row→List Nat→Option Row
 |x,[]=>some x
 |x,j :: js=>match S.getD j none with
  |none=>none
  |some y=>readyL S (max x.1 (y.1+1),orL (x.2.set j true) y.2) js
def stepS (J:List (List Nat)) (S:Stt) (i:Nat):Stt :=
 match S.getD i none with
 |some _=>S
 |none=>match readyL S (0,List.replicate S.length false) (J.getD i []) with
  |none=>S
  |some x=>S.set i (some x)
def passS (J:List (List Nat)) (S:Stt) (k:Nat):Stt:=(List.range k).foldl (stepS J) S
def cntS (S:Stt):Nat:=(S.filter (·.isSome)).length
def roundsS (J:List (List Nat)):Nat→Stt→Option Stt
 |0,_=>none
 |f+1,S=>if S.length≤cntS S then some S else if cntS (passS J S S.length)=cntS S then none else roundsS J f (passS J S S.length)
def namesJ (l:List Ev) (ids:List Bs):List (List Nat):=l.map fun e=>e.names.map (findI ids)
def arrS (l:List Ev) (ids:List Bs):Option Stt:=roundsS (namesJ l ids) (l.length+1) (List.replicate l.length none)
def firstF (p:Nat→Bool):Nat→Option Nat
 |0=>none
 |n+1=>match firstF p n with
  |some i=>some i
  |none=>if p n=true then some n else none
def preE (l:List Ev) (ids:List Bs):Int × Int :=
 if 1024<l.length then (-1,10) else
 match firstF (fun i=>!validB (l.getD i ev0)) l.length with
 |some i=>((i:Int),1)
 |none=>match firstF (fun i=>decide (findI ids (ids.getD i [])<i)) l.length with
  |some i=>((i:Int),6)
  |none=>match firstF (fun i=>(l.getD i ev0).names.any fun s=>decide (ids.length≤findI ids s)) l.length with
   |some i=>((i:Int),7)
   |none=>(-1,0)
def setE (l:List Ev) (ids:List Bs):Int × Int:=if (preE l ids).2=0 then (if (arrS l ids).isSome then (-1,0) else (-1,12)) else preE l ids
def rankI (S:Stt) (i:Nat):Nat:=((S.getD i none).map (·.1)).getD 0
def pastI (S:Stt) (i k:Nat):Bool:=(((S.getD i none).map (·.2)).getD []).getD k false
def befI (S:Stt) (ids:List Bs) (i k:Nat):Bool:=if rankI S i=rankI S k then ltB (ids.getD i []) (ids.getD k []) else decide (rankI S i<rankI S k)
def kt1 (b:Nat→Nat→Bool) (x:Nat):List Nat→List Nat
 | []=>[x]
 |y :: r=>if b x y=true then x :: y :: r else y :: kt1 b x r
def ordI (S:Stt) (ids:List Bs):List Nat:=(List.range S.length).foldl (fun o i=>kt1 (befI S ids) i o) []
structure Cx where
 l:List Ev
 ids:List Bs
 S:Stt
def Cx.ev (c:Cx) (i:Nat):Ev:=c.l.getD i ev0
def Cx.id (c:Cx) (i:Nat):Bs:=c.ids.getD i []
def Cx.turn (c:Cx) (A:List Nat) (a:Bs) (n:Int):Option Nat:=A.find? fun k=>decide ((c.ev k).author=a) && decide ((c.ev k).number=n)
def Cx.named (c:Cx) (A:List Nat) (s:Bs):Option Nat:=A.find? fun k=>decide (c.id k=s)
def Cx.past (c:Cx) (i k:Nat):Bool:=pastI c.S i k
def Cx.entry (c:Cx) (A:List Nat) (i:Nat):Int :=
 if (c.ev i).kind=1 then (if (c.turn A (c.ev i).author 0).isSome then 6 else 0)
 else match c.turn A (c.ev i).author 0 with
  |none=>7
  |some j=>if c.past i j=false then 7 else if (2:Int) ^ (c.ev j).height.toNat≤(c.ev i).number then 15 else
   match c.turn A (c.ev i).author ((c.ev i).number - 1) with
   |none=>5
   |some b=>if c.past i b=false then 5 else if (c.turn A (c.ev i).author (c.ev i).number).isSome then 6 else 0
def Cx.dec (c:Cx) (A:List Nat) (i:Nat) (s:Bs):Option Nat :=
 match c.named A s with
 |none=>none
 |some k=>if c.past i k=true∧(c.ev k).kind=3 then some k else none
def Cx.targets (c:Cx) (A:List Nat) (i:Nat):Int :=
 if (c.ev i).kind=4 then match c.dec A i ((c.ev i).targets.getD 0 []) with
  |none=>7
  |some k=>if (c.ev k).author=(c.ev i).author then 0 else 20
 else if (c.ev i).kind=5 then match c.dec A i ((c.ev i).targets.getD 0 []),c.dec A i ((c.ev i).targets.getD 1 []) with
  |some a,some b=>if (c.ev a).question=(c.ev b).question∧(c.ev a).scope=(c.ev b).scope then (if (c.ev a).answer=(c.ev b).answer then 14 else 0) else 9
  |_,_=>7
 else 0
def Cx.apply (c:Cx) (A:List Nat) (i:Nat):Int:=if c.entry A i=0 then c.targets A i else c.entry A i
def Cx.replay (c:Cx):List Nat→List Nat→Option (Nat × Int)
 |_,[]=>none
 |A,i :: r=>if c.apply A i=0 then c.replay (A++[i]) r else some (i,c.apply A i)
structure Dc where
 id:Bs
 author:Bs
 question:Bs
 scope:Bs
 answer:Bs
 digest:Bs
 till:Int
 wd:Bool
 ov:Bool
 rp:Bool
def Cx.wd (c:Cx) (A:List Nat) (s:Bs):Bool:=A.any fun k=>decide ((c.ev k).kind=4) && decide ((c.ev k).targets.getD 0 []=s)
def Cx.ov (c:Cx) (A:List Nat) (s:Bs):Bool:=A.any fun k=>decide ((c.ev k).kind=5) && decide ((c.ev k).targets.getD 1 []=s)
def asked (a b:Ev):Bool:=decide (a.question=b.question) && decide (a.scope=b.scope)
def Cx.rp (c:Cx) (A:List Nat) (s:Bs):Bool:=A.any fun k=>decide ((c.ev k).kind=3) && A.any fun d=>decide (c.id d=s) && decide ((c.ev d).kind=3) && c.past k d && asked (c.ev d) (c.ev k)
def Cx.decOf (c:Cx) (A:List Nat) (i:Nat):Dc :=
 ⟨c.id i,(c.ev i).author,(c.ev i).question,(c.ev i).scope,(c.ev i).answer,(c.ev i).digest,(c.ev i).till,c.wd A (c.id i),c.ov A (c.id i),c.rp A (c.id i)⟩
def Cx.decs (c:Cx) (A:List Nat):List Dc:=(A.filter fun k=>decide ((c.ev k).kind=3)).map (c.decOf A)
def Dc.over (d:Dc):Bool:=d.wd || d.ov || d.rp
def minB (a b:Bs):Bs:=if ltB b a then b else a
def maxB (a b:Bs):Bs:=if ltB a b then b else a
def disp (a b:Dc):Bool:=!(a.over || b.over || !decide (a.question=b.question) || !decide (a.scope=b.scope) || decide (a.answer=b.answer))
def dispsOf:List Dc→List (Bs × Bs)
 | []=>[]
 |a :: r=>((r.filter (disp a)).map fun b=>(minB a.id b.id,maxB a.id b.id))++dispsOf r
def ltP (x y:Bs × Bs):Bool:=if x.1=y.1 then ltB x.2 y.2 else ltB x.1 y.1
def kz6 (x:Bs × Bs):List (Bs × Bs)→List (Bs × Bs)
 | []=>[x]
 |y :: r=>if ltP x y=true then x :: y :: r else y :: kz6 x r
def sortP (l:List (Bs × Bs)):List (Bs × Bs):=l.foldl (fun o x=>kz6 x o) []
def insB (x:Bs):List Bs→List Bs
 | []=>[x]
 |y :: r=>if x=y then y :: r else if ltB x y=true then x :: y :: r else y :: insB x r
def sortB (l:List Bs):List Bs:=l.foldl (fun o x=>insB x o) []
structure Rw where
 name:Bs
 root:Bs
 bits:Int
 height:Int
 next:Int
def Cx.person (c:Cx) (A:List Nat) (a:Bs):Rw :=
 match A.find? fun k=>decide ((c.ev k).kind=1) && decide ((c.ev k).author=a) with
 |some j=>⟨(c.ev j).author,(c.ev j).root,(c.ev j).bits,(c.ev j).height,((A.filter fun k=>decide ((c.ev k).author=a)).length:Int)⟩
 |none=>⟨[],[],0,0,((A.filter fun k=>decide ((c.ev k).author=a)).length:Int)⟩
def Cx.people (c:Cx) (A:List Nat):List Rw:=(sortB (A.map fun k=>(c.ev k).author)).map (c.person A)
structure Pk where
 name:Bs
 digest:Bs
 ups:Int
def Cx.upsOf (c:Cx) (A:List Nat) (p:Bs):List Nat:=A.filter fun k=>decide ((c.ev k).kind=2) && decide ((c.ev k).pkg=p)
def Cx.pack (c:Cx) (A:List Nat) (p:Bs):Pk:=⟨p,(((c.upsOf A p).getLast?.map c.ev).getD ev0).digest,((c.upsOf A p).length:Int)⟩
def Cx.packs (c:Cx) (A:List Nat):List Pk:=(sortB ((A.filter fun k=>decide ((c.ev k).kind=2)).map fun k=>(c.ev k).pkg)).map (c.pack A)
structure St where
 people:List Rw
 packs:List Pk
 decs:List Dc
 disps:List (Bs × Bs)
def st0:St:=⟨[],[],[],[]⟩
def Cx.state (c:Cx) (A:List Nat):St:=⟨c.people A,c.packs A,c.decs A,sortP (dispsOf (c.decs A))⟩
def idsOf (l:List Ev):List Bs:=l.map idE
def foldI (l:List Ev) (ids:List Bs):St × Int × Int :=
 if (setE l ids).2=0 then
  match arrS l ids with
  |none=>(st0,-1,12)
  |some S=>match (Cx.mk l ids S).replay [] (ordI S ids) with
   |some (i,f)=>(st0,(i:Int),f)
   |none=>((Cx.mk l ids S).state (ordI S ids),-1,0)
 else (st0,(setE l ids).1,(setE l ids).2)
def foldE (l:List Ev):St × Int × Int:=foldI l (idsOf l)
end Licit.Rv
namespace Go.Proofs.YtknpbekoenbphaaGreatDoor
open Go Go.RowKit Licit
theorem kbu {p:Nat→Bool} {n:Nat}:Rv.firstF p n=none ↔ ∀i,i<n→p i=false:=by
 induction n with
 |zero=>simp [Rv.firstF]
 |succ n ih =>
  unfold Rv.firstF
  cases h:Rv.firstF p n with
  |some i =>
   simp only [reduceCtorEq,false_iff];intro hh
   have:=ih.2 (fun j hj=>hh j (by omega))
   rw [h] at this
   cases this
  |none =>
   have h1:=ih.1 h
   by_cases hp:p n=true
   ·simp only [hp,if_true,reduceCtorEq,false_iff]
    intro hh
    have:=hh n (by omega)
    rw [hp] at this
    cases this
   ·simp only [Bool.not_eq_true] at hp
    simp only [hp,Bool.false_eq_true,if_false,true_iff];intro i hi;rcases Nat.lt_succ_iff_lt_or_eq.1 hi with h2|rfl
    ·exact h1 i h2
    ·exact hp
theorem kc4 {p:Nat→Bool} {n k:Nat} (hk:k<n) (h0:∀i,i<k→p i=false) (h1:p k=true):Rv.firstF p n=some k:=by
 induction n with
 |zero=>omega
 |succ n ih =>
  unfold Rv.firstF
  by_cases hkn:k<n
  ·rw [ih hkn]
  ·obtain rfl:k=n:=by omega
   rw [kbu.2 h0];simp [h1]
theorem kn7 {l:List Bs} {s:Bs}:Rv.findI l s<l.length ↔ s∈l:=by
 induction l with
 |nil=>simp [Rv.findI]
 |cons a r ih =>
  unfold Rv.findI
  by_cases h:a=s
  ·simp [h]
  ·simp [h,ih,Ne.symm h]
theorem kqn {l:List Bs} {s:Bs} {k:Nat} (hk:k≤l.length):Rv.findI l s<k ↔ s∈l.take k:=by
 induction l generalizing k with
 |nil =>
  have:k=0:=by simpa using hk
  subst this;simp [Rv.findI]
 |cons a r ih =>
  cases k with
  |zero=>simp
  |succ k =>
   unfold Rv.findI
   by_cases h:a=s
   ·simp [h]
   ·simp only [h,if_false,List.take_succ_cons,List.mem_cons,Ne.symm h,false_or]
    rw [←ih (by simpa using hk)];omega
theorem kwf {α:Type} (p:α→Bool) (xs:List α) (k:Nat) (hk:k<xs.length) (h:(xs.take k).any p=false):(xs.take (k+1)).any p=p xs[k]:=by
 rw [List.take_add_one,List.any_append,h,List.getElem?_eq_getElem hk];simp
theorem kzl (g:Nat) (c:Value) (p:Bs→Bool) (eg:∀args w,(callFunc g args).run Tryz.prog w = .ok (.enter g args) w) (v:Value) (xs:List Bs) (w:World) (h:IsSl v (xs.map vS) w)
 (hg:∀x∈xs,Calls Tryz.prog g #[.string (B x),c] w fun e w'=>e = .returned (.bool (p x))∧w=w') :
 Calls Tryz.prog 190 #[v,.func (.func g) #[] #[c]] w fun e w'=>(∃r:Int,e = .returned (.int .i64 r)∧decide (0≤r)=xs.any p)∧w=w':=by
 obtain ⟨a,cap,rfl⟩:=h.formMap;have hmx:=h.1;rw [List.length_map] at hmx;unfold maxLen at hmx;have H:=hdd h;have HG:=hdd hg;clear h hg
 go_enter Tryz.func190,Tryz.ntmps190
 go_wp2
 go_loopw [5,8] (fun _ n wr=>wr=w∧∃k:Nat,k≤xs.length∧n = .int .i64 k∧(xs.take k).any p=false) (fun _ n _=>xs.length - (intOf n).toNat)
 case atStart=>exact ⟨rfl,0,by omega,rfl,by simp⟩
 case round =>
  obtain ⟨rfl,k,hk,rfl,hA⟩:=hrel;have HA:=hdd hA;clear hA
  by_cases hlt:k<xs.length
  ·have h2:=H.out
   obtain ⟨b,off,cap',hv,hb,hc⟩:=h2.text rfl hlt;simp only [Value.slice.injEq,true_and] at hv;obtain ⟨rfl,rfl⟩:=hv;have hx:xs.getD k []=xs[k]:=by rw [List.getD_eq_getElem?_getD,List.getElem?_eq_getElem hlt];rfl
   have hcall:=HG.out xs[k] (List.getElem_mem _);have HT:=hdd (kwf p xs k hlt HA.out);have HM:=hdd (List.getElem_mem hlt);rw [hx] at hc;generalize xs[k]=x at *;clear hx h2
   cases hp:p x
   ·rw [hp] at hcall
    have HP:=hdd hp;have HCall:=hdd hcall;clear hp hcall
    go_wp2_with (go_at_fn g;refine HCall.out.mono ?_;rintro e w' ⟨rfl,rfl⟩)
    go_roundw
    case rel=>exact ⟨trivial,k+1,by omega,by go_num,by rw [HT.out];exact HP.out⟩
    case measure=>simp [intOf];omega
   ·rw [hp] at hcall
    have HP:=hdd hp;have HCall:=hdd hcall;clear hp hcall
    go_wp2_with (go_at_fn g;refine HCall.out.mono ?_;rintro e w' ⟨rfl,rfl⟩)
    go_ret
    exact ⟨⟨_,rfl,by rw [decide_eq_true (by omega)];exact (List.any_eq_true.2 ⟨x,HM.out,HP.out⟩).symm⟩,rfl⟩
  ·obtain rfl:k=xs.length:=by omega
   have hA:=HA.out;rw [List.take_length] at hA;have HA:=hdd hA;clear hA
   go_wp2
   go_ret
   exact ⟨⟨_,rfl,by rw [HA.out];rfl⟩,rfl⟩
theorem kme (g:Nat) (c:Value) (p:Bs→Bool) (eg:∀args w,(callFunc g args).run Tryz.prog w = .ok (.enter g args) w) (v:Value) (xs:List Bs) (w:World) (h:IsSl v (xs.map vS) w)
 (hg:∀x∈xs,Calls Tryz.prog g #[.string (B x),c] w fun e w'=>e = .returned (.bool (p x))∧w=w') :
 Calls Tryz.prog 130 #[v,.func (.func g) #[] #[c]] w fun e w'=>e = .returned (.bool (xs.any p))∧w=w':=by
 have HI:=hdd (kzl g c p eg v xs w h hg);clear h hg
 go_enter Tryz.func130,Tryz.ntmps130
 go_wp2_with (go_at_call 190;refine HI.out.mono ?_;rintro e w' ⟨⟨r,rfl,hr⟩,rfl⟩)
 go_ret
 exact ⟨kbw (by rw [←hr]),rfl⟩
abbrev kS (s:Bs):Value:=.string (B s)
theorem kcx:kdu Tryz.prog 9 kS:=⟨Go.Maps.string_keyed Tryz.underlying9,fun _ _ h=>ky7 (by cases h;rfl)⟩
theorem kbp {s:Bs} (h:s.length≤maxLen):∃l,keyOf Tryz.prog 9 (kS s)=some l:=⟨_,Go.WideMaps.keyOf_string_mk Tryz.underlying9 h⟩
theorem kev (w:World):(zeroValue 4).run Tryz.prog w = .ok (.bool false) w:=by kernel_rfl
def kes (w:World) (b:Nat) (L:List Bs):Prop:=kbi Tryz.prog 9 kS w b (L.map fun s=>(s,.bool true))
theorem kt4 (L:List Bs):kbc (L.map fun s=>(s,Value.bool true))=L:=by simp [kbc,List.map_map,Function.comp_def]
theorem kdv (L:List Bs) (s:Bs):(kb2 (L.map fun s=>(s,Value.bool true)) s).getD (.bool false) = .bool (decide (s∈L)):=by
 cases h:kb2 (L.map fun s=>(s,Value.bool true)) s with
 |none=>have:=kea.1 h;rw [kt4] at this;simp [this]
 |some v =>
  obtain ⟨t,ht,he⟩:=List.mem_map.1 (kwd h);obtain ⟨rfl,rfl⟩:=Prod.mk.inj he;simp [ht]
theorem kk1 (L:List Bs) (s:Bs):ki0 (L.map fun s=>(s,Value.bool true)) s (.bool true)=(if s∈L then L else L++[s]).map fun s=>(s,Value.bool true):=by
 induction L with
 |nil=>rfl
 |cons a r ih =>
  simp only [List.map_cons,ki0]
  by_cases h:a=s
  ·subst h;simp
  ·rw [if_neg h,ih]
   by_cases h2:s∈r
   ·simp [h2]
   ·simp [h2,Ne.symm h]
theorem kdl {ops:Array Oper} {rest:List Oper} {o:Oper} {a:Act} {Q:Exit→Act→World→Prop} (w:World) (hg:o.guard=none) (m x:Operand) (hop:o.op=Op.lookup 92 m x false)
 (b:Nat) (L:List Bs) (hm:a.eval m = .map (some b)) (h:kes w b L) (s:Bs) (hx:a.eval x = .string (B s)) (hk:s.length≤maxLen)
 (hK:wpList Tryz.prog ops Q rest (a.put o.dst (.bool (decide (s∈L)))) w):wpList Tryz.prog ops Q (o :: rest) a w:=by
 refine kbl w hg m x 92 false hop 9 4 kS kcx Tryz.underlying92 (.bool false) kev b _ hm h s hx (kbp hk) ?_;simp only [Bool.false_eq_true,if_false,kdv];exact hK
theorem kr8 (x:Bs) (p bm:Nat) (L:List Bs) (w:World) (hx:x.length≤maxLen) (hp:w.cell? ⟨p,0,none⟩=some (.map (some bm))) (h:kes w bm L) :
 Calls Tryz.prog 189 #[.string (B x),.pointer (some ⟨p,0,none⟩)] w fun e w'=>e = .returned (.bool (!decide (x∈L)))∧w=w':=by
 have H:=hdd h;clear h
 go_enter Tryz.func189,Tryz.ntmps189
 go_wp2_with (at_lookup;refine kdl _ rfl _ _ rfl bm L rfl H.out x rfl hx ?_)
 go_ret
 exact ⟨rfl,rfl⟩
end Go.Proofs.YtknpbekoenbphaaGreatDoor
namespace Licit
open Go Go.RowKit
theorem kce {w:World} {base:Nat} {t:TypeId} {g n cap:Nat} {xs:List Value} (h:w.ownsRow base t 1 (.slice (some ⟨g,0,none⟩) n cap) n xs) {i:Nat} (hi:i<xs.length):w.cell? ⟨g,i,none⟩=xs[i]?:=by
 rcases h.2 with ⟨h0,_⟩|⟨g',cap',cur,h1,h2,h3,h4,h5,h6,h7⟩
 ·cases h0
 ·simp only [Value.slice.injEq,Option.some.injEq,Addr.mk.injEq] at h1
  obtain ⟨⟨rfl,_⟩,_,rfl⟩:=h1;rw [kaa h3];have hl:=h.1;have e:(cur.toList.take (n*1))[i]? = xs[i]?:=by rw [h7]
  rw [←e,List.getElem?_take_of_lt (by omega),Array.getElem?_toList]
theorem krw {v:Value} {b off n cap:Nat} {xs:List Value} {w:World} (h:IsSl v xs w) (hv:v = .slice (some ⟨b,off,none⟩) n cap) (hn:xs.length=n):∀j u,xs[j]? = some u→w.cell? ((⟨b,off,none⟩:Addr).add j)=some u:=by
 intro j u hu
 have hj:j<xs.length:=by
  rcases Nat.lt_or_ge j xs.length with c|c
  ·exact c
  ·rw [List.getElem?_eq_none c] at hu;cases hu
 rw [Addr.add_lit];rcases h.2 with ⟨a,c,e,hx⟩|⟨b',off',c,e,h1,hc⟩
 ·subst hx;simp at hj
 ·rw [hv] at e
  simp only [Value.slice.injEq,Option.some.injEq,Addr.mk.injEq,and_true] at e;obtain ⟨⟨rfl,rfl⟩,_⟩:=e;rw [hc j hj];exact hu
theorem kb8 (xs:List Bs) {i:Nat} (hi:i<xs.length):(xs.map vS)[i]? = some (.string (B (xs.getD i []))):=by
 rw [List.getElem?_map,List.getElem?_eq_getElem hi,List.getD_eq_getElem?_getD,List.getElem?_eq_getElem hi];rfl
end Licit
namespace Go.Proofs.YtknpbekoenbphaaGreatDoor
open Go Go.RowKit Licit
def kzt (b o:Nat) (e:Rv.Ev) (w:World):Prop:=∃na nc ta tc sa sc ha hc ra rc,kcw (evW e na nc ta tc sa sc ha hc ra rc) e w∧w.rangeAt b o (evS e na nc ta tc sa sc ha hc ra rc).toList
def kbt (v:Value) (l:List Rv.Ev) (w:World):Prop:=l.length≤100000∧((∃a cap,v = .slice a 0 cap∧l=[]) ∨
 ∃b off cap,v = .slice (some ⟨b,off,none⟩) l.length cap∧0<l.length∧b<w.heap.size∧∀i,i<l.length→kzt b (off+i*18) (l.getD i Rv.ev0) w)
theorem kbo {w w':World} {b o:Nat} {cs:List Value} (h:w.rangeAt b o cs) (hb:Below w.heap.size w w') (hlt:b<w.heap.size):w'.rangeAt b o cs:=fun j v hj=>by
 rw [hb.cell (p:=⟨b,o+j,none⟩) hlt];exact h j v hj
theorem kzt.below {b o:Nat} {e:Rv.Ev} {w w':World} (h:kzt b o e w) (hb:Below w.heap.size w w') (hlt:b<w.heap.size):kzt b o e w':=by
 obtain ⟨na,nc,ta,tc,sa,sc,ha,hc,ra,rc,h1,h2⟩:=h;exact ⟨na,nc,ta,tc,sa,sc,ha,hc,ra,rc,h1.below hb,kbo h2 hb hlt⟩
theorem kbt.below {v:Value} {l:List Rv.Ev} {w w':World} (h:kbt v l w) (hb:Below w.heap.size w w'):kbt v l w':=by
 refine ⟨h.1,?_⟩;rcases h.2 with h|⟨b,off,cap,rfl,h0,hlt,hc⟩
 ·exact .inl h
 ·exact .inr ⟨b,off,cap,rfl,h0,Nat.lt_of_lt_of_le hlt hb.size,fun i hi=>(hc i hi).below hb hlt⟩
theorem kbt.form {v:Value} {l:List Rv.Ev} {w:World} (h:kbt v l w):∃a cap,v = .slice a l.length cap:=by
 rcases h.2 with ⟨a,cap,rfl,rfl⟩|⟨b,off,cap,rfl,_⟩
 ·exact ⟨a,cap,rfl⟩
 ·exact ⟨_,cap,rfl⟩
theorem kbt.at {a:Option Addr} {n cap:Nat} {l:List Rv.Ev} {w:World} (h:kbt (.slice a n cap) l w) {i:Nat} (hi:i<l.length):∃b off,a=some ⟨b,off,none⟩∧b<w.heap.size∧kzt b (off+i*18) (l.getD i Rv.ev0) w:=by
 rcases h.2 with ⟨a,cap,e,rfl⟩|⟨b,off,cap,e,h0,hlt,hc⟩
 ·simp at hi
 ·simp only [Value.slice.injEq] at e
  obtain ⟨rfl,-,-⟩:=e;exact ⟨b,off,rfl,hlt,hc i hi⟩
def kjp (l:List Rv.Ev) (k:Nat):List Bs:=(l.take k).map Rv.idE++List.replicate (l.length - k) []
theorem kp0 (l:List Rv.Ev):kjp l 0=List.replicate l.length []:=by simp [kjp]
theorem kst (l:List Rv.Ev):kjp l l.length=Rv.idsOf l:=by simp [kjp,Rv.idsOf]
theorem kr9 (l:List Rv.Ev) {k:Nat} (h:k≤l.length):(kjp l k).length=l.length:=by simp [kjp];omega
theorem kpl (l:List Rv.Ev) {k:Nat} (h:k<l.length):(kjp l k).set k (Rv.idE (l.getD k Rv.ev0))=kjp l (k+1):=by
 unfold kjp;have hl:((l.take k).map Rv.idE).length=k:=by simp;omega
 rw [List.set_append_right _ _ (by omega),hl,show l.length - k=(l.length - (k+1))+1 by omega,List.replicate_succ,List.take_succ_eq_append_getElem h,List.map_append,List.getD_eq_getElem?_getD,List.getElem?_eq_getElem h];simp only [Nat.sub_self,List.set_cons_zero,Option.getD_some,List.map_cons,List.map_nil,List.append_assoc,List.singleton_append]
theorem kze (n:Nat):(madeCells #[Value.string ⟨#[]⟩] n).toList=(List.replicate n []).map vS:=by
 simp [madeCells,vS,B]
 apply List.ext_getElem
 ·simp
 ·intro i h1 h2
  simp [Nat.mod_one]
theorem kzq (L:List Bs) (i:Nat) (x:Bs):(L.map vS).toArray.setIfInBounds i (vS x)=((L.set i x).map vS).toArray:=by simp [List.map_set]
theorem kcw.namesIs {e:Rv.Ev} {na ta sa ha ra:Option Addr} {nc tc sc hc rc:Nat} {w:World} (h:kcw (evW e na nc ta tc sa sc ha hc ra rc) e w):IsSl (.slice na e.names.length nc) (e.names.map vS) w:=by
 obtain ⟨ho,na',nc',ta',tc',sa',sc',ha',hc',ra',rc',hq,hN,-⟩:=h;simp only [Value.agg.injEq,Array.mk.injEq,List.cons.injEq,Value.slice.injEq,true_and,and_true] at hq;obtain ⟨⟨rfl,rfl⟩,-⟩:=hq;exact hN
theorem kp8 (ids:List Bs) (l:List Bs):(l.any fun s=>decide (ids.length≤Rv.findI ids s))=l.any fun s=>!decide (s∈ids):=by
 congr 1
 funext s
 by_cases h:s∈ids
 ·rw [decide_eq_false (by have:=kn7.2 h;omega),decide_eq_true h];rfl
 ·have h3:¬ Rv.findI ids s<ids.length:=fun h2=>h (kn7.1 h2)
  rw [decide_eq_true (by omega),decide_eq_false h];rfl
theorem Tryz.infoS:(Tryz.prog.info? 9).map (fun i=>(i.zero,i.size,i.bytes))=some (some (.string ⟨#[]⟩),1,16):=by kernel_rfl
def ki6 (l:List Rv.Ev) (w:World) (en:Ending) (w':World):Prop:=Below w.heap.size w w'∧∃v,en = .returned (.tuple #[v,.int .i64 (Rv.preE l (Rv.idsOf l)).1,.int .i64 (Rv.preE l (Rv.idsOf l)).2]) ∧
 ((Rv.preE l (Rv.idsOf l)).2=0→∃b,v = .slice (some ⟨b,0,none⟩) l.length l.length∧w.heap.size≤b∧w'.heap[b]? = some (.cells (((Rv.idsOf l).map vS).toArray) 9 (0,0)))
theorem kmn (v:Value) (l:List Rv.Ev) (w:World) (h:kbt v l w) (ht:Tab w):Calls Tryz.prog 129 #[v] w (ki6 l w):=by
 obtain ⟨a,cap,rfl⟩:=h.form;have hl:=h.1;obtain ⟨i0,hi,hz0,hz1,hz2⟩:=info_parts Tryz.infoS;have Hi:=hdd hi;have Hz0:=hdd hz0;have Hz1:=hdd hz1;have Hz2:=hdd hz2;have HL:=hdd h;have HT:=hdd ht;clear hi hz0 hz1 hz2 h ht
 by_cases c0:1024<l.length
 ·have hp:Rv.preE l (Rv.idsOf l)=(-1,10):=by unfold Rv.preE;rw [if_pos c0]
  have d0:decide (1024<(l.length:Int))=true:=decide_eq_true (by omega)
  have HP:=hdd (show ki6 l w (.returned (.tuple #[.slice none 0 0,.int .i64 (-1),.int .i64 10])) w by
   unfold ki6;rw [hp];exact ⟨Below.refl _ _,_,rfl,fun h=>by cases h⟩)
  clear hp c0
  go_enter Tryz.func129,Tryz.ntmps129
  go_wp2
  refine bodyPost_ret (v:=.tuple #[.slice none 0 0,.int .i64 (-1),.int .i64 10]) (by simp [results,Tryz.results129,go_sem]) rfl HP.out
 have d0:decide (1024<(l.length:Int))=false:=decide_eq_false (by omega)
 go_enter Tryz.func129,Tryz.ntmps129
 go_wp2_with (first
  |(at_make
    refine wpList_make_full _ rfl _ _ 39 rfl w.heap.size 9 i0 (.string ⟨#[]⟩) 1 Tryz.underlying39 Hi.out Hz0.out Hz1.out _ _ _ _ l.length rfl rfl rfl rfl (by rw [Hz2.out];omega) (by unfold maxLen;omega) (by simp) ?_;intro w1 ho1 hg1;have hb1:Below w.heap.size w w1:=(Below.refl _ _).grown hg1 (by simp) (by simp);have hr1:=Sha.own_full ho1;rw [show (madeCells (Value.string ⟨#[]⟩).cells (l.length*1)).toList=(kjp l 0).map vS by rw [kp0,Nat.mul_one];exact kze l.length] at hr1;have HB1:=hdd hb1;have HR1:=hdd hr1;clear ho1 hg1 hb1 hr1))
 go_loopw [6,7,8,9,23] (fun _ _ _ _ n wr=>∃k:Nat,k≤l.length∧n = .int .i64 k∧(∀i,i<k→(!Rv.validB (l.getD i Rv.ev0))=false)∧wr.heap[w.heap.size]? = some (.cells ((kjp l k).map vS).toArray 9 (0,0))∧Below w.heap.size w wr) (fun _ _ _ _ n _=>l.length - (intOf n).toNat)
 case atStart=>exact ⟨0,by omega,rfl,fun i hi=>by omega,HR1.out,HB1.out⟩
 case round =>
  obtain ⟨k,hk,rfl,hv,hr,hB⟩:=hrel;have HV:=hdd hv;have HR:=hdd hr;have HB:=hdd hB;clear hv hr hB
  by_cases hlt:k<l.length
  ·obtain ⟨b,off,rfl,hbw,na,nc,ta,tc,sa,sc,ha,hc,ra,rc,hE,hA⟩:=(HL.out.below HB.out).at hlt
   have HE:=hdd hE;have HA:=hdd hA;have hfs:=kpl l hlt;have hid:Rv.validB (l.getD k Rv.ev0)=true→Rv.idsOf l=Rv.idsOf l:=fun _=>rfl
   have HVE:=hdd (fun (hx:Rv.validB (l.getD k Rv.ev0)=false)=>(kc4 (p:=fun i=>!Rv.validB (l.getD i Rv.ev0)) hlt HV.out (by rw [hx];rfl)))
   have HVT:=hdd (fun (hx:Rv.validB (l.getD k Rv.ev0)=true)=>(show ∀i,i<k+1→(!Rv.validB (l.getD i Rv.ev0))=false from fun i hi=>by
    rcases Nat.lt_succ_iff_lt_or_eq.1 hi with h2|rfl
    ·exact HV.out i h2
    ·rw [hx];rfl))
   have HFS:=hdd hfs;have HBw:=hdd hbw;generalize l.getD k Rv.ev0=e at *;have HO:=hdd (evS1 e na nc ta tc sa sc ha hc ra rc);clear hE hA hfs hid hbw
   cases hq:Rv.validB e
   ·have HQ:=hdd hq
    have hi1:Rv.validE e=1:=by unfold Rv.validE;rw [hq];rfl
    have HI:=hdd hi1;have HP:=hdd (show Rv.preE l (Rv.idsOf l)=((k:Int),1) by unfold Rv.preE;rw [if_neg c0,HVE.out hq]);clear hq hi1
    go_wp2_with (first
     |(refine wpList_load_mid rfl 45 _ rfl b _ rfl (evS e na nc ta tc sa sc ha hc ra rc).toList _ HA.out rfl rfl (by kernel_rfl) ?_)
     |(refine kac rfl 45 _ _ rfl wr.heap.size rfl (evS e na nc ta tc sa sc ha hc ra rc) rfl 45 evZ (kak rfl rfl) (by kernel_rfl) rfl HO.out ?_
       intro w2 hw2 hk2;have hb2:Below wr.heap.size wr w2:=((Below.refl _ _).alloc (Nat.le_refl _) _).trans (hk2.below (B:=wr.heap.size) (by simp) (fun q hq e=>by have:q=wr.heap.size:=e;omega));have HW2:=hdd hw2;have HB2:=hdd (HB.out.next hb2);have HR2:=bhh hb2 HR;have HE2:=hdd (HE.out.below hb2);clear hw2 hk2 hb2)
     |(refine wpList_load_row rfl 45 _ rfl wr.heap.size rfl 45 (evS e na nc ta tc sa sc ha hc ra rc) (0,0) _ HW2.out rfl rfl (by kernel_rfl) ?_)
     |fail)
    refine (krx _ e _ HE2.out (HT.out.same HB2.out)).mono ?_;rw [HI.out];rintro en w3 ⟨rfl,hb⟩;have HB3:=hdd (HB2.out.next hb);have HR3:=bhh hb HR2;clear hb
    go_wp2
    refine bodyPost_ret (v:=.tuple #[.slice none 0 0,.int .i64 (k:Int),.int .i64 1]) (by simp [results,Tryz.results129,go_sem]) rfl ?_;unfold ki6;rw [HP.out];exact ⟨HB3.out,_,rfl,fun h=>by cases h⟩
   ·have HQ:=hdd hq
    have hi1:Rv.validE e=0:=by unfold Rv.validE;rw [hq];rfl
    have HI:=hdd hi1;clear hq hi1
    go_wp2_with (first
     |(refine wpList_load_mid rfl 45 _ rfl b _ rfl (evS e na nc ta tc sa sc ha hc ra rc).toList _ HA.out rfl rfl (by kernel_rfl) ?_)
     |(refine kac rfl 45 _ _ rfl wr.heap.size rfl (evS e na nc ta tc sa sc ha hc ra rc) rfl 45 evZ (kak rfl rfl) (by kernel_rfl) rfl HO.out ?_
       intro w2 hw2 hk2;have hb2:Below wr.heap.size wr w2:=((Below.refl _ _).alloc (Nat.le_refl _) _).trans (hk2.below (B:=wr.heap.size) (by simp) (fun q hq e=>by have:q=wr.heap.size:=e;omega));have HW2:=hdd hw2;have HB2:=hdd (HB.out.next hb2);have HR2:=bhh hb2 HR;have HE2:=hdd (HE.out.below hb2);clear hw2 hk2 hb2)
     |(refine wpList_load_row rfl 45 _ rfl wr.heap.size rfl 45 (evS e na nc ta tc sa sc ha hc ra rc) (0,0) _ HW2.out rfl rfl (by kernel_rfl) ?_)
     |fail)
    refine (krx _ e _ HE2.out (HT.out.same HB2.out)).mono ?_;rw [HI.out];rintro en w3 ⟨rfl,hb⟩;have HB3:=hdd (HB2.out.next hb);have HR3:=bhh hb HR2;clear hb
    go_wp2_with (refine kae rfl 9 _ _ rfl w.heap.size k rfl (vS (Rv.idE e)) rfl rfl rfl _ _ HR3.out (by simp [kr9 l hk];exact hlt) (by kernel_rfl) ?_
                 intro w4 h4 hk4;rw [kzq,HFS.out] at h4;have HR4:=hdd h4;have HB4:=hdd (HB3.out.trans (hk4.below HB3.out.size (fun q hq e=>by have:q=w.heap.size:=e;omega)));clear h4 hk4)
    go_roundw
    case rel=>exact ⟨k+1,by omega,by go_num,HVT.out HQ.out,HR4.out,HB4.out⟩
    case measure=>simp [intOf];omega
  ·obtain rfl:k=l.length:=by omega
   have hr:=HR.out;rw [kst] at hr;have hvA:Rv.firstF (fun i=>!Rv.validB (l.getD i Rv.ev0)) l.length=none:=kbu.2 HV.out;have hidl:(Rv.idsOf l).length=l.length:=by simp [Rv.idsOf]
   have hids:∀x∈Rv.idsOf l,x.length≤maxLen:=by
    intro x hx;obtain ⟨e,-,rfl⟩:=List.mem_map.1 hx;unfold Rv.idE;split
    ·show (Sha.sha _).length≤_
     rw [Sha.sha_len]
     decide
    ·simp
   have HVA:=hdd hvA;have HIdl:=hdd hidl;have HIds:=hdd hids;clear HR hlt hk HV;have HR:=hdd hr;clear hr hvA hidl hids;have hmm:=@run_makeMap Tryz.prog;obtain ⟨wo,rfl⟩:∃wo:World,wo=wr:=⟨_,rfl⟩;have hbo:Below wo.heap.size wo ((wo.alloc (.map #[] 0)).alloc (.cells #[.map (some wo.heap.size)] 92)):=((Below.refl _ _).alloc (Nat.le_refl _) _).alloc (by simp) _;have HBo:=hdd (HB.out.next hbo);have HRo:=bhh hbo HR;have hlt0:=kad HR.out;have HVo:=hdd (show ((wo.alloc (.map #[] 0)).alloc (.cells #[.map (some wo.heap.size)] 92)).heap[wo.heap.size+1]? = some (.cells #[.map (some wo.heap.size)] 92 (0,0)) from kak (by simp) rfl);have HMo:=hdd (show kes ((wo.alloc (.map #[] 0)).alloc (.cells #[.map (some wo.heap.size)] 92)) wo.heap.size [] from (kbi.made wo).below ((Below.refl (wo.alloc (.map #[] 0)).heap.size _).alloc (Nat.le_refl _) _) (by simp));have HS0:=hdd (Nat.le_of_lt hlt0);clear hbo
   go_wp2
   go_loopw [11,12,45] (fun _ _ n wr=>∃k:Nat,k≤l.length∧n = .int .i64 k∧(∀i,i<k→decide (Rv.findI (Rv.idsOf l) ((Rv.idsOf l).getD i [])<i)=false)∧wr.heap[w.heap.size]? = some (.cells ((Rv.idsOf l).map vS).toArray 9 (0,0)) ∧
    wr.heap[wo.heap.size+1]? = some (.cells #[.map (some wo.heap.size)] 92 (0,0))∧kes wr wo.heap.size ((Rv.idsOf l).take k)∧Below w.heap.size w wr) (fun _ _ n _=>l.length - (intOf n).toNat)
   case atStart=>exact ⟨0,by omega,rfl,fun i hi=>by omega,HRo.out,HVo.out,HMo.out,HBo.out⟩
   case round =>
    obtain ⟨k,hk,rfl,hv,hr,hv1,hm1,hB⟩:=hrel;have hcm:wr.cell? ⟨wo.heap.size+1,0,none⟩=some (.map (some wo.heap.size)):=by rw [kaa hv1];rfl
    have HV:=hdd hv;have HRr:=hdd hr;have HVr:=hdd hv1;have HMr:=hdd hm1;have HBr:=hdd hB;clear hv hr hv1 hm1 hB HB HR HBo HRo HVo HMo
    by_cases hlt:k<l.length
    ·have hxc:wr.cell? ⟨w.heap.size,0+k,none⟩=some (.string (B ((Rv.idsOf l).getD k []))):=by
      rw [Nat.zero_add,kaa HRr.out,List.getElem?_toArray];exact kb8 _ (by rw [HIdl.out];exact hlt)
     have hxc':wr.cell? ⟨w.heap.size,k,none⟩=some (.string (B ((Rv.idsOf l).getD k []))):=by rw [←hxc,Nat.zero_add]
     have hmem:=kqn (l:=Rv.idsOf l) (s:=(Rv.idsOf l).getD k []) (k:=k) (by rw [HIdl.out];omega)
     have hkl:(Rv.idsOf l).getD k []∈Rv.idsOf l:=by
      rw [List.getD_eq_getElem?_getD,List.getElem?_eq_getElem (by rw [HIdl.out];exact hlt)];exact List.getElem_mem _
     have hxl:=HIds.out _ hkl;have HTK:=hdd (List.take_succ_eq_append_getElem (l:=Rv.idsOf l) (i:=k) (by rw [HIdl.out];exact hlt));have HGK:=hdd (show (Rv.idsOf l)[k]'(by rw [HIdl.out];exact hlt)=(Rv.idsOf l).getD k [] by rw [List.getD_eq_getElem?_getD,List.getElem?_eq_getElem (by rw [HIdl.out];exact hlt)];rfl);have HFS:=hdd (fun (hx:Rv.findI (Rv.idsOf l) ((Rv.idsOf l).getD k [])<k)=>kc4 (p:=fun i=>decide (Rv.findI (Rv.idsOf l) ((Rv.idsOf l).getD i [])<i)) hlt HV.out (decide_eq_true hx))
     have HVN:=hdd (fun (hx:¬ Rv.findI (Rv.idsOf l) ((Rv.idsOf l).getD k [])<k)=>(show ∀i,i<k+1→decide (Rv.findI (Rv.idsOf l) ((Rv.idsOf l).getD i [])<i)=false from fun i hi=>by
      rcases Nat.lt_succ_iff_lt_or_eq.1 hi with h2|rfl
      ·exact HV.out i h2
      ·exact decide_eq_false hx))
     rw [HGK.out] at HTK;generalize (Rv.idsOf l).getD k []=x at *;have HMem:=hdd hmem;clear hmem hkl
     by_cases hx:x∈(Rv.idsOf l).take k
     ·have HD:=hdd (decide_eq_true hx)
      have HP:=hdd (show Rv.preE l (Rv.idsOf l)=((k:Int),6) by unfold Rv.preE;rw [if_neg c0,HVA.out];dsimp only;rw [HFS.out (HMem.out.2 hx)]);clear hx
      go_wp2_with (at_lookup;refine kdl _ rfl _ _ rfl wo.heap.size _ rfl HMr.out x rfl hxl ?_;rw [HD.out])
      refine bodyPost_ret (v:=.tuple #[.slice none 0 0,.int .i64 (k:Int),.int .i64 6]) (by simp [results,Tryz.results129,go_sem]) rfl ?_;unfold ki6;rw [HP.out];exact ⟨HBr.out,_,rfl,fun h=>by cases h⟩
     ·have HD:=hdd (decide_eq_false hx)
      have HX:=hdd hx;clear hx
      go_wp2_with (first
       |(at_lookup;refine kdl _ rfl _ _ rfl wo.heap.size _ rfl HMr.out x rfl hxl ?_;rw [HD.out])
       |(at_mapUpdate;refine kbb _ rfl _ _ _ 92 rfl 9 4 kS kcx Tryz.underlying92 wo.heap.size _ rfl HMr.out x rfl (.bool true) rfl (kbp hxl) ?_
         intro w5 hm5 hk5 hs5;rw [kk1,if_neg HX.out,←HTK.out] at hm5;have HM5:=hdd (show kes w5 wo.heap.size ((Rv.idsOf l).take (k+1)) from hm5);have HR5:=hdd ((hk5.block _ (kad HRr.out) (fun e=>by have:w.heap.size=wo.heap.size:=e;omega)).trans HRr.out);have HV5:=hdd ((hk5.block _ (kad HVr.out) (fun e=>by have:wo.heap.size+1=wo.heap.size:=e;omega)).trans HVr.out);have HB5:=hdd (HBr.out.trans (hk5.below HBr.out.size (fun q hq e=>by have:q=wo.heap.size:=e;have:=HS0.out;omega)));clear hm5 hk5 hs5))
      go_roundw
      case rel=>exact ⟨k+1,by omega,by go_num,HVN.out (fun h=>HX.out (HMem.out.1 h)),HR5.out,HV5.out,HM5.out,HB5.out⟩
      case measure=>simp [intOf];omega
    ·obtain rfl:k=l.length:=by omega
     have hm2:=HMr.out;rw [show (Rv.idsOf l).take l.length=Rv.idsOf l by rw [←HIdl.out,List.take_length]] at hm2;have HVB:=hdd (kbu.2 HV.out);have HMr:=hdd hm2;clear hm2 HV hlt hk;have eg:=hdd (enters_of Tryz.func189 (by kernel_rfl) rfl);obtain ⟨wp,rfl⟩:∃wp:World,wp=wr:=⟨_,rfl⟩
     go_wp2
     go_loopw [13,14,59] (fun _ _ n wr=>∃k:Nat,k≤l.length∧n = .int .i64 k∧(∀i,i<k→((l.getD i Rv.ev0).names.any fun s=>decide ((Rv.idsOf l).length≤Rv.findI (Rv.idsOf l) s))=false)∧Below wp.heap.size wp wr) (fun _ _ n _=>l.length - (intOf n).toNat)
     case atStart=>exact ⟨0,by omega,rfl,fun i hi=>by omega,Below.refl _ _⟩
     case round =>
      obtain ⟨k,hk,rfl,hv,hB⟩:=hrel;have HV:=hdd hv;have HBp:=hdd hB;have HB:=hdd (HBr.out.next hB);have HR3:=bhh hB HRr;clear hv hB
      by_cases hlt:k<l.length
      ·obtain ⟨b,off,rfl,hbw,na,nc,ta,tc,sa,sc,ha,hc,ra,rc,hE,hA⟩:=(HL.out.below HB.out).at hlt
       have HE:=hdd hE;have HA:=hdd hA;have HFS:=hdd (fun hx=>kc4 (p:=fun i=>(l.getD i Rv.ev0).names.any fun s=>decide ((Rv.idsOf l).length≤Rv.findI (Rv.idsOf l) s)) hlt HV.out hx)
       have HVN:=hdd (fun (hx:((l.getD k Rv.ev0).names.any fun s=>decide ((Rv.idsOf l).length≤Rv.findI (Rv.idsOf l) s))=false)=>(show ∀i,i<k+1→((l.getD i Rv.ev0).names.any fun s=>decide ((Rv.idsOf l).length≤Rv.findI (Rv.idsOf l) s))=false from fun i hi=>by
        rcases Nat.lt_succ_iff_lt_or_eq.1 hi with h2|rfl
        ·exact HV.out i h2
        ·exact hx))
       generalize l.getD k Rv.ev0=e at *;have HO:=hdd (evS1 e na nc ta tc sa sc ha hc ra rc);clear hE hA hbw
       go_wp2_with (first
        |(refine wpList_load_mid rfl 45 _ rfl b _ rfl (evS e na nc ta tc sa sc ha hc ra rc).toList _ HA.out rfl rfl (by kernel_rfl) ?_)
        |(refine kac rfl 45 _ _ rfl wr.heap.size rfl (evS e na nc ta tc sa sc ha hc ra rc) rfl 45 evZ (kak rfl rfl) (by kernel_rfl) rfl HO.out ?_
          intro w2 hw2 hk2;have hb2:Below wr.heap.size wr w2:=((Below.refl _ _).alloc (Nat.le_refl _) _).trans (hk2.below (B:=wr.heap.size) (by simp) (fun q hq e=>by have:q=wr.heap.size:=e;omega));have e3:w2.cell? ⟨wr.heap.size,3,none⟩=some (.slice na e.names.length nc):=by rw [kaa hw2];rfl
          have HB2:=hdd (HB.out.next hb2);have HR2:=bhh hb2 HR3;have HE2:=hdd (HE.out.below hb2);have HBq:=hdd (HBp.out.next hb2);clear hw2 hk2 hb2)
        |fail)
       have hcon:=kme 189 (.pointer (some ⟨wo.heap.size+1,0,none⟩)) (fun s=>!decide (s∈Rv.idsOf l)) eg.out _ e.names w2 HE2.out.namesIs (fun x hx=>kr8 x (wo.heap.size+1) wo.heap.size (Rv.idsOf l) w2 (by
        have:=HE2.out.1.names x hx;unfold maxLen;omega) ((HBq.out.cell (p:=⟨wo.heap.size+1,0,none⟩) (kad HVr.out)).trans hcm) (HMr.out.below HBq.out (HMr.out.lt)))
       rw [←kp8] at hcon
       cases hx:(e.names.any fun s=>decide ((Rv.idsOf l).length≤Rv.findI (Rv.idsOf l) s))
       ·rw [hx] at hcon
        have HX:=hdd hx;have HC:=hdd hcon;clear hx hcon e3;refine HC.out.mono ?_;rintro en w3 ⟨rfl,rfl⟩
        go_wp2
        go_roundw
        case rel=>exact ⟨k+1,by omega,by go_num,HVN.out HX.out,HBq.out⟩
        case measure=>simp [intOf];omega
       ·rw [hx] at hcon
        have HP:=hdd (show Rv.preE l (Rv.idsOf l)=((k:Int),7) by unfold Rv.preE;rw [if_neg c0,HVA.out];dsimp only;rw [HVB.out];dsimp only;rw [HFS.out hx]);have HC:=hdd hcon;clear hx hcon e3;refine HC.out.mono ?_;rintro en w3 ⟨rfl,rfl⟩
        go_wp2
        refine bodyPost_ret (v:=.tuple #[.slice none 0 0,.int .i64 (k:Int),.int .i64 7]) (by simp [results,Tryz.results129,go_sem]) rfl ?_;unfold ki6;rw [HP.out];exact ⟨HB2.out,_,rfl,fun h=>by cases h⟩
      ·obtain rfl:k=l.length:=by omega
       have HP:=hdd (show Rv.preE l (Rv.idsOf l)=(-1,0) by unfold Rv.preE;rw [if_neg c0,HVA.out];dsimp only;rw [HVB.out];dsimp only;rw [kbu.2 HV.out]);clear hlt hk
       go_wp2
       refine bodyPost_ret (v:=.tuple #[.slice (some ⟨w.heap.size,0,none⟩) l.length l.length,.int .i64 (-1),.int .i64 0]) (by simp [results,Tryz.results129,go_sem]) rfl ?_;unfold ki6;rw [HP.out];exact ⟨HB.out,_,rfl,fun _=>⟨w.heap.size,rfl,Nat.le_refl _,HR3.out⟩⟩
end Go.Proofs.YtknpbekoenbphaaGreatDoor
