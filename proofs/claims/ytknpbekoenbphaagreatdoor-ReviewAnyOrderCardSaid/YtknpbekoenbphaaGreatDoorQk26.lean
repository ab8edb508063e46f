/- Parts of the proofs: WkRr1, WkRefSig, WkRefSig2, WkFew, WkRr4, PlainRg, PlainEm, WkRs1, WkRvP. No condition beyond those at each theorem. -/
import Derived.Shelf.Abstract
import Derived.Test.YtknpbekoenbphaaGreatDoorQk22
import Derived.Test.YtknpbekoenbphaaGreatDoorQk24
set_option linter.unusedVariables false
set_option linter.unusedSimpArgs false
set_option maxHeartbeats 16000000
set_option maxRecDepth 100000
namespace Go.Proofs.YtknpbekoenbphaaGreatDoor
open Go Go.RowKit Licit
theorem kcm (x:Bs) (w:World):Calls Tryz.prog 95 #[.string (B x)] w fun e w'=>e = .returned (.bool (Rv.digB x))∧w'=w:=by
 have hs:(B x).size=x.length:=rfl
 by_cases h:x.length=32
 ·have hq:(((B x).size:Int) == 32)=true:=by simp;omega
  go_enter Tryz.func95,Tryz.ntmps95
  go_wp2
  go_ret
  refine ⟨?_,rfl⟩;simp [Rv.digB,h]
 ·have hq:(((B x).size:Int) == 32)=false:=by simp;omega
  go_enter Tryz.func95,Tryz.ntmps95
  go_wp2
  go_ret
  refine ⟨?_,rfl⟩;simp [Rv.digB,h];omega
def kep (s:Bs) (least:UInt8) (most:Nat):Bool:=(s.all fun c=>decide (least≤c) && decide (c≤126)) && decide (s.length≤most)
theorem khk (s:ByteArray) (least:UInt8) (most:Nat) (w:World) (hs:s.size≤maxLen) (hh:most≤1000) :
 Calls Tryz.prog 96 #[.string s,.int .u8 (least.toNat:Int),.int .i64 (most:Int)] w fun e w'=>e = .returned (.bool (kep s.data.toList least most))∧w'=w:=by
 have hsz:s.data.toList.length=s.size:=rfl;unfold maxLen at hs;obtain ⟨R,hR⟩:∃R,kep s.data.toList least most=R:=⟨_,rfl⟩;rw [hR];unfold kep at hR;have HZ:=hdd hsz;have HR:=hdd hR;clear hsz hR
 go_enter Tryz.func96,Tryz.ntmps96
 go_wp2
 go_loop [7] (fun n=>∃k:Nat,k≤s.size∧n = .int .i64 k∧(s.data.toList.take k).all (fun c=>decide (least≤c) && decide (c≤126))=true) (fun n=>s.size - (intOf n).toNat)
 case atStart=>exact ⟨0,by omega,rfl,by simp⟩
 case round =>
  obtain ⟨k,hk,rfl,hA⟩:=hrel;have HA:=hdd hA;clear hA
  by_cases hlt:k<s.size
  ·have ht:=kfg _ _ k (by rw [HZ.out];exact hlt) HA.out
   have hn:=fun h=>kl3 (fun c=>decide (least≤c) && decide (c≤126)) s.data.toList k (by rw [HZ.out];exact hlt) h
   have hg:s.data.toList[k]=s[k]:=rfl;rw [hg,Bool.eq_iff_iff,knm] at ht;rw [hg,kwo] at hn;have HT:=hdd ht;have HN:=hdd hn;clear ht hn hg
   go_wp2
   all_goals first
    |(go_round
      case rel=>exact ⟨k+1,by omega,by go_num,HT.out.2 ⟨by omega,by omega⟩⟩
      case measure=>simp [intOf];omega)
    |(go_ret
      exact ⟨kbw (by rw [←HR.out,HN.out (by omega)];rfl),rfl⟩)
  ·obtain rfl:k=s.size:=by omega
   have hA:=HA.out;rw [←HZ.out,List.take_length] at hA
   by_cases hm:s.size≤most
   ·have d1:decide ((s.size:Int)≤(most:Int))=true:=decide_eq_true (by omega)
    go_wp2
    go_ret
    exact ⟨kbw (by rw [←HR.out,hA,HZ.out];simp [hm]),rfl⟩
   ·have d1:decide ((s.size:Int)≤(most:Int))=false:=decide_eq_false (by omega)
    go_wp2
    go_ret
    exact ⟨kbw (by rw [←HR.out,hA,HZ.out];simp [hm]),rfl⟩
theorem kb0 (v:Value) (xs:List Bs) (w:World) (h:IsSl v (xs.map vS) w):Calls Tryz.prog 94 #[v] w fun e w'=>e = .returned (.bool (xs.all Rv.digB))∧w'=w:=by
 obtain ⟨a,cap,rfl⟩:=h.formMap;have hmx:=h.1;rw [List.length_map] at hmx;unfold maxLen at hmx;have H:=hdd h;clear h
 go_enter Tryz.func94,Tryz.ntmps94
 go_wp2
 go_loopw [3] (fun n wr=>wr=w∧∃k:Nat,k≤xs.length∧n = .int .i64 k∧(xs.take k).all Rv.digB=true) (fun n _=>xs.length - (intOf n).toNat)
 case atStart=>exact ⟨rfl,0,by omega,rfl,by simp⟩
 case round =>
  obtain ⟨rfl,k,hk,rfl,hA⟩:=hrel;have HA:=hdd hA;clear hA
  by_cases hlt:k<xs.length
  ·have h2:=H.out
   obtain ⟨b,off,cap',hv,hb,hc⟩:=h2.text rfl hlt;simp only [Value.slice.injEq,true_and] at hv;obtain ⟨rfl,rfl⟩:=hv;obtain ⟨x,hx⟩:∃x,xs.getD k []=x:=⟨_,rfl⟩;rw [hx] at hc;have hx2:xs[k]=x:=by rw [←hx,List.getD_eq_getElem?_getD,List.getElem?_eq_getElem hlt];rfl
   have HX:=hdd hx2;clear hx hx2 h2
   cases hd:Rv.digB x with
   |true =>
    have HD:=hdd hd;clear hd
    go_wp2_with (first|(go_at_call 95;refine (kcm x _).mono ?_;rintro en w2 ⟨rfl,rfl⟩;rw [HD.out])|fail)
    go_roundw
    case rel=>exact ⟨trivial,k+1,by omega,by go_num,by rw [kfg _ _ k hlt HA.out,HX.out];exact HD.out⟩
    case measure=>simp [intOf];omega
   |false =>
    have HD:=hdd hd;clear hd
    go_wp2_with (first|(go_at_call 95;refine (kcm x _).mono ?_;rintro en w2 ⟨rfl,rfl⟩;rw [HD.out])|fail)
    go_ret
    rw [kl3 Rv.digB xs k hlt (by rw [HX.out];exact HD.out)];exact ⟨rfl,rfl⟩
  ·obtain rfl:k=xs.length:=by omega
   have hA:=HA.out;rw [List.take_length] at hA
   go_wp2
   go_ret
   rw [hA];exact ⟨rfl,rfl⟩
theorem kl5 (s:ByteArray) (w:World) (hs:s.size≤maxLen):Calls Tryz.prog 93 #[.string s] w fun e w'=>e = .returned (.bool (Rv.nameB s.data.toList))∧w'=w:=by
 have hsz:s.data.toList.length=s.size:=rfl;unfold maxLen at hs
 by_cases h1:1≤s.size
 rotate_left
 ·have hr:Rv.nameB s.data.toList=false:=by unfold Rv.nameB;rw [decide_eq_false (p:=1≤s.data.toList.length) (by omega)];rfl
  have d1:decide ((s.size:Int)<1)=true:=decide_eq_true (by omega);rw [hr];clear hr
  go_enter Tryz.func93,Tryz.ntmps93
  go_wp2
  go_ret
  exact ⟨rfl,rfl⟩
 have d1:decide ((s.size:Int)<1)=false:=decide_eq_false (by omega)
 by_cases h2:s.size≤32
 rotate_left
 ·have hr:Rv.nameB s.data.toList=false:=by unfold Rv.nameB;rw [decide_eq_false (p:=s.data.toList.length≤32) (by omega)];simp
  have d2:decide ((32:Int)<(s.size:Int))=true:=decide_eq_true (by omega);rw [hr];clear hr
  go_enter Tryz.func93,Tryz.ntmps93
  go_wp2
  go_ret
  exact ⟨rfl,rfl⟩
 have d2:decide ((32:Int)<(s.size:Int))=false:=decide_eq_false (by omega);have h0:0<s.size:=h1
 have hg:s.data.toList.getD 0 0=s[0]:=by
  rw [List.getD_eq_getElem?_getD,List.getElem?_eq_getElem (by omega)];rfl
 have hr:Rv.nameB s.data.toList=(decide (s[0]≠46) && decide (s[0]≠45) && s.data.toList.all Rv.chB):=by unfold Rv.nameB;rw [hg,decide_eq_true (p:=1≤s.data.toList.length) (by omega),decide_eq_true (p:=s.data.toList.length≤32) (by omega)];simp
 rw [hr];have HZ:=hdd hsz;clear hr hsz hg
 by_cases h3:s[0]=46
 ·have d3:((s[0].toNat:Int) == 46)=true:=by rw [h3];rfl
  have hr:(decide (s[0]≠46) && decide (s[0]≠45) && s.data.toList.all Rv.chB)=false:=by rw [decide_eq_false (by simpa using h3)];simp
  rw [hr];clear hr h3
  go_enter Tryz.func93,Tryz.ntmps93
  go_wp2
  go_ret
  exact ⟨rfl,rfl⟩
 have d3:((s[0].toNat:Int) == 46)=false:=by
  have hne:s[0].toNat≠46:=fun e=>h3 (UInt8.toNat_inj.1 e)
  simp;omega
 by_cases h4:s[0]=45
 ·have d4:((s[0].toNat:Int) == 45)=true:=by rw [h4];rfl
  have hr:(decide (s[0]≠46) && decide (s[0]≠45) && s.data.toList.all Rv.chB)=false:=by rw [decide_eq_false (p:=s[0]≠45) (by simpa using h4)];simp
  rw [hr];clear hr h4 h3
  go_enter Tryz.func93,Tryz.ntmps93
  go_wp2
  go_ret
  exact ⟨rfl,rfl⟩
 have d4:((s[0].toNat:Int) == 45)=false:=by
  have hne:s[0].toNat≠45:=fun e=>h4 (UInt8.toNat_inj.1 e)
  simp;omega
 rw [decide_eq_true h3,decide_eq_true h4];simp only [Bool.true_and];obtain ⟨R,hR⟩:∃R,s.data.toList.all Rv.chB=R:=⟨_,rfl⟩;rw [hR];have HR:=hdd hR;clear h3 h4 hR
 go_enter Tryz.func93,Tryz.ntmps93
 go_wp2
 go_loop [3,4] (fun n _=>∃k:Nat,k≤s.size∧n = .int .i64 k∧(s.data.toList.take k).all Rv.chB=true) (fun n _=>s.size - (intOf n).toNat)
 case atStart=>exact ⟨0,by omega,rfl,by simp⟩
 case round =>
  obtain ⟨k,hk,rfl,hA⟩:=hrel;have HA:=hdd hA;clear hA d3 d4 d1 d2
  by_cases hlt:k<s.size
  ·have ht:=kfg _ _ k (by rw [HZ.out];exact hlt) HA.out
   have hn:=fun h=>kl3 Rv.chB s.data.toList k (by rw [HZ.out];exact hlt) h
   have hg:s.data.toList[k]=s[k]:=rfl;rw [hg,Bool.eq_iff_iff,kn5] at ht;rw [hg,kwm] at hn;have HT:=hdd ht;have HN:=hdd hn;clear ht hn hg
   go_wp2
   all_goals first
    |(go_round
      case rel=>exact ⟨k+1,by omega,by go_num,HT.out.2 (by simp at *;omega)⟩
      case measure=>simp [intOf];omega)
    |(go_ret
      exact ⟨kbw ((HN.out (by simp at *;omega)).symm.trans HR.out),rfl⟩)
  ·obtain rfl:k=s.size:=by omega
   have hA:=HA.out;rw [←HZ.out,List.take_length] at hA
   go_wp2
   go_ret
   exact ⟨kbw (hA.symm.trans HR.out),rfl⟩
theorem dr {B:Nat} {w w':World} (h:Below B w w'):Below B w w'.drew:=⟨h.os,h.tape,h.output,h.size,h.block⟩
theorem k09 {w:World} {r:Nat} {x0 x1 x2 x3:Value} {T:TypeId} (h:w.heap[r]? = some (.cells #[x0,x1,x2,x3] T)):w.cell? ⟨r,0,none⟩=some x0∧w.cell? ⟨r,1,none⟩=some x1∧w.cell? ⟨r,2,none⟩=some x2∧w.cell? ⟨r,3,none⟩=some x3:=⟨kaa h 0,kaa h 1,kaa h 2,kaa h 3⟩
def kh8 (q:Nat) (xs:List Bs):Bool:=xs.all fun x=>decide (x.length≤q)
def kpp (m:Nat) (xs:List Bs):Bool:=decide (xs.length≤m) && kh8 40 xs
theorem kj3 (q:Nat) (xs:List Bs) (k:Nat) (hk:k<xs.length) (h:kh8 q (xs.take k)=true):kh8 q (xs.take (k+1))=decide ((xs.getD k []).length≤q):=by
 unfold kh8 at *;rw [List.take_add_one,List.all_append,h,List.getElem?_eq_getElem hk,List.getD_eq_getElem?_getD,List.getElem?_eq_getElem hk];simp
theorem ko7 (q:Nat) (xs:List Bs) (k:Nat) (hk:k<xs.length) (h:¬ (xs.getD k []).length≤q):kh8 q xs=false:=by
 unfold kh8;rw [List.all_eq_false];refine ⟨xs.getD k [],?_,by simpa using h⟩;rw [List.getD_eq_getElem?_getD,List.getElem?_eq_getElem hk];exact List.getElem_mem _
theorem km5 (v:Value) (xs:List Bs) (w:World) (h:IsSl v (xs.map vS) w):Calls Tryz.prog 148 #[v] w fun e w'=>e = .returned (.bool (kpp 260 xs))∧w'=w:=by
 obtain ⟨a,cap,rfl⟩:=h.formMap;have hmx:=h.1;rw [List.length_map] at hmx;unfold maxLen at hmx;have H:=hdd h;clear h;unfold kpp
 by_cases hm:260<xs.length
 ·have d1:decide (260<(xs.length:Int))=true:=by simp;omega
  rw [decide_eq_false (show ¬ xs.length≤260 by omega)]
  go_enter Tryz.func148,Tryz.ntmps148
  go_wp2
  go_ret
  exact ⟨rfl,rfl⟩
 have d1:decide (260<(xs.length:Int))=false:=by simp;omega
 rw [decide_eq_true (show xs.length≤260 by omega),Bool.true_and]
 go_enter Tryz.func148,Tryz.ntmps148
 go_wp2
 go_loopw [3] (fun n wr=>wr=w∧∃k:Nat,k≤xs.length∧n = .int .i64 k∧kh8 40 (xs.take k)=true) (fun n _=>xs.length - (intOf n).toNat)
 case atStart=>exact ⟨rfl,0,by omega,rfl,by simp [kh8]⟩
 case round =>
  obtain ⟨rfl,k,hk,rfl,hA⟩:=hrel;have HA:=hdd hA;clear hA
  by_cases hlt:k<xs.length
  ·have h2:=H.out
   obtain ⟨b,off,cap',hv,hb,hc⟩:=h2.text rfl hlt;simp only [Value.slice.injEq,true_and] at hv;obtain ⟨rfl,rfl⟩:=hv;obtain ⟨x,hx⟩:∃x,xs.getD k []=x:=⟨_,rfl⟩;rw [hx] at hc;obtain ⟨m,hm⟩:∃m:Nat,(B x).size=m:=⟨_,rfl⟩;have hml:m=(xs.getD k []).length:=by rw [hx,←hm];rfl
   have Hm:=hdd hml;have Hx:=hdd hx;clear hx hml h2
   by_cases h40:40<m
   ·have hq:decide (40<(m:Int))=true:=by simp;omega
    go_wp2
    go_ret
    rw [ko7 40 xs k hlt (by rw [←Hm.out];omega)];exact ⟨rfl,rfl⟩
   ·have hq:decide (40<(m:Int))=false:=by simp;omega
    go_wp2
    go_roundw
    case rel=>exact ⟨trivial,k+1,by omega,by go_num,by rw [kj3 40 xs k hlt HA.out,←Hm.out];simpa using h40⟩
    case measure=>simp [intOf];omega
  ·obtain rfl:k=xs.length:=by omega
   have hA:=HA.out;rw [List.take_length] at hA
   go_wp2
   go_ret
   rw [hA];exact ⟨rfl,rfl⟩
theorem kw6 (v:Value) (i:Int) (S H R:List Bs) (w:World) (h:kp1 v i S H R w) :
 Calls Tryz.prog 79 #[v] w fun e w'=>e = .returned (.bool (kpp 260 S && kpp 260 H && kpp 260 R))∧Below w.heap.size w w':=by
 obtain ⟨vs,vh,vr,rfl,hS,hH,hR⟩:=h;have hB1:Below w.heap.size w (w.alloc (.cells #[.int .i64 i,vs,vh,vr] 43)):=(Below.refl _ _).alloc (Nat.le_refl _) _;have F1:=hdd (fun W (hb:Below w.heap.size w W)=>km5 vs S W (hS.below hb));have F2:=hdd (fun W (hb:Below w.heap.size w W)=>km5 vh H W (hH.below hb));have F3:=hdd (fun W (hb:Below w.heap.size w W)=>km5 vr R W (hR.below hb));obtain ⟨sa,sc,rfl⟩:=hS.formMap;obtain ⟨ha,hc,rfl⟩:=hH.formMap;obtain ⟨ra,rc,rfl⟩:=hR.formMap;have HB1:=hdd hB1;obtain ⟨c0,c1,c2,c3⟩:=k09 (kai w (.cells #[.int .i64 i,.slice sa S.length sc,.slice ha H.length hc,.slice ra R.length rc] 43));obtain ⟨b1,e1⟩:∃b,kpp 260 S=b:=⟨_,rfl⟩;obtain ⟨b2,e2⟩:∃b,kpp 260 H=b:=⟨_,rfl⟩;obtain ⟨b3,e3⟩:∃b,kpp 260 R=b:=⟨_,rfl⟩;rw [e1] at F1;rw [e2] at F2;rw [e3] at F3;rw [e1,e2,e3];clear e1 e2 e3 hB1 hS hH hR
 cases b1 with
 |false =>
  go_enter Tryz.func79,Tryz.ntmps79
  go_wp2_with fail
  refine (F1.out _ HB1.out).mono ?_;rintro e w1 ⟨rfl,rfl⟩
  go_wp2
  go_ret
  exact ⟨rfl,HB1.out⟩
 |true =>
  go_enter Tryz.func79,Tryz.ntmps79
  go_wp2_with fail
  refine (F1.out _ HB1.out).mono ?_;rintro e w1 ⟨rfl,rfl⟩
  go_wp2_with fail
  refine (F2.out _ HB1.out).mono ?_;rintro e w1 ⟨rfl,rfl⟩
  cases b2 with
  |false =>
   go_wp2
   go_ret
   exact ⟨rfl,HB1.out⟩
  |true =>
   go_wp2_with fail
   refine (F3.out _ HB1.out).mono ?_;rintro e w1 ⟨rfl,rfl⟩
   go_wp2
   go_ret
   exact ⟨rfl,HB1.out⟩
def shB (m:Nat) (xs:List Bs):Bool:=decide (xs.length≤m) && kh8 300 xs
theorem khg {m:Nat} {xs:List Bs} (h:shB m xs=true):xs.length≤m∧∀x∈xs,x.length≤300:=by
 unfold shB kh8 at h;simp only [Bool.and_eq_true,decide_eq_true_eq,List.all_eq_true] at h;exact h
theorem khb (v:Value) (xs:List Bs) (w:World) (h:IsSl v (xs.map vS) w):Calls Tryz.prog 78 #[v] w fun e w'=>e = .returned (.bool (shB 20 xs))∧w'=w:=by
 obtain ⟨a,cap,rfl⟩:=h.formMap;have hmx:=h.1;rw [List.length_map] at hmx;unfold maxLen at hmx;have H:=hdd h;clear h;unfold shB
 by_cases hm:20<xs.length
 ·have d1:decide (20<(xs.length:Int))=true:=by simp;omega
  rw [decide_eq_false (show ¬ xs.length≤20 by omega)]
  go_enter Tryz.func78,Tryz.ntmps78
  go_wp2
  go_ret
  exact ⟨rfl,rfl⟩
 have d1:decide (20<(xs.length:Int))=false:=by simp;omega
 rw [decide_eq_true (show xs.length≤20 by omega),Bool.true_and]
 go_enter Tryz.func78,Tryz.ntmps78
 go_wp2
 go_loopw [3] (fun n wr=>wr=w∧∃k:Nat,k≤xs.length∧n = .int .i64 k∧kh8 300 (xs.take k)=true) (fun n _=>xs.length - (intOf n).toNat)
 case atStart=>exact ⟨rfl,0,by omega,rfl,by simp [kh8]⟩
 case round =>
  obtain ⟨rfl,k,hk,rfl,hA⟩:=hrel;have HA:=hdd hA;clear hA
  by_cases hlt:k<xs.length
  ·have h2:=H.out
   obtain ⟨b,off,cap',hv,hb,hc⟩:=h2.text rfl hlt;simp only [Value.slice.injEq,true_and] at hv;obtain ⟨rfl,rfl⟩:=hv;obtain ⟨x,hx⟩:∃x,xs.getD k []=x:=⟨_,rfl⟩;rw [hx] at hc;obtain ⟨m,hm⟩:∃m:Nat,(B x).size=m:=⟨_,rfl⟩;have hml:m=(xs.getD k []).length:=by rw [hx,←hm];rfl
   have Hm:=hdd hml;have Hx:=hdd hx;clear hx hml h2
   by_cases h300:300<m
   ·have hq:decide (300<(m:Int))=true:=by simp;omega
    go_wp2
    go_ret
    rw [ko7 300 xs k hlt (by rw [←Hm.out];omega)];exact ⟨rfl,rfl⟩
   ·have hq:decide (300<(m:Int))=false:=by simp;omega
    go_wp2
    go_roundw
    case rel=>exact ⟨trivial,k+1,by omega,by go_num,by rw [kj3 300 xs k hlt HA.out,←Hm.out];simpa using h300⟩
    case measure=>simp [intOf];omega
  ·obtain rfl:k=xs.length:=by omega
   have hA:=HA.out;rw [List.take_length] at hA
   go_wp2
   go_ret
   rw [hA];exact ⟨rfl,rfl⟩
def kdn (e:Rv.Ev):Bool:=shB 20 e.names && shB 20 e.targets && shB 20 [e.author,e.root,e.pkg,e.digest,e.question,e.scope,e.answer] && (kpp 260 e.sg.S && kpp 260 e.sg.H && kpp 260 e.sg.R)
theorem kvt {e:Rv.Ev} (h:kdn e=true):kt0 e:=by
 unfold kdn at h;rw [Bool.and_eq_true,Bool.and_eq_true,Bool.and_eq_true] at h;have h1:=(khg h.1.1.1).2;have h2:=(khg h.1.1.2).2;have h3:=(khg h.1.2).2;have g:∀x:Bs,x.length≤300→x.length≤1000000000:=fun x hx=>by omega
 exact ⟨g _ (h3 _ (by simp)),g _ (h3 _ (by simp)),g _ (h3 _ (by simp)),g _ (h3 _ (by simp)),g _ (h3 _ (by simp)),g _ (h3 _ (by simp)),g _ (h3 _ (by simp)),fun x hx=>g x (h1 x hx),fun x hx=>g x (h2 x hx)⟩
def klp (v:Value) (e:Rv.Ev) (w:World):Prop:=∃na nc ta tc sa sc ha hc ra rc,v=evW e na nc ta tc sa sc ha hc ra rc ∧
 IsSl (.slice na e.names.length nc) (e.names.map vS) w∧IsSl (.slice ta e.targets.length tc) (e.targets.map vS) w∧IsSl (.slice sa e.sg.S.length sc) (e.sg.S.map vS) w∧IsSl (.slice ha e.sg.H.length hc) (e.sg.H.map vS) w∧IsSl (.slice ra e.sg.R.length rc) (e.sg.R.map vS) w
theorem klp.is {v:Value} {e:Rv.Ev} {w:World} (h:klp v e w) (ho:kt0 e):kcw v e w:=⟨ho,h⟩
theorem kq1 (v:Value) (e:Rv.Ev) (w:World) (h:klp v e w):Calls Tryz.prog 31 #[v] w fun en w'=>en = .returned (.bool (kdn e))∧Below w.heap.size w w':=by
 obtain ⟨na,nc,ta,tc,sa,sc,ha,hc,ra,rc,rfl,hN,hT,hS,hH,hR⟩:=h;have hb0:Below w.heap.size w (w.alloc (.cells (evS e na nc ta tc sa sc ha hc ra rc) 45)):=(Below.refl _ _).alloc (Nat.le_refl _) _;obtain ⟨e0,e1,e2,e3,e4,e5,e6,e7,e8,e9,e10,e11,e12,e13,e14,e15,e16,e17⟩:=ka3 (kai w (.cells (evS e na nc ta tc sa sc ha hc ra rc) 45));have Q1:=hdd (khb _ _ _ (hN.below hb0));have Q2:=hdd (khb _ _ _ (hT.below hb0))
 have Q3:=hdd (fun (W:World) (cs:Array Value) (l:List Bs) (n:Nat) (hn:l.length=n) (h0:0<n) (hm:n≤1000) (hc:l.map vS=cs.toList)=>by
  subst hn;have hs:=kgj (cap:=l.length) (kai W (.cells cs 9)) hc (by rw [List.length_map];unfold maxLen;omega) (by rw [List.length_map];exact h0);rw [List.length_map] at hs;exact khb _ l _ hs)
 have Q4:=hdd (fun (W:World) (hb:Below w.heap.size w W)=>kw6 _ e.sg.i e.sg.S e.sg.H e.sg.R W ⟨_,_,_,rfl,hS.below hb,hH.below hb,hR.below hb⟩);have q3:=(Q3.out (w.alloc (.cells (evS e na nc ta tc sa sc ha hc ra rc) 45)) #[.string (B e.author),.string (B e.root),.string (B e.pkg),.string (B e.digest),.string (B e.question),.string (B e.scope),.string (B e.answer)] [e.author,e.root,e.pkg,e.digest,e.question,e.scope,e.answer] 7 rfl (by decide) (by decide) rfl);rw [World.size_alloc] at q3;have Q3':=hdd q3;have HB0:=hdd hb0;clear hN hT hS hH hR hb0 Q3 q3
 go_enter Tryz.func31,Tryz.ntmps31
 go_wp2_with fail
 refine (Q1.out).mono ?_;rintro en w1 ⟨rfl,rfl⟩
 cases hq1:shB 20 e.names
 ·go_wp2_with fail
  go_ret
  exact ⟨by unfold kdn;simp [*],HB0.out⟩
 go_wp2_with fail
 refine (Q2.out).mono ?_;rintro en w1 ⟨rfl,rfl⟩
 cases hq2:shB 20 e.targets
 ·go_wp2_with fail
  go_ret
  exact ⟨by unfold kdn;simp [*],HB0.out⟩
 go_wp2_with fail
 refine (Q3'.out).mono ?_;rintro en w1 ⟨rfl,rfl⟩;have HC:=hdd (show Below w.heap.size w ((w.alloc (.cells (evS e na nc ta tc sa sc ha hc ra rc) 45)).alloc (.cells #[.string (B e.author),.string (B e.root),.string (B e.pkg),.string (B e.digest),.string (B e.question),.string (B e.scope),.string (B e.answer)] 9)) from HB0.out.alloc (by simp) _);have hE:((w.alloc (.cells (evS e na nc ta tc sa sc ha hc ra rc) 45)).alloc (.cells #[.string (B e.author),.string (B e.root),.string (B e.pkg),.string (B e.digest),.string (B e.question),.string (B e.scope),.string (B e.answer)] 9)).heap[w.heap.size]? = some (.cells (evS e na nc ta tc sa sc ha hc ra rc) 45 (0,0)):=kah (kai _ _);clear e0 e1 e2 e3 e4 e5 e6 e7 e8 e9 e10 e11 e12 e13 e14 e15 e16 e17;obtain ⟨-,-,-,-,-,-,-,-,-,-,-,-,-,-,e14,e15,e16,e17⟩:=ka3 hE;clear hE
 cases hq3:shB 20 [e.author,e.root,e.pkg,e.digest,e.question,e.scope,e.answer]
 ·go_wp2_with fail
  go_ret
  exact ⟨by unfold kdn;simp [*],HC.out⟩
 go_wp2_with fail
 refine (Q4.out _ HC.out).mono ?_;rintro en w4 ⟨rfl,hb⟩;have HD:=hdd (HC.out.next hb);clear hb
 go_wp2_with fail
 go_ret
 exact ⟨by unfold kdn;simp [*],HD.out⟩
end Go.Proofs.YtknpbekoenbphaaGreatDoor
namespace Licit.Rv
open Go Licit
def posR {α:Type} (f:α→Bs) (s:Bs):List α→Nat
 | []=>0
 |y :: r=>if ltB (f y) s=true then posR f s r+1 else 0
theorem ksf {α:Type} (f:α→Bs) (s:Bs):∀l:List α,posR f s l≤l.length
 | []=>Nat.le_refl _
 |y :: r=>by
  have:=ksf f s r
  unfold posR;split <;> simp only [List.length_cons] <;> omega
theorem krs {α:Type} (f:α→Bs) (s:Bs):∀(l:List α) (k:Nat) (hk:k<l.length),k<posR f s l→ltB (f l[k]) s=true
 | [],k,hk,_=>by simp at hk
 |y :: r,k,hk,h=>by
  unfold posR at h
  by_cases c:ltB (f y) s=true
  ·rw [if_pos c] at h
   cases k with
   |zero=>exact c
   |succ k=>exact krs f s r k (by simpa using hk) (by omega)
  ·rw [if_neg c] at h;omega
theorem krf {α:Type} (f:α→Bs) (s:Bs):∀(l:List α) (hk:posR f s l<l.length),ltB (f l[posR f s l]) s=false
 | [],hk=>by simp at hk
 |y :: r,hk=>by
  by_cases c:ltB (f y) s=true
  ·have e:posR f s (y :: r)=posR f s r+1:=by rw [posR,if_pos c]
   have h2:posR f s r<r.length:=by rw [e] at hk;simpa using hk
   have:=krf f s r h2
   simp only [e,List.getElem_cons_succ];exact this
  ·have e:posR f s (y :: r)=0:=by rw [posR,if_neg c]
   simp only [e,List.getElem_cons_zero];simpa using c
theorem posR_is {α:Type} {f:α→Bs} {s:Bs} {l:List α} {k:Nat} (h1:k≤l.length) (h2:∀j (hj:j<l.length),j<k→ltB (f l[j]) s=true) (h3:∀hk:k<l.length,ltB (f l[k]) s=false):posR f s l=k:=by
 rcases Nat.lt_trichotomy (posR f s l) k with c|c|c
 ·have:=h2 (posR f s l) (by omega) c
  rw [krf f s l (by omega)] at this;cases this
 ·exact c
 ·have hk:k<l.length:=Nat.lt_of_lt_of_le c (ksf f s l)
  have:=krs f s l k hk c
  rw [h3 hk] at this;cases this
theorem getD_set_ne {S:Stt} {i k:Nat} (x:Option Row) (h:i≠k):(S.set i x).getD k none=S.getD k none:=by
 rw [List.getD_eq_getElem?_getD,List.getElem?_set,if_neg h,←List.getD_eq_getElem?_getD]
theorem kf5 {S:Stt} {i:Nat} (x:Option Row) (h:i<S.length):(S.set i x).getD i none=x:=by
 rw [List.getD_eq_getElem?_getD,List.getElem?_set,if_pos rfl,if_pos h];rfl
theorem none_at (n i:Nat):(List.replicate n (none:Option Row)).getD i none=none:=by
 rw [List.getD_eq_getElem?_getD,List.getElem?_replicate];split <;> rfl
structure kej (l:List Ev):Prop where
 le:l.length≤1024
 valid:∀i,i<l.length→validB (l.getD i ev0)=true
 inj:∀i k,i<l.length→k<l.length→(idsOf l).getD i []=(idsOf l).getD k []→i=k
 names:∀i,i<l.length→∀s∈(l.getD i ev0).names,s∈idsOf l
theorem kca {p:Nat→Bool}:∀{n:Nat},firstF p n=none ↔ ∀i,i<n→p i=false
 |0=>by simp [firstF]
 |n+1=>by
  unfold firstF
  cases h:firstF p n with
  |some i =>
   simp only [reduceCtorEq,false_iff];intro h2
   have:=(kca (n:=n)).2 fun i hi=>h2 i (by omega)
   rw [h] at this;cases this
  |none =>
   have h1:=kca.1 h
   by_cases c:p n=true
   ·simp only [c,if_true,reduceCtorEq,false_iff]
    intro h2;have:=h2 n (by omega);rw [c] at this;cases this
   ·simp only [if_neg c,true_iff]
    intro i hi;rcases Nat.lt_or_ge i n with d|d
    ·exact h1 i d
    ·have:i=n:=by omega
     subst this;simpa using c
theorem kkc {l:List Ev} {i:Nat} (h:i<l.length):(idsOf l).getD i []=idE (l.getD i ev0):=by
 unfold idsOf;rw [List.getD_eq_getElem?_getD,List.getElem?_map,List.getElem?_eq_getElem h,List.getD_eq_getElem?_getD,List.getElem?_eq_getElem h];rfl
theorem ids_len (l:List Ev):(idsOf l).length=l.length:=by simp [idsOf]
theorem kof {ids:List Bs} {k:Nat} (hinj:∀i k,i<ids.length→k<ids.length→ids.getD i []=ids.getD k []→i=k) (hk:k<ids.length):findI ids (ids.getD k [])=k:=by
 have hm:ids.getD k []∈ids:=by rw [List.getD_eq_getElem?_getD,List.getElem?_eq_getElem hk];exact List.getElem_mem hk
 have hlt:=findI_mem.2 hm;exact hinj _ _ hlt hk (findI_at hlt)
theorem findI_self {ids:List Bs}:∀{k:Nat},k<ids.length→findI ids (ids.getD k [])≤k:=by
 induction ids with
 |nil=>intro k hk;simp at hk
 |cons a r ih =>
  intro k hk;have e:∀s,findI (a :: r) s=if a=s then 0 else findI r s+1:=fun _=>rfl
  rw [e]
  cases k with
  |zero=>simp
  |succ k =>
   rw [List.getD_cons_succ]
   have:=ih (k:=k) (by simpa using hk)
   split <;> omega
theorem pre_ok {l:List Ev}:(preE l (idsOf l)).2=0 ↔ kej l:=by
 unfold preE;constructor
 ·intro h
  by_cases c:1024<l.length
  ·rw [if_pos c] at h;cases h
  ·rw [if_neg c] at h
   cases h1:firstF (fun i=>!validB (l.getD i ev0)) l.length with
   |some i=>rw [h1] at h;cases h
   |none =>
    rw [h1] at h;simp only [] at h
    cases h2:firstF (fun i=>decide (findI (idsOf l) ((idsOf l).getD i [])<i)) l.length with
    |some i=>rw [h2] at h;cases h
    |none =>
     rw [h2] at h;simp only [] at h
     cases h3:firstF (fun i=>(l.getD i ev0).names.any fun s=>decide ((idsOf l).length≤findI (idsOf l) s)) l.length with
     |some i=>rw [h3] at h;cases h
     |none =>
      refine ⟨by omega,fun i hi=>by simpa using kca.1 h1 i hi,fun i k hi hk e=>?_,fun i hi s hs=>?_⟩
      ·have g1:=kca.1 h2 i hi
       have g2:=kca.1 h2 k hk;simp only [decide_eq_false_iff_not] at g1 g2;have g3:=findI_self (ids:=idsOf l) (k:=i) (by rw [ids_len];exact hi);have g4:=findI_self (ids:=idsOf l) (k:=k) (by rw [ids_len];exact hk);rw [e] at g1 g3;omega
      ·have:=kca.1 h3 i hi
       rw [List.any_eq_false] at this
       have:=this s hs
       simp only [decide_eq_true_eq] at this;exact findI_mem.1 (by omega)
 ·intro h
  have h1:firstF (fun i=>!validB (l.getD i ev0)) l.length=none:=kca.2 fun i hi=>by
   show (!validB (l.getD i ev0))=false;rw [h.valid i hi];rfl
  have h2:firstF (fun i=>decide (findI (idsOf l) ((idsOf l).getD i [])<i)) l.length=none:=kca.2 fun i hi=>by
   rw [kof (fun a b ha hb=>h.inj a b (by rwa [ids_len] at ha) (by rwa [ids_len] at hb)) (by rw [ids_len];exact hi)];simp
  have h3:firstF (fun i=>(l.getD i ev0).names.any fun s=>decide ((idsOf l).length≤findI (idsOf l) s)) l.length=none:=kca.2 fun i hi=>by
   rw [List.any_eq_false];intro s hs
   have:=findI_mem.2 (h.names i hi s hs)
   simp only [decide_eq_true_eq];omega
  have hle:=h.le;rw [if_neg (by omega),h1];simp only [h2,h3]
theorem set_ok {l:List Ev}:(setE l (idsOf l)).2=0 ↔ kej l∧∃S,arrS l (idsOf l)=some S:=by
 unfold setE;rw [←pre_ok]
 by_cases h:(preE l (idsOf l)).2=0
 ·rw [if_pos h]
  cases hS:arrS l (idsOf l) with
  |none=>simp
  |some S=>simp [h]
 ·rw [if_neg h];simp [h]
structure Emb (f:Nat→Nat) (m l:List Ev):Prop where
 lt:∀i,i<m.length→f i<l.length
 ev:∀i,i<m.length→m.getD i ev0=l.getD (f i) ev0
 inj:∀i k,i<m.length→k<m.length→f i=f k→i=k
 names:∀i,i<m.length→∀s∈(m.getD i ev0).names,s∈idsOf m
section
variable {f:Nat→Nat} {m l:List Ev}
theorem Emb.id (h:Emb f m l) {i:Nat} (hi:i<m.length):(idsOf m).getD i []=(idsOf l).getD (f i) []:=by
 rw [kkc hi,kkc (h.lt i hi),h.ev i hi]
end
end Licit.Rv
namespace Go.Proofs.YtknpbekoenbphaaGreatDoor
open Go Go.RowKit Licit
def keu (xs:List Bs) (s:Bs):Int:=if Rv.findI xs s<xs.length then (Rv.findI xs s:Int) else -1
theorem kjc:∀{xs:List Bs} {s:Bs} {k:Nat},k<xs.length→(∀j,j<k→xs.getD j []≠s)→xs.getD k []=s→Rv.findI xs s=k
 | [],_,_,h,_,_=>by simp at h
 |a :: r,s,0,_,_,h=>by
  have:a=s:=h
  simp [Rv.findI,this]
 |a :: r,s,k+1,hk,hn,h=>by
  have h0:a≠s:=hn 0 (by omega)
  have:=kjc (xs:=r) (s:=s) (k:=k) (by simpa using hk) (fun j hj=>hn (j+1) (by omega)) h
  simp [Rv.findI,h0,this]
theorem koa:∀{xs:List Bs} {s:Bs},(∀j,j<xs.length→xs.getD j []≠s)→Rv.findI xs s=xs.length
 | [],_,_=>rfl
 |a :: r,s,hn=>by
  have h0:a≠s:=hn 0 (by simp)
  have:=koa (xs:=r) (s:=s) (fun j hj=>hn (j+1) (by simpa using hj))
  simp [Rv.findI,h0,this]
theorem kmu {xs:List Bs} {s:Bs} {k:Nat} (hk:k<xs.length) (hn:∀j,j<k→xs.getD j []≠s) (h:xs.getD k []=s):keu xs s=(k:Int):=by
 unfold keu;rw [kjc hk hn h,if_pos hk]
theorem ku2 {xs:List Bs} {s:Bs} (hn:∀j,j<xs.length→xs.getD j []≠s):keu xs s = -1:=by
 unfold keu;rw [koa hn,if_neg (by omega)]
theorem kio (v:Value) (xs:List Bs) (s:Bs) (w:World) (h:IsSl v (xs.map vS) w):Calls Tryz.prog 75 #[v,.string (B s)] w fun en w'=>en = .returned (.int .i64 (keu xs s))∧w'=w:=by
 obtain ⟨a,cap,rfl⟩:=h.formMap;have hmx:=h.1;rw [List.length_map] at hmx;unfold maxLen at hmx;obtain ⟨R,hR⟩:∃R,keu xs s=R:=⟨_,rfl⟩;rw [hR];have H:=hdd h;have HR:=hdd hR;clear h hR
 go_enter Tryz.func75,Tryz.ntmps75
 go_wp2
 go_loopw [5] (fun n wr=>wr=w∧∃k:Nat,k≤xs.length∧n = .int .i64 k∧∀j,j<k→xs.getD j []≠s) (fun n _=>xs.length - (intOf n).toNat)
 case atStart=>exact ⟨rfl,0,by omega,rfl,fun j hj=>by omega⟩
 case round =>
  obtain ⟨rfl,k,hk,rfl,hA⟩:=hrel;have HA:=hdd hA;clear hA
  by_cases hlt:k<xs.length
  ·have h2:=H.out
   obtain ⟨b,off,cap',hv,hb,hc⟩:=h2.text rfl hlt;simp only [Value.slice.injEq,true_and] at hv;obtain ⟨rfl,rfl⟩:=hv;obtain ⟨x,hx⟩:∃x,xs.getD k []=x:=⟨_,rfl⟩;rw [hx] at hc;have HX:=hdd hx;clear hx h2
   by_cases he:x=s
   ·have HE:=hdd he
    have q:((B x).toList == (B s).toList)=true:=by rw [he];exact kbx s
    clear he
    go_wp2
    go_ret
    exact ⟨by rw [←HR.out,kmu hlt HA.out (HX.out.trans HE.out)];rfl,rfl⟩
   ·have q:=kby he
    have HE:=hdd he;clear he
    go_wp2
    go_roundw
    case rel=>exact ⟨trivial,k+1,by omega,by go_num,fun j hj=>by
     rcases Nat.lt_or_ge j k with c|c
     ·exact HA.out j c
     ·obtain rfl:j=k:=by omega
      rw [HX.out];exact HE.out⟩
    case measure=>simp [intOf];omega
  ·obtain rfl:k=xs.length:=by omega
   go_wp2
   go_ret
   exact ⟨by rw [←HR.out,ku2 HA.out];rfl,rfl⟩
def dv1 (d:Bs):Int × St:=kp9 0 5 (d,0)
def dv2 (d:Bs):Bs × St:=khr 32 (dv1 d).2
def dv3 (d:Bs):Int × St:=kp9 0 63 (dv2 d).2
def dv4 (d:Bs):List Bs × St:=kq5 32 (dv3 d).2
def dv5 (d:Bs):Bs × St:=khr 32 (dv4 d).2
def dv6 (d:Bs):Int × St:=kp9 0 512 (dv5 d).2
def dv7 (d:Bs):Int × St:=kp9 0 512 (dv6 d).2
def dv8 (d:Bs):Bs × St:=khr 200 (dv7 d).2
def dv9 (d:Bs):Bs × St:=khr 200 (dv8 d).2
def kyl (d:Bs):Bs × St:=khr 200 (dv9 d).2
def kyn (d:Bs):Bs × St:=khr 200 (kyl d).2
def ky3 (d:Bs):Bs × St:=khr 200 (kyn d).2
def k0w (d:Bs):Int × St:=kp9 0 1000 (ky3 d).2
def k08 (d:Bs):List Bs × St:=kq5 32 (k0w d).2
theorem kal {w w':World} {base:Nat} {t:TypeId} {size:Nat} {v:Value} {n:Nat} {xs:List Value} (h:w.ownsRow base t size v n xs) (hb:∀q,v.ownBlock=some q→w'.heap[q]? = w.heap[q]?):w'.ownsRow base t size v n xs:=by
 refine ⟨h.1,?_⟩;rcases h.2 with ⟨rfl,h0⟩|⟨g,cap,cur,rfl,h1,h2,h3⟩
 ·exact .inl ⟨rfl,h0⟩
 ·exact .inr ⟨g,cap,cur,rfl,h1,(hb g rfl).trans h2,h3⟩
def dvK (d:Bs):Nat→Rv.Ev
 |0=>(⟨0,[],0,[],[],0,0,[],[],[],[],[],0,[],Rv.sg0⟩:Rv.Ev)
 |1=>(⟨(dv1 d).1,[],0,[],[],0,0,[],[],[],[],[],0,[],Rv.sg0⟩:Rv.Ev)
 |2=>(⟨(dv1 d).1,(dv2 d).1,0,[],[],0,0,[],[],[],[],[],0,[],Rv.sg0⟩:Rv.Ev)
 |3=>(⟨(dv1 d).1,(dv2 d).1,(dv3 d).1,[],[],0,0,[],[],[],[],[],0,[],Rv.sg0⟩:Rv.Ev)
 |4=>(⟨(dv1 d).1,(dv2 d).1,(dv3 d).1,(dv4 d).1,[],0,0,[],[],[],[],[],0,[],Rv.sg0⟩:Rv.Ev)
 |5=>(⟨(dv1 d).1,(dv2 d).1,(dv3 d).1,(dv4 d).1,(dv5 d).1,0,0,[],[],[],[],[],0,[],Rv.sg0⟩:Rv.Ev)
 |6=>(⟨(dv1 d).1,(dv2 d).1,(dv3 d).1,(dv4 d).1,(dv5 d).1,(dv6 d).1,0,[],[],[],[],[],0,[],Rv.sg0⟩:Rv.Ev)
 |7=>(⟨(dv1 d).1,(dv2 d).1,(dv3 d).1,(dv4 d).1,(dv5 d).1,(dv6 d).1,(dv7 d).1,[],[],[],[],[],0,[],Rv.sg0⟩:Rv.Ev)
 |8=>(⟨(dv1 d).1,(dv2 d).1,(dv3 d).1,(dv4 d).1,(dv5 d).1,(dv6 d).1,(dv7 d).1,(dv8 d).1,[],[],[],[],0,[],Rv.sg0⟩:Rv.Ev)
 |9=>(⟨(dv1 d).1,(dv2 d).1,(dv3 d).1,(dv4 d).1,(dv5 d).1,(dv6 d).1,(dv7 d).1,(dv8 d).1,(dv9 d).1,[],[],[],0,[],Rv.sg0⟩:Rv.Ev)
 |10=>(⟨(dv1 d).1,(dv2 d).1,(dv3 d).1,(dv4 d).1,(dv5 d).1,(dv6 d).1,(dv7 d).1,(dv8 d).1,(dv9 d).1,(kyl d).1,[],[],0,[],Rv.sg0⟩:Rv.Ev)
 |11=>(⟨(dv1 d).1,(dv2 d).1,(dv3 d).1,(dv4 d).1,(dv5 d).1,(dv6 d).1,(dv7 d).1,(dv8 d).1,(dv9 d).1,(kyl d).1,(kyn d).1,[],0,[],Rv.sg0⟩:Rv.Ev)
 |12=>(⟨(dv1 d).1,(dv2 d).1,(dv3 d).1,(dv4 d).1,(dv5 d).1,(dv6 d).1,(dv7 d).1,(dv8 d).1,(dv9 d).1,(kyl d).1,(kyn d).1,(ky3 d).1,0,[],Rv.sg0⟩:Rv.Ev)
 |13=>(⟨(dv1 d).1,(dv2 d).1,(dv3 d).1,(dv4 d).1,(dv5 d).1,(dv6 d).1,(dv7 d).1,(dv8 d).1,(dv9 d).1,(kyl d).1,(kyn d).1,(ky3 d).1,(k0w d).1,[],Rv.sg0⟩:Rv.Ev)
 |_=>(⟨(dv1 d).1,(dv2 d).1,(dv3 d).1,(dv4 d).1,(dv5 d).1,(dv6 d).1,(dv7 d).1,(dv8 d).1,(dv9 d).1,(kyl d).1,(kyn d).1,(ky3 d).1,(k0w d).1,(k08 d).1,Rv.sg0⟩:Rv.Ev)
def sK (d:Bs):Nat→St
 |0=>(dv7 d).2
 |1=>(dv8 d).2
 |2=>(dv9 d).2
 |3=>(kyl d).2
 |4=>(kyn d).2
 |_=>(ky3 d).2
def cK (d:Bs) (a4:Option Addr) (c4:Nat):Nat→Array Value
 |0=>(evC (dvK d 7) (.slice a4 (dv4 d).1.length c4) kaf kaf kaf kaf)
 |1=>(evC (dvK d 8) (.slice a4 (dv4 d).1.length c4) kaf kaf kaf kaf)
 |2=>(evC (dvK d 9) (.slice a4 (dv4 d).1.length c4) kaf kaf kaf kaf)
 |3=>(evC (dvK d 10) (.slice a4 (dv4 d).1.length c4) kaf kaf kaf kaf)
 |4=>(evC (dvK d 11) (.slice a4 (dv4 d).1.length c4) kaf kaf kaf kaf)
 |_=>(evC (dvK d 12) (.slice a4 (dv4 d).1.length c4) kaf kaf kaf kaf)
end Go.Proofs.YtknpbekoenbphaaGreatDoor
