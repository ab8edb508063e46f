/- Parts of the proofs: Shelf, WkSlices, WkRvR, WkEv, WkOrd. No condition beyond those at each theorem. -/
import Derived.Test.YtknpbekoenbphaaGreatDoorQk35
import Derived.Test.YtknpbekoenbphaaGreatDoorQk40
set_option linter.unusedVariables false
set_option linter.unusedSimpArgs false
set_option maxHeartbeats 16000000
set_option maxRecDepth 100000
namespace Go.Proofs
open Go.Shelf
def Tryz.laysNm216_ren:Go.Shelf.Ren:=⟨fun|16=>136|n=>n,fun|24=>39|9=>9|4=>4|n=>n,fun|n=>n⟩
theorem Tryz.laysNm216:Go.Proofs.Lays2.n16 Tryz.prog Tryz.laysNm216_ren:={
 mixed:=by kernel_rfl
 f16:=Tryz.func136.trans (congrArg some (by kernel_rfl))
 t4:=Tryz.underlying4
 a4:=Tryz.isAgg4
 z4:=Tryz.sizeOf4
 v4:=Tryz.zeroValue4
 t9:=Tryz.underlying9
 a9:=Tryz.isAgg9
 z9:=Tryz.sizeOf9
 v9:=Tryz.zeroValue9
 t24:=Tryz.underlying39
 a24:=Tryz.isAgg39
 z24:=Tryz.sizeOf39
 v24:=Tryz.zeroValue39
 i9:=by kernel_rfl }
open Go.RowKit Go.Lib in
theorem Tryz.slices_Clone_string (b off n c:Nat) (zs:List ByteArray) (w:World) (hz:n≤zs.length) (hbig:n*16≤140737488355328) (hc:∀j,j<zs.length→w.cell? ⟨b,off+j,none⟩=some (.string (zs.getD j ByteArray.empty))) :
 Calls Tryz.prog 136 #[.slice (some ⟨b,off,none⟩) n c] w fun e w'=>∃v',e = .returned v'∧w'.ownsRow w.heap.size 9 1 v' n ((zs.take n).map (Value.string))∧v'≠.slice none 0 0∧Below w.heap.size w w':=Any.slices_Clone_string Tryz.laysNm216 b off n c zs w hz hbig hc
open Go.RowKit Go.Lib in
theorem Tryz.slices_Clone_string_nil (n c:Nat) (w:World) :
 Calls Tryz.prog 136 #[.slice none n c] w fun e w'=>e = .returned (.slice none 0 0)∧w'=w:=Any.slices_Clone_string_nil Tryz.laysNm216 n c w
open Go.RowKit Go.Lib in
theorem Tryz.slices_Clone_string_zero (a:Addr) (c:Nat) (w:World) :
 Calls Tryz.prog 136 #[.slice (some a) 0 c] w fun e w'=>∃v',e = .returned v'∧w'.ownsRow w.heap.size 9 1 v' 0 []∧v'≠.slice none 0 0∧Below w.heap.size w w':=Any.slices_Clone_string_zero Tryz.laysNm216 a c w
end Go.Proofs
namespace Go.Proofs.YtknpbekoenbphaaGreatDoor
open Go Go.RowKit Licit
theorem kqw (v:Value) (xs:List Bs) (w:World) (h:IsSl v (xs.map vS) w) (hn:xs.length≤100000) :
 Calls Tryz.prog 136 #[v] w fun e w'=>∃v',e = .returned v'∧w'.ownsRow w.heap.size 9 1 v' xs.length (xs.map vS)∧Below w.heap.size w w':=by
 rcases h.2 with ⟨a,cap,rfl,hx⟩|⟨b,off,cap,rfl,h0,hc⟩
 ·obtain rfl:xs=[]:=by simpa using hx
  cases a with
  |none =>
   refine (Tryz.slices_Clone_string_nil 0 cap w).mono ?_;rintro e w' ⟨rfl,rfl⟩;exact ⟨_,rfl,World.ownsRow_nil _ _ _ _,Below.refl _ _⟩
  |some a =>
   refine (Tryz.slices_Clone_string_zero a cap w).mono ?_;rintro e w' ⟨v',rfl,ho,_,hb⟩;exact ⟨v',rfl,ho,hb⟩
 ·rw [List.length_map] at h0 hc ⊢
  refine (Tryz.slices_Clone_string b off xs.length cap (xs.map B) w (by simp) (by omega) (fun j hj=>?_)).mono ?_
  ·rw [List.length_map] at hj
   rw [hc j hj,kb8 xs hj,ktq xs hj]
  ·rintro e w' ⟨v',rfl,ho,_,hb⟩
   refine ⟨v',rfl,?_,hb⟩;rw [List.take_of_length_le (by simp),List.map_map] at ho;exact ho
def SlQ (lo:Nat) (w0:World) (b:Bool) (v:Value) (xs:List Bs) (w:World):Prop:=if b=true then w.ownsRow lo 9 1 v xs.length (xs.map vS) else IsSl v (xs.map vS) w0
theorem SlQ.is {lo:Nat} {w0 w:World} {b:Bool} {v:Value} {xs:List Bs} (h:SlQ lo w0 b v xs w) (hb:Below w0.heap.size w0 w) (hl:xs.length≤100000):IsSl v (xs.map vS) w:=by
 cases b with
 |false=>exact IsSl.below h hb
 |true=>exact kdr h hl
theorem SlQ.kept {lo:Nat} {w0 w w':World} {b:Bool} {v:Value} {xs:List Bs} {S:Nat→Prop} (h:SlQ lo w0 b v xs w) (hk:ka7 S w w') (hS:∀k,lo≤k→¬ S k):SlQ lo w0 b v xs w':=by
 cases b with
 |false=>exact h
 |true=>exact kay h hk hS
theorem SlQ.below {lo:Nat} {w0 w w':World} {b:Bool} {v:Value} {xs:List Bs} (h:SlQ lo w0 b v xs w) (hb:Below w.heap.size w w'):SlQ lo w0 b v xs w':=by
 cases b with
 |false=>exact h
 |true=>exact kal h fun q hq=>hb.block q (World.ownsRow.lt h q hq).2
theorem kuu (v:Value) (e:Rv.Ev) (w:World) (h:kcw v e w) (hl:km9 e):Calls Tryz.prog 67 #[v] w fun en w'=>∃v',en = .returned v'∧(∀W:World,(∀k,w.heap.size≤k→k<w'.heap.size→W.heap[k]? = w'.heap[k]?)→kcw v' e W)∧Below w.heap.size w w':=by
 have HI:=hdd h;obtain ⟨ho,na,nc,ta,tc,sa,sc,ha,hc,ra,rc,rfl,hN,hT,hS,hH,hR⟩:=h;obtain ⟨l1,l2,l3,l4,l5⟩:=hl;obtain ⟨t,ht⟩:∃t,w.heap.size=t:=⟨_,rfl⟩;obtain ⟨u,hu⟩:∃u,t+1=u:=⟨_,rfl⟩;obtain ⟨m,hm⟩:∃m,u+1=m:=⟨_,rfl⟩;have C:=hdd (fun (W:World) (x:Value) (xs:List Bs) (bb:Bool) (hx:SlQ (m+1) w bb x xs W) (hb:Below w.heap.size w W) (hlen:xs.length≤100000)=>kqw x xs W (hx.is hb hlen) hlen);have q1:SlQ (m+1) w false (.slice na e.names.length nc) e.names w:=hN;have q2:SlQ (m+1) w false (.slice ta e.targets.length tc) e.targets w:=hT;have q3:SlQ (m+1) w false (.slice sa e.sg.S.length sc) e.sg.S w:=hS;have q4:SlQ (m+1) w false (.slice ha e.sg.H.length hc) e.sg.H w:=hH;have q5:SlQ (m+1) w false (.slice ra e.sg.R.length rc) e.sg.R w:=hR
 have HO:=hdd (fun (W:World) (vn vt vs vh vr:Value) (h1:SlQ (m+1) w true vn e.names W) (h2:SlQ (m+1) w true vt e.targets W) (h3:SlQ (m+1) w true vs e.sg.S W) (h4:SlQ (m+1) w true vh e.sg.H W) (h5:SlQ (m+1) w true vr e.sg.R W)=>show kcw (.agg (evC e vn vt vs vh vr)) e W by
  have i1:=kdr h1 l1;have i2:=kdr h2 l2;have i3:=kdr h3 l3;have i4:=kdr h4 l4;have i5:=kdr h5 l5;obtain ⟨a1,c1,rfl⟩:=kag h1;obtain ⟨a2,c2,rfl⟩:=kag h2;obtain ⟨a3,c3,rfl⟩:=kag h3;obtain ⟨a4,c4,rfl⟩:=kag h4;obtain ⟨a5,c5,rfl⟩:=kag h5;exact ⟨ho,_,_,_,_,_,_,_,_,_,_,rfl,i1,i2,i3,i4,i5⟩)
 have hA:∀W,W=((w.alloc (.cells (evS e na nc ta tc sa sc ha hc ra rc) 45)).alloc (.cells evZ 45)).alloc (.cells #[.pointer (some ⟨t,3,none⟩),.pointer (some ⟨t,13,none⟩),.pointer (some ⟨t,15,none⟩),.pointer (some ⟨t,16,none⟩),.pointer (some ⟨t,17,none⟩)] 182)→Below w.heap.size w W∧W.heap[t]? = some (.cells (evS e na nc ta tc sa sc ha hc ra rc) 45 (0,0))∧W.heap[u]? = some (.cells evZ 45 (0,0))∧W.heap[m]? = some (.cells #[.pointer (some ⟨t,3,none⟩),.pointer (some ⟨t,13,none⟩),.pointer (some ⟨t,15,none⟩),.pointer (some ⟨t,16,none⟩),.pointer (some ⟨t,17,none⟩)] 182 (0,0)):=by
  rintro _ rfl;subst hm;subst hu;subst ht;exact ⟨(((Below.refl _ _).alloc (Nat.le_refl _) _).alloc (by simp) _).alloc (by simp;omega) _,kah (kah (kai _ _)),kah (kak (by simp) rfl),kak (by simp) rfl⟩
 clear hN hT hS hH hR
 go_enter Tryz.func67,Tryz.ntmps67
 go_upto_region 2 with fail
 try simp only [World.size_alloc]
 have hu':w.heap.size+1=u:=by omega
 have hm':w.heap.size+1+1=m:=by omega
 try simp only [hm',hu',ht]
 show Code.wp _ _ _ _ (((w.alloc (.cells (evS e na nc ta tc sa sc ha hc ra rc) 45)).alloc (.cells evZ 45)).alloc (.cells #[.pointer (some ⟨t,3,none⟩),.pointer (some ⟨t,13,none⟩),.pointer (some ⟨t,15,none⟩),.pointer (some ⟨t,16,none⟩),.pointer (some ⟨t,17,none⟩)] 182));generalize hw1:((w.alloc (.cells (evS e na nc ta tc sa sc ha hc ra rc) 45)).alloc (.cells evZ 45)).alloc (.cells #[.pointer (some ⟨t,3,none⟩),.pointer (some ⟨t,13,none⟩),.pointer (some ⟨t,15,none⟩),.pointer (some ⟨t,16,none⟩),.pointer (some ⟨t,17,none⟩)] 182)=w1;obtain ⟨hb1,hT1,hU1,hM1⟩:=hA w1 hw1.symm;have hq1:=q1.below (hb1);have hq2:=q2.below (hb1);have hq3:=q3.below (hb1);have hq4:=q4.below (hb1);have hq5:=q5.below (hb1);have HBT:=hdd (And.intro ht (And.intro hu hm));clear hw1 hA q1 q2 q3 q4 q5 hu' hm' ht hu hm
 go_loopw [4,15] (fun _ n wr=>∃k:Nat,k≤5∧n = .int .i64 k∧∃vn vt vs vh vr,Below w.heap.size w wr∧wr.heap[t]? = some (.cells (evC e vn vt vs vh vr) 45 (0,0))∧wr.heap[u]? = some (.cells evZ 45 (0,0))∧wr.heap[m]? = some (.cells #[.pointer (some ⟨t,3,none⟩),.pointer (some ⟨t,13,none⟩),.pointer (some ⟨t,15,none⟩),.pointer (some ⟨t,16,none⟩),.pointer (some ⟨t,17,none⟩)] 182 (0,0))∧SlQ (m+1) w (Nat.ble 1 k) vn e.names wr∧SlQ (m+1) w (Nat.ble 2 k) vt e.targets wr∧SlQ (m+1) w (Nat.ble 3 k) vs e.sg.S wr∧SlQ (m+1) w (Nat.ble 4 k) vh e.sg.H wr∧SlQ (m+1) w (Nat.ble 5 k) vr e.sg.R wr) (fun _ n _=>5 - (intOf n).toNat)
 case atStart=>exact ⟨0,by omega,rfl,_,_,_,_,_,hb1,hT1,hU1,hM1,hq1,hq2,hq3,hq4,hq5⟩
 case round =>
  obtain ⟨wl,rfl⟩:∃W,W=wr:=⟨_,rfl⟩;obtain ⟨k,hk,rfl,vn,vt,vs,vh,vr,hb,hT,hU,hM,q1,q2,q3,q4,q5⟩:=hrel;have hmw:=kad hM
  by_cases hlt:k<5
  ·clear hk
   rcases (show k=0∨k=1∨k=2∨k=3∨k=4 by omega) with rfl|rfl|rfl|rfl|rfl
   ·have cm:wl.cell? ⟨m,0,none⟩=some (.pointer (some ⟨t,3,none⟩)):=by rw [kaa hM];rfl
    have ct:wl.cell? ⟨t,3,none⟩=some vn:=by rw [kaa hT];rfl
    have HBb:=hdd hb;have HTt:=hdd hT;have HUu:=hdd hU;have HMm:=hdd hM;have HQ:=hdd (And.intro q1 (And.intro q2 (And.intro q3 (And.intro q4 q5))));have HCl:=hdd (C.out wl vn e.names _ q1 hb l1);clear hb hT hU hM q1 q2 q3 q4 q5 hlt
    go_wp2_with (first
     |(go_at_call 136;refine (HCl.out).mono ?_
       rintro en wc ⟨xv,rfl,hw,hbc⟩;have HTc:=bhh hbc HTt;have HXc:=hdd hw;have HBc:=hdd hbc;clear hw hbc)
     |(refine kae rfl 39 _ _ rfl t 3 rfl xv rfl (by obtain ⟨_,_,e⟩:=kag HXc.out;rw [e];rfl) (by obtain ⟨_,_,e⟩:=kag HXc.out;rw [e];rfl) _ 45 HTc.out (by simp) (by kernel_rfl) ?_
       intro ws hw hk;have HTs:=hdd (show ws.heap[t]? = some (.cells (evC e xv vt vs vh vr) 45 (0,0)) from hw);have HKs:=hdd hk;clear hw hk)
     |fail)
    go_roundw
    case rel =>
     obtain ⟨ht,hu,hm⟩:=HBT.out;obtain ⟨q1,q2,q3,q4,q5⟩:=HQ.out;have hw0:=HBb.out.size;have hwc:=HBc.out.size;have hxs:=kay (kbh HXc.out (show m+1≤_ from hmw)) HKs.out (fun q hq e=>by have:q=t:=e;omega);refine ⟨1,by omega,by go_num,xv,vt,vs,vh,vr,(HBb.out.next HBc.out).trans (HKs.out.below (HBb.out.next HBc.out).size (fun q hq e=>by have:q=t:=e;omega)),HTs.out,(HKs.out.block u (Nat.lt_of_lt_of_le (kad HUu.out) hwc) (fun e=>by have:u=t:=e;omega)).trans (kab HBc.out (kad HUu.out) HUu.out),(HKs.out.block m (Nat.lt_of_lt_of_le (kad HMm.out) hwc) (fun e=>by have:m=t:=e;omega)).trans (kab HBc.out (kad HMm.out) HMm.out),hxs,(q2.below HBc.out).kept HKs.out (fun q hq e=>by have:q=t:=e;omega),(q3.below HBc.out).kept HKs.out (fun q hq e=>by have:q=t:=e;omega),(q4.below HBc.out).kept HKs.out (fun q hq e=>by have:q=t:=e;omega),(q5.below HBc.out).kept HKs.out (fun q hq e=>by have:q=t:=e;omega)⟩
    case measure=>first|(simp [intOf];done)|(simp [intOf];omega)
   ·have cm:wl.cell? ⟨m,1,none⟩=some (.pointer (some ⟨t,13,none⟩)):=by rw [kaa hM];rfl
    have ct:wl.cell? ⟨t,13,none⟩=some vt:=by rw [kaa hT];rfl
    have HBb:=hdd hb;have HTt:=hdd hT;have HUu:=hdd hU;have HMm:=hdd hM;have HQ:=hdd (And.intro q1 (And.intro q2 (And.intro q3 (And.intro q4 q5))));have HCl:=hdd (C.out wl vt e.targets _ q2 hb l2);clear hb hT hU hM q1 q2 q3 q4 q5 hlt
    go_wp2_with (first
     |(go_at_call 136;refine (HCl.out).mono ?_
       rintro en wc ⟨xv,rfl,hw,hbc⟩;have HTc:=bhh hbc HTt;have HXc:=hdd hw;have HBc:=hdd hbc;clear hw hbc)
     |(refine kae rfl 39 _ _ rfl t 13 rfl xv rfl (by obtain ⟨_,_,e⟩:=kag HXc.out;rw [e];rfl) (by obtain ⟨_,_,e⟩:=kag HXc.out;rw [e];rfl) _ 45 HTc.out (by simp) (by kernel_rfl) ?_
       intro ws hw hk;have HTs:=hdd (show ws.heap[t]? = some (.cells (evC e vn xv vs vh vr) 45 (0,0)) from hw);have HKs:=hdd hk;clear hw hk)
     |fail)
    go_roundw
    case rel =>
     obtain ⟨ht,hu,hm⟩:=HBT.out;obtain ⟨q1,q2,q3,q4,q5⟩:=HQ.out;have hw0:=HBb.out.size;have hwc:=HBc.out.size;have hxs:=kay (kbh HXc.out (show m+1≤_ from hmw)) HKs.out (fun q hq e=>by have:q=t:=e;omega);refine ⟨2,by omega,by go_num,vn,xv,vs,vh,vr,(HBb.out.next HBc.out).trans (HKs.out.below (HBb.out.next HBc.out).size (fun q hq e=>by have:q=t:=e;omega)),HTs.out,(HKs.out.block u (Nat.lt_of_lt_of_le (kad HUu.out) hwc) (fun e=>by have:u=t:=e;omega)).trans (kab HBc.out (kad HUu.out) HUu.out),(HKs.out.block m (Nat.lt_of_lt_of_le (kad HMm.out) hwc) (fun e=>by have:m=t:=e;omega)).trans (kab HBc.out (kad HMm.out) HMm.out),(q1.below HBc.out).kept HKs.out (fun q hq e=>by have:q=t:=e;omega),hxs,(q3.below HBc.out).kept HKs.out (fun q hq e=>by have:q=t:=e;omega),(q4.below HBc.out).kept HKs.out (fun q hq e=>by have:q=t:=e;omega),(q5.below HBc.out).kept HKs.out (fun q hq e=>by have:q=t:=e;omega)⟩
    case measure=>first|(simp [intOf];done)|(simp [intOf];omega)
   ·have cm:wl.cell? ⟨m,2,none⟩=some (.pointer (some ⟨t,15,none⟩)):=by rw [kaa hM];rfl
    have ct:wl.cell? ⟨t,15,none⟩=some vs:=by rw [kaa hT];rfl
    have HBb:=hdd hb;have HTt:=hdd hT;have HUu:=hdd hU;have HMm:=hdd hM;have HQ:=hdd (And.intro q1 (And.intro q2 (And.intro q3 (And.intro q4 q5))));have HCl:=hdd (C.out wl vs e.sg.S _ q3 hb l3);clear hb hT hU hM q1 q2 q3 q4 q5 hlt
    go_wp2_with (first
     |(go_at_call 136;refine (HCl.out).mono ?_
       rintro en wc ⟨xv,rfl,hw,hbc⟩;have HTc:=bhh hbc HTt;have HXc:=hdd hw;have HBc:=hdd hbc;clear hw hbc)
     |(refine kae rfl 39 _ _ rfl t 15 rfl xv rfl (by obtain ⟨_,_,e⟩:=kag HXc.out;rw [e];rfl) (by obtain ⟨_,_,e⟩:=kag HXc.out;rw [e];rfl) _ 45 HTc.out (by simp) (by kernel_rfl) ?_
       intro ws hw hk;have HTs:=hdd (show ws.heap[t]? = some (.cells (evC e vn vt xv vh vr) 45 (0,0)) from hw);have HKs:=hdd hk;clear hw hk)
     |fail)
    go_roundw
    case rel =>
     obtain ⟨ht,hu,hm⟩:=HBT.out;obtain ⟨q1,q2,q3,q4,q5⟩:=HQ.out;have hw0:=HBb.out.size;have hwc:=HBc.out.size;have hxs:=kay (kbh HXc.out (show m+1≤_ from hmw)) HKs.out (fun q hq e=>by have:q=t:=e;omega);refine ⟨3,by omega,by go_num,vn,vt,xv,vh,vr,(HBb.out.next HBc.out).trans (HKs.out.below (HBb.out.next HBc.out).size (fun q hq e=>by have:q=t:=e;omega)),HTs.out,(HKs.out.block u (Nat.lt_of_lt_of_le (kad HUu.out) hwc) (fun e=>by have:u=t:=e;omega)).trans (kab HBc.out (kad HUu.out) HUu.out),(HKs.out.block m (Nat.lt_of_lt_of_le (kad HMm.out) hwc) (fun e=>by have:m=t:=e;omega)).trans (kab HBc.out (kad HMm.out) HMm.out),(q1.below HBc.out).kept HKs.out (fun q hq e=>by have:q=t:=e;omega),(q2.below HBc.out).kept HKs.out (fun q hq e=>by have:q=t:=e;omega),hxs,(q4.below HBc.out).kept HKs.out (fun q hq e=>by have:q=t:=e;omega),(q5.below HBc.out).kept HKs.out (fun q hq e=>by have:q=t:=e;omega)⟩
    case measure=>first|(simp [intOf];done)|(simp [intOf];omega)
   ·have cm:wl.cell? ⟨m,3,none⟩=some (.pointer (some ⟨t,16,none⟩)):=by rw [kaa hM];rfl
    have ct:wl.cell? ⟨t,16,none⟩=some vh:=by rw [kaa hT];rfl
    have HBb:=hdd hb;have HTt:=hdd hT;have HUu:=hdd hU;have HMm:=hdd hM;have HQ:=hdd (And.intro q1 (And.intro q2 (And.intro q3 (And.intro q4 q5))));have HCl:=hdd (C.out wl vh e.sg.H _ q4 hb l4);clear hb hT hU hM q1 q2 q3 q4 q5 hlt
    go_wp2_with (first
     |(go_at_call 136;refine (HCl.out).mono ?_
       rintro en wc ⟨xv,rfl,hw,hbc⟩;have HTc:=bhh hbc HTt;have HXc:=hdd hw;have HBc:=hdd hbc;clear hw hbc)
     |(refine kae rfl 39 _ _ rfl t 16 rfl xv rfl (by obtain ⟨_,_,e⟩:=kag HXc.out;rw [e];rfl) (by obtain ⟨_,_,e⟩:=kag HXc.out;rw [e];rfl) _ 45 HTc.out (by simp) (by kernel_rfl) ?_
       intro ws hw hk;have HTs:=hdd (show ws.heap[t]? = some (.cells (evC e vn vt vs xv vr) 45 (0,0)) from hw);have HKs:=hdd hk;clear hw hk)
     |fail)
    go_roundw
    case rel =>
     obtain ⟨ht,hu,hm⟩:=HBT.out;obtain ⟨q1,q2,q3,q4,q5⟩:=HQ.out;have hw0:=HBb.out.size;have hwc:=HBc.out.size;have hxs:=kay (kbh HXc.out (show m+1≤_ from hmw)) HKs.out (fun q hq e=>by have:q=t:=e;omega);refine ⟨4,by omega,by go_num,vn,vt,vs,xv,vr,(HBb.out.next HBc.out).trans (HKs.out.below (HBb.out.next HBc.out).size (fun q hq e=>by have:q=t:=e;omega)),HTs.out,(HKs.out.block u (Nat.lt_of_lt_of_le (kad HUu.out) hwc) (fun e=>by have:u=t:=e;omega)).trans (kab HBc.out (kad HUu.out) HUu.out),(HKs.out.block m (Nat.lt_of_lt_of_le (kad HMm.out) hwc) (fun e=>by have:m=t:=e;omega)).trans (kab HBc.out (kad HMm.out) HMm.out),(q1.below HBc.out).kept HKs.out (fun q hq e=>by have:q=t:=e;omega),(q2.below HBc.out).kept HKs.out (fun q hq e=>by have:q=t:=e;omega),(q3.below HBc.out).kept HKs.out (fun q hq e=>by have:q=t:=e;omega),hxs,(q5.below HBc.out).kept HKs.out (fun q hq e=>by have:q=t:=e;omega)⟩
    case measure=>first|(simp [intOf];done)|(simp [intOf];omega)
   ·have cm:wl.cell? ⟨m,4,none⟩=some (.pointer (some ⟨t,17,none⟩)):=by rw [kaa hM];rfl
    have ct:wl.cell? ⟨t,17,none⟩=some vr:=by rw [kaa hT];rfl
    have HBb:=hdd hb;have HTt:=hdd hT;have HUu:=hdd hU;have HMm:=hdd hM;have HQ:=hdd (And.intro q1 (And.intro q2 (And.intro q3 (And.intro q4 q5))));have HCl:=hdd (C.out wl vr e.sg.R _ q5 hb l5);clear hb hT hU hM q1 q2 q3 q4 q5 hlt
    go_wp2_with (first
     |(go_at_call 136;refine (HCl.out).mono ?_
       rintro en wc ⟨xv,rfl,hw,hbc⟩;have HTc:=bhh hbc HTt;have HXc:=hdd hw;have HBc:=hdd hbc;clear hw hbc)
     |(refine kae rfl 39 _ _ rfl t 17 rfl xv rfl (by obtain ⟨_,_,e⟩:=kag HXc.out;rw [e];rfl) (by obtain ⟨_,_,e⟩:=kag HXc.out;rw [e];rfl) _ 45 HTc.out (by simp) (by kernel_rfl) ?_
       intro ws hw hk;have HTs:=hdd (show ws.heap[t]? = some (.cells (evC e vn vt vs vh xv) 45 (0,0)) from hw);have HKs:=hdd hk;clear hw hk)
     |fail)
    go_roundw
    case rel =>
     obtain ⟨ht,hu,hm⟩:=HBT.out;obtain ⟨q1,q2,q3,q4,q5⟩:=HQ.out;have hw0:=HBb.out.size;have hwc:=HBc.out.size;have hxs:=kay (kbh HXc.out (show m+1≤_ from hmw)) HKs.out (fun q hq e=>by have:q=t:=e;omega);refine ⟨5,by omega,by go_num,vn,vt,vs,vh,xv,(HBb.out.next HBc.out).trans (HKs.out.below (HBb.out.next HBc.out).size (fun q hq e=>by have:q=t:=e;omega)),HTs.out,(HKs.out.block u (Nat.lt_of_lt_of_le (kad HUu.out) hwc) (fun e=>by have:u=t:=e;omega)).trans (kab HBc.out (kad HUu.out) HUu.out),(HKs.out.block m (Nat.lt_of_lt_of_le (kad HMm.out) hwc) (fun e=>by have:m=t:=e;omega)).trans (kab HBc.out (kad HMm.out) HMm.out),(q1.below HBc.out).kept HKs.out (fun q hq e=>by have:q=t:=e;omega),(q2.below HBc.out).kept HKs.out (fun q hq e=>by have:q=t:=e;omega),(q3.below HBc.out).kept HKs.out (fun q hq e=>by have:q=t:=e;omega),(q4.below HBc.out).kept HKs.out (fun q hq e=>by have:q=t:=e;omega),hxs⟩
    case measure=>first|(simp [intOf];done)|(simp [intOf];omega)
  ·obtain rfl:k=5:=by omega
   have HBb:=hdd hb;have HTt:=hdd hT;have HUu:=hdd hU;have HQ:=hdd (And.intro q1 (And.intro q2 (And.intro q3 (And.intro q4 q5))));obtain ⟨f1,c1,rfl⟩:=kag (show wl.ownsRow (m+1) _ _ _ _ _ from q1);obtain ⟨f2,c2,rfl⟩:=kag (show wl.ownsRow (m+1) _ _ _ _ _ from q2);obtain ⟨f3,c3,rfl⟩:=kag (show wl.ownsRow (m+1) _ _ _ _ _ from q3);obtain ⟨f4,c4,rfl⟩:=kag (show wl.ownsRow (m+1) _ _ _ _ _ from q4);obtain ⟨f5,c5,rfl⟩:=kag (show wl.ownsRow (m+1) _ _ _ _ _ from q5);have HOne:=hdd (evS1 e f1 c1 f2 c2 f3 c3 f4 c4 f5 c5);clear hb hT hU hM q1 q2 q3 q4 q5 hlt hk
   go_wp2_with (first
    |(refine wpList_load_row rfl 45 _ rfl t rfl 45 (evS e f1 c1 f2 c2 f3 c3 f4 c4 f5 c5) (0,0) _ HTt.out rfl rfl (by kernel_rfl) ?_)
    |(refine kac rfl 45 _ _ rfl u rfl (evS e f1 c1 f2 c2 f3 c3 f4 c4 f5 c5) rfl 45 evZ HUu.out (by kernel_rfl) rfl HOne.out ?_
      intro wE hwE hkE;have HWE:=hdd hwE;have HKE:=hdd hkE;clear hwE hkE)
    |fail)
   refine kbv rfl u 45 _ (0,0) _ rfl HWE.out rfl rfl (by kernel_rfl) rfl ?_;obtain ⟨ht,hu,hm⟩:=HBT.out;obtain ⟨q1,q2,q3,q4,q5⟩:=HQ.out;have hS:∀q,m+1≤q→¬ Licit.One u q:=fun q hq e=>by have:q=u:=e;omega
   have hbE:=HBb.out.trans (HKE.out.below HBb.out.size (fun q hq e=>by have:q=u:=e;omega));refine ⟨_,rfl,fun W hW=>?_,hbE⟩;have hsz:=hbE.size;have p1:=kay q1 HKE.out hS;have p2:=kay q2 HKE.out hS;have p3:=kay q3 HKE.out hS;have p4:=kay q4 HKE.out hS;have p5:=kay q5 HKE.out hS;exact HO.out W _ _ _ _ _ (kal p1 fun q hq=>hW q (by have:=(p1.lt q hq).1;omega) (p1.lt q hq).2) (kal p2 fun q hq=>hW q (by have:=(p2.lt q hq).1;omega) (p2.lt q hq).2) (kal p3 fun q hq=>hW q (by have:=(p3.lt q hq).1;omega) (p3.lt q hq).2) (kal p4 fun q hq=>hW q (by have:=(p4.lt q hq).1;omega) (p4.lt q hq).2) (kal p5 fun q hq=>hW q (by have:=(p5.lt q hq).1;omega) (p5.lt q hq).2)
theorem kba.cast {F:Nat→Prop} {v:Value} {e e':Rv.Ev} {w:World} (h:kba F v e w) (he:e=e'):kba F v e' w:=he ▸ h
theorem kba.fresh {F:Nat→Prop} {v:Value} {e:Rv.Ev} {w0 w w':World} {lo:Nat} (h:∀W:World,(∀k,lo≤k→k<w.heap.size→W.heap[k]? = w.heap[k]?)→kcw v e W) (hF:∀q,F q→q<lo) (hb:w0.heap.size≤w.heap.size) (hz:w.heap.size≤w'.heap.size) (hk:∀q,lo≤q→q<w.heap.size→w'.heap[q]? = w.heap[q]?):kba F v e w' :=
 fun W hW=>h W fun q h1 h2=>(hW q (by omega) (fun hf=>by have:=hF q hf;omega)).trans (hk q h1 h2)
section
variable {w:World} {ops:Array Oper} {rest:List Oper} {o:Oper} {a:Act} {Q:Exit→Act→World→Prop} {K:Act→World→Prop} {E:Prop} (hgd:o.guard=none) (s x:Operand) (ho:o.op = .call { callee:=.builtin .append,args:=#[s,x],argTypes:=#[23,23] })
include hgd ho
end
section
variable {w:World} {ops:Array Oper} {rest:List Oper} {o:Oper} {a:Act} {Q:Exit→Act→World→Prop} {K:Act→World→Prop} {E:Prop} (hgd:o.guard=none) (s x:Operand) (ho:o.op = .call { callee:=.builtin .append,args:=#[s,x],argTypes:=#[39,39] })
include hgd ho
end
theorem kly (v:Value) (l:List Rv.Ev) (w:World) (h:kbt v l w) (ht:Tab w) (hlen:∀i,i<l.length→km9 (l.getD i Rv.ev0)):Calls Tryz.prog 21 #[v] w (kdy l w):=by
 have HA:=hdd (kf9 v l w h ht);have HLen:=hdd hlen;have HLe:=hdd h.1;clear h ht hlen
 by_cases hE:(Rv.setE l (Rv.idsOf l)).2=0
 rotate_left
 ·have d1:((Rv.setE l (Rv.idsOf l)).2 == 0)=false:=beq_eq_false_iff_ne.2 hE
  have d2:((Rv.setE l (Rv.idsOf l)).2 != 0)=true:=by rw [bne,d1];rfl
  have HE:=hdd hE;clear hE
  go_enter Tryz.func21,Tryz.ntmps21
  go_wp2_with (first|(go_at_call 66;refine HA.out.mono ?_;intro en w1 hpost;unfold kck at hpost;obtain ⟨hb1,va,rfl,-⟩:=hpost;have HB1:=hdd hb1;clear hb1)|fail)
  have hP:kdy l w (.returned (.tuple #[.slice none 0 0,.int .i64 (Rv.setE l (Rv.idsOf l)).1,.int .i64 (Rv.setE l (Rv.idsOf l)).2])) w1:=by
   unfold kdy;have hne:(Rv.orderE l).2.2≠0:=by rw [kgh];exact HE.out
   refine ⟨_,by rw [kgh],?_,kjq.none,HB1.out⟩;rw [Rv.orderE_nil hne];exact ⟨by simp,.inl ⟨none,0,rfl,rfl⟩⟩
  refine bodyPost_ret (v:=.tuple #[.slice none 0 0,.int .i64 (Rv.setE l (Rv.idsOf l)).1,.int .i64 (Rv.setE l (Rv.idsOf l)).2]) (by simp [results,Tryz.results21,go_sem]) rfl hP
 have HE:=hdd hE;obtain ⟨i0,hi0,hz0,hz1,hz2⟩:=kk7;have Hi:=hdd hi0;have Hz0:=hdd hz0;have Hz1:=hdd hz1;have Hz2:=hdd hz2;clear hi0 hz0 hz1 hz2
 go_enter Tryz.func21,Tryz.ntmps21
 go_upto_region 4 with (first|(go_at_call 66;refine HA.out.mono ?_;intro en w1 hpost;unfold kck at hpost;rw [hE] at hpost;obtain ⟨hb1,va,rfl,hok⟩:=hpost;have HB1:=hdd hb1;have HOK:=hdd (hok rfl);clear hb1 hok)|fail)
 obtain ⟨S,pt,pb,hS,hSl,hown,hnd⟩:=HOK.out;obtain ⟨a,cap,rfl⟩:=kag hown;generalize (Rv.setE l (Rv.idsOf l)).1=e1 at *;obtain ⟨O,hO⟩:∃O,Rv.ordI S (Rv.idsOf l)=O:=⟨_,rfl⟩;have hOl:O.length=l.length:=by rw [←hO,(Rv.ordI_perm S _).length_eq,List.length_range,hSl]
 have hOm:∀i∈O,i<l.length:=fun i hi=>by rw [←hO] at hi;have:=List.mem_range.1 ((Rv.ordI_perm S _).mem_iff.1 hi);omega
 rw [hO] at hown
 have hRes:Rv.orderE l=(O.map (fun i=>l.getD i Rv.ev0),-1,0):=by
  have h1:=(Rv.set_ok.1 HE.out).1;rw [Rv.orderE_ok h1 hS];unfold Rv.sorted;rw [hO]
 have HRes:=hdd hRes;have HOl:=hdd hOl;have HOm:=hdd hOm;have HOwn:=hdd hown;have HNd:=hdd hnd;have hle:=HLe.out;clear hS hSl hown hnd HOK hE hO HA hOl hOm hRes
 go_wp2_with fail
 go_loopw [8,10,23] (fun s8 _ n wr=>∃(k:Nat) (L:List EvX),k≤l.length∧n = .int .i64 k∧L.length=k∧ka2 L=(O.take k).map (fun i=>l.getD i Rv.ev0)∧Below w1.heap.size w1 wr∧ka1 w1.heap.size (Fr s8 NoB) s8 L wr) (fun _ _ n _=>l.length - (intOf n).toNat)
 case atStart=>exact ⟨0,[],Nat.zero_le _,rfl,rfl,rfl,Below.refl _ _,ka1.nil _ _ _⟩
 case round =>
  obtain ⟨k,L,hk,rfl,hLk,hLe,hb,ho⟩:=hrel;have HB:=hdd hb;have HO:=hdd ho;have HLk:=hdd hLk;obtain ⟨a8,c8,rfl⟩:=kag ho.row;have HL:=hdd hLe;clear hb ho hLk hLe
  by_cases hlt:k<l.length
  ·have hol:=HOl.out
   obtain ⟨g0,cv,hve,-,-,-⟩:=kax HOwn.out (by omega);simp only [Value.slice.injEq,true_and] at hve;obtain ⟨rfl,rfl⟩:=hve;have hltO:k<O.length:=by omega
   obtain ⟨i,hi⟩:∃i,O[k]=i:=⟨_,rfl⟩;have hil:i<l.length:=HOm.out i (by rw [←hi];exact List.getElem_mem hltO);have how:=kal HOwn.out (w':=wr) fun q hq=>HB.out.block q (HOwn.out.lt q hq).2
   have cd:wr.cell? ⟨g0,k,none⟩=some (ptr (pt i)):=by
    rw [kce how (by rw [List.length_map];exact hltO),List.getElem?_map,List.getElem?_eq_getElem hltO,hi];rfl
   have cd':wr.cell? ⟨g0,0+k,none⟩=some (ptr (pt i)):=by rw [Nat.zero_add];exact cd
   have htk:O.take (k+1)=O.take k++[i]:=by rw [List.take_succ_eq_append_getElem hltO,hi]
   have HTk:=hdd htk;obtain ⟨row,hr,hn⟩:=HNd.out i hil;have hlen:=HLen.out i hil;obtain ⟨e,hee⟩:∃e,l.getD i Rv.ev0=e:=⟨_,rfl⟩;rw [hee] at hn hlen;have HEe:=hdd hee;have hln:=hn.lt;obtain ⟨⟨na,nc,ta,tc,sa,sc,ha,hc,ra,rc,he,hh⟩,-⟩:=hn;have hh2:=(HB.out.block _ hln.1).trans hh;have HRg:=hdd (keh hh2);have HC:=hdd (fun W (hb:Below wr.heap.size wr W)=>kuu _ _ W (he.below (HB1.out.trans ((HB.out.mono HB1.out.size).trans (hb.mono (Nat.le_trans HB1.out.size HB.out.size))))) hlen);have hnil:pt i<wr.heap.size:=kad hh2;clear how htk hr hln hh he hh2 hi hee hlen hil
   go_wp2_with (first
    |(refine wpList_load_mid rfl 45 _ rfl (pt i) 3 rfl (evS e na nc ta tc sa sc ha hc ra rc).toList _ HRg.out rfl rfl (by kernel_rfl) ?_)
    |(go_at_call 67
      go_loud (
      refine (HC.out _ (Below.refl _ _)).mono ?_;rintro en wc ⟨v',rfl,hcl,hbc⟩;obtain ⟨x,hxe,rfl⟩:=(hcl wc (fun _ _ _=>rfl)).x;have HBc:=hdd hbc;have HXe:=hdd hxe;have HCl:=hdd hcl
      have HSf:=hdd (show kba (Fr (.slice a8 L.length c8) NoB) x.val x.e (wc.alloc (.cells x.arr 45)) from (show kba (Fr (.slice a8 L.length c8) NoB) x.val e (wc.alloc (.cells x.arr 45)) from
       kba.fresh (w0:=wr) HCl.out (fun q hq=>by
        rcases hq with hq|hq
        ·exact (HO.out.row.lt q hq).2
        ·exact hq.elim) HBc.out.size (by simp) (fun q _ hq=>((Below.refl wc.heap.size wc).alloc (Nat.le_refl _) _).block q hq)).cast HXe.out.symm)
      have HOc:=hdd (HO.out.grow ((HBc.out).alloc HBc.out.size (.cells x.arr 45)));clear hcl hbc hxe))
    |(at_builtin
      go_loud (
      refine kcj rfl _ _ rfl (base:=w1.heap.size) (b:=wc.heap.size) (G:=NoB) (L:=L) (X:=x) rfl rfl HOc.out (kai wc (.cells x.arr 45)) HSf.out (by have:=HLk.out;omega) (by have h1:=HB.out.size;have h2:=HBc.out.size;simp;omega) ?_;intro v8 w8 ho8 hg8 hq8;have HO8:=hdd ho8;have HB8:=hdd (show Below w1.heap.size w1 w8 from ((HB.out.next HBc.out).alloc (by have h1:=HB.out.size;have h2:=HBc.out.size;omega) _).grown hg8 (by have h1:=HB.out.size;have h2:=HBc.out.size;simp;omega) (fun q hq=>(HO.out.row.lt q hq).1));clear ho8 hg8 hq8))
    |fail)
   go_roundw
   case rel=>exact ⟨k+1,L++[x],by omega,by go_num,by have:=HLk.out;simp;omega,by rw [khd,HL.out,HTk.out,List.map_append,HXe.out,←HEe.out];rfl,HB8.out,HO8.out⟩
   case measure=>simp [intOf];omega
  ·obtain rfl:k=l.length:=by omega
   have HP:=hdd (show kdy l w (.returned (.tuple #[.slice a8 L.length c8,.int .i64 (-1),.int .i64 0])) wr from by
    unfold kdy;have hol:=HOl.out;rw [HRes.out];refine ⟨_,rfl,?_,kjq.own HO.out.row,HB1.out.next HB.out⟩;have hx:=HO.out.is (by have:=HLk.out;omega);rw [HL.out,List.take_of_length_le (by omega)] at hx;exact hx)
   go_wp2
   refine bodyPost_ret (v:=.tuple #[.slice a8 L.length c8,.int .i64 (-1),.int .i64 0]) (by simp [results,Tryz.results21,go_sem]) rfl HP.out
end Go.Proofs.YtknpbekoenbphaaGreatDoor
