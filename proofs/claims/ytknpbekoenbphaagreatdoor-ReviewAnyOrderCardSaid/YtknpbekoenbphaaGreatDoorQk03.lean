/- Parts of the proofs: ShaRound, ShaPerm. No condition beyond those at each theorem. -/
import Derived.BigRegion
import Derived.Test.YtknpbekoenbphaaGreatDoorQk02
set_option linter.unusedVariables false
set_option linter.unusedSimpArgs false
set_option maxHeartbeats 16000000
set_option maxRecDepth 100000
namespace Go.Proofs.YtknpbekoenbphaaGreatDoor
open Go Go.RowKit Licit Licit.Sha
theorem ksx (s:Sha.St) (c:W64) (w:World) :
 Calls Tryz.prog 247 #[.agg (wA 25 s),.agg kk8.toArray,.int .u64 (c.toNat:Int)] w fun e w'=>e = .returned (.agg (wA 25 (rnd s c)))∧Below w.heap.size w w':=by
 obtain ⟨A,hA⟩:∃A,wA 25 s=A:=⟨_,rfl⟩;obtain ⟨O,hO⟩:∃O,kk8.toArray=O:=⟨_,rfl⟩;rw [hA,hO];have HA:=hdd hA;have HO:=hdd hO;clear hA hO;have hsA:A.size=25:=by rw [←HA.out];exact kar _ _
 have HsA:=hdd hsA;clear hsA
 go_enter Tryz.func247,Tryz.ntmps247
 go_wp2_with (refine wpList_load_row rfl 210 _ rfl w.heap.size rfl 210 A (0,0) _ (kah (kah (kah (kai w _)))) rfl rfl (by rw [HsA.out];kernel_rfl) ?_)
 go_loopw [18] (fun i wr=>∃k:Nat,k≤25∧i = .int .i64 k∧wr.heap[w.heap.size]? = some (.cells A 210)∧wr.heap[w.heap.size+1]? = some (.cells O 278)∧wr.heap[w.heap.size+2]? = some (.cells (wA 25 fun _=>0) 210)∧wr.heap[w.heap.size+3]? = some (.cells (wA 5 (cK s k)) 267)∧Below w.heap.size w wr) (fun i _=>25 - (intOf i).toNat)
 case atStart =>
  refine ⟨0,by omega,rfl,kah (kah (kah (kai w _))),?_,?_,?_,?_⟩
  ·exact kah (kah (kak (by simp) rfl))
  ·exact kah (kak (by simp) rfl)
  ·exact kak (by simp) rfl
  ·exact (((((Below.refl _ _).alloc (Nat.le_refl _) _).alloc (by simp) _).alloc (by simp;omega) _).alloc (by simp;omega) _)
 case round =>
  obtain ⟨k,hk,rfl,h0,h1,h2,h3,hB⟩:=hrel
  by_cases hlt:k<25
  ·have hAk:A[k]? = some (vW (s k)):=by rw [←HA.out];exact kcn s hlt
   have hidx:=kef (P:=Tryz.prog) (t:=210) rfl Tryz.isAgg209 Tryz.sizeOf209 hlt hAk;clear hAk;have hc:wr.cell? ⟨w.heap.size+1+1+1,k % 5,none⟩=some (vW (cK s k (k % 5))):=by rw [kaa h3];exact kcn _ (by omega)
   have hf:=kbm h3 (k % 5);have hm:(k:Int).tmod 5=((k % 5:Nat):Int):=rfl;have hx:=kmq (cK s k (k % 5)) (s k);obtain ⟨V,hV⟩:∃V,cK s k (k % 5) ^^^ s k=V:=⟨_,rfl⟩;rw [hV] at hx;have HV:=hdd hV;clear hV;have H0:=hdd h0;have H1:=hdd h1;have H2:=hdd h2;have H3:=hdd h3;have HB:=hdd hB;clear h0 h1 h2 h3 hB
   go_wp2
   go_roundw
   case rel =>
    refine ⟨k+1,by omega,rfl,kbf H0.out (by simp;omega),kbf H1.out (by simp),kbf H2.out (by simp),?_,?_⟩
    ·have h:=ked H3.out (k % 5) V
     rw [←HV.out] at h;rw [←HV.out];exact h
    ·exact HB.out.setCell (by simp;omega) _
   case measure=>simp [intOf];omega
  ·obtain ⟨w1,rfl⟩:∃w1,w1=wr:=⟨_,rfl⟩
   obtain rfl:k=25:=by omega
   have hn4:=kad h3;have h3:=kem h3 (kzk s);have H0:=hdd h0;have H1:=hdd h1;have H2:=hdd h2;have H3:=hdd h3;have HB:=hdd hB;clear h0 h1 h2 h3 hB
   go_wp2_with (refine wpList_load_row rfl 210 _ rfl w.heap.size rfl 210 A (0,0) _ (kah H0.out) rfl rfl (by rw [HsA.out];kernel_rfl) ?_)
   go_loopw [31] (fun i wx=>∃k:Nat,k≤25∧i = .int .i64 k∧wx.heap[w.heap.size]? = some (.cells A 210)∧wx.heap[w.heap.size+1]? = some (.cells O 278)∧wx.heap[w.heap.size+2]? = some (.cells (wA 25 fun _=>0) 210)∧wx.heap[w.heap.size+3]? = some (.cells (wA 5 (khw s)) 267)∧wx.heap[w1.heap.size]? = some (.cells (wA 25 (mK s k)) 210)∧Below w.heap.size w wx) (fun i _=>25 - (intOf i).toNat)
   case atStart =>
    exact ⟨0,by omega,rfl,kah H0.out,kah H1.out,kah H2.out,kah H3.out,by rw [kxi];exact kak rfl rfl,HB.out.alloc (by omega) _⟩
   case round =>
    obtain ⟨k,hk,rfl,h0,h1,h2,h3,h4,hB⟩:=hrel
    by_cases hlt:k<25
    ·have hAk:A[k]? = some (vW (s k)):=by rw [←HA.out];exact kcn s hlt
     have hidx:=kef (P:=Tryz.prog) (t:=210) rfl Tryz.isAgg209 Tryz.sizeOf209 hlt hAk;clear hAk;obtain ⟨X,hX⟩:∃X,k % 5=X:=⟨_,rfl⟩;obtain ⟨Y,hY⟩:∃Y,k / 5=Y:=⟨_,rfl⟩;obtain ⟨X4,hX4⟩:∃X4,(X+4) % 5=X4:=⟨_,rfl⟩;obtain ⟨X1,hX1⟩:∃X1,(X+1) % 5=X1:=⟨_,rfl⟩;have hm:(k:Int).tmod 5=(X:Int):=by rw [←hX];rfl
     have hq:(k:Int).tdiv 5=(Y:Int):=by rw [←hY];rfl
     have hXl:X<5:=by omega
     have hYl:Y<5:=by omega
     have hs1:IntKind.i64.wrap ((X:Int)+4)=((X+4:Nat):Int):=by rw [IntKind.wrap_i64];omega
     have hs2:IntKind.i64.wrap ((X:Int)+1)=((X+1:Nat):Int):=by rw [IntKind.wrap_i64];omega
     have hm1:(IntKind.i64.wrap ((X:Int)+4)).tmod 5=(X4:Int):=by rw [hs1,←hX4];rfl
     have hm2:(IntKind.i64.wrap ((X:Int)+1)).tmod 5=(X1:Int):=by rw [hs2,←hX1];rfl
     have hX4l:X4<5:=by omega
     have hX1l:X1<5:=by omega
     clear hs1 hs2;have hX4i:(X4:Int)<5:=by omega
     have hX1i:(X1:Int)<5:=by omega
     have hc1:wr.cell? ⟨w.heap.size+1+1+1,X4,none⟩=some (vW (khw s X4)):=by rw [kaa h3];exact kcn _ hX4l
     have hc2:wr.cell? ⟨w.heap.size+1+1+1,X1,none⟩=some (vW (khw s X1)):=by rw [kaa h3];exact kcn _ hX1l
     have ho:wr.cell? ⟨w.heap.size+1,k,none⟩=some (.int .i64 (off k:Int)):=by rw [kaa h1,←HO.out];simpa using koi k hlt
     have hf:=kbm h4 (dst k);obtain ⟨R,hR⟩:∃R,rot (khw s X1) 1=R:=⟨_,rfl⟩;obtain ⟨D,hD⟩:∃D,khw s X4 ^^^ R=D:=⟨_,rfl⟩;obtain ⟨E,hE⟩:∃E,s k ^^^ D=E:=⟨_,rfl⟩;have hx1:=kmq (khw s X4) R;rw [hD] at hx1;have hx2:=kmq (s k) D;rw [hE] at hx2;have hV:kp2 s k=rot E (off k):=by unfold kp2 dif;rw [hX,hX4,hX1,hR,hD,hE]
     have HV:=hdd hV;have HR:=hdd hR;obtain ⟨Z,hZ⟩:∃Z,(2*X+3*Y) % 5=Z:=⟨_,rfl⟩;have hZl:Z<5:=by omega
     have hm3:(2*(X:Int)+3*(Y:Int)).tmod 5=(Z:Int):=by rw [←hZ];rfl
     have hP:(Y:Int)+5*(Z:Int)<25:=by omega
     have hdst:dst k=Y+5*Z:=by unfold dst;rw [hX,hY,hZ]
     rw [hdst] at hf;have hc4:wr.cell? ⟨w1.heap.size,Y+5*Z,none⟩=some (vW (mK s k (Y+5*Z))):=by rw [kaa h4];exact kcn _ (by omega)
     have HDST:=hdd hdst;clear hV hD hE hR hX hY hX4 hX1 hdst hZ;have H0:=hdd h0;have H1:=hdd h1;have H2:=hdd h2;have H3:=hdd h3;have H4:=hdd h4;have HB:=hdd hB;clear h0 h1 h2 h3 h4 hB
     have HROT:∀wy,Calls Tryz.prog 255 #[.int .u64 ((khw s X1).toNat:Int),.int .i64 1] wy fun e w'=>e = .returned (vW R)∧w'=wy:=fun wy =>
      (kfz _ 1 _ (by omega)).mono (fun _ _ h=>⟨by rw [h.1,HR.out],h.2.symm⟩)
     have HROT2:∀wy,Calls Tryz.prog 255 #[.int .u64 (E.toNat:Int),.int .i64 (off k:Int)] wy fun e w'=>e = .returned (vW (kp2 s k))∧w'=wy:=fun wy =>
      (kfz _ _ _ (kwu k)).mono (fun _ _ h=>⟨by rw [h.1,HV.out],h.2.symm⟩)
     have HQ:=hdd HROT;have HQ2:=hdd HROT2;clear HROT HROT2
     go_wp2
     go_quiet ((go_at_call 255;exact Calls.quiet_of_same (HQ.out _)))
     go_wp2_with (go_at_call 255;refine (HQ2.out _).mono ?_;rintro e w2 ⟨rfl,rfl⟩)
     go_roundw
     case rel =>
      have hs4:w1.heap.size≠w.heap.size∧w1.heap.size≠w.heap.size+1∧w1.heap.size≠w.heap.size+2∧w1.heap.size≠w.heap.size+3:=by omega
      refine ⟨k+1,by omega,rfl,kbf H0.out (by show _≠w1.heap.size;omega),kbf H1.out (by show _≠w1.heap.size;omega),kbf H2.out (by show _≠w1.heap.size;omega),kbf H3.out (by show _≠w1.heap.size;omega),?_,?_⟩
      ·refine kem (ked H4.out (Y+5*Z) (kp2 s k)) ?_
       rw [←HDST.out];exact kw7 s k hlt
      ·have hBq:Below w.heap.size w (wr.drewN nq):=⟨HB.out.os,HB.out.tape,HB.out.output,HB.out.size,HB.out.block⟩
       refine hBq.setCell ?_ _;show w.heap.size≤w1.heap.size;omega
     case measure=>simp [intOf];omega
    ·obtain ⟨w2,rfl⟩:∃w2,w2=wr:=⟨_,rfl⟩
     obtain rfl:k=25:=by omega
     have hn4':=kad h4;have h4:=kem h4 (fun p _=>kzj s p);rw [←HA.out,←kyi (mv s) s] at h0;have H0:=hdd h0;have H2:=hdd h2;have H4:=hdd h4;have HB:=hdd hB;clear h0 h1 h2 h3 h4 hB
     go_wp2
     go_loopw [69] (fun i wx=>∃k:Nat,k≤25∧i = .int .i64 k∧wx.heap[w.heap.size]? = some (.cells (wA 25 (oK (mv s) s k)) 210)∧wx.heap[w.heap.size+2]? = some (.cells (wA 25 fun _=>0) 210)∧wx.heap[w1.heap.size]? = some (.cells (wA 25 (mv s)) 210)∧Below w.heap.size w wx) (fun i _=>25 - (intOf i).toNat)
     case atStart=>exact ⟨0,by omega,rfl,H0.out,H2.out,H4.out,HB.out⟩
     case round =>
      obtain ⟨k,hk,rfl,h0,h2,h4,hB⟩:=hrel
      by_cases hlt:k<25
      ·obtain ⟨X,hX⟩:∃X,k % 5=X:=⟨_,rfl⟩
       obtain ⟨X2,hX2⟩:∃X2,(k+2) % 5=X2:=⟨_,rfl⟩;obtain ⟨X1,hX1⟩:∃X1,(k+1) % 5=X1:=⟨_,rfl⟩;have hXl:X<5:=by omega
       have hX2l:X2<5:=by omega
       have hX1l:X1<5:=by omega
       have hm:(k:Int).tmod 5=(X:Int):=by rw [←hX];rfl
       have hs1:IntKind.i64.wrap ((k:Int)+1)=((k+1:Nat):Int):=by rw [IntKind.wrap_i64];omega
       have hs2:IntKind.i64.wrap ((k:Int)+2)=((k+2:Nat):Int):=by rw [IntKind.wrap_i64];omega
       have hm1:(IntKind.i64.wrap ((k:Int)+1)).tmod 5=(X1:Int):=by rw [hs1,←hX1];rfl
       have hm2:(IntKind.i64.wrap ((k:Int)+2)).tmod 5=(X2:Int):=by rw [hs2,←hX2];rfl
       clear hs1 hs2;obtain ⟨r,hr⟩:∃r,k - X=r:=⟨_,rfl⟩;have hrr:(k:Int) - (X:Int)=(r:Int):=by omega
       have hrl:r<21:=by omega
       have hr1:IntKind.i64.wrap ((r:Int)+(X1:Int))=((r+X1:Nat):Int):=by rw [IntKind.wrap_i64];omega
       have hr2:IntKind.i64.wrap ((r:Int)+(X2:Int))=((r+X2:Nat):Int):=by rw [IntKind.wrap_i64];omega
       obtain ⟨P1,hP1⟩:∃P1,r+X1=P1:=⟨_,rfl⟩;obtain ⟨P2,hP2⟩:∃P2,r+X2=P2:=⟨_,rfl⟩;rw [hP1] at hr1;rw [hP2] at hr2;have hkl:(k:Int)<25:=by omega
       have hP1l:(P1:Int)<25:=by omega
       have hP2l:(P2:Int)<25:=by omega
       have hc0:wr.cell? ⟨w1.heap.size,k,none⟩=some (vW (mv s k)):=by rw [kaa h4];exact kcn _ hlt
       have hc1:wr.cell? ⟨w1.heap.size,P1,none⟩=some (vW (mv s P1)):=by rw [kaa h4];exact kcn _ (by omega)
       have hc2:wr.cell? ⟨w1.heap.size,P2,none⟩=some (vW (mv s P2)):=by rw [kaa h4];exact kcn _ (by omega)
       have hc3:wr.cell? ⟨w.heap.size,k,none⟩=some (vW (oK (mv s) s k k)):=by rw [kaa h0];exact kcn _ hlt
       have hf:=kbm h0 k;obtain ⟨N1,hN1⟩:∃N1,~~~ mv s P1=N1:=⟨_,rfl⟩;obtain ⟨D,hD⟩:∃D,N1 &&& mv s P2=D:=⟨_,rfl⟩;obtain ⟨V,hV⟩:∃V,mv s k ^^^ D=V:=⟨_,rfl⟩;have hx1:=k0z (mv s P1);rw [hN1] at hx1;have hx2:=k02 N1 (mv s P2);rw [hD] at hx2;have hx3:=kmq (mv s k) D;rw [hV] at hx3
       have hVV:chi (mv s) k=V:=by
        have e1:(k+1) % 5=X1:=hX1;have e2:(k+2) % 5=X2:=hX2;unfold chi;rw [hX,e1,e2,hr,hP1,hP2,hN1,hD,hV]
       have HV:=hdd hVV;clear hN1 hD hV hVV;have H0:=hdd h0;have H2:=hdd h2;have H4:=hdd h4;have HB:=hdd hB;have HX:=hdd hX;have HX1:=hdd hX1;have HX2:=hdd hX2;have HP1:=hdd hP1;have HP2:=hdd hP2;have Hr:=hdd hr;clear h0 h2 h4 hB hX hX1 hX2 hP1 hP2 hr
       go_wp2
       go_still_tail 22,(by kernel_rfl)
       change wpList _ _ _ _ _ wr.drew
       go_wp2
       go_roundw
       case rel =>
        have hBq:Below w.heap.size w (wr.setCell ⟨w.heap.size,k,none⟩ (vW V)):=HB.out.setCell (Nat.le_refl _) _;refine ⟨_,_,_,⟨k+1,by omega,rfl,?_,?_,?_,?_⟩,rfl,rfl,rfl⟩
        ·have h:=ked H0.out k V
         rw [←HV.out,kxt] at h;rw [←HV.out];exact h
        ·exact kbf (p:=⟨w.heap.size,k,none⟩) H2.out (by show _≠w.heap.size;omega)
        ·exact kbf (p:=⟨w.heap.size,k,none⟩) H4.out (by show _≠w.heap.size;omega)
        ·exact ⟨hBq.os,hBq.tape,hBq.output,hBq.size,hBq.block⟩
       case measure=>simp [intOf];omega
      ·obtain ⟨w3,rfl⟩:∃w3,w3=wr:=⟨_,rfl⟩
       obtain rfl:k=25:=by omega
       have hc0:w3.cell? ⟨w.heap.size,0,none⟩=some (vW (oK (mv s) s 25 0)):=by rw [kaa h0];exact kcn _ (by omega)
       have hf:=kbm h0 0;have hx:=kmq (oK (mv s) s 25 0) c;have hr:=ked h0 0 (oK (mv s) s 25 0 ^^^ c);have hr:=kem hr (kxw s s c);have hr2:=kbf (p:=⟨w.heap.size,0,none⟩) (v:=vW (oK (mv s) s 25 0 ^^^ c)) h2 (by show _≠w.heap.size;omega);have hBq:Below w.heap.size w (w3.setCell ⟨w.heap.size,0,none⟩ (vW (oK (mv s) s 25 0 ^^^ c))):=hB.setCell (Nat.le_refl _) _;have HR:=hdd hr;have HR2:=hdd hr2;have HB:=hdd hBq;clear h0 h2 h4 hB hr hr2 hBq
       go_wp2_with (first
        |(refine wpList_load_row rfl 210 _ rfl w.heap.size rfl 210 (wA 25 (rnd s c)) (0,0) _ HR.out rfl rfl (by rw [kar];kernel_rfl) ?_)
        |(refine ka8 rfl 210 _ _ rfl (w.heap.size+2) rfl (wA 25 (rnd s c)) rfl 210 _ HR2.out (by rw [kar];kernel_rfl) (by rw [kar,kar]) (kd3 _ _) ?_))
       refine kbv rfl (w.heap.size+2) 210 _ (0,0) _ rfl (kf0 HR2.out) rfl rfl (by rw [kar];kernel_rfl) rfl ?_;exact ⟨rfl,Below.setRow' HB.out (by omega) _⟩
theorem krg:kk8.toArray.all (·.oneCell')=true:=by kernel_rfl
theorem knd (s:Sha.St) (w:World) :
 Calls Tryz.prog 233 #[.agg (wA 25 s)] w fun e w'=>e = .returned (.agg (wA 25 (k1e s)))∧Below w.heap.size w w':=by
 obtain ⟨A,hA⟩:∃A,wA 25 s=A:=⟨_,rfl⟩;obtain ⟨C,hC⟩:∃C,kr1.toArray=C:=⟨_,rfl⟩;obtain ⟨O,hO⟩:∃O,kk8.toArray=O:=⟨_,rfl⟩;have HOff:=hdd (fun w=>km6 w);have HCon:=hdd (fun w=>kky w);rw [hC] at HCon;rw [hO] at HOff;have hOs:(Tryz.prog.info? 278).map (·.size)=some O.size:=by rw [←hO];kernel_rfl
 have hO1:O.all (·.oneCell')=true:=by rw [←hO];exact krg
 have hO2:O.size=25:=by rw [←hO];rfl
 rw [hA];have HA:=hdd hA;have HC:=hdd hC;have HO:=hdd hO;have HOs:=hdd hOs;have HO1:=hdd hO1;have HO2:=hdd hO2;have hsA:A.size=25:=by rw [←HA.out];exact kar _ _
 have HsA:=hdd hsA;clear hA hC hO hsA hOs hO1 hO2
 go_enter Tryz.func233,Tryz.ntmps233
 go_wp2_with fail
 go_at_call 245
 refine (HOff.out _).mono ?_;rintro e w1 ⟨rfl,hb⟩;have h0:=kab hb (k:=w.heap.size) (by simp;omega) (kah (kai w (.cells A 210)));have h1:=kab hb (k:=w.heap.size+1) (o:=.cells (wA 25 fun _=>0) 210) (by simp) (kak (by simp) rfl);have hB:=(((Below.refl w.heap.size w).alloc (Nat.le_refl _) (.cells A 210)).alloc (by simp) _).trans (hb.mono (by simp;omega));have hz:w.heap.size+1<w1.heap.size:=kad h1;have H0:=hdd h0;have H1:=hdd h1;have HB:=hdd hB;clear h0 h1 hB hb
 go_wp2_with (first
  |(go_at_call 246;refine (HCon.out _).mono ?_;rintro e w2 ⟨rfl,hb2⟩;have Hb2:=hdd hb2;clear hb2)
  |(refine ka8 rfl 278 _ _ rfl w1.heap.size rfl O rfl 278 _ (kak rfl rfl) HOs.out (by rw [HO2.out];kernel_rfl) HO1.out ?_))
 have H0:=hdd ((kab Hb2.out (k:=w.heap.size) (by simp;omega) (kgl (kah H0.out) (by omega))));have H1:=hdd ((kab Hb2.out (k:=w.heap.size+1) (by simp;omega) (kgl (kah H1.out) (by omega))));have H3:=hdd ((kab Hb2.out (k:=w1.heap.size) (by simp) (kf0 (kai _ _))));have HB2:=hdd (((HB.out.alloc (by omega) _).setRow' (by omega) O).trans (Hb2.out.mono (by simp;omega)));clear Hb2
 go_loopw [8] (fun i wr=>∃k:Nat,k≤24∧i = .int .i64 k∧wr.heap[w.heap.size]? = some (.cells (wA 25 (kmr s k)) 210)∧wr.heap[w.heap.size+1]? = some (.cells (wA 25 fun _=>0) 210)∧wr.heap[w1.heap.size]? = some (.cells O 278)∧Below w.heap.size w wr) (fun i _=>24 - (intOf i).toNat)
 case atStart=>exact ⟨0,by omega,rfl,by rw [show kmr s 0=s from rfl,HA.out];exact H0.out,H1.out,H3.out,HB2.out⟩
 case round =>
  obtain ⟨k,hk,rfl,h0,h1,h3,hB⟩:=hrel;have G0:=hdd h0;have G1:=hdd h1;have G3:=hdd h3;have GB:=hdd hB;clear h0 h1 h3 hB
  by_cases hlt:k<24
  ·have hCk:C[k]? = some (vW (con k)):=by rw [←HC.out];simpa using koq k hlt
   have hidx:=kef (P:=Tryz.prog) (t:=280) rfl Tryz.isAgg209 Tryz.sizeOf209 hlt hCk;clear hCk;have HR:=hdd (fun w=>ksx (kmr s k) (con k) w);rw [HO.out] at HR
   go_wp2_with (first
    |(refine wpList_load_row rfl 210 _ rfl w.heap.size rfl 210 _ (0,0) _ G0.out rfl rfl (by rw [kar];kernel_rfl) ?_)
    |(refine wpList_load_row rfl 278 _ rfl w1.heap.size rfl 278 O (0,0) _ G3.out rfl rfl HOs.out ?_)
    |(go_at_call 247;refine (HR.out _).mono ?_;rintro e w3 ⟨rfl,hb3⟩;have Hb3:=hdd hb3;clear hb3)
    |(refine ka8 rfl 210 _ _ rfl w.heap.size rfl _ rfl 210 _ (kab Hb3.out (kad G0.out) G0.out) (by rw [kar];kernel_rfl) (by rw [kar,kar]) (kd3 _ _) ?_))
   go_roundw
   case rel =>
    refine ⟨k+1,by omega,by go_num,kf0 (kab Hb3.out (kad G0.out) G0.out),kgl (kab Hb3.out (kad G1.out) G1.out) (by omega),kgl (kab Hb3.out (kad G3.out) G3.out) (by omega),?_⟩;exact (GB.out.trans (Hb3.out.mono GB.out.size)).setRow' (Nat.le_refl _) _
   case measure=>simp [intOf];omega
  ·obtain rfl:k=24:=by omega
   go_wp2_with (first
    |(refine wpList_load_row rfl 210 _ rfl w.heap.size rfl 210 _ (0,0) _ G0.out rfl rfl (by rw [kar];kernel_rfl) ?_)
    |(refine ka8 rfl 210 _ _ rfl (w.heap.size+1) rfl _ rfl 210 _ G1.out (by rw [kar];kernel_rfl) (by rw [kar,kar]) (kd3 _ _) ?_))
   refine kbv rfl (w.heap.size+1) 210 _ (0,0) _ rfl (kf0 G1.out) rfl rfl (by rw [kar];kernel_rfl) rfl ?_;exact ⟨rfl,Below.setRow' GB.out (by omega) _⟩
end Go.Proofs.YtknpbekoenbphaaGreatDoor
