/- Parts of the proofs: ShaRoundR, ShaPermR, FrmBytes. No condition beyond those at each theorem. -/
import Derived.ArgAppend
import Derived.Deep.RegionLaw
import Derived.Lib.ConvBytes
import Derived.Test.YtknpbekoenbphaaGreatDoorQk04
set_option linter.unusedVariables false
set_option linter.unusedSimpArgs false
set_option maxHeartbeats 16000000
set_option maxRecDepth 100000
namespace Go.Proofs.YtknpbekoenbphaaGreatDoor
open Go Go.RowKit Licit Licit.Sha
theorem ko9 (s:Sha.St) (c:W64) (w:World) :
 Calls Tryz.prog 205 #[.agg (wA 25 s),.int .u64 (c.toNat:Int)] w fun e w'=>e = .returned (.agg (wA 25 (rnd s c)))∧Below w.heap.size w w':=by
 obtain ⟨A,hA⟩:∃A,wA 25 s=A:=⟨_,rfl⟩;rw [hA];have HA:=hdd hA;clear hA;have hsA:A.size=25:=by rw [←HA.out];exact kar _ _
 have HsA:=hdd hsA;clear hsA
 go_enter Tryz.func205,Tryz.ntmps205
 go_wp2
 go_loopw [6] (fun i wr=>∃k:Nat,k≤5∧i = .int .i64 k∧wr.heap[w.heap.size]? = some (.cells A 210)∧wr.heap[w.heap.size+1]? = some (.cells (wA 25 fun _=>0) 210)∧wr.heap[w.heap.size+2]? = some (.cells (wA 5 (sK s k)) 267)∧Below w.heap.size w wr) (fun i _=>5 - (intOf i).toNat)
 case atStart =>
  refine ⟨0,by omega,rfl,kah (kah (kai w _)),?_,?_,?_⟩
  ·exact kah (kak (by simp) rfl)
  ·exact kak (by simp) rfl
  ·exact ((((Below.refl _ _).alloc (Nat.le_refl _) _).alloc (by simp) _).alloc (by simp;omega) _)
 case round =>
  obtain ⟨k,hk,rfl,h0,h1,h2,hB⟩:=hrel
  by_cases hlt:k<5
  ·have hat:∀i,i<25→wr.cell? ⟨w.heap.size,i,none⟩=some (vW (s i)):=fun i hi=>by rw [kaa h0,←HA.out];exact kcn s hi
   obtain ⟨P5,hP5⟩:∃P5,k+5=P5:=⟨_,rfl⟩;obtain ⟨P10,hP10⟩:∃P10,k+10=P10:=⟨_,rfl⟩;obtain ⟨P15,hP15⟩:∃P15,k+15=P15:=⟨_,rfl⟩;obtain ⟨P20,hP20⟩:∃P20,k+20=P20:=⟨_,rfl⟩;have hw5:IntKind.i64.wrap ((k:Int)+5)=(P5:Int):=by rw [IntKind.wrap_i64];omega
   have hw10:IntKind.i64.wrap ((k:Int)+10)=(P10:Int):=by rw [IntKind.wrap_i64];omega
   have hw15:IntKind.i64.wrap ((k:Int)+15)=(P15:Int):=by rw [IntKind.wrap_i64];omega
   have hw20:IntKind.i64.wrap ((k:Int)+20)=(P20:Int):=by rw [IntKind.wrap_i64];omega
   have hki:(k:Int)<5:=by omega
   have hki25:(k:Int)<25:=by omega
   have hi5:(P5:Int)<25:=by omega
   have hi10:(P10:Int)<25:=by omega
   have hi15:(P15:Int)<25:=by omega
   have hi20:(P20:Int)<25:=by omega
   have hc0:=hat k (by omega);have hc5:=hat P5 (by omega);have hc10:=hat P10 (by omega);have hc15:=hat P15 (by omega);have hc20:=hat P20 (by omega);have hcs:wr.cell? ⟨w.heap.size+1+1,k,none⟩=some (vW (sK s k k)):=by rw [kaa h2];exact kcn _ hlt
   have hf:=kbm h2 k;have hx5:=kmq (s k) (s P5);obtain ⟨T1,hT1⟩:∃T,s k ^^^ s P5=T:=⟨_,rfl⟩;rw [hT1] at hx5;have hx10:=kmq T1 (s P10);obtain ⟨T2,hT2⟩:∃T,T1 ^^^ s P10=T:=⟨_,rfl⟩;rw [hT2] at hx10;have hx15:=kmq T2 (s P15);obtain ⟨T3,hT3⟩:∃T,T2 ^^^ s P15=T:=⟨_,rfl⟩;rw [hT3] at hx15;have hx20:=kmq T3 (s P20);obtain ⟨T4,hT4⟩:∃T,T3 ^^^ s P20=T:=⟨_,rfl⟩;rw [hT4] at hx20;have hsum:khw s k=T4:=by unfold khw;rw [hP5,hP10,hP15,hP20,hT1,hT2,hT3,hT4]
   have HSum:=hdd hsum;have H0:=hdd h0;have H1:=hdd h1;have H2:=hdd h2;have HB:=hdd hB;clear hat hP5 hP10 hP15 hP20 hT1 hT2 hT3 hT4 hsum h0 h1 h2 hB
   go_wp2
   go_still_tail 25,(by kernel_rfl)
   change wpList _ _ _ _ _ wr.drew
   go_wp2
   go_roundw
   case rel =>
    have hBq:Below w.heap.size w wr.drew:=⟨HB.out.os,HB.out.tape,HB.out.output,HB.out.size,HB.out.block⟩;refine ⟨k+1,by omega,by go_num,?_,?_,?_,?_⟩
    ·exact kbf (p:=⟨w.heap.size+1+1,k,none⟩) H0.out (by show _≠w.heap.size+2;omega)
    ·exact kbf (p:=⟨w.heap.size+1+1,k,none⟩) H1.out (by show _≠w.heap.size+2;omega)
    ·have h:=ked H2.out k T4
     rw [←HSum.out,kxq] at h;rw [←HSum.out];exact h
    ·exact hBq.setCell (p:=⟨w.heap.size+1+1,k,none⟩) (by show _≤w.heap.size+2;omega) _
   case measure=>simp [intOf];omega
  ·obtain ⟨w1,rfl⟩:∃w1,w1=wr:=⟨_,rfl⟩
   obtain rfl:k=5:=by omega
   have hn3:=kad h2;have h2:=kem h2 (kz3 s);have H0:=hdd h0;have H1:=hdd h1;have H2:=hdd h2;have HB:=hdd hB;clear h0 h1 h2 hB
   go_wp2
   go_loopw [8] (fun i wx=>∃k:Nat,k≤5∧i = .int .i64 k∧wx.heap[w.heap.size]? = some (.cells A 210)∧wx.heap[w.heap.size+1]? = some (.cells (wA 25 fun _=>0) 210)∧wx.heap[w.heap.size+2]? = some (.cells (wA 5 (khw s)) 267)∧wx.heap[w1.heap.size]? = some (.cells (wA 25 (mR s (5*k+0))) 210)∧Below w.heap.size w wx) (fun i _=>5 - (intOf i).toNat)
   case atStart =>
    exact ⟨0,by omega,rfl,kah H0.out,kah H1.out,kah H2.out,by rw [kyj];exact kak rfl rfl,HB.out.alloc (by omega) _⟩
   case round =>
    obtain ⟨w2,rfl⟩:∃w2,w2=wr:=⟨_,rfl⟩;obtain ⟨X,hk,rfl,h0,h1,h2,h3,hB⟩:=hrel
    by_cases hlt:X<5
    ·obtain ⟨X4,hX4⟩:∃X4,(X+4) % 5=X4:=⟨_,rfl⟩
     obtain ⟨X1,hX1⟩:∃X1,(X+1) % 5=X1:=⟨_,rfl⟩;have hs1:IntKind.i64.wrap ((X:Int)+4)=((X+4:Nat):Int):=by rw [IntKind.wrap_i64];omega
     have hs2:IntKind.i64.wrap ((X:Int)+1)=((X+1:Nat):Int):=by rw [IntKind.wrap_i64];omega
     have hm1:(IntKind.i64.wrap ((X:Int)+4)).tmod 5=(X4:Int):=by rw [hs1,←hX4];rfl
     have hm2:(IntKind.i64.wrap ((X:Int)+1)).tmod 5=(X1:Int):=by rw [hs2,←hX1];rfl
     clear hs1 hs2;have hX4l:X4<5:=by omega
     have hX1l:X1<5:=by omega
     have hX4i:(X4:Int)<5:=by omega
     have hX1i:(X1:Int)<5:=by omega
     have hw4:IntKind.i64.wrap (X4:Int)=(X4:Int):=by rw [IntKind.wrap_i64];omega
     have hw1:IntKind.i64.wrap (X1:Int)=(X1:Int):=by rw [IntKind.wrap_i64];omega
     have hc1:w2.cell? ⟨w.heap.size+1+1,X4,none⟩=some (vW (khw s X4)):=by rw [kaa h2];exact kcn _ hX4l
     have hc2:w2.cell? ⟨w.heap.size+1+1,X1,none⟩=some (vW (khw s X1)):=by rw [kaa h2];exact kcn _ hX1l
     obtain ⟨R,hR⟩:∃R,rot (khw s X1) 1=R:=⟨_,rfl⟩;obtain ⟨D,hD⟩:∃D,khw s X4 ^^^ R=D:=⟨_,rfl⟩;have hx1:=kmq (khw s X4) R;rw [hD] at hx1;have hdif:dif s X=D:=by unfold dif;rw [hX4,hX1,hR,hD]
     have HDif:=hdd hdif;have HR:=hdd hR
     have HROT:∀wy,Calls Tryz.prog 234 #[.int .u64 ((khw s X1).toNat:Int),.int .i64 1] wy fun e w'=>e = .returned (vW R)∧w'=wy:=fun wy =>
      (ktb _ 1 _ (by omega)).mono (fun _ _ h=>⟨by rw [h.1,HR.out],h.2.symm⟩)
     have HQ:=hdd HROT;have H0:=hdd h0;have H1:=hdd h1;have H2:=hdd h2;have H3:=hdd h3;have HB:=hdd hB;clear HROT hR hD hdif hX4 hX1 h0 h1 h2 h3 hB
     go_wp2
     go_quiet ((go_at_call 234;exact Calls.quiet_of_same (HQ.out _)))
     go_wp2
     have hBq:Below w.heap.size w (w2.drewN nq):=⟨HB.out.os,HB.out.tape,HB.out.output,HB.out.size,HB.out.block⟩;have HBq:=hdd hBq;clear hBq
     go_loopw [10] (fun i wx=>∃k:Nat,k≤5∧i = .int .i64 k∧wx.heap[w.heap.size]? = some (.cells A 210)∧wx.heap[w.heap.size+1]? = some (.cells (wA 25 fun _=>0) 210)∧wx.heap[w.heap.size+2]? = some (.cells (wA 5 (khw s)) 267)∧wx.heap[w1.heap.size]? = some (.cells (wA 25 (mR s (5*X+k))) 210)∧Below w.heap.size w wx) (fun i _=>5 - (intOf i).toNat)
     case atStart=>exact ⟨0,by omega,rfl,H0.out,H1.out,H2.out,H3.out,HBq.out⟩
     case round =>
      obtain ⟨Y,hk,rfl,h0,h1,h2,h3,hB⟩:=hrel
      by_cases hly:Y<5
      ·obtain ⟨X2,hX2⟩:∃n,2*X=n:=⟨_,rfl⟩
       obtain ⟨Y3,hY3⟩:∃n,3*Y=n:=⟨_,rfl⟩;obtain ⟨S,hS⟩:∃n,X2+Y3=n:=⟨_,rfl⟩;obtain ⟨Z,hZ⟩:∃n,S % 5=n:=⟨_,rfl⟩;obtain ⟨Z5,hZ5⟩:∃n,5*Z=n:=⟨_,rfl⟩;obtain ⟨P,hP⟩:∃n,Y+Z5=n:=⟨_,rfl⟩;obtain ⟨Y5,hY5⟩:∃n,5*Y=n:=⟨_,rfl⟩;obtain ⟨N,hN⟩:∃n,X+Y5=n:=⟨_,rfl⟩;have e1:IntKind.i64.wrap (2*(X:Int))=(X2:Int):=by rw [IntKind.wrap_i64];omega
       have e2:IntKind.i64.wrap (3*(Y:Int))=(Y3:Int):=by rw [IntKind.wrap_i64];omega
       have e3:IntKind.i64.wrap ((X2:Int)+(Y3:Int))=(S:Int):=by rw [IntKind.wrap_i64];omega
       have e4:(S:Int).tmod 5=(Z:Int):=by rw [←hZ];rfl
       have e4':IntKind.i64.wrap (Z:Int)=(Z:Int):=by rw [IntKind.wrap_i64];omega
       have e5:IntKind.i64.wrap (5*(Z:Int))=(Z5:Int):=by rw [IntKind.wrap_i64];omega
       have e6:IntKind.i64.wrap ((Y:Int)+(Z5:Int))=(P:Int):=by rw [IntKind.wrap_i64];omega
       have e7:IntKind.i64.wrap (5*(Y:Int))=(Y5:Int):=by rw [IntKind.wrap_i64];omega
       have e8:IntKind.i64.wrap ((X:Int)+(Y5:Int))=(N:Int):=by rw [IntKind.wrap_i64];omega
       have hPl:P<25:=by omega
       have hNl:N<25:=by omega
       have hPi:(P:Int)<25:=by omega
       have hNi:(N:Int)<25:=by omega
       have hlyi:(Y:Int)<5:=by omega
       have hcs:wr.cell? ⟨w.heap.size,N,none⟩=some (vW (s N)):=by rw [kaa h0,←HA.out];exact kcn s hNl
       have hw1l:w1.heap.size<wr.heap.size:=kad h3;obtain ⟨E,hE⟩:∃E,s N ^^^ D=E:=⟨_,rfl⟩;have hx2:=kmq (s N) D;rw [hE] at hx2;have hN5:X+5*Y=N:=by omega
       have hV:kp2 s N=rot E (off N):=by rw [←hN5,kxs _ _ _ hlt,HDif.out,hN5,hE]
       have hdst:dst N=P:=by rw [←hN5,kz1 _ _ hlt];omega
       have hstep:=kx2 s X Y hlt hly;rw [hN5,hdst] at hstep
       have hOff:∀wy,Calls Tryz.prog 235 #[.int .i64 (X:Int),.int .i64 (Y:Int)] wy fun e w'=>e = .returned (.int .i64 (off N:Int))∧Below wy.heap.size wy w':=by
        intro wy
        have:=kpj X Y wy hlt hly
        rw [hN5] at this;exact this
       have HV:=hdd hV
       have HROT2:∀wy,Calls Tryz.prog 234 #[.int .u64 (E.toNat:Int),.int .i64 (off N:Int)] wy fun e w'=>e = .returned (vW (kp2 s N))∧wy=w':=fun wy =>
        (ktb _ _ _ (kwu N)).mono (fun _ _ h=>⟨by rw [h.1,HV.out],h.2⟩)
       have HQ2:=hdd HROT2;have HO2:=hdd hOff;have HST:=hdd hstep;have hn4:w.heap.size<wr.heap.size:=kad h0;have hne1:¬ w1.heap.size=w.heap.size:=by omega
       have hne2:¬ w.heap.size=w1.heap.size:=by omega
       have H0:=hdd h0;have H1:=hdd h1;have H2:=hdd h2;have H3:=hdd h3;have HB:=hdd hB;clear hX2 hY3 hS hZ hZ5 hP hY5 hN hE hN5 hV hdst hstep hOff HROT2 h0 h1 h2 h3 hB
       go_wp2
       go_region_held3 (fun W=>W.cell? ⟨w.heap.size,N,none⟩=some (vW (s N)))
        (first|go_keep)
        (first
          |(go_at_call 235;refine (HO2.out _).mono ?_;rintro e wa ⟨rfl,hbA⟩;have hcA:=(hbA.cell (p:=⟨w.heap.size,N,none⟩) hn4).trans hcs;have hG3:=kab hbA hw1l H3.out;have hcM:wa.cell? ⟨w1.heap.size,P,none⟩=some (vW (mR s (5*X+Y) P)):=(by rw [kaa hG3];exact kcn _ hPl);have hfM:=kbm hG3 P;have HBA:=hdd hbA;have HG3:=hdd hG3;clear hbA hG3)
          |(go_at_call 234;refine (HQ2.out _).mono ?_;rintro e wB ⟨rfl,rfl⟩))
       all_goals
        go_wp2
        go_roundw
        case rel =>
         have hdr:Below w.heap.size w wr.drew:=⟨HB.out.os,HB.out.tape,HB.out.output,HB.out.size,HB.out.block⟩;have hba:Below w.heap.size w wa:=hdr.trans (HBA.out.mono (Nat.le_of_lt hn4));refine ⟨Y+1,by omega,by go_num,?_,?_,?_,?_,?_⟩
         ·exact kbf (p:=⟨w1.heap.size,P,none⟩) (kab HBA.out hn4 H0.out) hne2
         ·exact kbf (p:=⟨w1.heap.size,P,none⟩) (kab HBA.out (kad H1.out) H1.out) (by show _≠w1.heap.size;omega)
         ·exact kbf (p:=⟨w1.heap.size,P,none⟩) (kab HBA.out (kad H2.out) H2.out) (by show _≠w1.heap.size;omega)
         ·exact kem (ked HG3.out P (kp2 s N)) HST.out
         ·exact hba.setCell (p:=⟨w1.heap.size,P,none⟩) (by show _≤w1.heap.size;omega) _
        case measure=>simp [intOf];omega
      ·obtain rfl:Y=5:=by omega
       have H0:=hdd h0;have H1:=hdd h1;have H2:=hdd h2;have H3:=hdd h3;have HB:=hdd hB;clear h0 h1 h2 h3 hB
       go_wp2
       go_roundw
       case rel=>first|exact ⟨X+1,by omega,by go_num,H0.out,H1.out,H2.out,H3.out,HB.out⟩|((repeat apply Exists.intro);exact ⟨⟨X+1,by omega,by go_num,H0.out,H1.out,H2.out,H3.out,HB.out⟩,rfl⟩)|((repeat apply Exists.intro);exact ⟨⟨X+1,by omega,by go_num,H0.out,H1.out,H2.out,H3.out,HB.out⟩,rfl,rfl⟩)|((repeat apply Exists.intro);exact ⟨⟨X+1,by omega,by go_num,H0.out,H1.out,H2.out,H3.out,HB.out⟩,rfl,rfl,rfl⟩)
       case measure=>simp [intOf];omega
    ·obtain rfl:X=5:=by omega
     have hn3':=kad h3;have h3:=kem h3 (fun p _=>kzy s p);have H1:=hdd h1;have H3:=hdd h3;have HB:=hdd hB;clear h0 h1 h2 h3 hB
     go_wp2
     go_loopw [12] (fun i wx=>∃k:Nat,k≤5∧i = .int .i64 k∧wx.heap[w.heap.size+1]? = some (.cells (wA 25 fun _=>0) 210)∧wx.heap[w1.heap.size]? = some (.cells (wA 25 (mv s)) 210)∧wx.heap[w2.heap.size]? = some (.cells (wA 25 (oR (mv s) (5*k+0))) 210)∧Below w.heap.size w wx) (fun i _=>5 - (intOf i).toNat)
     case atStart=>exact ⟨0,by omega,rfl,kah H1.out,kah H3.out,by rw [kxo];exact kak rfl rfl,HB.out.alloc (by omega) _⟩
     case round =>
      obtain ⟨X,hk,rfl,h1,h3,h4,hB⟩:=hrel
      by_cases hlt:X<5
      ·have H1:=hdd h1
       have H3:=hdd h3;have H4:=hdd h4;have HB:=hdd hB;clear h1 h3 h4 hB
       go_wp2
       go_loopw [13] (fun i wx=>∃k:Nat,k≤5∧i = .int .i64 k∧wx.heap[w.heap.size+1]? = some (.cells (wA 25 fun _=>0) 210)∧wx.heap[w1.heap.size]? = some (.cells (wA 25 (mv s)) 210)∧wx.heap[w2.heap.size]? = some (.cells (wA 25 (oR (mv s) (5*X+k))) 210)∧Below w.heap.size w wx) (fun i _=>5 - (intOf i).toNat)
       case atStart=>exact ⟨0,by omega,rfl,H1.out,H3.out,H4.out,HB.out⟩
       case round =>
        obtain ⟨Y,hk,rfl,h1,h3,h4,hB⟩:=hrel
        by_cases hly:Y<5
        ·obtain ⟨Y5,hY5⟩:∃n,5*Y=n:=⟨_,rfl⟩
         obtain ⟨N,hN⟩:∃n,X+Y5=n:=⟨_,rfl⟩;obtain ⟨X1,hX1⟩:∃n,(X+1) % 5=n:=⟨_,rfl⟩;obtain ⟨X2,hX2⟩:∃n,(X+2) % 5=n:=⟨_,rfl⟩;obtain ⟨P1,hP1⟩:∃n,X1+Y5=n:=⟨_,rfl⟩;obtain ⟨P2,hP2⟩:∃n,X2+Y5=n:=⟨_,rfl⟩;have e7:IntKind.i64.wrap (5*(Y:Int))=(Y5:Int):=by rw [IntKind.wrap_i64];omega
         have e8:IntKind.i64.wrap ((X:Int)+(Y5:Int))=(N:Int):=by rw [IntKind.wrap_i64];omega
         have hs1:IntKind.i64.wrap ((X:Int)+1)=((X+1:Nat):Int):=by rw [IntKind.wrap_i64];omega
         have hs2:IntKind.i64.wrap ((X:Int)+2)=((X+2:Nat):Int):=by rw [IntKind.wrap_i64];omega
         have hm1:(IntKind.i64.wrap ((X:Int)+1)).tmod 5=(X1:Int):=by rw [hs1,←hX1];rfl
         have hm2:(IntKind.i64.wrap ((X:Int)+2)).tmod 5=(X2:Int):=by rw [hs2,←hX2];rfl
         clear hs1 hs2;have hw1:IntKind.i64.wrap (X1:Int)=(X1:Int):=by rw [IntKind.wrap_i64];omega
         have hw2:IntKind.i64.wrap (X2:Int)=(X2:Int):=by rw [IntKind.wrap_i64];omega
         have e9:IntKind.i64.wrap ((X1:Int)+(Y5:Int))=(P1:Int):=by rw [IntKind.wrap_i64];omega
         have e10:IntKind.i64.wrap ((X2:Int)+(Y5:Int))=(P2:Int):=by rw [IntKind.wrap_i64];omega
         have hNl:N<25:=by omega
         have hNi:(N:Int)<25:=by omega
         have hP1i:(P1:Int)<25:=by omega
         have hP2i:(P2:Int)<25:=by omega
         have hc0:wr.cell? ⟨w1.heap.size,N,none⟩=some (vW (mv s N)):=by rw [kaa h3];exact kcn _ hNl
         have hc1:wr.cell? ⟨w1.heap.size,P1,none⟩=some (vW (mv s P1)):=by rw [kaa h3];exact kcn _ (by omega)
         have hc2:wr.cell? ⟨w1.heap.size,P2,none⟩=some (vW (mv s P2)):=by rw [kaa h3];exact kcn _ (by omega)
         have hc3:wr.cell? ⟨w2.heap.size,N,none⟩=some (vW (oR (mv s) (5*X+Y) N)):=by rw [kaa h4];exact kcn _ hNl
         have hf:=kbm h4 N;obtain ⟨N1,hN1⟩:∃N1,~~~ mv s P1=N1:=⟨_,rfl⟩;obtain ⟨D,hD⟩:∃D,N1 &&& mv s P2=D:=⟨_,rfl⟩;obtain ⟨V,hV⟩:∃V,mv s N ^^^ D=V:=⟨_,rfl⟩;have hx1:=k0z (mv s P1);rw [hN1] at hx1;have hx2:=k02 N1 (mv s P2);rw [hD] at hx2;have hx3:=kmq (mv s N) D;rw [hV] at hx3;have hN5:X+5*Y=N:=by omega
         have hVV:chi (mv s) N=V:=by rw [←hN5,kzv _ _ _ hlt,hX1,hX2,show X1+5*Y=P1 by omega,show X2+5*Y=P2 by omega,hN5,hN1,hD,hV]
         have hstep:=kya (mv s) X Y hlt hly;rw [hN5,hVV] at hstep;have HST:=hdd hstep;have H1:=hdd h1;have H3:=hdd h3;have H4:=hdd h4;have HB:=hdd hB;clear hY5 hN hX1 hX2 hP1 hP2 hN1 hD hV hN5 hVV hstep h1 h3 h4 hB
         go_wp2
         go_still_tail 30,(by kernel_rfl)
         change wpList _ _ _ _ _ wr.drew
         go_wp2
         go_roundw
         case rel =>
          have hdr:Below w.heap.size w wr.drew:=⟨HB.out.os,HB.out.tape,HB.out.output,HB.out.size,HB.out.block⟩;refine ⟨Y+1,by omega,by go_num,?_,?_,?_,?_⟩
          ·exact kbf (p:=⟨w2.heap.size,N,none⟩) H1.out (by show _≠w2.heap.size;omega)
          ·exact kbf (p:=⟨w2.heap.size,N,none⟩) H3.out (by show _≠w2.heap.size;omega)
          ·exact kem (ked H4.out N V) HST.out
          ·exact hdr.setCell (p:=⟨w2.heap.size,N,none⟩) (by show _≤w2.heap.size;omega) _
         case measure=>simp [intOf];omega
        ·obtain rfl:Y=5:=by omega
         have H1:=hdd h1;have H3:=hdd h3;have H4:=hdd h4;have HB:=hdd hB;clear h1 h3 h4 hB
         go_wp2
         go_roundw
         case rel=>exact ⟨X+1,by omega,by go_num,H1.out,H3.out,H4.out,HB.out⟩
         case measure=>simp [intOf];omega
      ·obtain ⟨w3,rfl⟩:∃w3,w3=wr:=⟨_,rfl⟩
       obtain rfl:X=5:=by omega
       have hc0:w3.cell? ⟨w2.heap.size,0,none⟩=some (vW (oR (mv s) 25 0)):=by rw [kaa h4];exact kcn _ (by omega)
       have hf:=kbm h4 0;have hx:=kmq (oR (mv s) 25 0) c;have hr:=kem (ked h4 0 (oR (mv s) 25 0 ^^^ c)) (ku8 s c);have hr2:=kbf (p:=⟨w2.heap.size,0,none⟩) (v:=vW (oR (mv s) 25 0 ^^^ c)) h1 (by show _≠w2.heap.size;omega);have hBq:Below w.heap.size w (w3.setCell ⟨w2.heap.size,0,none⟩ (vW (oR (mv s) 25 0 ^^^ c))):=hB.setCell (p:=⟨w2.heap.size,0,none⟩) (by show _≤w2.heap.size;omega) _;have HR:=hdd hr;have HR2:=hdd hr2;have HB:=hdd hBq;clear h1 h3 h4 hB hr hr2 hBq
       go_wp2_with (first
        |(refine wpList_load_row rfl 210 _ rfl w2.heap.size rfl 210 (wA 25 (rnd s c)) (0,0) _ HR.out rfl rfl (by rw [kar];kernel_rfl) ?_)
        |(refine ka8 rfl 210 _ _ rfl (w.heap.size+1) rfl (wA 25 (rnd s c)) rfl 210 _ HR2.out (by rw [kar];kernel_rfl) (by rw [kar,kar]) (kd3 _ _) ?_))
       refine kbv rfl (w.heap.size+1) 210 _ (0,0) _ rfl (kf0 HR2.out) rfl rfl (by rw [kar];kernel_rfl) rfl ?_;exact ⟨rfl,Below.setRow' HB.out (by omega) _⟩
theorem kmb (s:Sha.St) (w:World) :
 Calls Tryz.prog 171 #[.agg (wA 25 s)] w fun e w'=>e = .returned (.agg (wA 25 (k1e s)))∧Below w.heap.size w w':=by
 obtain ⟨A,hA⟩:∃A,wA 25 s=A:=⟨_,rfl⟩;rw [hA];have HA:=hdd hA;clear hA
 go_enter Tryz.func171,Tryz.ntmps171
 go_wp2
 go_loopw [3] (fun i wr=>∃k:Nat,k≤24∧i = .int .i64 k∧wr.heap[w.heap.size]? = some (.cells (wA 25 (kmr s k)) 210)∧wr.heap[w.heap.size+1]? = some (.cells (wA 25 fun _=>0) 210)∧Below w.heap.size w wr) (fun i _=>24 - (intOf i).toNat)
 case atStart=>exact ⟨0,by omega,rfl,by rw [show kmr s 0=s from rfl,HA.out];exact kah (kai _ _),kak (by simp) rfl,((Below.refl _ _).alloc (Nat.le_refl _) _).alloc (by simp) _⟩
 case round =>
  obtain ⟨k,hk,rfl,h0,h1,hB⟩:=hrel;have G0:=hdd h0;have G1:=hdd h1;have GB:=hdd hB;clear h0 h1 hB
  by_cases hlt:k<24
  ·have HC:=hdd (fun w=>klm k w hlt)
   have HR:=hdd (fun w=>ko9 (kmr s k) (con k) w)
   go_wp2
   refine wp_region_any (by kernel_rfl) ?_
   change wpAny _ _ _ _ _ _ _ (World.drew _)
   refine wpAny_take (i:=1) (v:=.int .i64 (k:Int)) rfl (by kernel_rfl) (by kernel_rfl) (by kernel_rfl) (fun _ _ _ h=>h) (Or.inl ⟨by rfl,fun w=>by go_simp⟩) ?_;simp only [Act.put,List.setIfInBounds_toArray,List.set_cons_zero,List.set_cons_succ,List.getElem_toArray,List.getElem_cons_zero,List.getElem_cons_succ];refine wpAny_ready (rs:=[0,2]) (by kernel_rfl) (by simp) ?_;refine AllReady.cons rfl (fun K hK=>?_) ?_
   ·refine ke3 rfl 210 _ rfl w.heap.size rfl 210 _ (0,0) _ G0.out rfl rfl (by rw [kar];kernel_rfl) ?_
    refine hK _ _ ?_;clear hK K;refine wpAny_ready (rs:=[2]) (by kernel_rfl) (by simp) ?_;refine AllReady.cons rfl (fun K hK=>?_) AllReady.nil;go_simp
    refine (HC.out _).mono ?_;rintro e w2 ⟨rfl,hb2⟩;have hB2:=GB.out.trans ((show Below wr.heap.size wr w2 from ⟨hb2.os,hb2.tape,hb2.output,hb2.size,hb2.block⟩).mono GB.out.size);have h20:w2.heap[w.heap.size]? = some (.cells (wA 25 (kmr s k)) 210):=kab hb2 (kad G0.out) G0.out;have h21:w2.heap[w.heap.size+1]? = some (.cells (wA 25 fun _=>0) 210):=kab hb2 (kad G1.out) G1.out;have H20:=hdd h20;have H21:=hdd h21;have HB2:=hdd hB2;clear hb2 h20 h21 hB2;refine hK _ _ ?_;clear hK K;refine wpAny_ready (rs:=[3]) (by kernel_rfl) (by simp) ?_;refine AllReady.cons rfl (fun K hK=>?_) AllReady.nil;go_simp
    refine (HR.out _).mono ?_;rintro e w3 ⟨rfl,hb3⟩;refine hK _ _ ?_;clear hK K;refine wpAny_ready (rs:=[4]) (by kernel_rfl) (by simp) ?_;refine AllReady.cons rfl (fun K hK=>?_) AllReady.nil;refine kam rfl 210 _ _ rfl w.heap.size rfl (wA 25 (rnd (kmr s k) (con k))) rfl 210 _ (kab hb3 (kad H20.out) H20.out) (by rw [kar];kernel_rfl) (by rw [kar,kar]) (kd3 _ _) ?_;intro w4 h40 hk4;refine hK _ _ ?_;clear hK K;refine wpAny_done (by kernel_rfl) ?_ _;have h41:=(hk4.block _ (kad (kab hb3 (kad H21.out) H21.out)) (fun e=>by have:w.heap.size+1=w.heap.size:=e;omega)).trans (kab hb3 (kad H21.out) H21.out);have hB4:Below w.heap.size w w4:=(HB2.out.trans (hb3.mono HB2.out.size)).trans (hk4.below (by have:=HB2.out.size;have:=hb3.size;omega) (fun k hk e=>by have:k=w.heap.size:=e;omega));have H40:=hdd h40;have H41:=hdd h41;have HB4:=hdd hB4;clear h40 h41 hB4 hk4 hb3;simp only [Act.put,List.getElem_toArray,List.getElem_cons_zero,List.getElem_cons_succ]
    go_wp2
    go_roundw
    case rel=>exact ⟨k+1,by omega,by go_num,H40.out,H41.out,HB4.out⟩
    case measure=>simp [intOf];omega
   refine AllReady.cons rfl (fun K hK=>?_) AllReady.nil
   ·go_simp
    refine (HC.out _).mono ?_;rintro e w2 ⟨rfl,hb2⟩;have hB2:=GB.out.trans ((show Below wr.heap.size wr w2 from ⟨hb2.os,hb2.tape,hb2.output,hb2.size,hb2.block⟩).mono GB.out.size);have h20:w2.heap[w.heap.size]? = some (.cells (wA 25 (kmr s k)) 210):=kab hb2 (kad G0.out) G0.out;have h21:w2.heap[w.heap.size+1]? = some (.cells (wA 25 fun _=>0) 210):=kab hb2 (kad G1.out) G1.out;have H20:=hdd h20;have H21:=hdd h21;have HB2:=hdd hB2;clear hb2 h20 h21 hB2;refine hK _ _ ?_;clear hK K;refine wpAny_ready (rs:=[0]) (by kernel_rfl) (by simp) ?_;refine AllReady.cons rfl (fun K hK=>?_) AllReady.nil;refine ke3 rfl 210 _ rfl w.heap.size rfl 210 _ (0,0) _ H20.out rfl rfl (by rw [kar];kernel_rfl) ?_;refine hK _ _ ?_;clear hK K;refine wpAny_ready (rs:=[3]) (by kernel_rfl) (by simp) ?_;refine AllReady.cons rfl (fun K hK=>?_) AllReady.nil;go_simp
    refine (HR.out _).mono ?_;rintro e w3 ⟨rfl,hb3⟩;refine hK _ _ ?_;clear hK K;refine wpAny_ready (rs:=[4]) (by kernel_rfl) (by simp) ?_;refine AllReady.cons rfl (fun K hK=>?_) AllReady.nil;refine kam rfl 210 _ _ rfl w.heap.size rfl (wA 25 (rnd (kmr s k) (con k))) rfl 210 _ (kab hb3 (kad H20.out) H20.out) (by rw [kar];kernel_rfl) (by rw [kar,kar]) (kd3 _ _) ?_;intro w4 h40 hk4;refine hK _ _ ?_;clear hK K;refine wpAny_done (by kernel_rfl) ?_ _;have h41:=(hk4.block _ (kad (kab hb3 (kad H21.out) H21.out)) (fun e=>by have:w.heap.size+1=w.heap.size:=e;omega)).trans (kab hb3 (kad H21.out) H21.out);have hB4:Below w.heap.size w w4:=(HB2.out.trans (hb3.mono HB2.out.size)).trans (hk4.below (by have:=HB2.out.size;have:=hb3.size;omega) (fun k hk e=>by have:k=w.heap.size:=e;omega));have H40:=hdd h40;have H41:=hdd h41;have HB4:=hdd hB4;clear h40 h41 hB4 hk4 hb3;simp only [Act.put,List.getElem_toArray,List.getElem_cons_zero,List.getElem_cons_succ]
    go_wp2
    go_roundw
    case rel=>exact ⟨k+1,by omega,by go_num,H40.out,H41.out,HB4.out⟩
    case measure=>simp [intOf];omega
  ·obtain rfl:k=24:=by omega
   go_wp2_with (first
    |(refine wpList_load_row rfl 210 _ rfl w.heap.size rfl 210 _ (0,0) _ G0.out rfl rfl (by rw [kar];kernel_rfl) ?_)
    |(refine ka8 rfl 210 _ _ rfl (w.heap.size+1) rfl _ rfl 210 _ G1.out (by rw [kar];kernel_rfl) (by rw [kar,kar]) (kd3 _ _) ?_))
   refine kbv rfl (w.heap.size+1) 210 _ (0,0) _ rfl (kf0 G1.out) rfl rfl (by rw [kar];kernel_rfl) rfl ?_;exact ⟨rfl,Below.setRow' GB.out (by omega) _⟩
end Go.Proofs.YtknpbekoenbphaaGreatDoor
namespace Licit
open Go Go.RowKit
def kic (w:World) (base:Nat) (e:TypeId) (v:Value) (xs:List Value):Prop :=
 ∃g cap cur fz,v = .slice (some ⟨g,0,none⟩) xs.length cap∧base≤g∧w.heap[g]? = some (.cells cur e fz)∧(fz=(0,0)∨cap≤fz.1)∧xs.length≤cap∧cap≤maxLen∧cap≤cur.size∧cur.toList.take xs.length=xs
theorem kic.form {w:World} {base:Nat} {e:TypeId} {v:Value} {xs:List Value} (h:kic w base e v xs):∃g cap,v = .slice (some ⟨g,0,none⟩) xs.length cap∧base≤g∧g<w.heap.size∧(∀i u,xs[i]? = some u→w.cell? ⟨g,i,none⟩=some u)∧(∀i,i<xs.length→w.frozen? ⟨g,i,none⟩=false):=by
 obtain ⟨g,cap,cur,fz,rfl,h1,h2,h3,h4,h5,h6,h7⟩:=h;refine ⟨g,cap,rfl,h1,kad h2,fun i u hu=>?_,fun i hi=>?_⟩
 ·have hi:i<xs.length:=by
   rcases Nat.lt_or_ge i xs.length with c|c
   ·exact c
   ·rw [List.getElem?_eq_none c] at hu;cases hu
  rw [kaa h2,←hu];have h8:xs[i]? = (cur.toList.take xs.length)[i]?:=by rw [h7]
  rw [h8,List.getElem?_take_of_lt hi,Array.getElem?_toList]
 ·simp only [World.frozen?,h2]
  rcases h3 with rfl|h3
  ·simp
  ·have:¬ fz.1≤i:=by omega
   simp [this]
theorem kic.of_owns {w:World} {base:Nat} {e:TypeId} {v:Value} {xs:List Value} (h:w.ownsRow base e 1 v xs.length xs) (h0:0<xs.length):kic w base e v xs:=by
 rcases h.2 with ⟨_,h1⟩|⟨g,cap,cur,rfl,h1,h2,h3,h4,h5,h6⟩
 ·omega
 ·exact ⟨g,cap,cur,(0,0),rfl,h1,h2,.inl rfl,h3,h4,by omega,by simpa using h6⟩
theorem kic.below {w w':World} {base:Nat} {e:TypeId} {v:Value} {xs:List Value} (h:kic w base e v xs) (hb:Below w.heap.size w w'):kic w' base e v xs:=by
 obtain ⟨g,cap,cur,fz,h0,h1,h2,h3⟩:=h;exact ⟨g,cap,cur,fz,h0,h1,kab hb (kad h2) h2,h3⟩
theorem kic.base {w:World} {base base':Nat} {e:TypeId} {v:Value} {xs:List Value} (h:kic w base e v xs) (hb:base'≤base):kic w base' e v xs:=by
 obtain ⟨g,cap,cur,fz,h0,h1,h2,h3⟩:=h;exact ⟨g,cap,cur,fz,h0,by omega,h2,h3⟩
theorem kic.set {w:World} {base:Nat} {e:TypeId} {g n cap:Nat} {xs:List Value} (h:kic w base e (.slice (some ⟨g,0,none⟩) n cap) xs) (i:Nat) (_:i<xs.length) (u:Value) :
 kic (w.setCell ⟨g,i,none⟩ u) base e (.slice (some ⟨g,0,none⟩) n cap) (xs.set i u):=by
 obtain ⟨g',cap',cur,fz,h0,h1,h2,h3,h4,h5,h6,h7⟩:=h;simp only [Value.slice.injEq,Option.some.injEq,Addr.mk.injEq] at h0;obtain ⟨⟨rfl,_⟩,rfl,rfl⟩:=h0;refine ⟨g,cap,_,fz,by simp,h1,set_of h2 i u,h3,by simpa using h4,h5,by simpa using h6,?_⟩;simp only [Array.toList_setIfInBounds,List.length_set];rw [←h7,←List.take_set];simp [h7]
def kjg (w:World) (base:Nat) (e:TypeId) (v:Value) (l:Bs):Prop:=kic w base e v (Sha.vBs l)
theorem kjg.form {w:World} {base:Nat} {e:TypeId} {v:Value} {l:Bs} (h:kjg w base e v l):∃g cap,v = .slice (some ⟨g,0,none⟩) l.length cap∧base≤g∧g<w.heap.size:=by
 obtain ⟨g,cap,h0,h1,h2,_⟩:=kic.form h;rw [Sha.vBs_len] at h0;exact ⟨g,cap,h0,h1,h2⟩
theorem kjg.formN {w:World} {base:Nat} {e:TypeId} {v:Value} {l:Bs} (h:kjg w base e v l) {n:Nat} (hn:l.length=n):∃g cap,v = .slice (some ⟨g,0,none⟩) n cap∧base≤g∧g<w.heap.size:=by
 subst hn;exact h.form
theorem kjg.cell {w:World} {base:Nat} {e:TypeId} {g n cap:Nat} {l:Bs} (h:kjg w base e (.slice (some ⟨g,0,none⟩) n cap) l) {i:Nat} (hi:i<l.length):w.cell? ⟨g,i,none⟩=some (Sha.vB (l.getD i 0)):=by
 obtain ⟨g',cap',h0,h1,h2,h3,_⟩:=kic.form h;simp only [Value.slice.injEq,Option.some.injEq,Addr.mk.injEq] at h0;obtain ⟨⟨rfl,_⟩,_⟩:=h0;exact h3 i _ (Sha.vBs_at l hi)
theorem kjg.free {w:World} {base:Nat} {e:TypeId} {g n cap:Nat} {l:Bs} (h:kjg w base e (.slice (some ⟨g,0,none⟩) n cap) l) {i:Nat} (hi:i<l.length):w.frozen? ⟨g,i,none⟩=false:=by
 obtain ⟨g',cap',h0,h1,h2,_,h3⟩:=kic.form h;simp only [Value.slice.injEq,Option.some.injEq,Addr.mk.injEq] at h0;obtain ⟨⟨rfl,_⟩,_⟩:=h0;exact h3 i (by rw [Sha.vBs_len];exact hi)
theorem kjg.set {w:World} {base:Nat} {e:TypeId} {g n cap:Nat} {l:Bs} (h:kjg w base e (.slice (some ⟨g,0,none⟩) n cap) l) {i:Nat} (hi:i<l.length) (b:UInt8) :
 kjg (w.setCell ⟨g,i,none⟩ (Sha.vB b)) base e (.slice (some ⟨g,0,none⟩) n cap) (l.set i b):=by
 have:=kic.set h i (by rw [Sha.vBs_len];exact hi) (Sha.vB b)
 unfold kjg;have e:Sha.vBs (l.set i b)=(Sha.vBs l).set i (Sha.vB b):=by simp [Sha.vBs,List.map_set]
 rw [e];exact this
theorem kjg.append {w:World} {base:Nat} {e:TypeId} {v:Value} {l r:Bs} (h:kic w base e v (Sha.vBs l++Sha.vBs r)):kjg w base e v (l++r):=by
 unfold kjg Sha.vBs;rw [List.map_append];exact h
section
variable {P:Program}
theorem kmf {ops:Array Oper} {rest:List Oper} {o:Oper} {a:Act} {w:World} {Q:Exit→Act→World→Prop} (hgd:o.guard=none) (src dst e:TypeId) (x:Operand) (ho:o.op = .convert src dst x)
 (s:ByteArray) (hx:a.eval x = .string s) {u:TypeDesc} (hs:P.underlying src=some u) (hd:P.underlying dst=some (.slice e)) (he:P.underlying e=some (.int .u8)) (hm:s.size≤maxLen)
 (h:∀v w',kic w' w.heap.size e v (Lib.strCells s)→Below w.heap.size w w'→wpList P ops Q rest (a.put o.dst v) w'):wpList P ops Q (o :: rest) a w:=by
 refine wpList_plain hgd fun K hK=>?_
 have hr:=Lib.run_convert_string_bytes (P:=P) w src dst e s hs hd he;unfold Oper.wp execOp;simp only [ho,hx,Sem.run_bind,Sem.run_pure,Result.andThen_ok,hr];refine hK _ _ (h _ _ ?_ ?_)
 ·have hge:=grownCap_ge w s.size 0 e
  have hsz:(Lib.bytesCells w e s).size=grownCap w s.size 0 e:=by simp [Lib.bytesCells];show s.size+_=_;omega
  refine ⟨w.heap.size,grownCap w s.size 0 e,_,_,by rw [Lib.strCells_length],Nat.le_refl _,Lib.bytesWorld_at_new w e s,.inr (by rw [hsz];exact Nat.le_refl _),by rw [Lib.strCells_length];exact hge,grownCap_le_maxLen w s.size 0 e hm,by rw [hsz];exact Nat.le_refl _,?_⟩;rw [Lib.strCells_length];unfold Lib.bytesCells Lib.strCells;simp
 ·exact ⟨rfl,rfl,rfl,by rw [Lib.bytesWorld_size];omega,fun k hk=>Lib.bytesWorld_at_old w e s k hk⟩
theorem ke8 {ops:Array Oper} {rest:List Oper} {o:Oper} {a:Act} {Q:Exit→Act→World→Prop} (w:World) (hgd:o.guard=none) (s x:Operand) (t:TypeId)
 (ho:o.op = .call { callee:=.builtin .append,args:=#[s,x],argTypes:=#[t,t] })
 (base:Nat) (e:TypeId) (i:TypeInfo) (z:Value) (bytes:Nat) (ht:P.underlying t=some (.slice e)) (hi:P.info? e=some i) (hz:i.zero=some z)
 (hsize:i.size=1) (hby:i.bytes=bytes) (hzs:z.cells.size=1)
 (v:Value) (xs:List Value) (hs:a.eval s=v) (hown:kic w base e v xs)
 (ad:Addr) (m c:Nat) (news:List Value) (hx:a.eval x = .slice (some ad) m c) (hl:news.length=m) (hm:0<m) (hnews:∀j u,news[j]? = some u→w.cell? (ad.add j)=some u) (h1:∀u∈news,u.oneCell'=true)
 (h63:xs.length+m≤maxLen) (hbytes:(xs.length+m)*bytes≤140737488355328) (hbase:base≤w.heap.size)
 (h:∀v' w',kic w' base e v' (xs++news)→Below base w w'→wpList P ops Q rest (a.put o.dst v') w'):wpList P ops Q (o :: rest) a w:=by
 obtain ⟨g,cap,cur,fz,hv,hg0,hg1,hg2,hg3,hg4,hg5,hg6⟩:=id hown;obtain ⟨g',cap',hv',_,_,hcell,hfr⟩:=hown.form;subst hv;simp only [Value.slice.injEq,Option.some.injEq,Addr.mk.injEq] at hv';obtain ⟨⟨rfl,_⟩,_,rfl⟩:=hv';refine wpList_append_arg w hgd s x t ho e i z 1 bytes ht hi hz hsize hby hzs (by decide) g 0 xs.length cap xs hs (by simp) (fun j u hu=>by rw [Nat.zero_add];exact hcell j u hu) ad m c news hx (by simp [hl]) hnews h1 ?_ h63 hbytes ?_ ?_
 ·intro hroom j hj
  rw [Nat.zero_add,Nat.mul_one];refine ⟨?_,?_⟩
  ·rw [kaa hg1,Array.getElem?_eq_getElem (by omega)];rfl
  ·simp only [World.frozen?,hg1]
   rcases hg2 with rfl|hg2
   ·simp
   ·have:¬ fz.1≤xs.length+j:=by omega
    simp [this]
 ·intro hroom
  rw [Nat.zero_add,Nat.mul_one];refine h _ _ ⟨g,cap,kms cur xs.length news,fz,by rw [List.length_append,hl],hg0,kcu news cur _ w hg1,hg2,by rw [List.length_append,hl];exact hroom,hg4,by rw [kiz];exact hg5,?_⟩ ?_
  ·apply List.ext_getElem?
   intro k
   by_cases hk:k<(xs++news).length
   ·rw [List.getElem?_take_of_lt hk,Array.getElem?_toList]
    rw [List.length_append] at hk
    by_cases hk2:k<xs.length
    ·rw [kgx _ _ _ _ (.inl hk2),List.getElem?_append_left hk2]
     have h8:xs[k]? = (cur.toList.take xs.length)[k]?:=by rw [hg6]
     rw [h8,List.getElem?_take_of_lt hk2,Array.getElem?_toList]
    ·rw [List.getElem?_append_right (by omega)]
     have:=kle news cur xs.length (k - xs.length) (by omega) (by omega)
     rw [show xs.length+(k - xs.length)=k by omega] at this;exact this
   ·rw [List.getElem?_eq_none (by rw [List.length_take];omega),List.getElem?_eq_none (by omega)]
  ·have hk:ka7 (One g) w (w.setCells g xs.length news):=kb9 _ _ _ _ (ka7.refl _ _) (.inr rfl)
   exact hk.below hbase (fun k hk e=>by have:k=g:=e;omega)
 ·intro _ v' w' hown' hgrow
  refine h _ _ ((kic.of_owns ?_ ?_).base hbase) ?_
  ·rw [List.length_append,hl];exact hown'
  ·rw [List.length_append];omega
  ·exact ((Below.refl w.heap.size w).grown hgrow (Nat.le_refl _) (by simp)).mono hbase
end
end Licit
