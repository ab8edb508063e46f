/- Parts of the proofs: ShaRef, Shelf, WkEnc, WkBuilder, WkList, WkRefEnc. No condition beyond those at each theorem. -/
import Derived.Deep.RegionWith
import Derived.Ground.Names2Prog
import Derived.Shelf.LaysM
import Derived.Shelf.Slices.Clone
import Derived.Shelf.Slices.Empties2
import Derived.Shelf.Slices.Equal
import Derived.Shelf.Slices.In.SortNone
import Derived.Shelf.Slices.SearchI
import Derived.Shelf.Small.Bits
import Derived.Shelf.Small.Wraps
import Derived.Shelf.Sort.Plain
import Derived.Shelf.Strconv.Clone
import Derived.Shelf.Strconv.Itoa0
import Derived.Shelf.Strconv.Itoa1
import Derived.Shelf.Strconv.Itoa2
import Derived.Shelf.Strconv.Itoa3
import Derived.Shelf.Strings.Builder1
import Derived.Shelf.Strings.BuilderCap
import Derived.Shelf.Strings.BuilderF
import Derived.Shelf.Strings.BuilderK
import Derived.Test.YtknpbekoenbphaaGreatDoorQk05
set_option linter.unusedVariables false
set_option linter.unusedSimpArgs false
set_option maxHeartbeats 16000000
set_option maxRecDepth 100000
namespace Go.Proofs.YtknpbekoenbphaaGreatDoor
open Go Go.RowKit Licit Licit.Sha
theorem Tryz.infoByteR:(Tryz.prog.info? 5).map (fun i=>(i.zero,i.size,i.bytes))=some (some (.int .u8 0),1,1):=by kernel_rfl
def kyv:Value→Nat|.slice _ n _=>n|_=>0
theorem k03 (x y:UInt8):bits .or .u8 (x.toNat:Int) (y.toNat:Int)=((x ||| y).toNat:Int):=by
 rw [u8_or_nat _ _ x.toNat_lt y.toNat_lt,UInt8.toNat_or]
theorem kue (l:Bs) (w:World) (hl:l.length≤1000000000000) :
 Calls Tryz.prog 111 #[.string (B l)] w fun e w'=>e = .returned (.string (B (sha l)))∧Below w.heap.size w w':=by
 obtain ⟨R,hR⟩:∃R,sha l=R:=⟨_,rfl⟩;rw [hR];have HR:=hdd hR;clear hR;obtain ⟨i0,hi,hz0,hz1,hz2⟩:=info_parts Tryz.infoByteR;have Hi:=hdd hi;have Hz0:=hdd hz0;have Hz1:=hdd hz1;have Hz2:=hdd hz2;clear hi hz0 hz1 hz2
 go_enter Tryz.func111,Tryz.ntmps111
 go_wp2_with (first
  |(refine kmf rfl 9 208 5 _ rfl (B l) rfl Tryz.underlying9 Tryz.underlying208 Tryz.underlying5 (by unfold maxLen;rw [kdf];omega) ?_
    intro v1 w1 ho1 hb1;have ho1:kjg w1 w.heap.size 5 v1 l:=ho1;obtain ⟨g1,c1,rfl,hg1,hg1'⟩:=ho1.form;have HO1:=hdd ho1;have HB1:=hdd hb1;clear ho1 hb1)
  |(at_builtin
    refine ke8 _ rfl _ _ 208 rfl w.heap.size 5 i0 (.int .u8 0) 1 Tryz.underlying208 Hi.out Hz0.out Hz1.out Hz2.out rfl (.slice (some ⟨g1,0,none⟩) l.length c1) (vBs l) rfl (kic.below HO1.out ((Below.refl _ _).alloc (Nat.le_refl _) _)) ⟨w1.heap.size,0,none⟩ 1 1 (vBs [6]) rfl rfl (by decide) (kbj (kai _ _)) (ki7 _) (by rw [vBs_len];unfold maxLen;omega) (by rw [vBs_len];omega) (by have:=HB1.out.size;simp;omega) ?_;intro v2 w2 ho2 hb2;have hb2':Below w.heap.size w w2:=(HB1.out.alloc (HB1.out.size) _).trans hb2;have ho2':kjg w2 w.heap.size 5 v2 (l++[6]):=kjg.append ho2;obtain ⟨g2,c2,rfl,hg2,hg2'⟩:=ho2'.formN (n:=l.length+1) (by simp);have HO2:=hdd ho2';have HB2:=hdd hb2';clear ho2' hb2' ho2 hb2))
 go_loopw [3] (fun v wr=>∃k g c,k≤135 - l.length % 136∧v = .slice (some ⟨g,0,none⟩) (l.length+1+k) c∧kjg wr w.heap.size 5 v ((l++[6])++List.replicate k 0)∧Below w.heap.size w wr) (fun v _=>l.length+136 - kyv v)
 case atStart =>
  refine ⟨0,g2,c2,by omega,rfl,?_,HB2.out⟩;rw [List.replicate_zero,List.append_nil];exact HO2.out
 case round =>
  obtain ⟨W1,rfl⟩:∃W1,W1=wr:=⟨_,rfl⟩;obtain ⟨k,g,c,hk,rfl,hO,hB⟩:=hrel;have hlen:((l++[6])++List.replicate k 0).length=l.length+1+k:=by simp;omega
  by_cases hlt:k<135 - l.length % 136
  ·have hmod:(((l.length+1+k:Nat):Int) % 136 != 0)=true:=by simp;omega
   have HO:=hdd hO;have HB:=hdd hB;have HL:=hdd hlen;clear hO hB hlen
   go_wp2_with (first
    |(at_builtin
      go_loud (
      refine ke8 _ rfl _ _ 208 rfl w.heap.size 5 i0 (.int .u8 0) 1 Tryz.underlying208 Hi.out Hz0.out Hz1.out Hz2.out rfl (.slice (some ⟨g,0,none⟩) (l.length+1+k) c) (vBs ((l++[6])++List.replicate k 0)) rfl (kic.below HO.out ((Below.refl _ _).alloc (Nat.le_refl _) _)) ⟨W1.heap.size,0,none⟩ 1 1 (vBs [0]) rfl rfl (by decide) (kbj (kai _ _)) (ki7 _) (by rw [vBs_len,HL.out];unfold maxLen;omega) (by rw [vBs_len,HL.out];omega) (by have:=HB.out.size;simp;omega) ?_;intro v2 w2 ho2 hb2;have hb2':Below w.heap.size w w2:=(HB.out.alloc (HB.out.size) _).trans hb2;have ho2':kjg w2 w.heap.size 5 v2 ((l++[6])++List.replicate k 0++[0]):=kjg.append ho2;rw [List.append_assoc (l++[6]),←List.replicate_succ'] at ho2';obtain ⟨g2,c2,rfl,hg2,hg2'⟩:=ho2'.formN (n:=l.length+1+(k+1)) (by simp;omega);have HO2:=hdd ho2';have HB2:=hdd hb2';clear ho2' hb2' ho2 hb2)))
   go_roundw
   case rel=>exact ⟨k+1,g2,c2,by omega,rfl,HO2.out,HB2.out⟩
   case measure=>simp [kyv];omega
  ·have hmod:(((l.length+1+k:Nat):Int) % 136 != 0)=false:=by simp;omega
   have hpl:=kfr l;obtain ⟨n,hn⟩:∃n,l.length+1+k=n:=⟨_,rfl⟩;have hk2:k=135 - l.length % 136:=by omega
   rw [hk2] at hO;have hO:kjg W1 w.heap.size 5 (.slice (some ⟨g,0,none⟩) n c) (kcz l):=by rw [←hn,hk2];exact hO
   have hnq:n=136*(l.length / 136+1):=by omega
   rw [←hnq] at hpl;obtain ⟨g',c',hgc,hg,hgl⟩:=hO.form;obtain ⟨rfl,rfl⟩:g=g'∧c=c':=by simp only [Value.slice.injEq,Option.some.injEq,Addr.mk.injEq] at hgc;exact ⟨hgc.1.1,hgc.2.2⟩
   have hgx:W1.cell? ⟨g,n - 1,none⟩=some (.int .u8 (((kcz l).getD (n - 1) 0).toNat:Int)):=hO.cell (by omega);have hfx:=hO.free (i:=n - 1) (by omega);have hx:=k03 ((kcz l).getD (n - 1) 0) 128;have hx:bits .or .u8 (((kcz l).getD (n - 1) 0).toNat:Int) 128=(((kcz l).getD (n - 1) 0 ||| 128).toNat:Int):=hx;obtain ⟨Rb,hRb⟩:∃Rb,kt2 l=Rb:=⟨_,rfl⟩;obtain ⟨y,hy⟩:∃y,(kcz l).getD (n - 1) 0 ||| 128=y:=⟨_,rfl⟩
   have hOB:=hO.set (i:=n - 1) (by omega) y;have hRb2:(kcz l).set (n - 1) y=Rb:=by rw [←hRb,←hy];unfold kt2;rw [hpl]
   have hRl:Rb.length=n:=by rw [←hRb,kuc,hnq]
   have hsha:kll (kfu st0 Rb (l.length / 136+1))=R:=by rw [←hRb,kx8,HR.out]
   rw [hRb2] at hOB;rw [hy] at hx;obtain ⟨q,hq⟩:∃q,l.length / 136+1=q:=⟨_,rfl⟩;rw [hq] at hsha hnq;obtain ⟨X,hX⟩:∃X,(kcz l).getD (n - 1) 0=X:=⟨_,rfl⟩;rw [hX] at hgx hx;have hn1:(n:Int) - 1=((n - 1:Nat):Int):=by omega
   have hnl:n≤2000000000000:=by omega
   have hn0:0<n:=by omega
   have HOB:=hdd hOB;have HB:=hdd hB;have HS:=hdd hsha;have HRl:=hdd hRl;have HNQ:=hdd hnq;rw [hn] at hmod;rw [hn];clear hO hB hlen hpl hk2 hgc hRb hy hOB hRb2 hRl hsha hnq hq hX hn
   go_wp2
   obtain ⟨W2,hW2⟩:∃W2,W2=W1.setCell ⟨g,n - 1,none⟩ (.int .u8 (y.toNat:Int)):=⟨_,rfl⟩;have hz2:W2.heap.size=W1.heap.size:=by rw [hW2];simp [World.setCell]
   rw [←hW2];have hOB:kjg W2 w.heap.size 5 (.slice (some ⟨g,0,none⟩) n c) Rb:=by rw [hW2];exact HOB.out
   have hB2:Below w.heap.size w W2:=by rw [hW2];exact HB.out.setCell (p:=⟨g,n - 1,none⟩) hg _
   have HOB:=hdd hOB;have HB2:=hdd hB2;clear hOB hB2 hW2
   go_loopw [5] (fun i wx=>∃j:Nat,j≤q∧i = .int .i64 ((136*j:Nat):Int)∧wx.heap[W1.heap.size]? = some (.cells (wA 25 (kfu st0 Rb j)) 210)∧Below W1.heap.size W2 wx) (fun i _=>n - (intOf i).toNat)
   case atStart=>exact ⟨0,by omega,rfl,kak hz2.symm rfl,(Below.refl _ _).alloc (Nat.le_of_eq hz2.symm) _⟩
   case round =>
    obtain ⟨j,hj,rfl,hs,hB⟩:=hrel;obtain ⟨J,hJ⟩:∃J,136*j=J:=⟨_,rfl⟩;rw [hJ];obtain ⟨F,hF⟩:∃F:Nat→UInt8,F=fun i=>(Rb.drop J).getD i 0:=⟨_,rfl⟩
    have HF:=hdd hF;have HJ:=hdd hJ;have HSt:=hdd hs;have HBx:=hdd hB;have hNQ:=HNQ.out
    by_cases hlt:j<q
    ·have hJn:J<n:=by omega
     have hJm:J+136≤n:=by omega
     clear hF hJ hs hB hNQ
     go_wp2
     go_loopw [6] (fun i wx=>∃k:Nat,k≤136∧i = .int .i64 k∧wx.heap[W1.heap.size]? = some (.cells (wA 25 (khp F (kfu st0 Rb j) k)) 210)∧Below W1.heap.size W2 wx) (fun i _=>136 - (intOf i).toNat)
     case atStart=>exact ⟨0,by omega,rfl,HSt.out,HBx.out⟩
     case round =>
      obtain ⟨k,hk,rfl,h0,hK⟩:=hrel
      by_cases hlk:k<136
      ·obtain ⟨Q,hQ⟩:∃Q,k / 8=Q:=⟨_,rfl⟩
       obtain ⟨S,hS⟩:∃S,k % 8=S:=⟨_,rfl⟩;obtain ⟨N,hN⟩:∃N,8*S=N:=⟨_,rfl⟩;obtain ⟨P,hP⟩:∃P,J+k=P:=⟨_,rfl⟩;have hq:(k:Int).tdiv 8=(Q:Int):=by rw [←hQ];rfl
       have hr:(k:Int).tmod 8=(S:Int):=by rw [←hS];rfl
       have hqw:IntKind.i64.wrap (Q:Int)=(Q:Int):=by rw [IntKind.wrap_i64];omega
       have hrw:IntKind.i64.wrap (S:Int)=(S:Int):=by rw [IntKind.wrap_i64];omega
       have hn8:IntKind.i64.wrap (8*(S:Int))=(N:Int):=by rw [IntKind.wrap_i64];omega
       have hpw:IntKind.i64.wrap ((J:Int)+(k:Int))=(P:Int):=by rw [IntKind.wrap_i64];omega
       have huw:IntKind.u64.wrap (N:Int)=(N:Int):=by rw [IntKind.wrap_u64];omega
       have hPi:(P:Int)<(n:Int):=by omega
       have hQl:Q<25:=by omega
       have hQi:(Q:Int)<25:=by omega
       have hNl:N<64:=by omega
       have hNi:(N:Int)<64:=by omega
       have hcell:=HOB.out.cell (i:=P) (by rw [HRl.out];omega);rw [show Rb.getD P 0=F k by rw [HF.out,←hP];exact (kd9 Rb J k).symm,←hK.cell (p:=⟨g,P,none⟩) hgl] at hcell;have hw:wr.cell? ⟨W1.heap.size,Q,none⟩=some (vW (khp F (kfu st0 Rb j) k Q)):=by rw [kaa h0];exact kcn _ hQl
       have hf:=kbm h0 Q;have hb:=kl4 (F k);obtain ⟨X,hX⟩:∃X:W64,BitVec.ofNat 64 (F k).toNat=X:=⟨_,rfl⟩;rw [hX] at hb;have hsh:=k0r X N;obtain ⟨Y,hY⟩:∃Y,X <<< N=Y:=⟨_,rfl⟩;rw [hY] at hsh;have hx:=kmq (khp F (kfu st0 Rb j) k Q) Y;obtain ⟨V,hV⟩:∃V,khp F (kfu st0 Rb j) k Q ^^^ Y=V:=⟨_,rfl⟩;rw [hV] at hx;have hvb:vB (F k) = .int .u8 (X.toNat:Int):=by unfold vB;rw [←hb]
       rw [hvb] at hcell;have hXb:(X.toNat:Int)<256:=by have:=(F k).toNat_lt;rw [hb];omega
       have hXw:IntKind.u64.wrap (X.toNat:Int)=(X.toNat:Int):=by rw [IntKind.wrap_u64];omega
       have hstep:upd (khp F (kfu st0 Rb j) k) Q V=khp F (kfu st0 Rb j) (k+1):=by rw [kmj,hQ,hS,hN,hX,hY,hV]
       have HST:=hdd hstep;have H0:=hdd h0;have HK:=hdd hK;clear hstep h0 hK hvb hV hY hX hb hQ hS hN hP
       go_wp2
       go_still_tail 20,(by kernel_rfl)
       change wpList _ _ _ _ _ wr.drew
       go_wp2
       go_roundw
       case rel =>
        refine ⟨k+1,by omega,by go_num,?_,?_⟩
        ·have h:=ked H0.out Q V
         rw [HST.out] at h;exact h
        ·have hd:Below W1.heap.size W2 wr.drew:=⟨HK.out.os,HK.out.tape,HK.out.output,HK.out.size,HK.out.block⟩
         exact hd.setCell (p:=⟨W1.heap.size,Q,none⟩) (Nat.le_refl _) _
       case measure=>simp [intOf];omega
      ·obtain rfl:k=136:=by omega
       have H0:=hdd h0;have HK:=hdd hK;have hstep:k1e (khp F (kfu st0 Rb j) 136)=kfu st0 Rb (j+1):=by rw [HF.out,←HJ.out];rfl
       have HST:=hdd hstep;clear h0 hK hstep
       go_wp2_with (first
        |(refine wpList_load_row rfl 210 _ rfl W1.heap.size rfl 210 _ (0,0) _ H0.out rfl rfl (by rw [kar];kernel_rfl) ?_)
        |(go_at_call 171;refine (kmb _ _).mono ?_;rintro e w4 ⟨rfl,hb4⟩;have Hb4:=hdd hb4;clear hb4)
        |(refine kac rfl 210 _ _ rfl W1.heap.size rfl _ rfl 210 _ (kab Hb4.out (kad H0.out) H0.out) (by rw [kar];kernel_rfl) (by rw [kar,kar]) (kd3 _ _) ?_
          intro w5 h5 hk5;have hB5:=(HK.out.trans (Hb4.out.mono (Nat.le_of_lt (kad H0.out)))).trans (hk5.below (by have:=kad H0.out;have:=Hb4.out.size;omega) (fun k hk e=>by have:k=W1.heap.size:=e;omega));rw [HST.out] at h5;have H5:=hdd h5;have HB5:=hdd hB5;clear h5 hB5 hk5))
       go_roundw
       case rel =>
        first
         |exact ⟨j+1,by omega,by have:=HJ.out;simp;omega,H5.out,HB5.out⟩
         |((repeat apply Exists.intro);exact ⟨⟨j+1,by omega,by have:=HJ.out;simp;omega,H5.out,HB5.out⟩,rfl⟩)
       case measure=>simp [intOf];omega
    ·obtain rfl:j=q:=by omega
     have hJn:n=J:=by omega
     clear hF hJ hs hB hNQ
     go_wp2_with (first
      |(at_make
        go_loud (
        refine wpList_make_full _ rfl _ _ 208 rfl (wr.heap.size) 5 i0 (.int .u8 0) 1 Tryz.underlying208 Hi.out Hz0.out Hz1.out _ _ _ _ 32 rfl rfl rfl rfl (by rw [Hz2.out];omega) (by decide) (Nat.le_refl _) ?_;intro w7 hown7 hgrow7;have hk7:Below wr.heap.size wr w7:=(Below.refl _ _).grown hgrow7 (Nat.le_refl _) (by simp);have hg7:=own_full hown7;rw [show (madeCells (Value.int IntKind.u8 0).cells (32*1)).toList=vBs (List.replicate 32 0) from kkj 32,←kl8 (kfu st0 Rb j)] at hg7;have hz7:=kad HSt.out;have HG7:=hdd hg7;have HS7:=bhh hk7 HSt;have HK7:=hdd (HBx.out.trans (hk7.mono (Nat.le_of_lt hz7)));clear hown7 hgrow7 hk7 hg7)))
     obtain ⟨w6,rfl⟩:∃w6,w6=wr:=⟨_,rfl⟩;obtain ⟨st,hst⟩:∃st,kfu st0 Rb j=st:=⟨_,rfl⟩;rw [hst] at HG7 HS7 HS;clear hst
     go_loopw [8] (fun i wx=>∃k:Nat,k≤32∧i = .int .i64 k∧wx.heap[w6.heap.size]? = some (.cells (vBs (kqf st k)).toArray 5)∧wx.heap[W1.heap.size]? = some (.cells (wA 25 st) 210)∧Below W1.heap.size W2 wx) (fun i _=>32 - (intOf i).toNat)
     case atStart=>exact ⟨0,by omega,rfl,HG7.out,HS7.out,HK7.out⟩
     case round =>
      obtain ⟨k,hk,rfl,hg,hS,hB⟩:=hrel
      by_cases hlt:k<32
      ·obtain ⟨Q,hQ⟩:∃Q,k / 8=Q:=⟨_,rfl⟩
       obtain ⟨S,hSS⟩:∃S,k % 8=S:=⟨_,rfl⟩;obtain ⟨N,hN⟩:∃N,8*S=N:=⟨_,rfl⟩;have hq':(k:Int) / 8=(Q:Int):=by rw [←hQ];rfl
       have hr':(k:Int) % 8=(S:Int):=by rw [←hSS];rfl
       have hn8:8*(S:Int)=(N:Int):=by omega
       have hQi:(Q:Int)<25:=by omega
       have hNi:(N:Int)<64:=by omega
       have hw:wr.cell? ⟨W1.heap.size,Q,none⟩=some (vW (st Q)):=by rw [kaa hS];exact kcn _ (by omega)
       have hb:=kkb st k;rw [hQ,hSS,hN] at hb;have hsh:=k0p (st Q) N;obtain ⟨V,hV⟩:∃V,(st Q) >>> N=V:=⟨_,rfl⟩;rw [hV] at hb hsh;have HBV:=hdd hb;have HSx:=hdd hS;have HG:=hdd hg;have HBy:=hdd hB;clear hg hS hB hQ hSS hN hV hb
       go_wp2_with (first
        |(refine kae rfl 5 _ _ rfl w6.heap.size k rfl (vB (kht st k)) (congrArg (Value.int .u8) HBV.out) rfl rfl _ _ HG.out (by simp [vBs,ko1];omega) (by kernel_rfl) ?_
          intro w8 hg8 hk8;rw [kkq,kmk _ _ hlt] at hg8;have HG8:=hdd hg8;have HS8:=hdd ((hk8.block _ (kad HSx.out) (fun e=>by have:W1.heap.size=w6.heap.size:=e;omega)).trans HSx.out);have HB8:=hdd (HBy.out.trans (hk8.below (Nat.le_of_lt (kad HSx.out)) (fun k hk e=>by have:k=w6.heap.size:=e;omega)));clear hg8 hk8))
       go_roundw
       case rel=>exact ⟨k+1,by omega,by go_num,HG8.out,HS8.out,HB8.out⟩
       case measure=>simp [intOf];omega
      ·obtain rfl:k=32:=by omega
       rw [kod] at hg;have hlen:(kll st).length=32:=by simp [kll]
       have hcv:=khx (P:=Tryz.prog) (src:=208) (dst:=9) (cap:=32) (w:=wr) Tryz.underlying208 Tryz.underlying5 Tryz.underlying9 hg;rw [hlen] at hcv;have HBz:=hdd hB;clear hg hS hB hlen
       go_wp2
       go_ret
       refine ⟨congrArg (fun x=>Ending.returned (.string (B x))) HS.out,?_⟩;exact HB2.out.trans (HBz.out.mono (by have:=HB.out.size;omega))
end Go.Proofs.YtknpbekoenbphaaGreatDoor
namespace Go.Proofs
open Go.Shelf
def Tryz.lays169_ren:Go.Shelf.Ren:=⟨fun|169=>232|n=>n,fun|70=>259|9=>9|0=>0|72=>261|37=>208|127=>266|3=>3|5=>5|n=>n,fun|n=>n⟩
theorem Tryz.lays169:Go.Proofs.Lays.n169 Tryz.prog Tryz.lays169_ren:={
 mixed:=by kernel_rfl
 f169:=Tryz.func232.trans (congrArg some (by kernel_rfl))
 t0:=Tryz.underlying0
 a0:=Tryz.isAgg0
 z0:=Tryz.sizeOf0
 v0:=Tryz.zeroValue0
 t3:=Tryz.underlying3
 a3:=Tryz.isAgg3
 z3:=Tryz.sizeOf3
 v3:=Tryz.zeroValue3
 t9:=Tryz.underlying9
 a9:=Tryz.isAgg9
 z9:=Tryz.sizeOf9
 v9:=Tryz.zeroValue9
 t37:=Tryz.underlying208
 a37:=Tryz.isAgg208
 z37:=Tryz.sizeOf208
 v37:=Tryz.zeroValue208
 t70:=Tryz.underlying259
 a70:=Tryz.isAgg259
 z70:=Tryz.sizeOf259
 v70:=Tryz.zeroValue259
 t72:=Tryz.underlying261
 a72:=Tryz.isAgg261
 z72:=Tryz.sizeOf261
 v72:=Tryz.zeroValue261
 t127:=Tryz.underlying266
 a127:=Tryz.isAgg266
 z127:=Tryz.sizeOf266
 v127:=Tryz.zeroValue266 }
theorem Tryz.Builder_Extra_169:Builder.Extra Tryz.prog Tryz.lays169_ren:={
 sizeBuilder:=by kernel_rfl
 liesBuilder:=by kernel_rfl
 t5:=Tryz.underlying5
 a5:=Tryz.isAgg5
 z5:=Tryz.sizeOf5
 v5:=Tryz.zeroValue5
 infoByte:=by kernel_rfl
 cellsByte:=by kernel_rfl
 sizeByte:=by kernel_rfl
 neB5:=by decide }
def Tryz.lays122_ren:Go.Shelf.Ren:=⟨fun|122=>135|215=>192|n=>n,fun|3=>3|4=>4|n=>n,fun|n=>n⟩
theorem Tryz.lays122:Go.Proofs.Lays.n122 Tryz.prog Tryz.lays122_ren:={
 mixed:=by kernel_rfl
 f122:=Tryz.func135.trans (congrArg some (by kernel_rfl))
 f215:=Tryz.func192.trans (congrArg some (by kernel_rfl))
 t3:=Tryz.underlying3
 a3:=Tryz.isAgg3
 z3:=Tryz.sizeOf3
 v3:=Tryz.zeroValue3
 t4:=Tryz.underlying4
 a4:=Tryz.isAgg4
 z4:=Tryz.sizeOf4
 v4:=Tryz.zeroValue4 }
open Go.RowKit in
theorem Tryz.cmp_Compare_int (x y:Int) (w:World) :
 Calls Tryz.prog 135 #[.int .i64 x,.int .i64 y] w fun e w'=>e = .returned (.int .i64 (Lib.compareInt x y))∧w'=w:=Any.cmp_Compare_int Tryz.lays122 x y w
open Go.RowKit in
theorem Tryz.Builder_String_any_k (B b:Nat) (l:List UInt8) (w:World) (h:Lib.IsBuilderF 261 5 B b (Lib.byteCells l) w) (hBw:B≤w.heap.size) :
 Calls Tryz.prog 232 #[.pointer (some ⟨b,0,none⟩)] w fun e w'=>e = .returned (.string ⟨l.toArray⟩)∧(Lib.IsBuilderF 261 5 B b (Lib.byteCells l) w'∧Below B w w'∧Lib.OthersKept 5 (some b) w w'):=Any.Builder_String_any_k Tryz.lays169 Tryz.Builder_Extra_169 B b l w h hBw
def Tryz.laysM171_ren:Go.Shelf.Ren:=⟨fun|171=>199|243=>230|246=>243|283=>250|284=>251|285=>252|286=>253|129=>182|317=>256|318=>257|319=>258|320=>259|337=>260|338=>261|n=>n,fun|3=>3|9=>9|2=>2|4=>4|171=>285|0=>0|53=>209|37=>208|5=>5|173=>287|212=>293|51=>222|20=>20|213=>294|46=>131|232=>295|233=>296|n=>n,fun|17=>0|18=>1|19=>2|n=>n⟩
theorem Tryz.laysM171:Go.Proofs.LaysM.n171 Tryz.prog Tryz.laysM171_ren:={
 mixed:=by kernel_rfl
 f129:=Tryz.func182.trans (congrArg some (by kernel_rfl))
 f171:=Tryz.func199.trans (congrArg some (by kernel_rfl))
 f243:=Tryz.func230.trans (congrArg some (by kernel_rfl))
 f246:=Tryz.func243.trans (congrArg some (by kernel_rfl))
 f283:=Tryz.func250.trans (congrArg some (by kernel_rfl))
 f284:=Tryz.func251.trans (congrArg some (by kernel_rfl))
 f285:=Tryz.func252.trans (congrArg some (by kernel_rfl))
 f286:=Tryz.func253.trans (congrArg some (by kernel_rfl))
 f317:=Tryz.func256.trans (congrArg some (by kernel_rfl))
 f318:=Tryz.func257.trans (congrArg some (by kernel_rfl))
 f319:=Tryz.func258.trans (congrArg some (by kernel_rfl))
 f320:=Tryz.func259.trans (congrArg some (by kernel_rfl))
 f337:=Tryz.func260.trans (congrArg some (by kernel_rfl))
 f338:=Tryz.func261.trans (congrArg some (by kernel_rfl))
 t0:=Tryz.underlying0
 a0:=Tryz.isAgg0
 z0:=Tryz.sizeOf0
 v0:=Tryz.zeroValue0
 t2:=Tryz.underlying2
 a2:=Tryz.isAgg2
 z2:=Tryz.sizeOf2
 v2:=Tryz.zeroValue2
 t3:=Tryz.underlying3
 a3:=Tryz.isAgg3
 z3:=Tryz.sizeOf3
 v3:=Tryz.zeroValue3
 t4:=Tryz.underlying4
 a4:=Tryz.isAgg4
 z4:=Tryz.sizeOf4
 v4:=Tryz.zeroValue4
 t5:=Tryz.underlying5
 a5:=Tryz.isAgg5
 z5:=Tryz.sizeOf5
 v5:=Tryz.zeroValue5
 t9:=Tryz.underlying9
 a9:=Tryz.isAgg9
 z9:=Tryz.sizeOf9
 v9:=Tryz.zeroValue9
 t20:=Tryz.underlying20
 a20:=Tryz.isAgg20
 z20:=Tryz.sizeOf20
 v20:=Tryz.zeroValue20
 t37:=Tryz.underlying208
 a37:=Tryz.isAgg208
 z37:=Tryz.sizeOf208
 v37:=Tryz.zeroValue208
 t46:=Tryz.underlying131
 a46:=Tryz.isAgg131
 z46:=Tryz.sizeOf131
 v46:=Tryz.zeroValue131
 t51:=Tryz.underlying222
 a51:=Tryz.isAgg222
 z51:=Tryz.sizeOf222
 v51:=Tryz.zeroValue222
 t53:=Tryz.underlying209
 a53:=Tryz.isAgg209
 z53:=Tryz.sizeOf209
 v53:=Tryz.zeroValue209
 t171:=Tryz.underlying285
 a171:=Tryz.isAgg285
 z171:=Tryz.sizeOf285
 v171:=Tryz.zeroValue285
 t173:=Tryz.underlying287
 a173:=Tryz.isAgg287
 z173:=Tryz.sizeOf287
 v173:=Tryz.zeroValue287
 t212:=Tryz.underlying293
 a212:=Tryz.isAgg293
 z212:=Tryz.sizeOf293
 v212:=Tryz.zeroValue293
 t213:=Tryz.underlying294
 a213:=Tryz.isAgg294
 z213:=Tryz.sizeOf294
 t232:=Tryz.underlying295
 a232:=Tryz.isAgg295
 z232:=Tryz.sizeOf295
 v232:=Tryz.zeroValue295
 t233:=Tryz.underlying296
 a233:=Tryz.isAgg296
 z233:=Tryz.sizeOf296
 v233:=Tryz.zeroValue296
 g17:=by kernel_rfl
 g18:=by kernel_rfl
 g19:=by kernel_rfl
 i0:=by kernel_rfl
 i2:=by kernel_rfl
 i3:=by kernel_rfl
 i4:=by kernel_rfl
 i5:=by kernel_rfl
 i9:=by kernel_rfl
 i20:=by kernel_rfl
 i37:=by kernel_rfl
 i46:=by kernel_rfl
 i51:=by kernel_rfl
 i53:=by kernel_rfl
 i171:=by kernel_rfl
 i173:=by kernel_rfl
 i212:=by kernel_rfl
 i232:=by kernel_rfl
 i233:=by kernel_rfl
 m17:=by kernel_rfl
 m18:=by kernel_rfl
 m19:=by kernel_rfl }
open Go.RowKit Go.Sort Go.Lib in
theorem Tryz.strconv_Itoa (n : Int) (h0 : -9223372036854775808 ≤ n) (h1 : n ≤ 9223372036854775807) (w : World) (htab : Lib.TabIs Tryz.prog w "internal/strconv.uint64pow10" .u64 Lib.pow10Tab) :
 Calls Tryz.prog 199 #[.int .i64 n] w fun e w'=>e = .returned (.string ⟨(Lib.itoa n).toArray⟩)∧∃k os,w'=grow (w.drewN k) os:=Any.strconv_Itoa Tryz.laysM171 n h0 h1 w htab
end Go.Proofs
namespace Go.Proofs.YtknpbekoenbphaaGreatDoor
open Go Go.RowKit Licit
def Tab (w : World) : Prop := Lib.TabIs Tryz.prog w "internal/strconv.uint64pow10" .u64 Lib.pow10Tab ∧ 0 < w.heap.size
theorem ko4 : Tryz.prog.globalNamed "internal/strconv.uint64pow10" = some 0 := by kernel_rfl
theorem Tab.below {B:Nat} {w w':World} (h:Tab w) (hb:Below B w w') (hB:0<B):Tab w':=⟨var?_below hb ko4 hB h.1,Nat.lt_of_lt_of_le h.2 hb.size⟩
theorem Tab.same {w w':World} (h:Tab w) (hb:Below w.heap.size w w'):Tab w':=h.below hb h.2
theorem kqe (w:World) (k:Nat) (os:Array Obj):Below w.heap.size w (Go.Sort.grow (w.drewN k) os) :=
 ⟨rfl,rfl,rfl,by simp [Go.Sort.grow],fun i hi=>by
   show (w.heap++os)[i]? = _;rw [Array.getElem?_append_left hi]⟩
theorem kig (n:Int) (h0:-9223372036854775808≤n) (h1:n≤9223372036854775807) (w:World) (ht:Tab w) :
 Calls Tryz.prog 199 #[.int .i64 n] w fun e w'=>e = .returned (.string (B (Lib.itoa n)))∧Below w.heap.size w w':=by
 refine (Tryz.strconv_Itoa n h0 h1 w ht.1).mono ?_;rintro e w' ⟨rfl,k,os,rfl⟩;exact ⟨rfl,kqe _ _ _⟩
theorem kds {n:Int} (h0:0≤n) (h1:n≤9223372036854775807):(B (Lib.decDigits n.toNat)).size≤21:=by
 have:=Lib.itoa_length_le n (by omega) h1
 unfold Lib.itoa at this;rw [if_neg (by omega)] at this;exact this
theorem kk4 (n:Int) (w:World) (ht:Tab w) :
 Calls Tryz.prog 152 #[.int .i64 n] w fun e w'=>e = .returned (.tuple #[.string (B (kl2 n).1),.int .i64 (kl2 n).2])∧Below w.heap.size w w':=by
 by_cases hn:n<0∨281474976710656<n
 ·have R:kl2 n=([],3):=by simp [kl2,hn]
  have HR:=hdd R;clear R
  go_enter Tryz.func152,Tryz.ntmps152
  go_wp2_with fail
  all_goals go_ret2
  all_goals exact ⟨by rw [HR.out];rfl,Below.refl _ _⟩
 ·have R:kl2 n=(Lib.decDigits n.toNat++[59],0):=by simp [kl2,hn]
  have HR:=hdd R;clear R;have b0:0≤n:=by omega
  have b1:n≤281474976710656:=by omega
  have hsz:=kds b0 (by omega);have HI:=hdd (show Lib.itoa n=Lib.decDigits n.toNat by unfold Lib.itoa;rw [if_neg (by omega)]);clear hn
  go_enter Tryz.func152,Tryz.ntmps152
  go_wp2_with (go_at_call 199;refine (kig n (by omega) (by omega) _ ht).mono ?_;rw [HI.out];rintro e w' ⟨rfl,hb⟩)
  go_ret2
  exact ⟨by rw [HR.out,←ka5];rfl,hb⟩
theorem kf1 (s:Bs) (w:World) (hs:s.length≤maxLen) (ht:Tab w) :
 Calls Tryz.prog 153 #[.string (B s)] w fun e w'=>e = .returned (.tuple #[.string (B (ka9 s).1),.int .i64 (ka9 s).2])∧Below w.heap.size w w':=by
 have hss:(B s).size=s.length:=rfl;unfold maxLen at hs
 by_cases hn:65536<s.length
 ·have R:ka9 s=([],10):=by simp [ka9,hn]
  have HR:=hdd R;clear R
  go_enter Tryz.func153,Tryz.ntmps153
  go_wp2_with fail
  all_goals go_ret2
  all_goals exact ⟨by rw [HR.out];rfl,Below.refl _ _⟩
 ·have R:ka9 s=(Lib.decDigits s.length++[58]++s++[44],0):=by simp [ka9,hn]
  have HR:=hdd R;clear R;have hsz:=kds (n:=(s.length:Int)) (by omega) (by omega);rw [Int.toNat_natCast] at hsz;have HI:=hdd (show Lib.itoa (s.length:Int)=Lib.decDigits s.length by unfold Lib.itoa;rw [if_neg (by omega),Int.toNat_natCast])
  go_enter Tryz.func153,Tryz.ntmps153
  go_wp2_with (go_at_call 199;refine (kig _ (by omega) (by omega) _ ht).mono ?_;rw [HI.out];rintro e w' ⟨rfl,hb⟩)
  go_ret2
  exact ⟨by rw [HR.out,←ka5,←ka5,←ka5];rfl,hb⟩
end Go.Proofs.YtknpbekoenbphaaGreatDoor
namespace Go.Proofs.YtknpbekoenbphaaGreatDoor
open Go Go.RowKit
theorem sizeBuilder:(Tryz.prog.info? 261).map (·.size)=some 2:=by kernel_rfl
theorem infoByte:(Tryz.prog.info? 5).map (fun i=>(i.zero,i.size,i.bytes))=some (some (.int .u8 0),1,1):=by kernel_rfl
theorem kjv (b:Nat) (w:World) (h0:w.cell? ⟨b,0,none⟩=some (.pointer (some ⟨b,0,none⟩))) :
 Calls Tryz.prog 244 #[.pointer (some ⟨b,0,none⟩)] w fun e w'=>e = .returned (.tuple #[])∧w'=w:=by
 obtain ⟨j,hj,_⟩:=Option.map_eq_some_iff.1 sizeBuilder
 go_enter Tryz.func244,Tryz.ntmps244
 go_wp2
 rw [Lib.run_neq_ptr_same w _ Tryz.underlying259 hj]
 go_wp2
 go_end0
 exact ⟨rfl,rfl⟩
theorem kiw (b:Nat) (w:World) (h0:w.cell? ⟨b,0,none⟩=some (.pointer none)) (hsh:w.shape? b=some (261,2)) (hfz:w.frozen? ⟨b,0,none⟩=false) :
 Calls Tryz.prog 244 #[.pointer (some ⟨b,0,none⟩)] w fun e w'=>e = .returned (.tuple #[])∧w'=w.setCell ⟨b,0,none⟩ (.pointer (some ⟨b,0,none⟩)):=by
 obtain ⟨j,hj,hjs⟩:=Option.map_eq_some_iff.1 sizeBuilder
 go_enter Tryz.func244,Tryz.ntmps244
 go_wp2
 rw [Lib.run_to_unsafe w ⟨b,0,none⟩ Tryz.underlying259 Tryz.underlying289 hj (by rw [hjs];decide) hsh (Nat.zero_lt_succ 1)];simp only [Result.andThen];rw [Oper.upon_value]
 go_wp2
 rw [run_callFunc_extern Tryz.func254 (by kernel_rfl) (by kernel_rfl) (by kernel_rfl) (e:=Extern.AbiNoEscape.same) (by kernel_rfl)];rw [Lib.run_noEscape];simp only [Result.andThen];rw [Oper.upon_value]
 go_wp2
 rw [Lib.run_from_unsafe w ⟨b,0,none⟩ Tryz.underlying289 Tryz.underlying259 hj hsh (by kernel_rfl)];simp only [Result.andThen];rw [Oper.upon_value]
 go_wp2
 go_end0
 exact ⟨rfl,rfl⟩
theorem kla (B b:Nat) (bs:List Value) (w:World) (h:Lib.IsBuilderF 261 5 B b bs w) :
 Calls Tryz.prog 244 #[.pointer (some ⟨b,0,none⟩)] w fun e w'=>e = .returned (.tuple #[])∧(Lib.BuilderAtF 261 5 B b (.pointer (some ⟨b,0,none⟩)) bs w'∧Below B w w'∧Lib.OthersKept 5 (some b) w w'):=by
 rcases h with h|h
 ·refine (kiw b w h.cell0 h.shape h.frozen0).mono ?_
  rintro e w' ⟨rfl,rfl⟩;exact ⟨rfl,h.used _,(Below.refl B w).setCell (p:=⟨b,0,none⟩) h.1 _,(Lib.OthersKept.refl _ _ w).setCell ⟨b,0,none⟩ rfl _⟩
 ·refine (kjv b w h.cell0).mono ?_
  rintro e w' ⟨rfl,rfl⟩;exact ⟨rfl,h,Below.refl B _,Lib.OthersKept.refl _ _ _⟩
theorem kdi (B b:Nat) (bs:List Value) (s:ByteArray) (w:World) (h:Lib.IsBuilderF 261 5 B b bs w) (hlen:bs.length+s.size≤140737488355328) (hBw:B≤w.heap.size) :
 Calls Tryz.prog 231 #[.pointer (some ⟨b,0,none⟩),.string s] w fun e w'=>e = .returned (.tuple #[.int .i64 s.size,.nilIface])∧(Lib.BuilderAtF 261 5 B b (.pointer (some ⟨b,0,none⟩)) (bs++Lib.strCells s) w'∧Below B w w'∧Lib.OthersKept 5 (some b) w w'):=by
 obtain ⟨i0,hi,hz0,hz1,hz2⟩:=info_parts infoByte
 go_enter Tryz.func231,Tryz.ntmps231
 go_wp2_with (go_at_call 244;refine (kla B b bs _ h).mono ?_)
 rintro e w1 ⟨rfl,h1,hb1,hk1⟩;obtain ⟨hB,v,hbk,hown,hne⟩:=h1;have c0:w1.cell? ⟨b,0,none⟩=some (.pointer (some ⟨b,0,none⟩)):=by rw [Lib.cell_of_heap hbk];rfl
 have c1:w1.cell? ⟨b,1,none⟩=some v:=by rw [Lib.cell_of_heap hbk];rfl
 go_wp2_with (at_builtin;refine Lib.wpList_append_own_stringF _ rfl _ _ 208 9 rfl B 5 i0 Tryz.underlying208 Tryz.underlying9 hi hz0 hz1 hz2 _ _ _ rfl hown s rfl ?c3 ?c4 ?c5 ?_)
 case c3=>unfold maxLen;omega
 case c4=>omega
 case c5=>have:=hb1.size;omega
 intro v' w2 hown' hgrow _
 have hlt:b<w1.heap.size:=by
  rcases Nat.lt_or_ge b w1.heap.size with h'|h'
  ·exact h'
  ·simp [Array.getElem?_eq_none h'] at hbk
 have hb2:w2.heap[b]? = some (.cells #[.pointer (some ⟨b,0,none⟩),v] 261 (0,0)):=by
  rw [hgrow.block b hlt (fun e=>hne e.symm)];exact hbk
 have d0:w2.cell? ⟨b,0,none⟩=some (.pointer (some ⟨b,0,none⟩)):=by rw [Lib.cell_of_heap hb2];rfl
 have d1:w2.cell? ⟨b,1,none⟩=some v:=by rw [Lib.cell_of_heap hb2];rfl
 have f1:w2.frozen? ⟨b,1,none⟩=false:=Lib.frozen_of_heap hb2 1
 obtain ⟨ao,n',cap,rfl⟩:∃ao n' cap,v' = .slice ao n' cap:=by
  rcases hown'.2 with ⟨hv,_⟩|⟨g,cap,cur,fz,hv,_⟩
  ·exact ⟨_,_,_,hv⟩
  ·exact ⟨_,_,_,hv⟩
 go_wp2
 go_ret2
 refine ⟨rfl,?_,?_,(hk1.grown hgrow (Lib.ownsRowF_kind hown)).setCell ⟨b,1,none⟩ rfl _⟩
 ·exact Lib.BuilderAtF.put (T:=261) (e:=5) hB hb2 (bs':=bs++Lib.strCells s) (by simpa [Lib.strCells_length] using hown') (by decide)
 ·exact (hb1.grown hgrow (by have:=hb1.size;omega) (fun k hk=>(hown.lt k hk).1)).setCell (p:=⟨b,1,none⟩) hB _
end Go.Proofs.YtknpbekoenbphaaGreatDoor
namespace Go.Proofs.YtknpbekoenbphaaGreatDoor
open Go Go.RowKit Licit
theorem kxd {α:Type} (one:α→Bs × Int) (xs:List α) (acc:Bs) (k:Nat) (hk:k<xs.length) :
 kl9 one (xs.drop k) acc=if (one xs[k]).2≠0 then ([],(one xs[k]).2) else kl9 one (xs.drop (k+1)) (acc++(one xs[k]).1):=by
 rw [List.drop_eq_getElem_cons hk];rfl
theorem ki1 (s:Bs):(ka9 s).1.length≤65600:=by
 unfold ka9;split
 ·simp
 ·have:=kds (n:=(s.length:Int)) (by omega) (by omega)
  rw [kdf,Int.toNat_natCast] at this
  simp;omega
theorem kjs {w w':World} {base:Nat} {e:TypeId} {size:Nat} {v:Value} {n:Nat} {xs:List Value} (h:w.ownsRowF base e size v n xs) (hb:Below w.heap.size w w'):w'.ownsRowF base e size v n xs:=by
 obtain ⟨h1,h2⟩:=h;refine ⟨h1,?_⟩;rcases h2 with h2|⟨g,cap,cur,fz,hv,hg,hh,r⟩
 ·exact .inl h2
 ·exact .inr ⟨g,cap,cur,fz,hv,hg,by rw [hb.block g (kad hh)];exact hh,r⟩
theorem kez {T e:TypeId} {B b:Nat} {p:Value} {bs:List Value} {w w':World} (h:Lib.BuilderAtF T e B b p bs w) (hb:Below w.heap.size w w'):Lib.BuilderAtF T e B b p bs w':=by
 obtain ⟨hB,v,hbk,hown,hne⟩:=h;exact ⟨hB,v,by rw [hb.block b (kad hbk)];exact hbk,kjs hown hb,hne⟩
theorem keg {T e:TypeId} {B b:Nat} {bs:List Value} {w w':World} (h:Lib.IsBuilderF T e B b bs w) (hb:Below w.heap.size w w'):Lib.IsBuilderF T e B b bs w' :=
 h.elim (fun h=>.inl (kez h hb)) (fun h=>.inr (kez h hb))
theorem kns (w:World) (T e:TypeId):Lib.IsBuilderF T e w.heap.size w.heap.size [] (w.alloc (.cells #[.pointer none,.slice none 0 0] T)) :=
 .inl ⟨Nat.le_refl _,_,kai _ _,World.ownsRowF_nil _ _ _ _,by simp [Value.ownBlock]⟩
theorem ktx (v:Value) (xs:List Bs) (w:World) (h:IsSl v (xs.map vS) w) (hl:∀x∈xs,x.length≤maxLen) (ht:Tab w) :
 Calls Tryz.prog 200 #[v,.func (.func 153) #[] #[]] w fun e w'=>e = .returned (.tuple #[.string (B (kco ka9 xs).1),.int .i64 (kco ka9 xs).2])∧Below w.heap.size w w':=by
 obtain ⟨hm,h⟩:=h;rw [List.length_map] at hm;unfold maxLen at hm;have hbn:=kns w 261 5;have htn:=ht.same ((Below.refl _ _).alloc (Nat.le_refl _) (.cells #[.pointer none,.slice none 0 0] 261));rcases h with ⟨a,cap,rfl,h⟩|⟨b,off,cap,rfl,h0,hc⟩
 ·obtain rfl:xs=[]:=by simpa using h
  have R:kco ka9 ([]:List Bs)=(Lib.decDigits 0++[59],0):=rfl;have HR:=hdd R;have hd0:(B (Lib.decDigits 0)).size≤21:=kds (n:=0) (by omega) (by omega);have HI:=hdd (show Lib.itoa 0=Lib.decDigits 0 by rfl);have Hw0:=hdd (show ([]:List Value).length+(B (Lib.decDigits 0)++(⟨#[59]⟩:ByteArray)).size≤140737488355328 by rw [List.length_nil,ByteArray.size_append,show (⟨#[59]⟩:ByteArray).size=1 from rfl];omega);clear R h
  go_enter Tryz.func200,Tryz.ntmps200
  go_wp2_with (first
   |(go_at_call 199;refine (kig 0 (by omega) (by omega) _ htn).mono ?_;rw [HI.out];rintro e w1 ⟨rfl,hb⟩)
   |(go_at_call 231;refine (kdi w.heap.size w.heap.size [] _ _ (keg hbn hb) Hw0.out (by have:=hb.size;simp at this;omega)).mono ?_;rintro e w2 ⟨rfl,hB2,hb2,_⟩))
  refine wp_loop_rounds 1 ?_;rw [rounds_succ]
  go_wp2_with (first
   |(go_at_call 232;refine (Tryz.Builder_String_any_k w.heap.size w.heap.size (Lib.decDigits 0++[59]) _ (.inr (by rw [List.nil_append,Lib.strCells_eq,show ((⟨#[59]⟩:ByteArray))=B [59] from rfl,ka5,B_list] at hB2;exact hB2)) (by have:=hb.size;have:=hb2.size;simp at *;omega)).mono ?_;rintro e w3 ⟨rfl,_,hb3,_⟩))
  go_ret2
  exact ⟨by rw [HR.out];rfl,((((Below.refl _ _).alloc (Nat.le_refl _) _).trans (hb.mono (by simp))).trans hb2).trans hb3⟩
 ·rw [List.length_map] at h0 hc
  by_cases hbig:1024<xs.length
  ·have R:kco ka9 xs=([],10):=by simp [kco,hbig]
   have HR:=hdd R;clear R hc
   go_enter Tryz.func200,Tryz.ntmps200
   rw [List.length_map]
   go_wp2
   go_ret2
   exact ⟨by rw [HR.out];rfl,Below.refl _ _⟩
  ·have HR:=hdd (show kco ka9 xs=kl9 ka9 xs (Lib.decDigits xs.length++[59]) by simp [kco,hbig])
   have hbw:b<w.heap.size:=by
    have:=hc 0 (by omega)
    exact World.block_lt_of_cell? w _ (this.trans (List.getElem?_eq_getElem (by simpa using h0)))
   have HC:=hdd hc;clear hc;have hd0:=kds (n:=(xs.length:Int)) (by omega) (by omega);rw [Int.toNat_natCast] at hd0;have HI:=hdd (show Lib.itoa (xs.length:Int)=Lib.decDigits xs.length by unfold Lib.itoa;rw [if_neg (by omega),Int.toNat_natCast]);have Hw0:=hdd (show ([]:List Value).length+(B (Lib.decDigits xs.length)++(⟨#[59]⟩:ByteArray)).size≤140737488355328 by rw [List.length_nil,ByteArray.size_append,show (⟨#[59]⟩:ByteArray).size=1 from rfl];omega)
   go_enter Tryz.func200,Tryz.ntmps200
   rw [List.length_map]
   go_wp2_with (first
    |(go_at_call 199;refine (kig _ (by omega) (by omega) _ htn).mono ?_;rw [HI.out];rintro e w1 ⟨rfl,hb⟩)
    |(go_at_call 231;refine (kdi w.heap.size w.heap.size [] _ _ (keg hbn hb) Hw0.out (by have:=hb.size;simp at this;omega)).mono ?_;rintro e w2 ⟨rfl,hB2,hb2,_⟩))
   have hB2':Lib.IsBuilderF 261 5 w.heap.size w.heap.size (Lib.byteCells (Lib.decDigits xs.length++[59])) w2:=.inr (by rw [List.nil_append,Lib.strCells_eq,show ((⟨#[59]⟩:ByteArray))=B [59] from rfl,ka5,B_list] at hB2;exact hB2);have hbb:Below w.heap.size w w2:=(((Below.refl _ _).alloc (Nat.le_refl _) _).trans (hb.mono (by simp))).trans hb2;have hsz2:w.heap.size<w2.heap.size:=by have:=hb.size;have:=hb2.size;simp at *;omega
   have HB2:=hdd hB2';have HBB:=hdd hbb;have htab:=ht.same hbb;clear hB2 hB2' hbb hb hb2 hbn htn
   go_loopw [21] (fun i wr=>∃(k:Nat) (acc:Bs),k≤xs.length∧i = .int .i64 k∧acc.length≤22+k*65600∧Lib.IsBuilderF 261 5 w.heap.size w.heap.size (Lib.byteCells acc) wr∧Below w.heap.size w wr∧w.heap.size<wr.heap.size∧Hid (kl9 ka9 (xs.drop k) acc=kco ka9 xs)) (fun i _=>xs.length - (intOf i).toNat)
   case atStart=>exact ⟨0,_,Nat.zero_le _,rfl,by rw [kdf] at hd0;simp;omega,HB2.out,HBB.out,hsz2,HR.out.symm⟩
   case round =>
    obtain ⟨k,acc,hk,rfl,hal,hBr,hbr,hszr,H⟩:=hrel;have HBr:=hdd hBr;have Hbr:=hdd hbr;have htr:=ht.same hbr
    by_cases hlt:k<xs.length
    ·have hcell:wr.cell? ⟨b,off+k,none⟩=some (vS xs[k]):=by
      rw [hbr.cell (p:=⟨b,off+k,none⟩) hbw,HC.out k hlt];simp [hlt]
     have hx:=hl xs[k] (List.getElem_mem hlt);have HA:=hdd (kxd ka9 xs acc k hlt);clear hBr hbr;unfold vS at hcell
     by_cases hone:(ka9 xs[k]).2=0
     ·have hone':((ka9 xs[k]).2 == 0)=true:=by simp [hone]
      have hone'':((ka9 xs[k]).2 != 0)=false:=by simp [hone]
      have HO:=hdd hone;have hln:=ki1 xs[k];clear hone
      go_wp2_with (first
       |(go_at_call 153;refine (kf1 xs[k] _ hx htr).mono ?_;rintro e w3 ⟨rfl,hb3⟩;have Hb3:=hdd hb3;have hs3:=hb3.size;clear hb3)
       |(go_at_call 231;refine (kdi w.heap.size w.heap.size (Lib.byteCells acc) _ _ (keg HBr.out Hb3.out) (by rw [Lib.byteCells_length,kdf];omega) (by omega)).mono ?_;rintro e w4 ⟨rfl,hB4,hb4,_⟩;have HB4:=hdd hB4;have Hb4:=hdd hb4;have hs4:=hb4.size;clear hB4 hb4))
      go_roundw
      case rel =>
       refine ⟨k+1,acc++(ka9 xs[k]).1,by omega,by go_num,by rw [List.length_append];omega,?_,?_,by omega,?_⟩
       ·have:=HB4.out
        rw [Lib.strCells_eq,B_list,←Lib.byteCells_append] at this;exact .inr this
       ·exact (Hbr.out.trans (Hb3.out.mono (by omega))).trans Hb4.out
       ·have:=HA.out
        rw [if_neg (by simp [HO.out])] at this;exact this.symm.trans H.out
      case measure=>simp [intOf];omega
     ·have hone':((ka9 xs[k]).2 == 0)=false:=by simpa using hone
      have hone'':((ka9 xs[k]).2 != 0)=true:=by simpa using hone
      have hfin:=H.out;have HF:Hid (kco ka9 xs=([],(ka9 xs[k]).2)):=by show _=_;rw [←hfin,HA.out,if_pos hone]
      clear hone hfin
      go_wp2_with (first
       |(go_at_call 153;refine (kf1 xs[k] _ hx htr).mono ?_;rintro e w3 ⟨rfl,hb3⟩;have Hb3:=hdd hb3;have hs3:=hb3.size;clear hb3))
      go_ret2
      exact ⟨by rw [HF.out];rfl,Hbr.out.trans (Hb3.out.mono (by omega))⟩
    ·obtain rfl:k=xs.length:=by omega
     have HF:Hid (kco ka9 xs=(acc,0)):=by
      show _=_;have hfin:=H.out;rw [←hfin,List.drop_length];rfl
     clear hBr hbr
     go_wp2_with (first
      |(go_at_call 232;refine (Tryz.Builder_String_any_k w.heap.size w.heap.size acc _ HBr.out (by omega)).mono ?_;rintro e w3 ⟨rfl,_,hb3,_⟩))
     go_ret2
     exact ⟨by rw [HF.out];rfl,Hbr.out.trans hb3⟩
theorem klr (v:Value) (xs:List Bs) (w:World) (h:IsSl v (xs.map vS) w) (hl:∀x∈xs,x.length≤maxLen) (ht:Tab w) :
 Calls Tryz.prog 154 #[v] w fun e w'=>e = .returned (.tuple #[.string (B (kco ka9 xs).1),.int .i64 (kco ka9 xs).2])∧Below w.heap.size w w':=by
 go_enter Tryz.func154,Tryz.ntmps154
 go_wp2_with (go_at_call 200;refine (ktx v xs _ h hl ht).mono ?_;rintro e w1 ⟨rfl,hb⟩)
 go_ret2
 exact ⟨rfl,hb⟩
theorem kzc (W:World) (g cap:Nat) (m:Int) (h:W.cell? ⟨g,0,none⟩=some (.int .u8 m)) (h0:0≤m) (h1:m≤255) :
 (convert 208 9 (.slice (some ⟨g,0,none⟩) 1 cap)).run Tryz.prog W = .ok (.string (B [UInt8.ofNat m.toNat])) W:=by
 refine run_convert_bytes_back (P:=Tryz.prog) W 208 9 5 ⟨g,0,none⟩ cap [UInt8.ofNat m.toNat] Tryz.underlying208 Tryz.underlying5 Tryz.underlying9 (fun j hj=>?_);obtain rfl:j=0:=by simpa using hj
 have hm:((UInt8.ofNat m.toNat).toNat:Int)=m:=by
  rw [UInt8.toNat_ofNat'];omega
 show W.cell? ⟨g,0,none⟩=_;rw [h,List.getElem_cons_zero,hm]
theorem ke7 {n:Int} (h0:0≤n) (h1:n≤9223372036854775807):(B (Lib.decDigits n.toNat)).size≤21:=by
 have:=Lib.itoa_length_le n (by omega) h1
 unfold Lib.itoa at this;rw [if_neg (by omega)] at this;exact this
theorem k0j {W w1:World} (hb:Below W.heap.size W w1):(∀b o,b<W.heap.size→w1.cell? ⟨b,o,none⟩=W.cell? ⟨b,o,none⟩)∧(∀b o,b<W.heap.size→w1.frozen? ⟨b,o,none⟩=W.frozen? ⟨b,o,none⟩) :=
 ⟨fun b o h=>hb.cell (p:=⟨b,o,none⟩) h,fun b o h=>hb.frozen (p:=⟨b,o,none⟩) h⟩
theorem krq {n:Int} (h0:0≤n) (h:n<10):Lib.decDigits n.toNat=[UInt8.ofNat (48+n).toNat]:=by
 rw [Lib.decDigits_one (by omega),show (48+n).toNat=48+n.toNat by omega]
theorem kx6 {n:Int} (h:¬ n<10):Lib.decDigits n.toNat=Lib.decDigits (n / 10).toNat++[UInt8.ofNat (48+n % 10).toNat]:=by
 rw [Lib.decDigits,dif_neg (by omega),show (n / 10).toNat=n.toNat / 10 by omega,show (48+n % 10).toNat=48+n.toNat % 10 by omega]
theorem kgc (k:Nat):∀(n:Int) (w:World),0≤n→n<k→n≤9223372036854775807 →
 Calls Tryz.prog 170 #[.int .i64 n] w fun e w'=>e = .returned (.string (B (Lib.decDigits n.toNat)))∧Below w.heap.size w w':=by
 induction k with
 |zero=>intro n w h0 h1;omega
 |succ k ih =>
  intro n w h0 hk h1;have HI:=hdd ih;clear ih
  by_cases hlt:n<10
  ·have HR:=hdd (krq h0 hlt)
   have kc:=kzc ((w.alloc (.cells #[.int .u8 (48+n)] 5))) w.heap.size 1 (48+n) (kwv _ _) (by omega) (by omega)
   go_enter Tryz.func170,Tryz.ntmps170
   go_wp2
   go_ret
   exact ⟨by rw [HR.out];rfl,(Below.refl _ _).alloc (Nat.le_refl _) _⟩
  ·have HR:=hdd (kx6 hlt)
   have hds:=ke7 (n:=n / 10) (by omega) (by omega);have kc:=fun (W:World) (g cap:Nat) (h:W.cell? ⟨g,0,none⟩=some (.int .u8 (48+n % 10)))=>kzc W g cap (48+n % 10) h (by omega) (by omega)
   have HW:=hdd (fun W=>HI.out (n / 10) W (by omega) (by omega) (by omega));have HD:=hdd hds;have r0:0≤n % 10:=by omega
   have r1:n % 10<10:=by omega
   have e1:n.tdiv 10=n / 10:=Int.tdiv_eq_ediv_of_nonneg h0;have e2:IntKind.i64.wrap (n / 10)=n / 10:=by rw [IntKind.wrap_i64];omega
   have e3:n.tmod 10=n % 10:=Int.tmod_eq_emod_of_nonneg h0;have e4:IntKind.i64.wrap (n % 10)=n % 10:=by rw [IntKind.wrap_i64];omega
   have e5:IntKind.i64.wrap (48+n % 10)=48+n % 10:=by rw [IntKind.wrap_i64];omega
   have e6:IntKind.u8.wrap (48+n % 10)=48+n % 10:=by rw [IntKind.wrap_u8];omega
   have hone:(B [UInt8.ofNat (48+n % 10).toNat]).size=1:=rfl;clear hds
   go_enter Tryz.func170,Tryz.ntmps170
   go_wp2_with fail
   go_region_with (first
    |(go_at_call 170;refine (HW.out _).mono ?_;rintro e w' ⟨rfl,hb⟩;obtain ⟨hc,hf⟩:=k0j hb;have hsz:=hb.size;have Hb:=hdd hb;have hd:=HD.out;clear hb))
   all_goals go_wp2
   all_goals go_ret
   all_goals refine ⟨by rw [HR.out,←ka5];rfl,?_⟩
   all_goals first
    |exact (((Below.refl _ w).drew).trans Hb.out).alloc (by have:=Hb.out.size;simp at this;omega) _
    |exact (((Below.refl _ w).drew).alloc (by simp) _).trans (Hb.out.mono (by simp))
theorem kjw (n:Int) (w:World) :
 Calls Tryz.prog 155 #[.int .i64 n] w fun e w'=>e = .returned (.tuple #[.string (B (kl2 n).1),.int .i64 (kl2 n).2])∧Below w.heap.size w w':=by
 by_cases hn:n<0∨281474976710656<n
 ·have R:kl2 n=([],3):=by simp [kl2,hn]
  have HR:=hdd R;clear R
  go_enter Tryz.func155,Tryz.ntmps155
  go_wp2_with fail
  all_goals go_ret2
  all_goals exact ⟨by rw [HR.out];rfl,Below.refl _ _⟩
 ·have R:kl2 n=(Lib.decDigits n.toNat++[59],0):=by simp [kl2,hn]
  have HR:=hdd R;clear R;have b0:0≤n:=by omega
  have b1:n≤281474976710656:=by omega
  have hsz:=ke7 b0 (by omega);have HD:=hdd (fun w=>kgc (n.toNat+1) n w b0 (by omega) (by omega));clear hn
  go_enter Tryz.func155,Tryz.ntmps155
  go_wp2_with (go_at_call 170;refine (HD.out _).mono ?_;rintro e w' ⟨rfl,hb⟩)
  go_ret2
  exact ⟨by rw [HR.out,←ka5];rfl,hb⟩
theorem ke5 (s:Bs) (w:World) (hs:s.length≤maxLen) :
 Calls Tryz.prog 156 #[.string (B s)] w fun e w'=>e = .returned (.tuple #[.string (B (ka9 s).1),.int .i64 (ka9 s).2])∧Below w.heap.size w w':=by
 have hss:(B s).size=s.length:=rfl;unfold maxLen at hs
 by_cases hn:65536<s.length
 ·have R:ka9 s=([],10):=by simp [ka9,hn]
  have HR:=hdd R;clear R
  go_enter Tryz.func156,Tryz.ntmps156
  go_wp2_with fail
  all_goals go_ret2
  all_goals exact ⟨by rw [HR.out];rfl,Below.refl _ _⟩
 ·have R:ka9 s=(Lib.decDigits s.length++[58]++s++[44],0):=by simp [ka9,hn]
  have HR:=hdd R;clear R;have hsz:=ke7 (n:=(s.length:Int)) (by omega) (by omega);rw [Int.toNat_natCast] at hsz;have HD:=fun w=>kgc (s.length+1) (s.length:Int) w (by omega) (by omega) (by omega)
  rw [Int.toNat_natCast] at HD;have HD:=hdd HD
  go_enter Tryz.func156,Tryz.ntmps156
  go_wp2_with (go_at_call 170;refine (HD.out _).mono ?_;rintro e w' ⟨rfl,hb⟩)
  go_ret2
  exact ⟨by rw [HR.out,←ka5,←ka5,←ka5];rfl,hb⟩
end Go.Proofs.YtknpbekoenbphaaGreatDoor
