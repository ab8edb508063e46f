/- Parts of the proofs: ShaProg. No condition beyond those at each theorem. -/
import Derived.Laws.AppendOwnNone
import Derived.Laws.BytesArg
import Derived.Laws.CopyOwn
import Derived.Lib.AppendStr
import Derived.OwnWalk
import Derived.Test.YtknpbekoenbphaaGreatDoorQk03
set_option linter.unusedVariables false
set_option linter.unusedSimpArgs false
set_option maxHeartbeats 16000000
set_option maxRecDepth 100000
namespace Licit.Sha
open Go Go.RowKit Licit
def vB (b:UInt8):Value:=.int .u8 (b.toNat:Int)
def vBs (l:Bs):List Value:=l.map vB
theorem vBs_len (l:Bs):(vBs l).length=l.length:=by simp [vBs]
theorem vBs_at (l:Bs) {i:Nat} (h:i<l.length):(vBs l)[i]? = some (vB (l.getD i 0)):=by
 simp [vBs,List.getD_eq_getElem?_getD,h]
def spA (st:Sha.St) (M:Array Value):Array Value:=wA 25 st++M
theorem kgu (st:Sha.St) (M:Array Value):(spA st M).size=25+M.size:=by simp [spA,kar]
theorem kog {st:Sha.St} {M:Array Value} {i:Nat} (h:i<25):(spA st M)[i]? = some (vW (st i)):=by
 unfold spA;rw [Array.getElem?_append_left (by rw [kar];exact h),kcn st h]
theorem kvr {st:Sha.St} {M:Array Value} (j:Nat):(spA st M)[25+j]? = M[j]?:=by
 unfold spA;rw [Array.getElem?_append_right (by rw [kar];omega),kar]
 congr 1
 omega
theorem kyf {st:Sha.St} {M:Array Value} {i:Nat} (h:i<25) (v:W64):(spA st M).setIfInBounds i (vW v)=spA (upd st i v) M:=by
 unfold spA;rw [Array.setIfInBounds_append_left (by rw [kar];exact h),kwi]
theorem kt6 {st:Sha.St} {M:Array Value} (j:Nat) (v:Value):(spA st M).setIfInBounds (25+j) v=spA st (M.setIfInBounds j v):=by
 unfold spA;rw [Array.setIfInBounds_append_right (by rw [kar];omega),kar,show 25+j - 25=j by omega]
theorem kh2 (n:Nat) (f:Sha.St):(wA n f).toList.length=n:=by simp [wA]
theorem kxb (st st':Sha.St) (M:Array Value):kms (spA st M) 0 (wA 25 st').toList=spA st' M:=by
 apply Array.ext_getElem?
 intro i
 by_cases h:i<25
 ·have:=kle (wA 25 st').toList (spA st M) 0 i (by rw [kh2,kgu];omega) (by rw [kh2];exact h)
  rw [Nat.zero_add] at this;rw [this,kog h,Array.getElem?_toList,kcn st' h]
 ·rw [kgx _ _ _ _ (.inr (by rw [kh2];omega))]
  unfold spA;rw [Array.getElem?_append_right (by rw [kar];omega),Array.getElem?_append_right (by rw [kar];omega),kar,kar]
def Spg (T:TypeId) (p:Nat) (st:Sha.St) (M:Array Value) (w:World):Prop:=w.heap[p]? = some (.cells (spA st M) T (0,0))
section
variable {T:TypeId} {p:Nat} {st:Sha.St} {M:Array Value} {w w':World}
theorem Spg.lt (h:Spg T p st M w):p<w.heap.size:=kad h
theorem Spg.word (h:Spg T p st M w) {i:Nat} (hi:i<25):w.cell? ⟨p,i,none⟩=some (vW (st i)):=by rw [kaa h,kog hi]
theorem Spg.more (h:Spg T p st M w) (j:Nat):w.cell? ⟨p,25+j,none⟩=M[j]?:=by rw [kaa h,kvr]
theorem Spg.f (h:Spg T p st M w) (i:Nat):w.frozen? ⟨p,i,none⟩=false:=kbm h i
theorem Spg.put (h:Spg T p st M w) {i:Nat} (hi:i<25) (v:W64):Spg T p (upd st i v) M (w.setCell ⟨p,i,none⟩ (vW v)):=by
 have:=set_of h i (vW v)
 rw [kyf hi] at this;exact this
theorem Spg.putM (h:Spg T p st M w) (j:Nat) (v:Value):Spg T p st (M.setIfInBounds j v) (w.setCell ⟨p,25+j,none⟩ v):=by
 have:=set_of h (25+j) v
 rw [kt6] at this;exact this
theorem Spg.state (h:Spg T p st M w):w.rangeAt p 0 (wA 25 st).toList:=kop h 0 _ fun i hi=>by
 rw [kh2] at hi;rw [Nat.zero_add,kog hi,Array.getElem?_toList,kcn st hi]
theorem Spg.there (h:Spg T p st M w):w.there p 0 25:=kfl h 0 25 (by rw [kgu];omega)
theorem Spg.putSt (h:Spg T p st M w) (st':Sha.St):Spg T p st' M (w.setCells p 0 (wA 25 st').toList):=by
 have:=kcu (wA 25 st').toList _ 0 w h
 rw [kxb] at this;exact this
theorem Spg.kept {S:Nat→Prop} (h:Spg T p st M w) (hk:ka7 S w w') (hs:¬ S p):Spg T p st M w':=(hk.block p h.lt hs).trans h
theorem Spg.below (h:Spg T p st M w) (hk:Below w.heap.size w w'):Spg T p st M w':=(hk.block p h.lt).trans h
end
def spM (rest:Value) (n:Nat) (X:Array Value):Array Value:=#[rest,.int .i64 (n:Int)]++X
section
variable {T:TypeId} {p:Nat} {st:Sha.St} {rv:Value} {n:Nat} {X:Array Value} {w w':World}
theorem kgs:(spM rv n X).size=2+X.size:=by simp [spM]
theorem Spg.rest (h:Spg T p st (spM rv n X) w):w.cell? ⟨p,25,none⟩=some rv:=by
 have:=h.more 0
 rw [Nat.add_zero] at this;rw [this];unfold spM;rw [Array.getElem?_append_left (by simp)];rfl
theorem Spg.taken (h:Spg T p st (spM rv n X) w):w.cell? ⟨p,26,none⟩=some (.int .i64 (n:Int)):=by
 have:=h.more 1
 rw [this];unfold spM;rw [Array.getElem?_append_left (by simp)];rfl
theorem kun (v:Value):(spM rv n X).setIfInBounds 0 v=spM v n X:=by
 unfold spM;rw [Array.setIfInBounds_append_left (by simp)];rfl
theorem kv5 (m:Nat):(spM rv n X).setIfInBounds 1 (.int .i64 (m:Int))=spM rv m X:=by
 unfold spM;rw [Array.setIfInBounds_append_left (by simp)];rfl
theorem Spg.putRest (h:Spg T p st (spM rv n X) w) (v:Value):Spg T p st (spM v n X) (w.setCell ⟨p,25,none⟩ v):=by
 have:=h.putM 0 v
 rw [kun] at this;exact this
theorem Spg.putTaken (h:Spg T p st (spM rv n X) w) (m:Nat):Spg T p st (spM rv m X) (w.setCell ⟨p,26,none⟩ (.int .i64 (m:Int))):=by
 have:=h.putM 1 (.int .i64 (m:Int))
 rw [kv5] at this;exact this
theorem Spg.grown {M:Array Value} {row:Option Nat} (h:Spg T p st M w) (hg:w.grownBy w' row) (hr:row≠some p):Spg T p st M w' :=
 (hg.block p h.lt (fun e=>hr e.symm)).trans h
end
theorem ki7 (l:Bs):∀u∈vBs l,u.oneCell'=true:=by
 intro u hu;obtain ⟨b,_,rfl⟩:=List.mem_map.1 hu;rfl
theorem klh {w:World} {base:Nat} {e:TypeId} {g cap n:Nat} {l:Bs} (h:w.ownsRow base e 1 (.slice (some ⟨g,0,none⟩) n cap) n (vBs l)) {i:Nat} (hi:i<l.length):w.cell? ⟨g,i,none⟩=some (vB (l.getD i 0)):=by
 have:=h.cells (g:=g) rfl i _ (vBs_at l hi)
 have e:(⟨g,0,none⟩:Addr).add i=⟨g,i,none⟩:=by unfold Addr.add;split <;> simp_all
 rw [e] at this;exact this
theorem kwe {w:World} {base:Nat} {e:TypeId} {g cap n:Nat} {l:Bs} (h:w.ownsRow base e 1 (.slice (some ⟨g,0,none⟩) n cap) n (vBs l)) (k:Nat):∀j u,(vBs (l.drop k))[j]? = some u→w.cell? ((⟨g,k,none⟩:Addr).add j)=some u:=by
 intro j u hu;have e:(⟨g,k,none⟩:Addr).add j=⟨g,k+j,none⟩:=by unfold Addr.add;split <;> simp_all
 have hlt:j<(l.drop k).length:=by
  rcases Nat.lt_or_ge j (l.drop k).length with c|c
  ·exact c
  ·rw [List.getElem?_eq_none (by rw [vBs_len];exact c)] at hu;cases hu
 rw [vBs_at _ hlt] at hu;rw [e,←hu,klh h (by simp at hlt;omega),kd9]
theorem own_full {w:World} {base:Nat} {e:TypeId} {g n:Nat} {xs:List Value} (h:w.ownsRow base e 1 (.slice (some ⟨g,0,none⟩) n n) n xs):w.heap[g]? = some (.cells xs.toArray e (0,0)):=by
 rcases h.2 with ⟨h0,_⟩|⟨g',cap,cur,h1,h2,h3,h4,h5,h6,h7⟩
 ·cases h0
 ·simp only [Value.slice.injEq,Option.some.injEq,Addr.mk.injEq] at h1
  obtain ⟨⟨rfl,_⟩,_,rfl⟩:=h1;rw [h3]
  congr 2
  rw [←h7,List.take_of_length_le (by simp;omega)]
theorem kkj (n:Nat):(madeCells #[Value.int .u8 0] n).toList=vBs (List.replicate n 0):=by
 simp [madeCells,vBs,vB]
 apply List.ext_getElem
 ·simp
 ·intro i h1 h2
  simp [Nat.mod_one]
theorem kkq (L:Bs) (i:Nat) (b:UInt8):(vBs L).toArray.setIfInBounds i (vB b)=(vBs (L.set i b)).toArray:=by
 simp [vBs,List.map_set]
theorem kpe (L l:Bs):splice (vBs L) 0 (vBs l)=vBs (l++L.drop l.length):=by
 simp [splice,vBs]
theorem kmj (b:Nat→UInt8) (s:Sha.St) (k:Nat):khp b s (k+1)=upd (khp b s k) (k / 8) (khp b s k (k / 8) ^^^ (BitVec.ofNat 64 (b k).toNat <<< (8*(k % 8)))):=rfl
theorem kl4 (b:UInt8):(BitVec.ofNat 64 b.toNat).toNat=b.toNat:=by
 rw [BitVec.toNat_ofNat,Nat.mod_eq_of_lt]
 have:=b.toNat_lt
 omega
theorem kqq {P:Program} {src dst e:TypeId} (hs:P.underlying src=some (.slice e)) (he:P.underlying e=some (.int .u8)) (hd:P.underlying dst=some .string) {w:World} {base:Nat} {v:Value} {l:Bs} (h:w.ownsRow base e 1 v l.length (vBs l)) :
 (convert src dst v).run P w = .ok (.string (B l)) w:=by
 rcases id h.2 with ⟨rfl,h0⟩|⟨g,cap,cur,rfl,_⟩
 ·obtain rfl:=List.eq_nil_of_length_eq_zero h0
  exact run_convert_bytes_nil w src e hs he _ _ dst hd
 ·refine run_convert_bytes_back w src dst e ⟨g,0,none⟩ cap l hs he hd fun j hj=>?_
  have e:(⟨g,0,none⟩:Addr).add j=⟨g,j,none⟩:=by unfold Addr.add;split <;> simp_all
  rw [e,klh h hj];simp [vB,List.getD_eq_getElem?_getD,hj]
theorem khx {P:Program} {src dst e:TypeId} (hs:P.underlying src=some (.slice e)) (he:P.underlying e=some (.int .u8)) (hd:P.underlying dst=some .string) {w:World} {g cap:Nat} {l:Bs} (h:w.heap[g]? = some (.cells (vBs l).toArray e (0,0))) :
 (convert src dst (.slice (some ⟨g,0,none⟩) l.length cap)).run P w = .ok (.string (B l)) w:=by
 refine run_convert_bytes_back w src dst e ⟨g,0,none⟩ cap l hs he hd fun j hj=>?_
 have e:(⟨g,0,none⟩:Addr).add j=⟨g,j,none⟩:=by unfold Addr.add;split <;> simp_all
 rw [e,kaa h,List.getElem?_toArray,vBs_at _ hj];simp [vB,List.getD_eq_getElem?_getD,hj]
theorem k0v (x y:UInt8):bits .xor .u8 (x.toNat:Int) (y.toNat:Int)=((x ^^^ y).toNat:Int):=by
 rw [u8_xor_nat _ _ x.toNat_lt y.toNat_lt,UInt8.toNat_xor]
def kib (l:Bs):Bs:=((l++(List.replicate 136 0).drop l.length).set l.length 6)
theorem kgg {l:Bs} (h:l.length<136):(kib l).length=136:=by simp [kib];omega
theorem koo {l:Bs} (h:l.length<136) (i:Nat) (hi:i<136):(kib l).getD i 0=if i<l.length then l.getD i 0 else if i=l.length then 6 else 0:=by
 unfold kib
 by_cases h1:i=l.length
 ·subst h1
  rw [if_neg (by omega),if_pos rfl,List.getD_eq_getElem?_getD,List.getElem?_set_self (by simp;omega)];rfl
 ·rw [List.getD_eq_getElem?_getD,List.getElem?_set_ne (by omega),if_neg h1]
  by_cases h2:i<l.length
  ·rw [if_pos h2,List.getElem?_append_left h2,←List.getD_eq_getElem?_getD]
  ·rw [if_neg h2,List.getElem?_append_right (by omega),List.getElem?_drop,List.getElem?_replicate]
   split <;> rfl
theorem kre {l:Bs} (h:l.length<136) (i:Nat) (hi:i<136):((kib l).set 135 ((kib l).getD 135 0 ^^^ 128)).getD i 0=(padL l).getD i 0:=by
 have hp:(padL l).getD i 0=ky6 l i:=by
  unfold padL;rw [List.getD_eq_getElem?_getD,List.getElem?_map,List.getElem?_range hi];rfl
 rw [hp];unfold ky6
 by_cases h1:i=135
 ·subst h1
  rw [List.getD_eq_getElem?_getD,List.getElem?_set_self (by rw [kgg h];omega),Option.getD_some,koo h 135 hi];rfl
 ·rw [List.getD_eq_getElem?_getD,List.getElem?_set_ne (by omega),←List.getD_eq_getElem?_getD,koo h i hi,if_neg h1]
  simp
def kqf (s:Sha.St) (k:Nat):Bs:=(List.range 32).map fun i=>if i<k then kht s i else 0
theorem kl8 (s:Sha.St):kqf s 0=List.replicate 32 0:=by
 have:kqf s 0=(List.range 32).map fun _=>0:=by
  unfold kqf;refine List.map_congr_left fun i _=>?_
  rw [if_neg (by omega)]
 rw [this];rfl
theorem kod (s:Sha.St):kqf s 32=kll s:=by
 unfold kqf kll;refine List.map_congr_left fun i hi=>?_
 rw [if_pos (List.mem_range.1 hi)]
theorem kmk (s:Sha.St) (k:Nat) (_:k<32):(kqf s k).set k (kht s k)=kqf s (k+1):=by
 apply List.ext_getElem
 ·simp [kqf]
 ·intro i h1 h2
  simp only [kqf,List.getElem_set,List.getElem_map,List.getElem_range]
  by_cases e:k=i
  ·subst e;simp
  ·rw [if_neg e]
   by_cases hlt:i<k
   ·rw [if_pos hlt,if_pos (by omega)]
   ·rw [if_neg hlt,if_neg (by omega)]
theorem ko1 (s:Sha.St) (k:Nat):(kqf s k).length=32:=by simp [kqf]
theorem kkb (s:Sha.St) (i:Nat):IntKind.u8.wrap ((s (i / 8) >>> (8*(i % 8))).toNat:Int)=((kht s i).toNat:Int):=by
 rw [IntKind.wrap_u8];unfold kht;rw [UInt8.toNat_ofNat',Int.natCast_emod];rfl
end Licit.Sha
namespace Go.Proofs.YtknpbekoenbphaaGreatDoor
open Go Go.RowKit Licit Licit.Sha
theorem kjy (p:Nat) (st:Sha.St) (M:Array Value) (g o cap:Nat) (l:Bs) (w:World) (hM:M.size=29) (h:Spg 237 p st M w) (hg:g≠p) (hc:∀i,i<136→w.cell? ⟨g,o+i,none⟩=some (vB (l.getD i 0))) :
 Calls Tryz.prog 201 #[.pointer (some ⟨p,0,none⟩),.slice (some ⟨g,o,none⟩) 136 cap] w fun e w'=>(∃v,e = .returned v)∧Spg 237 p (kfd st l) M w'∧ka7 (One p) w w':=by
 obtain ⟨F,hF⟩:∃F:Nat→UInt8,F=fun i=>l.getD i 0:=⟨_,rfl⟩
 have hgl:g<w.heap.size:=World.block_lt_of_cell? w _ (hc 0 (by omega));have hc':∀i,i<136→w.cell? ⟨g,o+i,none⟩=some (vB (F i)):=by rw [hF];exact hc
 have HC:=hdd hc';have HF:=hdd hF;have H:=hdd h;have HM:=hdd hM;clear hc hc' hF h hM
 go_enter Tryz.func201,Tryz.ntmps201
 go_wp2
 go_loopw [7] (fun i wr=>∃k:Nat,k≤136∧i = .int .i64 k∧Spg 237 p (khp F st k) M wr∧ka7 (One p) w wr) (fun i _=>136 - (intOf i).toNat)
 case atStart=>exact ⟨0,by omega,rfl,H.out,ka7.refl _ _⟩
 case round =>
  obtain ⟨k,hk,rfl,h0,hK⟩:=hrel
  by_cases hlt:k<136
  ·obtain ⟨Q,hQ⟩:∃Q,k / 8=Q:=⟨_,rfl⟩
   obtain ⟨R,hR⟩:∃R,k % 8=R:=⟨_,rfl⟩;obtain ⟨N,hN⟩:∃N,8*R=N:=⟨_,rfl⟩;have hq:(k:Int).tdiv 8=(Q:Int):=by rw [←hQ];rfl
   have hr:(k:Int).tmod 8=(R:Int):=by rw [←hR];rfl
   have hn:IntKind.i64.wrap (8*(R:Int))=(N:Int):=by rw [IntKind.wrap_i64];omega
   have hqw:IntKind.i64.wrap (Q:Int)=(Q:Int):=by rw [IntKind.wrap_i64];omega
   have hrw:IntKind.i64.wrap (R:Int)=(R:Int):=by rw [IntKind.wrap_i64];omega
   have hQl:Q<25:=by omega
   have hQi:(Q:Int)<25:=by omega
   have hNl:N<64:=by omega
   have hNi:(N:Int)<64:=by omega
   have hcell:=HC.out k hlt;rw [←hK.cell (b:=g) (o:=o+k) hgl hg] at hcell;have hw:=h0.word (i:=Q) hQl;have hf:=h0.f Q;have hb:=kl4 (F k);obtain ⟨X,hX⟩:∃X:W64,BitVec.ofNat 64 (F k).toNat=X:=⟨_,rfl⟩;rw [hX] at hb;have hs:=k0r X N;obtain ⟨Y,hY⟩:∃Y,X <<< N=Y:=⟨_,rfl⟩;rw [hY] at hs;have hx:=kmq (khp F st k Q) Y;obtain ⟨V,hV⟩:∃V,khp F st k Q ^^^ Y=V:=⟨_,rfl⟩;rw [hV] at hx;have hvb:vB (F k) = .int .u8 (X.toNat:Int):=by unfold vB;rw [←hb]
   rw [hvb] at hcell;have hXb:(X.toNat:Int)<256:=by have:=(F k).toNat_lt;rw [hb];omega
   have hstep:khp F st (k+1)=upd (khp F st k) Q V:=by rw [kmj,hQ,hR,hN,hX,hY,hV]
   have hXw:IntKind.u64.wrap (X.toNat:Int)=(X.toNat:Int):=by rw [IntKind.wrap_u64];omega
   have HST:=hdd hstep;have H0:=hdd h0;have HK:=hdd hK;clear hstep h0 hK hvb hV hY hX hb hQ hR hN
   go_wp2
   go_still_tail 20,(by kernel_rfl)
   change wpList _ _ _ _ _ wr.drew
   go_wp2
   go_roundw
   case rel =>
    refine ⟨k+1,by omega,by go_num,?_,?_⟩
    ·rw [HST.out];exact H0.out.put hQl V
    ·exact HK.out.drew.setCell (p:=⟨p,Q,none⟩) (.inr rfl) _
   case measure=>simp [intOf];omega
  ·obtain rfl:k=136:=by omega
   have hpl:=h0.lt;have H0:=hdd h0;have HK:=hdd hK;clear h0 hK
   go_wp2_with (first
    |(refine wpList_load_mid rfl 210 _ rfl p 0 rfl _ _ H0.out.state rfl rfl (by rw [kh2];kernel_rfl) ?_;rw [Array.toArray_toList])
    |(go_at_call 233;refine (knd _ _).mono ?_;rintro e w2 ⟨rfl,hb⟩;have Hb:=hdd hb;clear hb)
    |(refine wpList_store_mid rfl 210 _ _ rfl p 0 (wA 25 (k1e (khp F st 136))) rfl rfl (by rw [kar];exact (H0.out.below Hb.out).there) (by rw [kar];kernel_rfl) (kd3 _ _) ?_))
   go_end0
   refine ⟨⟨_,rfl⟩,?_,kb9 _ _ _ _ (HK.out.trans (ka7.of_below Hb.out)) (.inr rfl)⟩
   have:=(H0.out.below Hb.out).putSt (k1e (khp F st 136))
   rw [HF.out] at this ⊢;exact this
theorem Tryz.infoByte:(Tryz.prog.info? 5).map (fun i=>(i.zero,i.size,i.bytes))=some (some (.int .u8 0),1,1):=by kernel_rfl
def kmy (p:Nat) (w:World):Nat:=match w.cell? ⟨p,25,none⟩ with|some (.slice _ n _)=>n|_=>0
theorem kha {p:Nat} {w:World} {a:Option Addr} {n c:Nat} (h:w.cell? ⟨p,25,none⟩=some (.slice a n c)):kmy p w=n:=by simp [kmy,h]
def k1b (p:Nat) (data:Bs) (X:Array Value) (w wr:World):Prop :=
 ∃(j:Nat) (rv:Value),136*j≤data.length∧Spg 237 p (kfu st0 data j) (spM rv data.length X) wr ∧
  wr.ownsRow w.heap.size 5 1 rv (data.drop (136*j)).length (vBs (data.drop (136*j)))∧ka7 (One p) w wr
theorem ksi (p q:Nat) (X:Array Value) (data:Bs) (w:World) (hd:data.length≤1000000000000) (hX:X.size=27) (hq:w.cell? ⟨q,0,none⟩=some (.string (B data))) (h:Spg 237 p st0 (spM (.slice none 0 0) 0 X) w) :
 Calls Tryz.prog 158 #[.pointer (some ⟨p,0,none⟩),.slice (some ⟨q,0,none⟩) 1 1] w fun e w'=>(∃v,e = .returned v) ∧
  ∃rv,Spg 237 p (kfu st0 data (data.length / 136)) (spM rv data.length X) w'∧w'.ownsRow w.heap.size 5 1 rv (data.drop (136*(data.length / 136))).length (vBs (data.drop (136*(data.length / 136))))∧ka7 (One p) w w':=by
 obtain ⟨i0,hi,hz0,hz1,hz2⟩:=info_parts Tryz.infoByte;have hr:=h.rest;have ht:=h.taken;have hf25:=h.f 25;have hf26:=h.f 26;have hpl:=h.lt;have hsz:(B data).size=data.length:=rfl;have H:=hdd h;have HX:=hdd hX;have Hi:=hdd hi;have Hz0:=hdd hz0;have Hz1:=hdd hz1;have Hz2:=hdd hz2;clear h hX hi hz0 hz1 hz2
 go_enter Tryz.func158,Tryz.ntmps158
 go_wp2
 refine wp_loop_rounds 2 ?_;rw [rounds_succ]
 go_wp2_with (first
  |(at_builtin
    go_loud (
    refine Lib.wpList_append_own_string _ rfl _ _ 208 9 rfl w.heap.size 5 i0 Tryz.underlying208 Tryz.underlying9 Hi.out Hz0.out Hz1.out Hz2.out (.slice none 0 0) 0 [] rfl (World.ownsRow_nil _ _ _ _) (B data) rfl (by unfold maxLen;omega) (by omega) (by simp) ?_;intro v1 w1 hown1 hgrow1 _;have hS1:=(H.out.putTaken data.length).grown hgrow1 (by simp [Value.ownBlock]);have hK1:ka7 (One p) w w1:=((ka7.refl (One p) w).setCell (p:=⟨p,26,none⟩) (.inr rfl) (.int .i64 (data.length:Int))).grown hgrow1 (by simp [Value.ownBlock]);rw [Nat.zero_add,List.nil_append] at hown1;have hown1:w1.ownsRow w.heap.size 5 1 v1 data.length (vBs data):=hown1;obtain ⟨a1,c1,rfl⟩:=kag hown1;have hr1:=hS1.rest;have hf1:=hS1.f 25;have hp1:=hS1.lt;have HS1:=hdd (hS1.putRest (.slice a1 data.length c1));have HK1:=hdd (hK1.setCell (p:=⟨p,25,none⟩) (.inr rfl) (.slice a1 data.length c1));have HO1:=hdd (kga hown1 (p:=⟨p,25,none⟩) (v':=.slice a1 data.length c1) hpl);clear hS1 hK1 hown1 hgrow1)))
 go_loopw [36] (fun _ wr=>k1b p data X w wr) (fun _ wr=>kmy p wr)
 case atStart=>exact ⟨0,_,by omega,HS1.out,HO1.out,HK1.out⟩
 case round =>
  obtain ⟨j,rv,hj,hS,hO,hK⟩:=hrel;have hlr:(data.drop (136*j)).length=data.length - 136*j:=by simp
  obtain ⟨l,hl⟩:∃l,data.drop (136*j)=l:=⟨_,rfl⟩;rw [hl] at hO hlr
  by_cases hn:136≤l.length
  ·obtain ⟨g,cap,rfl,hg,hgl,hcap⟩:=kax hO (by omega)
   have hrest:=hS.rest;have hpl2:=hS.lt;have hml:=kha hrest;have hlle:l.length≤1000000000000:=by omega
   have HML:=hdd hml;have HS:=hdd hS;have HO:=hdd hO;have HK:=hdd hK;have HL:=hdd hl;have HJ:=hdd hlr;clear hS hO hK hl hml hlr;have HA:=hdd (kjy p _ _ g 0 cap l wr (by rw [kgs,HX.out]) HS.out (by omega) (fun i hi=>by rw [Nat.zero_add];exact klh HO.out (by omega)));have hc:cap=136∨cap≠136:=by omega
   rcases hc with rfl|hc
   ·go_wp2_with (first
     |(go_at_call 201
       go_loud (
       refine HA.out.mono ?_;rintro e w2 ⟨⟨v2,rfl⟩,hS2,hK2⟩;have hr2:=hS2.rest;have hf2:=hS2.f 25;have HS2:=hdd hS2;have HK2:=hdd hK2;have HO2:=hdd (kay HO.out hK2 (fun k hk e=>by have:k=p:=e;omega));clear hS2 hK2)))
    have hnext:data.drop (136*(j+1))=[]:=List.drop_eq_nil_of_le (by have:=HJ.out;omega);have hstep:kfu st0 data (j+1)=kfd (kfu st0 data j) l:=by rw [←HL.out];rfl
    have hS3:=HS2.out.putRest (.slice none 0 0);refine ⟨⟨j+1,.slice none 0 0,by have:=HJ.out;omega,?_,?_,?_⟩,?_⟩
    ·rw [hstep];exact hS3
    ·rw [hnext];exact World.ownsRow_nil _ _ _ _
    ·exact (HK.out.trans (HK2.out.mono (fun _ _ h=>h))).setCell (p:=⟨p,25,none⟩) (.inr rfl) _
    ·rw [kha hS3.rest,HML.out];omega
   ·go_wp2_with (first
     |(go_at_call 201
       go_loud (
       refine HA.out.mono ?_;rintro e w2 ⟨⟨v2,rfl⟩,hS2,hK2⟩;have hr2:=hS2.rest;have hf2:=hS2.f 25;have HS2:=hdd hS2;have HK2:=hdd hK2;have HO2:=hdd (kay HO.out hK2 (fun k hk e=>by have:k=p:=e;omega));clear hS2 hK2))
     |(at_builtin
       go_loud (
       refine wpList_append_own _ rfl _ _ 208 rfl w.heap.size 5 i0 (.int .u8 0) 1 1 Tryz.underlying208 Hi.out Hz0.out Hz1.out Hz2.out rfl (by decide) (.slice none 0 0) 0 [] rfl (World.ownsRow_nil _ _ _ _) ⟨g,136,none⟩ (l.length - 136) (cap - 136) (vBs (l.drop 136)) rfl (by rw [vBs_len,List.length_drop];omega) (kwe HO2.out 136) (ki7 _) (by unfold maxLen;omega) (by omega) (by have:=HK.out.size;have:=HK2.out.size;omega) ?_;intro v3 w3 hown3 hgrow3 _;have hS3:=HS2.out.grown hgrow3 (by simp [Value.ownBlock]);have hK3:=(HK.out.trans (HK2.out.mono (fun _ _ h=>h))).grown hgrow3 (by simp [Value.ownBlock]);rw [Nat.zero_add,List.nil_append] at hown3;obtain ⟨a3,c3,rfl⟩:=kag hown3;have hr3:=hS3.rest;have hf3:=hS3.f 25;have hp3:=hS3.lt;have HS3:=hdd (hS3.putRest (.slice a3 (l.length - 136) c3));have HK3:=hdd (hK3.setCell (p:=⟨p,25,none⟩) (.inr rfl) (.slice a3 (l.length - 136) c3));have HO3:=hdd (kga hown3 (p:=⟨p,25,none⟩) (v':=.slice a3 (l.length - 136) c3) hpl);clear hS3 hK3 hown3 hgrow3)))
    have hnext:data.drop (136*(j+1))=l.drop 136:=by rw [←HL.out,List.drop_drop];rfl
    have hstep:kfu st0 data (j+1)=kfd (kfu st0 data j) l:=by rw [←HL.out];rfl
    refine ⟨⟨j+1,.slice a3 (l.length - 136) c3,by have:=HJ.out;omega,?_,?_,HK3.out⟩,?_⟩
    ·rw [hstep];exact HS3.out
    ·rw [hnext,List.length_drop];exact HO3.out
    ·rw [kha HS3.out.rest,HML.out];omega
  ·obtain ⟨a,c,rfl⟩:=kag hO
   have hrest:=hS.rest;have htk:=hS.taken;have hj2:data.length / 136=j:=by omega
   have HS:=hdd hS;have HO:=hdd hO;have HK:=hdd hK;have HL:=hdd hl;have HJ:=hdd hj2;have HE:=hdd hlr;clear hS hO hK hl hj2 hlr
   go_wp2
   rw [rounds_succ]
   go_wp2
   go_ret
   refine ⟨⟨_,rfl⟩,.slice a l.length c,?_,?_,HK.out⟩
   ·rw [HJ.out];exact HS.out
   ·rw [HJ.out,HL.out];exact HO.out
def krn (st:Sha.St) (n:Nat) (X:Array Value) (l:Bs) (w:World) (e:Ending) (w':World):Prop :=
 e = .returned (.pointer (some ⟨w.heap.size,0,none⟩))∧∃rv,Spg 237 w.heap.size st (spM rv n X) w'∧w'.ownsRow (w.heap.size+1) 5 1 rv l.length (vBs l)∧Below w.heap.size w w'
theorem kd2 {A B:Array Value} (ha:A.all (·.oneCell')=true) (hb:B.all (·.oneCell')=true):(A++B).all (·.oneCell')=true:=by simp [ha,hb]
theorem kzu {w w1:World} {base:Nat} {e:TypeId} {g cap n:Nat} {l:Bs} (h:w.ownsRow base e 1 (.slice (some ⟨g,0,none⟩) n cap) n (vBs l)) (hb:Below w.heap.size w w1):∀j u,(vBs l)[j]? = some u→w1.cell? ((⟨g,0,none⟩:Addr).add j)=some u:=by
 intro j u hu;have h1:=h.cells (g:=g) rfl j u hu;have e:(⟨g,0,none⟩:Addr).add j=⟨g,j,none⟩:=by unfold Addr.add;split <;> simp_all
 rw [e] at h1 ⊢;rw [hb.cell (p:=⟨g,j,none⟩) (World.block_lt_of_cell? w _ h1)];exact h1
theorem ks5 (p:Nat) (st:Sha.St)  (n base:Nat) (X:Array Value) (l:Bs) (w:World) (hX:X.size=27) (hX1:X.all (·.oneCell')=true) (hl:l.length<136) (h:Spg 237 p st (spM (Value.slice none 0 0) n X) w) (ho:w.ownsRow base 5 1 (Value.slice none 0 0) l.length (vBs l)) (_:p<base) :
 Calls Tryz.prog 202 #[.pointer (some ⟨p,0,none⟩)] w (krn st n X l w):=by
 obtain ⟨i0,hi,hz0,hz1,hz2⟩:=info_parts Tryz.infoByte;have hsz:(spA st (spM (Value.slice none 0 0) n X)).size=54:=by rw [kgu,kgs,hX]
 have hone:(spA st (spM (Value.slice none 0 0) n X)).all (·.oneCell')=true:=kd2 (kd3 _ _) (kd2 (by simp [Value.oneCell']) hX1);obtain ⟨A,hA⟩:∃A,spA st (spM (Value.slice none 0 0) n X)=A:=⟨_,rfl⟩;have hr:=h.rest
 have hA25:A[25]? = some (Value.slice none 0 0):=by
  have:=kaa h 25
  rw [hr] at this;rw [←hA];exact this.symm
 rw [hA] at hsz hone;have HA25:=hdd hA25;have hpl:=h.lt;have h':w.heap[p]? = some (.cells A 237):=by rw [←hA];exact h
 have H:=hdd h';have HO:=hdd ho;have HA:=hdd hA;have HS:=hdd hsz;have H1:=hdd hone;have Hi:=hdd hi;have Hz0:=hdd hz0;have Hz1:=hdd hz1;have Hz2:=hdd hz2;clear hA25 h h' ho hA hsz hone hi hz0 hz1 hz2 hr
 go_enter Tryz.func202,Tryz.ntmps202
 go_wp2_with (first
  |(refine wpList_load_row rfl 237 _ rfl p rfl 237 A (0,0) _ H.out rfl rfl (by rw [HS.out];kernel_rfl) ?_)
  |(refine kac rfl 237 _ _ rfl w.heap.size rfl A rfl 237 _ (kak rfl rfl) (by rw [HS.out];kernel_rfl) (by rw [HS.out];kernel_rfl) H1.out ?_
    intro w1 hw1 hk1;have hk2:Below w.heap.size w w1:=(((Below.refl _ _).alloc (Nat.le_refl _) _).trans ((hk1.below (B:=w.heap.size) (by simp) (fun k hk e=>by have:k=w.heap.size:=e;omega)).mono (Nat.le_refl _)));have hz1:=kad hw1;rw [←HA.out] at hw1;have hr1:=Spg.rest hw1;have hq1:w1.cell? ⟨p,25,none⟩=some (Value.slice none 0 0):=by rw [hk2.cell (p:=⟨p,25,none⟩) hpl,kaa H.out];exact HA25.out
    have hf1:=Spg.f hw1 25;have HW1:=hdd hw1;have HK1:=hdd hk2;clear hw1 hk1 hk2))
 go_ret
 refine ⟨rfl,.slice none 0 0,Spg.putRest HW1.out _,?_,HK1.out.setCell (p:=⟨w.heap.size,25,none⟩) (Nat.le_refl _) _⟩
 have hl0:l=[]:=by
  rcases HO.out.2 with ⟨_,h0⟩|⟨g,cap,cur,h0,_⟩
  ·exact List.eq_nil_of_length_eq_zero h0
  ·cases h0
 subst hl0;exact World.ownsRow_nil _ _ _ _
theorem kqi (p:Nat) (st:Sha.St) (g c:Nat) (n base:Nat) (X:Array Value) (l:Bs) (w:World) (hX:X.size=27) (hX1:X.all (·.oneCell')=true) (hl:l.length<136) (h:Spg 237 p st (spM (Value.slice (some ⟨g,0,none⟩) l.length c) n X) w) (ho:w.ownsRow base 5 1 (Value.slice (some ⟨g,0,none⟩) l.length c) l.length (vBs l)) (_:p<base) :
 Calls Tryz.prog 202 #[.pointer (some ⟨p,0,none⟩)] w (krn st n X l w):=by
 obtain ⟨i0,hi,hz0,hz1,hz2⟩:=info_parts Tryz.infoByte;have hsz:(spA st (spM (Value.slice (some ⟨g,0,none⟩) l.length c) n X)).size=54:=by rw [kgu,kgs,hX]
 have hone:(spA st (spM (Value.slice (some ⟨g,0,none⟩) l.length c) n X)).all (·.oneCell')=true:=kd2 (kd3 _ _) (kd2 (by simp [Value.oneCell']) hX1);obtain ⟨A,hA⟩:∃A,spA st (spM (Value.slice (some ⟨g,0,none⟩) l.length c) n X)=A:=⟨_,rfl⟩;have hr:=h.rest
 have hA25:A[25]? = some (Value.slice (some ⟨g,0,none⟩) l.length c):=by
  have:=kaa h 25
  rw [hr] at this;rw [←hA];exact this.symm
 rw [hA] at hsz hone;have HA25:=hdd hA25;have hpl:=h.lt;have h':w.heap[p]? = some (.cells A 237):=by rw [←hA];exact h
 have H:=hdd h';have HO:=hdd ho;have HA:=hdd hA;have HS:=hdd hsz;have H1:=hdd hone;have Hi:=hdd hi;have Hz0:=hdd hz0;have Hz1:=hdd hz1;have Hz2:=hdd hz2;clear hA25 h h' ho hA hsz hone hi hz0 hz1 hz2 hr
 go_enter Tryz.func202,Tryz.ntmps202
 go_wp2_with (first
  |(refine wpList_load_row rfl 237 _ rfl p rfl 237 A (0,0) _ H.out rfl rfl (by rw [HS.out];kernel_rfl) ?_)
  |(refine kac rfl 237 _ _ rfl w.heap.size rfl A rfl 237 _ (kak rfl rfl) (by rw [HS.out];kernel_rfl) (by rw [HS.out];kernel_rfl) H1.out ?_
    intro w1 hw1 hk1;have hk2:Below w.heap.size w w1:=(((Below.refl _ _).alloc (Nat.le_refl _) _).trans ((hk1.below (B:=w.heap.size) (by simp) (fun k hk e=>by have:k=w.heap.size:=e;omega)).mono (Nat.le_refl _)));have hz1:=kad hw1;rw [←HA.out] at hw1;have hr1:=Spg.rest hw1;have hq1:w1.cell? ⟨p,25,none⟩=some (Value.slice (some ⟨g,0,none⟩) l.length c):=by rw [hk2.cell (p:=⟨p,25,none⟩) hpl,kaa H.out];exact HA25.out
    have hf1:=Spg.f hw1 25;have HW1:=hdd hw1;have HK1:=hdd hk2;clear hw1 hk1 hk2)
  |(at_builtin
    refine wpList_append_own _ rfl _ _ 208 rfl (w.heap.size+1) 5 i0 (.int .u8 0) 1 1 Tryz.underlying208 Hi.out Hz0.out Hz1.out Hz2.out rfl (by decide) (.slice none 0 0) 0 [] rfl (World.ownsRow_nil _ _ _ _) ⟨g,0,none⟩ l.length c (vBs l) rfl (by rw [vBs_len];omega) (kzu HO.out HK1.out) (ki7 _) (by unfold maxLen;omega) (by omega) (by omega) ?_;intro v3 w3 hown3 hgrow3 _;have hS3:=Spg.grown HW1.out hgrow3 (by simp [Value.ownBlock]);have hK3:=HK1.out.grown hgrow3 HK1.out.size (by simp [Value.ownBlock]);rw [Nat.zero_add,List.nil_append] at hown3;obtain ⟨a3,c3,rfl⟩:=kag hown3;have hr3:=hS3.rest;have hf3:=hS3.f 25;have hp3:=hS3.lt;have HS3:=hdd (hS3.putRest (.slice a3 l.length c3));have HK3:=hdd (hK3.setCell (p:=⟨w.heap.size,25,none⟩) (Nat.le_refl _) (.slice a3 l.length c3));have HO3:=hdd (kga hown3 (p:=⟨w.heap.size,25,none⟩) (v':=.slice a3 l.length c3) (Nat.lt_succ_self _));clear hS3 hK3 hown3 hgrow3))
 go_ret
 exact ⟨rfl,_,HS3.out,HO3.out,HK3.out⟩
theorem ktf (p:Nat) (st:Sha.St) (rv:Value) (n base:Nat) (X:Array Value) (l:Bs) (w:World) (hX:X.size=27) (hX1:X.all (·.oneCell')=true) (hl:l.length<136) (h:Spg 237 p st (spM rv n X) w) (ho:w.ownsRow base 5 1 rv l.length (vBs l)) (hp:p<base) :
 Calls Tryz.prog 202 #[.pointer (some ⟨p,0,none⟩)] w (krn st n X l w):=by
 rcases id ho.2 with ⟨rfl,_⟩|⟨g,cap,cur,rfl,_⟩
 ·exact ks5 p st n base X l w hX hX1 hl h ho hp
 ·exact kqi p st g cap n base X l w hX hX1 hl h ho hp
def kl1:Array Value:=wA 25 st0 ++ #[.string (B []),.string (B [])]
theorem kgy:kl1.size=27:=by unfold kl1;simp [kar]
theorem kt9:kl1.all (·.oneCell')=true:=kd2 (kd3 _ _) (by simp [Value.oneCell'])
theorem kw4:kl1[25]? = some (.string (B [])):=by
 unfold kl1;rw [Array.getElem?_append_right (by rw [kar];omega),kar];rfl
theorem kl7:kl1[26]? = some (.string (B [])):=by
 unfold kl1;rw [Array.getElem?_append_right (by rw [kar];omega),kar];rfl
structure kju (p:Nat) (A:Array Value) (w0 w:World):Prop where
 at0:∃C,w.heap[p]? = some (.cells C 237 (0,0))∧C.size=54∧∀i,i<26→C[i]? = A[i]?
 rest:∀k,k<w0.heap.size→k≠p→w.heap[k]? = w0.heap[k]?
theorem kju.drew {p:Nat} {A:Array Value} {w0 w:World} (h:kju p A w0 w):kju p A w0 w.drew:=⟨h.at0,h.rest⟩
theorem kju.set {p:Nat} {A:Array Value} {w0 w:World} (h:kju p A w0 w) {i:Nat} (hi:26≤i) (v:Value):kju p A w0 (w.setCell ⟨p,i,none⟩ v):=by
 obtain ⟨C,h1,h2,h3⟩:=h.at0;exact ⟨⟨_,set_of h1 i v,by simp [h2],fun j hj=>by rw [Array.getElem?_setIfInBounds_ne (by omega)];exact h3 j hj⟩,fun k hk hn=>by rw [Below.heap_setCell _ _ _ _ hn];exact h.rest k hk hn⟩
theorem kju.sets {p:Nat} {A:Array Value} {w0:World}:∀(vs:List Value) {i:Nat} {w:World},26≤i→kju p A w0 w→kju p A w0 (w.setCells p i vs)
 | [],_,_,_,h=>h
 |v :: r,i,w,hi,h=>by
  rw [World.setCells];exact kju.sets r (by omega) (h.set hi v)
theorem kju.cell {p:Nat} {A:Array Value} {w0 w:World} (h:kju p A w0 w) {i:Nat} (hi:i<26):w.cell? ⟨p,i,none⟩=A[i]?:=by
 obtain ⟨C,h1,h2,h3⟩:=h.at0;rw [kaa h1,h3 i hi]
theorem kju.there {p:Nat} {A:Array Value} {w0 w:World} (h:kju p A w0 w) (o n:Nat) (hn:o+n≤54):w.there p o n:=by
 obtain ⟨C,h1,h2,h3⟩:=h.at0;exact kfl h1 o n (by omega)
theorem kju.range {p:Nat} {st:Sha.St} {M:Array Value} {w0 w:World} (h:kju p (spA st M) w0 w):w.rangeAt p 0 (wA 25 st).toList:=by
 obtain ⟨C,h1,h2,h3⟩:=h.at0;refine kop h1 0 _ fun i hi=>?_
 rw [kh2] at hi;rw [Nat.zero_add,h3 i (by omega),kog hi,Array.getElem?_toList,kcn st hi]
theorem kvq (p:Nat) (st:Sha.St) (rv:Value) (n base:Nat) (l:Bs) (w:World) (hl:l.length<136) (h:Spg 237 p st (spM rv n kl1) w) (ho:w.ownsRow base 5 1 rv l.length (vBs l)) (hp:p<base) (_:base≤w.heap.size) :
 Calls Tryz.prog 159 #[.pointer (some ⟨p,0,none⟩)] w fun e w'=>e = .returned (.string (B (kll (fin st l))))∧ka7 (One p) w w':=by
 obtain ⟨i0,hi,hz0,hz1,hz2⟩:=info_parts Tryz.infoByte
 have h53:w.cell? ⟨p,53,none⟩=some (.string (B [])):=by
  have:=h.more 28
  rw [this];unfold spM;rw [Array.getElem?_append_right (by simp)];exact kl7
 have hpl:=h.lt;have hq:=hdd (fun w=>ktf p st rv n base kl1 l w kgy kt9 hl);have H:=hdd h;have HO:=hdd ho;have Hi:=hdd hi;have Hz0:=hdd hz0;have Hz1:=hdd hz1;have Hz2:=hdd hz2;have hB0:(!(B []).toList.isEmpty)=false:=by rw [ByteArray.toList_eq];rfl
 clear h ho hi hz0 hz1 hz2
 go_enter Tryz.func159,Tryz.ntmps159
 go_wp2
 go_quiet (fail)
 go_wp2_with fail
 refine (hq.out (w.drewN nq) H.out HO.out hp).mono ?_;rintro e w1 ⟨rfl,rv2,hS1,hO1,hb1'⟩;have hb1:Below w.heap.size w w1:=⟨hb1'.os,hb1'.tape,hb1'.output,hb1'.size,hb1'.block⟩;have hS1:Spg 237 w.heap.size st (spM rv2 n kl1) w1:=hS1;have hO1:w1.ownsRow (w.heap.size+1) 5 1 rv2 l.length (vBs l):=hO1;have hsz1:=hS1.lt;have HB1:=hdd hb1;have HS1:=hdd hS1;have HO1:=hdd hO1;obtain ⟨a2,c2,rfl⟩:=kag hO1;have hr1:=hS1.rest;clear hb1 hb1' hS1 hO1
 have hpos:0<l.length→∃g,a2=some ⟨g,0,none⟩∧∀j v,(vBs l)[j]? = some v→w1.cell? ((⟨g,0,none⟩:Addr).add j)=some v:=by
  intro h0;obtain ⟨g,cap,h1,_⟩:=kax HO1.out h0;simp only [Value.slice.injEq] at h1;obtain ⟨rfl,_,rfl⟩:=h1;exact ⟨g,rfl,HO1.out.cells (g:=g) rfl⟩
 have HPos:=hdd hpos;clear hpos
 go_wp2_with (first
  |(at_make
    go_loud (
    refine wpList_make_full _ rfl _ _ 208 rfl (w1.heap.size) 5 i0 (.int .u8 0) 1 Tryz.underlying208 Hi.out Hz0.out Hz1.out _ _ _ _ 136 rfl rfl rfl rfl (by rw [Hz2.out];omega) (by decide) (Nat.le_refl _) ?_;intro w2 hown2 hgrow2;have hk2:Below w1.heap.size w1 w2:=(Below.refl _ _).grown hgrow2 (Nat.le_refl _) (by simp);have hg2:=own_full hown2;rw [show (madeCells (Value.int IntKind.u8 0).cells (136*1)).toList=vBs (List.replicate 136 0) from kkj 136] at hg2;have hr2:w2.cell? ⟨w.heap.size,25,none⟩=some (.slice a2 l.length c2):=by rw [hk2.cell (p:=⟨w.heap.size,25,none⟩) hsz1];exact hr1
    have hpos2:0<(vBs l).length→∃ad,a2=some ad∧∀j v,(vBs l)[j]? = some v→w2.cell? (ad.add j)=some v:=by
     intro h0;rw [vBs_len] at h0;obtain ⟨g,h1,h2⟩:=HPos.out h0;refine ⟨_,h1,fun j v hv=>?_⟩;have h3:=h2 j v hv;have e:(⟨g,0,none⟩:Addr).add j=⟨g,j,none⟩:=by unfold Addr.add;split <;> simp_all
     rw [e] at h3 ⊢;rw [hk2.cell (p:=⟨g,j,none⟩) (World.block_lt_of_cell? w1 _ h3)];exact h3
    have HG2:=hdd hg2;have HK2:=hdd hk2;have HP2:=hdd hpos2;clear hown2 hgrow2 hk2 hg2 hpos2))
  |(with_reducible refine wpList_copy_splice rfl _ _ 208 208 rfl 5 Tryz.underlying208 (by kernel_rfl) _ _ _ _ _ _ rfl rfl w1.heap.size 0 (vBs (List.replicate 136 0)) 5 HG2.out (vBs l) (by rw [vBs_len];exact (Nat.min_eq_left (by omega)).symm) (fun h=>⟨rfl,HP2.out h⟩) (by rw [vBs_len,vBs_len,List.length_replicate];omega) (ki7 l) w1.heap.size w1 HK2.out (Nat.le_refl _) ?_
    go_loud (
    intro w3 hg3 hk3;have hg3:=hg3.out;rw [kpe] at hg3;have hr3:w3.cell? ⟨w.heap.size,25,none⟩=some (.slice a2 l.length c2):=by rw [hk3.cell (p:=⟨w.heap.size,25,none⟩) hsz1];exact hr1
    have HG3:=hdd hg3;have HK3:=hdd hk3;clear hg3 hk3 hr2))
  |(refine kae rfl 5 _ _ rfl w1.heap.size l.length rfl (.int .u8 6) rfl rfl rfl _ _ HG3.out (by simp [vBs];omega) (by kernel_rfl) ?_
    go_loud (
    intro w4 hg4 hk4;rw [show Value.int .u8 6=vB 6 from rfl,kkq] at hg4;have hg4:w4.heap[w1.heap.size]? = some (.cells (vBs (kib l)).toArray 5):=hg4;have hk34:=HK3.out.trans (hk4.below (Nat.le_of_lt (kad HG3.out)) (fun k hk e=>by have:k=w1.heap.size:=e;omega));have hc4:w4.cell? ⟨w1.heap.size,135,none⟩=some (.int .u8 (((kib l).getD 135 0).toNat:Int)):=by rw [kaa hg4];simp;exact vBs_at _ (by rw [kgg hl];omega)
    have hf4:=kbm hg4 135;have hx:=k0v ((kib l).getD 135 0) 128;have HX:=hdd hx;clear hx;have HG4:=hdd hg4;have HK4:=hdd hk34;clear hg4 hk4 hk34))
  |(refine kae rfl 5 _ _ rfl w1.heap.size 135 rfl (vB ((kib l).getD 135 0 ^^^ 128)) (congrArg (Value.int .u8) HX.out) rfl rfl _ _ HG4.out (by simp [vBs,kgg hl]) (by kernel_rfl) ?_
    go_loud (
    intro w5 hg5 hk5;rw [kkq] at hg5;have hk5:=HK4.out.trans (hk5.below (Nat.le_of_lt (kad HG4.out)) (fun k hk e=>by have:k=w1.heap.size:=e;omega));have HS5:=hdd (HS1.out.below hk5)
    have ha:=kjy w.heap.size _ _ w1.heap.size 0 136 ((kib l).set 135 ((kib l).getD 135 0 ^^^ 128)) w5 (by rw [kgs,kgy]) HS5.out (by omega) (fun i hi=>by
     rw [Nat.zero_add,kaa hg5,List.getElem?_toArray];exact vBs_at _ (by rw [List.length_set,kgg hl];exact hi))
    rw [keb st (kre hl)] at ha;have HA:=hdd ha;have HK5:=hdd hk5;have hz5:=hk5.size;clear hg5 hk5 ha))
  |(go_at_call 201
    refine HA.out.mono ?_
    go_loud (
    rintro e w6 ⟨⟨v6,rfl⟩,hS6,hK6⟩;have hk6:Below w.heap.size w w6:=HB1.out.trans ((HK5.out.mono (Nat.le_of_lt hsz1)).trans (hK6.below (by omega) (fun k hk e=>by have:k=w.heap.size:=e;omega)));have hz6:=hS6.lt;have HS6:=hdd hS6;have HK6:=hdd hk6;clear hS6 hK6 hk6))
  |(at_make
    go_loud (
    refine wpList_make_full _ rfl _ _ 208 rfl (w6.heap.size) 5 i0 (.int .u8 0) 1 Tryz.underlying208 Hi.out Hz0.out Hz1.out _ _ _ _ 32 rfl rfl rfl rfl (by rw [Hz2.out];omega) (by decide) (Nat.le_refl _) ?_;intro w7 hown7 hgrow7;have hk7:Below w6.heap.size w6 w7:=(Below.refl _ _).grown hgrow7 (Nat.le_refl _) (by simp);have hg7:=own_full hown7;rw [show (madeCells (Value.int IntKind.u8 0).cells (32*1)).toList=vBs (List.replicate 32 0) from kkj 32,←kl8 (fin st l)] at hg7;have HG7:=hdd hg7;have HS7:=hdd (HS6.out.below hk7);have HK7:=hdd (HK6.out.trans (hk7.mono (Nat.le_of_lt hz6)));clear hown7 hgrow7 hk7 hg7)))
 go_loopw [66] (fun i wr=>∃k:Nat,k≤32∧i = .int .i64 k∧wr.heap[w6.heap.size]? = some (.cells (vBs (kqf (fin st l) k)).toArray 5)∧Spg 237 w.heap.size (fin st l) (spM (.slice a2 l.length c2) n kl1) wr∧Below w.heap.size w wr) (fun i _=>32 - (intOf i).toNat)
 case atStart=>exact ⟨0,by omega,rfl,HG7.out,HS7.out,HK7.out⟩
 case round =>
  obtain ⟨k,hk,rfl,hg,hS,hB⟩:=hrel
  by_cases hlt:k<32
  ·obtain ⟨Q,hQ⟩:∃Q,k / 8=Q:=⟨_,rfl⟩
   obtain ⟨R,hR⟩:∃R,k % 8=R:=⟨_,rfl⟩;obtain ⟨N,hN⟩:∃N,8*R=N:=⟨_,rfl⟩;have hq:(k:Int).tdiv 8=(Q:Int):=by rw [←hQ];rfl
   have hq':(k:Int) / 8=(Q:Int):=by rw [←hQ];rfl
   have hr:(k:Int).tmod 8=(R:Int):=by rw [←hR];rfl
   have hr':(k:Int) % 8=(R:Int):=by rw [←hR];rfl
   have hn:8*(R:Int)=(N:Int):=by omega
   have hQi:(Q:Int)<25:=by omega
   have hNi:(N:Int)<64:=by omega
   have hw:=hS.word (i:=Q) (by omega);have hb:=kkb (fin st l) k;rw [hQ,hR,hN] at hb;have hsh:=k0p (fin st l Q) N;obtain ⟨V,hV⟩:∃V,(fin st l Q) >>> N=V:=⟨_,rfl⟩;rw [hV] at hb hsh;have HBV:=hdd hb;have HS:=hdd hS;have HG:=hdd hg;have HB:=hdd hB;clear hg hS hB hQ hR hN hV hb
   go_wp2_with (first
    |(refine kae rfl 5 _ _ rfl w6.heap.size k rfl (vB (kht (fin st l) k)) (congrArg (Value.int .u8) HBV.out) rfl rfl _ _ HG.out (by simp [vBs,ko1];omega) (by kernel_rfl) ?_
      intro w8 hg8 hk8;rw [kkq,kmk _ _ hlt] at hg8;have HG8:=hdd hg8;have HS8:=hdd (HS.out.kept hk8 (fun e=>by have:w.heap.size=w6.heap.size:=e;omega));have HB8:=hdd (HB.out.trans (hk8.below HB.out.size (fun k hk e=>by have:k=w6.heap.size:=e;omega)));clear hg8 hk8))
   go_roundw
   case rel=>exact ⟨k+1,by omega,by go_num,HG8.out,HS8.out,HB8.out⟩
   case measure=>simp [intOf];omega
  ·obtain rfl:k=32:=by omega
   rw [kod] at hg;have hlen:(kll (fin st l)).length=32:=by simp [kll]
   have hP:=H.out.below hB;have hG0:kju p (spA st (spM rv n kl1)) wr wr:=⟨⟨_,hP,by rw [kgu,kgs,kgy],fun _ _=>rfl⟩,fun _ _ _=>rfl⟩;have hg2:p≠w6.heap.size:=by omega
   have hkeep:∀W,kju p (spA st (spM rv n kl1)) wr W→W.rangeAt p 0 (wA 25 st).toList∧W.cell? ⟨p,25,none⟩=some rv∧(convert 208 9 rv).run Tryz.prog W = .ok (.string (B l)) W∧(convert 208 9 (.slice (some ⟨w6.heap.size,0,none⟩) 32 32)).run Tryz.prog W = .ok (.string (B (kll (fin st l)))) W∧W.there p 27 25:=by
    intro W hW;refine ⟨hW.range,?_,?_,?_,hW.there _ _ (by decide)⟩
    ·rw [hW.cell (by decide)]
     have:=hP.rest
     rw [kaa hP] at this;exact this
    ·exact kqq (P:=Tryz.prog) Tryz.underlying208 Tryz.underlying5 Tryz.underlying9 (kcd HO.out (fun k hk hk2=>(hW.rest k (Nat.lt_of_lt_of_le hk2 hB.size) (by omega)).trans (hB.block k hk2)))
    ·have:=khx (P:=Tryz.prog) (src:=208) (dst:=9) (cap:=32) (w:=W) Tryz.underlying208 Tryz.underlying5 Tryz.underlying9 ((hW.rest _ (kad hg) (Ne.symm hg2)).trans hg)
     rw [hlen] at this;exact this
   have HP:=hdd hP;have HG0:=hdd hG0;have HKeep:=hdd hkeep;have HG:=hdd hg;have HB:=hdd hB;have HL:=hdd hlen;have hu78:=Tryz.underlying210;have hi78:(Tryz.prog.info? 210).map (·.size)=some (wA 25 st).toList.length:=by rw [kh2];kernel_rfl
   have hn78:(wA 25 st).toList.length=25:=kh2 25 st;have ho78:∀v∈(wA 25 st).toList,v.oneCell'=true:=fun v hv=>Array.all_eq_true'.1 (kd3 25 st) v (by simpa using hv)
   clear hP hg hS hB hlen hG0 hkeep;obtain ⟨L25,hL25⟩:∃L,(wA 25 st).toList=L:=⟨_,rfl⟩;rw [hL25] at HKeep hi78 hn78 ho78;have HL25:=hdd hL25;clear hL25
   go_wp2
   have hq52:(wr.drew.setCells p 27 L25).cell? ⟨p,52,none⟩=some (.string (B [])):=by
    rw [World.cell?_setCells_out p L25 27 _ _ (fun _ _=>.inr (by show 27+L25.length≤52;omega))]
    have:=HP.out.more 27
    show wr.cell? ⟨p,52,none⟩=_;rw [this];unfold spM;rw [Array.getElem?_append_right (by simp)];exact kw4
   have hq53:(wr.drew.setCells p 27 L25).cell? ⟨p,53,none⟩=some (.string (B [])):=by
    rw [World.cell?_setCells_out p L25 27 _ _ (fun _ _=>.inr (by show 27+L25.length≤53;omega))]
    have:=HP.out.more 28
    show wr.cell? ⟨p,53,none⟩=_;rw [this];unfold spM;rw [Array.getElem?_append_right (by simp)];exact kl7
   have hfz:∀i,(wr.drew.setCells p 27 L25).frozen? ⟨p,i,none⟩=false:=by
    intro i;rw [World.frozen?_setCells];exact HP.out.f i
   have hfz52:=hfz 52;have hfz53:=hfz 53;clear hfz
   go_region_held3 (fun W=>W.rangeAt p 0 L25∧W.cell? ⟨p,25,none⟩=some rv∧(convert 208 9 rv).run Tryz.prog W = .ok (.string (B l)) W∧(convert 208 9 (.slice (some ⟨w6.heap.size,0,none⟩) 32 32)).run Tryz.prog W = .ok (.string (B (kll (fin st l)))) W∧W.there p 27 25)
    (exact HKeep.out _ (by repeat (first|exact HG0.out|refine kju.sets _ (by decide) ?_|refine kju.set ?_ (by decide) _|refine kju.drew ?_)))
    (fail)
   all_goals
    go_wp2
    go_ret
    refine ⟨rfl,?_⟩;have hk0:ka7 (One p) w wr.drew:=(ka7.of_below HB.out).drew;have hk1:ka7 (One p) w (wr.drew.setCells p 27 L25):=kb9 _ _ _ _ hk0 (.inr rfl);exact (hk1.setCell (p:=⟨p,52,none⟩) (.inr rfl) _).setCell (p:=⟨p,53,none⟩) (.inr rfl) _
theorem kt5:(#[Value.int .u64 0,.int .u64 0,.int .u64 0,.int .u64 0,.int .u64 0,.int .u64 0,.int .u64 0,.int .u64 0,.int .u64 0,.int .u64 0,.int .u64 0,.int .u64 0,.int .u64 0,.int .u64 0,.int .u64 0,.int .u64 0,.int .u64 0,.int .u64 0,.int .u64 0,.int .u64 0,.int .u64 0,.int .u64 0,.int .u64 0,.int .u64 0,.int .u64 0,.slice none 0 0,.int .i64 0,.int .u64 0,.int .u64 0,.int .u64 0,.int .u64 0,.int .u64 0,.int .u64 0,.int .u64 0,.int .u64 0,.int .u64 0,.int .u64 0,.int .u64 0,.int .u64 0,.int .u64 0,.int .u64 0,.int .u64 0,.int .u64 0,.int .u64 0,.int .u64 0,.int .u64 0,.int .u64 0,.int .u64 0,.int .u64 0,.int .u64 0,.int .u64 0,.int .u64 0,.string ⟨#[]⟩,.string ⟨#[]⟩]:Array Value)=spA st0 (spM (.slice none 0 0) 0 kl1):=by kernel_rfl
theorem kyd (w:World) :
 Calls Tryz.prog 157 #[] w fun e w'=>e = .returned (.pointer (some ⟨w.heap.size,0,none⟩))∧Spg 237 w.heap.size st0 (spM (.slice none 0 0) 0 kl1) w'∧Below w.heap.size w w':=by
 go_enter Tryz.func157,Tryz.ntmps157
 go_wp2
 go_ret
 refine ⟨rfl,?_,(Below.refl _ _).alloc (Nat.le_refl _) _⟩;exact kak rfl (congrArg (fun c=>Obj.cells c 237 (0,0)) kt5)
theorem kvb (l:Bs) (w:World) (hl:l.length≤1000000000000) :
 Calls Tryz.prog 89 #[.string (B l)] w fun e w'=>e = .returned (.string (B (sha l)))∧Below w.heap.size w w':=by
 obtain ⟨R,hR⟩:∃R,sha l=R:=⟨_,rfl⟩;rw [hR];have HR:=hdd hR;clear hR
 go_enter Tryz.func89,Tryz.ntmps89
 go_wp2_with (go_at_call 157;refine (kyd _).mono ?_;rintro e w1 ⟨rfl,hS1,hb1⟩;have hz1:=hS1.lt;have HS1:=hdd hS1;have HB1:=hdd hb1;clear hS1 hb1)
 have hS2:Spg 237 w.heap.size st0 (spM (.slice none 0 0) 0 kl1) (w1.alloc (.cells #[.string (B l)] 9)):=kah HS1.out;refine (ksi w.heap.size w1.heap.size kl1 l (w1.alloc (.cells #[.string (B l)] 9)) hl kgy (kwv _ _) hS2).mono ?_;rintro e w3 ⟨⟨v3,rfl⟩,rv,hS3,hO3,hK3⟩;have hz3:=hS3.lt;have hk3:Below w.heap.size w w3:=(HB1.out.trans (((Below.refl _ _).alloc (Nat.le_refl _) _).mono (Nat.le_of_lt hz1))).trans (hK3.below (by simp;omega) (fun k hk e=>by have:k=w.heap.size:=e;omega));have hsz3:=hK3.size;have HS3:=hdd hS3;have HO3:=hdd hO3;have HK3:=hdd hk3;have hr:(l.drop (136*(l.length / 136))).length<136:=by simp;omega
 clear hS2 hS3 hO3 hK3 hk3
 go_wp2_with fail
 refine (kvq w.heap.size _ rv l.length _ _ w3 hr HS3.out HO3.out (by simp;omega) hsz3).mono ?_;rintro e w4 ⟨rfl,hk4⟩;have HK4:=hdd (HK3.out.trans (hk4.below (Nat.le_of_lt hz3) (fun k hk e=>by have:k=w.heap.size:=e;omega)));clear hk4
 go_wp2
 go_ret
 exact ⟨congrArg (fun x=>Ending.returned (.string (B x))) HR.out,HK4.out⟩
end Go.Proofs.YtknpbekoenbphaaGreatDoor
