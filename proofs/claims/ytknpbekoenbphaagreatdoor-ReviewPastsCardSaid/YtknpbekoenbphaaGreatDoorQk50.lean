/- Parts of the proofs: Shelf, Srt, PlainRg, WkSlices, PlainNs, LawKitP, WkPst, WkRPs, WkPL. No condition beyond those at each theorem. -/
import Derived.WideShapes
import Derived.Test.YtknpbekoenbphaaGreatDoorQk36
import Derived.Test.YtknpbekoenbphaaGreatDoorQk39
import Derived.Test.YtknpbekoenbphaaGreatDoorQk44
import Derived.Test.YtknpbekoenbphaaGreatDoorQk45
set_option linter.unusedVariables false
set_option linter.unusedSimpArgs false
set_option maxHeartbeats 16000000
set_option maxRecDepth 100000
namespace Go.Proofs
open Go.Shelf
def Tryz.lays193_ren:Go.Shelf.Ren:=⟨fun|193=>25|n=>n,fun|31=>39|9=>9|4=>4|3=>3|0=>0|n=>n,fun|n=>n⟩
theorem Tryz.lays193:Go.Proofs.Lays.n193 Tryz.prog Tryz.lays193_ren:={
 mixed:=by kernel_rfl
 f193:=Tryz.func25.trans (congrArg some (by kernel_rfl))
 t0:=Tryz.underlying0
 a0:=Tryz.isAgg0
 z0:=Tryz.sizeOf0
 v0:=Tryz.zeroValue0
 t3:=Tryz.underlying3
 a3:=Tryz.isAgg3
 z3:=Tryz.sizeOf3
 v3:=Tryz.zeroValue3
 t4:=Tryz.underlying4
 a4:=Tryz.isAgg4
 z4:=Tryz.sizeOf4
 v4:=Tryz.zeroValue4
 t9:=Tryz.underlying9
 a9:=Tryz.isAgg9
 z9:=Tryz.sizeOf9
 v9:=Tryz.zeroValue9
 t31:=Tryz.underlying39
 a31:=Tryz.isAgg39
 z31:=Tryz.sizeOf39
 v31:=Tryz.zeroValue39 }
open Go.RowKit Go.Lib in
theorem Tryz.slices_Equal_string (b1 o1 n c b2 o2 m d:Nat) (xs ys:List ByteArray) (w:World) (hx:n≤xs.length) (hy:m≤ys.length) (hbig:n≤9223372036854775807) (hbig2:m≤9223372036854775807) (hc1:∀j,j<xs.length→w.cell? ⟨b1,o1+j,none⟩=some (.string (xs.getD j ByteArray.empty))) (hc2:∀j,j<ys.length→w.cell? ⟨b2,o2+j,none⟩=some (.string (ys.getD j ByteArray.empty))) :
 Calls Tryz.prog 25 #[.slice (some ⟨b1,o1,none⟩) n c,.slice (some ⟨b2,o2,none⟩) m d] w fun e w'=>e = .returned (.bool (decide (xs.take n=ys.take m)))∧∃q,w'=w.drewN q:=Any.slices_Equal_string Tryz.lays193 b1 o1 n c b2 o2 m d xs ys w hx hy hbig hbig2 hc1 hc2
open Go.RowKit Go.Lib in
theorem Tryz.slices_Equal_string_empty (a1 a2:Option Addr) (c m d:Nat) (w:World) (hbig2:m≤9223372036854775807) :
 Calls Tryz.prog 25 #[.slice a1 0 c,.slice a2 m d] w fun e w'=>e = .returned (.bool (decide (m=0)))∧w'=w:=Any.slices_Equal_string_empty Tryz.lays193 a1 a2 c m d w hbig2
open Go.RowKit Go.Lib in
theorem Tryz.slices_Equal_string_lens (a1 a2:Option Addr) (n c m d:Nat) (w:World) (hnm:n≠m) :
 Calls Tryz.prog 25 #[.slice a1 n c,.slice a2 m d] w fun e w'=>e = .returned (.bool false)∧w'=w:=Any.slices_Equal_string_lens Tryz.lays193 a1 a2 n c m d w hnm
def Tryz.keysB_ren:Go.Shelf.Ren:=⟨fun|7=>68|10=>137|n=>n,fun|23=>92|26=>9|3=>4|28=>99|0=>0|27=>98|33=>76|4=>4|n=>n,fun|n=>n⟩
theorem Tryz.keysB:Go.Proofs.SlLaysZ.n7 Tryz.prog Tryz.keysB_ren:={
 mixed:=by kernel_rfl
 f7:=⟨Tryz.f68.name,by decide,Tryz.func68.trans (congrArg some (by kernel_rfl))⟩
 f10:=⟨Tryz.f137.name,by decide,Tryz.func137.trans (congrArg some (by kernel_rfl))⟩
 t0:=Tryz.underlying0
 a0:=Tryz.isAgg0
 z0:=Tryz.sizeOf0
 v0:=Tryz.zeroValue0
 t4:=Tryz.underlying4
 a4:=Tryz.isAgg4
 z4:=Tryz.sizeOf4
 v4:=Tryz.zeroValue4
 t23:=Tryz.underlying92
 a23:=Tryz.isAgg92
 z23:=Tryz.sizeOf92
 v23:=Tryz.zeroValue92
 t26:=Tryz.underlying9
 a26:=Tryz.isAgg9
 z26:=Tryz.sizeOf9
 v26:=Tryz.zeroValue9
 t27:=Tryz.underlying98
 a27:=Tryz.isAgg98
 z27:=Tryz.sizeOf98
 v27:=Tryz.zeroValue98
 t28:=Tryz.underlying99
 a28:=Tryz.isAgg99
 z28:=Tryz.sizeOf99
 v28:=Tryz.zeroValue99
 t33:=Tryz.underlying76
 a33:=Tryz.isAgg76
 z33:=Tryz.sizeOf76
 v33:=Tryz.zeroValue76 }
end Go.Proofs
namespace Licit.Rv
open Go Licit
theorem insB_new {a:Bs}:∀{L:List Bs},a ∉ L→insB a L=L.take (posR id a L)++a :: L.drop (posR id a L)
 | [],_=>rfl
 |y :: r,h=>by
  have hne:a≠y:=fun e=>h (by simp [e])
  unfold insB posR;rw [if_neg hne]
  by_cases c:ltB a y=true
  ·have c2:¬ ltB (id y) a=true:=by simp [ltB_asymm c]
   rw [if_pos c,if_neg c2];rfl
  ·have c2:ltB (id y) a=true:=by
    cases h2:ltB (id y) a with
    |true=>rfl
    |false=>exact absurd (ltB_tot (by simpa using c) h2) hne
   rw [if_neg c,if_pos c2,insB_new (fun e=>h (by simp [e]))];rfl
theorem insB_old {a:Bs}:∀{L:List Bs},StrictB L→a∈L→insB a L=L
 |y :: r,hs,h=>by
  unfold insB
  by_cases c:a=y
  ·rw [if_pos c]
  ·have hr:a∈r:=by simpa [c] using h
   have h1:=List.pairwise_cons.1 hs;rw [if_neg c,if_neg (by simp [ltB_asymm (h1.1 a hr)]),insB_old h1.2 hr]
theorem pos_old {a:Bs}:∀{L:List Bs},StrictB L→a∈L→∃h:posR id a L<L.length,L[posR id a L]=a
 |y :: r,hs,h=>by
  have h1:=List.pairwise_cons.1 hs
  by_cases c:a=y
  ·have e:posR id a (y :: r)=0:=by rw [posR,if_neg (by subst c;simp [ltB_irr])]
   refine ⟨by rw [e];simp,?_⟩;simp only [e,List.getElem_cons_zero];exact c.symm
  ·have hr:a∈r:=by simpa [c] using h
   obtain ⟨p,q⟩:=pos_old h1.2 hr;have e:posR id a (y :: r)=posR id a r+1:=by rw [posR];exact if_pos (h1.1 a hr)
   refine ⟨by rw [e];simp;exact p,?_⟩;simp only [e,List.getElem_cons_succ];exact q
end Licit.Rv
namespace Go.Proofs.YtknpbekoenbphaaGreatDoor
open Go Go.RowKit Licit
theorem ksr (v u:Value) (xs ys:List Bs) (w:World) (h:IsSl v (xs.map vS) w) (h':IsSl u (ys.map vS) w) :
 Calls Tryz.prog 25 #[v,u] w fun e w'=>e = .returned (.bool (decide (xs=ys)))∧∃q,w'=w.drewN q:=by
 have m1:=h.1;have m2:=h'.1;rw [List.length_map] at m1 m2;unfold maxLen at m1 m2;obtain ⟨a',cap',rfl⟩:=h'.formMap;rcases h.2 with ⟨a,cap,rfl,hx⟩|⟨b,off,cap,rfl,h0,hc⟩
 ·obtain rfl:xs=[]:=by simpa using hx
  refine (Tryz.slices_Equal_string_empty a a' cap ys.length cap' w (by omega)).mono ?_;rintro e w' ⟨rfl,rfl⟩;refine ⟨?_,0,rfl⟩
  congr 2
  cases ys <;> simp
 ·rw [List.length_map] at h0 hc ⊢
  by_cases hl:xs.length=ys.length
  ·obtain ⟨b2,off2,c2,e,hc2⟩:∃b2 off2 c2,Value.slice a' ys.length cap' = .slice (some ⟨b2,off2,none⟩) ys.length c2∧∀i,i<ys.length→w.cell? ⟨b2,off2+i,none⟩=(ys.map vS)[i]?:=by
    rcases h'.2 with ⟨_,_,_,hx⟩|⟨b2,off2,c2,e,h1,hc2⟩
    ·have:ys=[]:=by simpa using hx
     subst this;simp at hl;rw [hl] at h0;simp at h0
    ·rw [List.length_map] at e hc2
     exact ⟨b2,off2,c2,e,hc2⟩
   rw [e];refine (Tryz.slices_Equal_string b off xs.length cap b2 off2 ys.length c2 (xs.map B) (ys.map B) w (by simp) (by simp) (by omega) (by omega) (fun j hj=>?_) (fun j hj=>?_)).mono ?_
   ·rw [List.length_map] at hj
    rw [hc j hj,kb8 xs hj,ktq xs hj]
   ·rw [List.length_map] at hj
    rw [hc2 j hj,kb8 ys hj,ktq ys hj]
   ·rintro e w' ⟨rfl,hq⟩
    refine ⟨?_,hq⟩;rw [List.take_of_length_le (by simp),List.take_of_length_le (by simp)]
    congr 2
    have hinj:(xs.map B=ys.map B) ↔ xs=ys:=by
     constructor
     ·intro h
      have:(xs.map B).map (fun s:ByteArray=>s.data.toList)=(ys.map B).map (fun s:ByteArray=>s.data.toList):=by rw [h]
      simpa [List.map_map,Function.comp_def] using this
     ·rintro rfl;rfl
    simp only [hinj]
  ·refine (Tryz.slices_Equal_string_lens (some ⟨b,off,none⟩) a' xs.length cap ys.length cap' w hl).mono ?_
   rintro e w' ⟨rfl,rfl⟩;refine ⟨?_,0,rfl⟩;rw [decide_eq_false];intro h;subst h;exact hl rfl
end Go.Proofs.YtknpbekoenbphaaGreatDoor
namespace Licit.Rv
open Go Licit
def pastB (ids:List Bs) (p:Past) (n:Nat):List Bs:=(List.range n).foldl (fun o k=>if p.getD k false=true then insB (ids.getD k []) o else o) []
theorem pastB_succ (ids:List Bs) (p:Past) (n:Nat):pastB ids p (n+1)=if p.getD n false=true then insB (ids.getD n []) (pastB ids p n) else pastB ids p n:=by
 unfold pastB;rw [List.range_succ,List.foldl_append];rfl
theorem pastB_strict (ids:List Bs) (p:Past):∀n,StrictB (pastB ids p n)
 |0=>List.Pairwise.nil
 |n+1=>by
  rw [pastB_succ];split
  ·exact kgf _ _ (pastB_strict ids p n)
  ·exact pastB_strict ids p n
theorem pastB_mem (ids:List Bs) (p:Past):∀n s,s∈pastB ids p n ↔ ∃k,k<n∧p.getD k false=true∧ids.getD k []=s
 |0,s=>by simp [pastB]
 |n+1,s=>by
  rw [pastB_succ];constructor
  ·intro h
   split at h
   ·rename_i c
    rcases (kfj _ _ _).1 h with rfl|h
    ·exact ⟨n,by omega,c,rfl⟩
    ·obtain ⟨k,hk,h1,h2⟩:=(pastB_mem ids p n s).1 h
     exact ⟨k,by omega,h1,h2⟩
   ·obtain ⟨k,hk,h1,h2⟩:=(pastB_mem ids p n s).1 h
    exact ⟨k,by omega,h1,h2⟩
  ·rintro ⟨k,hk,h1,h2⟩
   rcases Nat.lt_succ_iff_lt_or_eq.1 hk with c|rfl
   ·have:=(pastB_mem ids p n s).2 ⟨k,c,h1,h2⟩
    split
    ·exact (kfj _ _ _).2 (.inr this)
    ·exact this
   ·rw [if_pos h1]
    exact (kfj _ _ _).2 (.inl h2.symm)
theorem pastB_len (ids:List Bs) (p:Past):∀n,(pastB ids p n).length≤n
 |0=>Nat.le_refl _
 |n+1=>by
  rw [pastB_succ];have h1:=pastB_len ids p n
  have h2:∀(x:Bs) (l:List Bs),(insB x l).length≤l.length+1:=by
   intro x l
   induction l with
   |nil=>simp [insB]
   |cons a r ih =>
    simp only [insB];split
    ·simp
    ·split
     ·simp
     ·simp;omega
  split
  ·have:=h2 (ids.getD n []) (pastB ids p n);omega
  ·omega
theorem strict_ext {l m:List Bs} (hl:StrictB l) (hm:StrictB m) (h:∀s,s∈l ↔ s∈m):l=m:=by
 have h1:=sortB_only (l:=m) (l':=l) (strict_nodup hl) h (List.Pairwise.imp (fun {a b} c=>ltB_asymm c) hl);have h2:=sortB_only (l:=m) (l':=m) (strict_nodup hm) (fun _=>Iff.rfl) (List.Pairwise.imp (fun {a b} c=>ltB_asymm c) hm);rw [h1,←h2]
def pastE (l:List Ev) (ix:Int):List Bs × Int :=
 if (setE l (idsOf l)).2=0 then match arrS l (idsOf l) with
  |some S=>if 0≤ix∧ix<l.length then (pastB (idsOf l) (((S.getD ix.toNat none).map (·.2)).getD []) l.length,0) else ([],3)
  |none=>([],12)
 else ([],(setE l (idsOf l)).2)
theorem pastE_in {l:List Ev} {S:Stt} (h:(setE l (idsOf l)).2=0) (hS:arrS l (idsOf l)=some S) {i:Nat} (hi:i<l.length) {row:Row} (hr:S.getD i none=some row):pastE l (i:Int)=(pastB (idsOf l) row.2 l.length,0):=by
 unfold pastE;rw [if_pos h,hS];dsimp only;rw [if_pos ⟨by omega,by omega⟩,Int.toNat_natCast,hr];rfl
theorem pastE_out {l:List Ev} {S:Stt} (h:(setE l (idsOf l)).2=0) (hS:arrS l (idsOf l)=some S) {ix:Int} (hi:¬ (0≤ix∧ix<l.length)):pastE l ix=([],3):=by
 unfold pastE;rw [if_pos h,hS];dsimp only;rw [if_neg hi]
theorem pastE_err {l:List Ev} (h:(setE l (idsOf l)).2≠0) (ix:Int):pastE l ix=([],(setE l (idsOf l)).2):=by
 unfold pastE;rw [if_neg h]
end Licit.Rv
namespace Go.Proofs.YtknpbekoenbphaaGreatDoor
open Go Go.RowKit Licit
open Go.ChangeShapes Go.WideShapes Go.ChangeAt
section
variable {H:Type} {enc:TypeId × Value→H} {W:World} {base:Nat} {held:Bool} {v:Value}
theorem kyr {r:Reach} {b0:Nat} {sp:Nat→Bool} {d:DataW H} {ps:List MemPlace} (hval:Value.okWide Tryz.prog W r b0 3 v) (hd:DataW.Trod enc Tryz.prog W base sp held 3 v d ps):∃n:Int,v = .int .i64 n:=by
 obtain ⟨m,rfl,-,-,hw⟩:=open_int Tryz.underlying3 hval hd;exact ⟨m,rfl⟩
end
end Go.Proofs.YtknpbekoenbphaaGreatDoor
namespace Go.Proofs.YtknpbekoenbphaaGreatDoor
open Go Go.RowKit Licit Go.Maps Go.Sort Go.Shelf
theorem kq8 (mb:Option Nat) (W:World):Calls Tryz.prog 68 #[.map mb] W fun e w'=>e = .returned (.func (.func 137) #[] #[.pointer (some ⟨W.heap.size,0,none⟩)])∧w'=W.alloc (.cells #[.map mb] 92) :=
 callsIn_wide.1 (AnyZ.keys_in Tryz.keysB Fence.wide 5 trivial rfl mb W)
theorem kmx (b:Nat) (L:List (Bs × Value)) (w:World) (h:kbi Tryz.prog 9 kS w b L) (hn:L.length≤1048576) :
 Calls Tryz.prog 54 #[.func (.func 137) #[] #[.pointer (some ⟨w.heap.size,0,none⟩)]] (w.alloc (.cells #[.map (some b)] 92)) fun e w'=>∃v,e = .returned v∧w'.ownsRow (w.heap.size+1) 9 1 v (Rv.sortB (kbc L)).length ((Rv.sortB (kbc L)).map vS)∧Below (w.heap.size+1) (w.alloc (.cells #[.map (some b)] 92)) w':=by
 obtain ⟨nn,D0,hown,hperm,hsz⟩:=kng h hn;have hbl:=hown.lt
 have hseq:SeqGives Fence.wide 2 Tryz.prog 137 #[.pointer (some ⟨w.heap.size,0,none⟩)] encStr (fun ss=>ss.Perm (strKeys D0)) (Maps.size D0) (w.alloc (.cells #[.map (some b)] 92)) :=
  AnyZ.keys_gives (ρ:=Tryz.keysB_ren) { Tryz.keysB with } Fence.wide _ trivial rfl (by omega) w.heap.size b nn D0 _ (by simp) (by simp) (by
   obtain ⟨es,clock,hb,Ft,hs,hD⟩:=hown;exact ⟨es,clock,(Below.heap_alloc _ _ b hbl).trans hb,Ft,hs,hD⟩)
 have hc:=callsIn_wide.1 (AnyZ.sorted_in Tryz.sortedS Fence.wide 5 trivial trivial trivial trivial rfl (by omega) (kjd _) (enters_of Tryz.func52 (by kernel_rfl) rfl) 137 #[.pointer (some ⟨w.heap.size,0,none⟩)] trivial (enters_of Tryz.func137 (by kernel_rfl) rfl) _ (Maps.size D0) (by rw [hsz];unfold maxLen;omega) (by rw [hsz];omega) _ hseq);refine hc.mono ?_;rintro e w' ⟨v,ss,rfl,hp,hrow,-,hb⟩;have hs:(ss.mergeSort fun x y=>decide (x≤y))=Rv.sortB (kbc L):=kjo (hp.trans hperm) (h.nodup kcx);rw [World.size_alloc] at hrow hb;rw [hs] at hrow;have hl:ss.length=(Rv.sortB (kbc L)).length:=by rw [←hs];simp
 rw [hl] at hrow;exact ⟨v,rfl,hrow,hb⟩
def kel (l:List Rv.Ev) (ix:Int) (w:World) (en:Ending) (w':World):Prop:=∃v,en = .returned (.tuple #[v,.int .i64 (Rv.pastE l ix).2])∧IsSl v ((Rv.pastE l ix).1.map vS) w'∧(Rv.pastE l ix).1.length≤1024∧Below w.heap.size w w'
theorem kil (l:List Rv.Ev) (ix:Int) (w w1:World) (n:Int) (h:Rv.pastE l ix=([],n)) (hb:Below w.heap.size w w1):kel l ix w (.returned (.tuple #[.slice none 0 0,.int .i64 n])) w1:=by
 unfold kel;rw [h];exact ⟨_,rfl,⟨by simp [maxLen],.inl ⟨none,0,rfl,rfl⟩⟩,by simp,hb⟩
theorem kui (v:Value) (l:List Rv.Ev) (ix:Int) (w:World) (h:kbt v l w) (ht:Tab w):Calls Tryz.prog 23 #[v,.int .i64 ix] w (kel l ix w):=by
 have HA:=hdd (kf9 v l w h ht);clear h ht
 by_cases hE:(Rv.setE l (Rv.idsOf l)).2=0
 rotate_left
 ·have d1:((Rv.setE l (Rv.idsOf l)).2 == 0)=false:=beq_eq_false_iff_ne.2 hE
  have d2:((Rv.setE l (Rv.idsOf l)).2 != 0)=true:=by rw [bne,d1];rfl
  have HE:=hdd hE;clear hE
  go_enter Tryz.func23,Tryz.ntmps23
  go_wp2_with (first|(go_at_call 66;refine HA.out.mono ?_;intro en w1 hpost;unfold kck at hpost;obtain ⟨hb1,va,rfl,-⟩:=hpost;have HB1:=hdd hb1;clear hb1)|fail)
  refine bodyPost_ret (v:=.tuple #[.slice none 0 0,.int .i64 (Rv.setE l (Rv.idsOf l)).2]) (by simp [results,Tryz.results23,go_sem]) rfl (kil l ix w w1 _ (Rv.pastE_err HE.out ix) HB1.out)
 have HE:=hdd hE
 go_enter Tryz.func23,Tryz.ntmps23
 go_upto_region 4 with (first|(go_at_call 66;refine HA.out.mono ?_;intro en w1 hpost;unfold kck at hpost;rw [hE] at hpost;obtain ⟨hb1,va,rfl,hok⟩:=hpost;have HB1:=hdd hb1;have HOK:=hdd (hok rfl);clear hb1 hok)|fail)
 obtain ⟨S,pt,pb,hS,hSl,hown,hnd⟩:=HOK.out;obtain ⟨a,cap,rfl⟩:=kag hown;generalize (Rv.setE l (Rv.idsOf l)).1=e1 at *;have hle:l.length≤1024:=(kn3.of l (kg9 HE.out)).le;have hlow:=(Rv.arrS_lower hS).1;obtain ⟨O,hO⟩:∃O,Rv.ordI S (Rv.idsOf l)=O:=⟨_,rfl⟩;have hOl:O.length=l.length:=by rw [←hO,(Rv.ordI_perm S _).length_eq,List.length_range,hSl]
 have hOm:∀i,i∈O ↔ i<l.length:=fun i=>by rw [←hO,(Rv.ordI_perm S _).mem_iff,List.mem_range,hSl]
 rw [hO] at hown;have HOl:=hdd hOl;have HOm:=hdd hOm;have HOwn:=hdd hown;have HNd:=hdd hnd;have HS:=hdd hS;have HSl:=hdd hSl;have HLow:=hdd hlow;clear hS hSl hown hnd HOK hE hO HA hOl hOm hlow
 go_wp2_with fail
 go_loopw [10,22] (fun _ n wr=>wr=w1∧∃k:Nat,k≤l.length∧n = .int .i64 k∧∀j,j<k→((O.getD j 0:Nat):Int)≠ix) (fun _ n _=>l.length - (intOf n).toNat)
 case atStart=>exact ⟨rfl,0,Nat.zero_le _,rfl,fun j hj=>by omega⟩
 case round =>
  obtain ⟨rfl,k,hk,rfl,hA⟩:=hrel;have HAll:=hdd hA;clear hA
  by_cases hlt:k<l.length
  ·have hol:=HOl.out
   obtain ⟨g0,cv,hve,-,-,-⟩:=kax HOwn.out (by omega);simp only [Value.slice.injEq,true_and] at hve;obtain ⟨rfl,rfl⟩:=hve;have hltO:k<O.length:=by omega
   obtain ⟨i,hi⟩:∃i,O[k]=i:=⟨_,rfl⟩;have hil:i<l.length:=(HOm.out i).1 (by rw [←hi];exact List.getElem_mem hltO)
   have cd:wr.cell? ⟨g0,k,none⟩=some (ptr (pt i)):=by
    rw [kce HOwn.out (by rw [List.length_map];exact hltO),List.getElem?_map,List.getElem?_eq_getElem hltO,hi];rfl
   have cd':wr.cell? ⟨g0,0+k,none⟩=some (ptr (pt i)):=by rw [Nat.zero_add];exact cd
   have hget:O.getD k 0=i:=by rw [List.getD_eq_getElem?_getD,List.getElem?_eq_getElem hltO,hi];rfl
   have HGet:=hdd hget;obtain ⟨row,hr,hn⟩:=HNd.out i hil;obtain ⟨-,c1,-,c21⟩:=hn.cells;obtain ⟨⟨na,nc,ta,tc,sa,sc,ha,hc,ra,rc,he,hh⟩,L,hL,hm⟩:=hn;clear he hh hget hi
   by_cases hq:((i:Int)=ix)
   ·have q1:((i:Int) == ix)=true:=by rw [hq];simp
    have hfit:row.2.length=l.length:=by rw [←HSl.out];exact HLow.out.1 i row hr
    have hkL:kbc (L.map fun s=>(s,Value.bool true))=L:=by simp [kbc,Function.comp_def]
    have hmem:∀s,s∈L ↔ ∃j,j<l.length∧row.2.getD j false=true∧(Rv.idsOf l).getD j []=s:=fun s=>by
     rw [hm];constructor
     ·rintro ⟨j,h1,h2⟩
      refine ⟨j,?_,h1,h2⟩;rcases Nat.lt_or_ge j row.2.length with c|c
      ·omega
      ·rw [List.getD_eq_getElem?_getD,List.getElem?_eq_none c] at h1;cases h1
     ·rintro ⟨j,-,h1,h2⟩;exact ⟨j,h1,h2⟩
    have hpb:Rv.sortB L=Rv.pastB (Rv.idsOf l) row.2 l.length:=Rv.strict_ext (Rv.sortB_strict L) (Rv.pastB_strict _ _ _) fun s=>by rw [Rv.sortB_mem,hmem,Rv.pastB_mem]
    have hnd:L.Nodup:=by have:=kbi.nodup kcx hL;rwa [hkL] at this
    have hLl:L.length≤1024:=by
     have:=Rv.nodup_le (m:=Rv.idsOf l) hnd (fun s hs=>by
      obtain ⟨j,hj,-,rfl⟩:=(hmem s).1 hs;rw [List.getD_eq_getElem?_getD,List.getElem?_eq_getElem (by rw [Rv.ids_len];exact hj)];exact List.getElem_mem _)
     rw [Rv.ids_len] at this;omega
    have HPE:=hdd (show Rv.pastE l ix=(Rv.sortB L,0) by rw [←hq,Rv.pastE_in HE.out HS.out hil hr,hpb]);have HBl:=hdd (show (Rv.sortB L).length≤1024 by rw [hpb];exact Nat.le_trans (Rv.pastB_len _ _ _) hle);have HSo:=hdd (kmx (pb i) _ wr hL (by rw [List.length_map];omega));have HkL:=hdd hkL;clear hfit hkL hmem hpb hnd hLl hm hL hq
    go_wp2_with (first
     |(go_at_call 68;refine (kq8 _ _).mono ?_;rintro en w2 ⟨rfl,rfl⟩)
     |(go_at_call 54;refine (HSo.out).mono ?_
       rintro en w5 ⟨v5,rfl,ho5,hb5⟩;rw [HkL.out] at ho5;have HO5:=hdd ho5;have HB5:=hdd (show Below wr.heap.size wr w5 from ((Below.refl _ _).alloc (Nat.le_refl _) _).trans (hb5.mono (Nat.le_succ _)));clear ho5 hb5)
     |fail)
    have hP:kel l ix w (.returned (.tuple #[v5,.int .i64 0])) w5:=by
     unfold kel;rw [HPE.out];exact ⟨_,rfl,IsSl.of_owns (by rw [List.length_map];exact HO5.out) (by rw [List.length_map];have:=HBl.out;show (Rv.sortB L).length≤_;unfold maxLen;omega),HBl.out,HB1.out.next HB5.out⟩
    refine bodyPost_ret (v:=.tuple #[v5,.int .i64 0]) (by simp [results,Tryz.results23,go_sem]) rfl hP
   ·have q1:((i:Int) == ix)=false:=by simpa using hq
    have HNe:=hdd hq;clear hq hm hL c21
    go_wp2_with fail
    go_roundw
    case rel=>exact ⟨trivial,k+1,by omega,by go_num,fun j hj=>by
     rcases Nat.lt_or_ge j k with c|c
     ·exact HAll.out j c
     ·obtain rfl:j=k:=by omega
      rw [HGet.out];exact HNe.out⟩
    case measure=>simp [intOf];omega
  ·obtain rfl:k=l.length:=by omega
   have hP:kel l ix w (.returned (.tuple #[.slice none 0 0,.int .i64 3])) wr:=kil l ix w wr _ (Rv.pastE_out HE.out HS.out (fun hc=>by
    have hol:=HOl.out;have hm:=(HOm.out ix.toNat).2 (by omega);obtain ⟨j,hj,he⟩:=List.getElem_of_mem hm
    have:=HAll.out j (by omega)
    rw [List.getD_eq_getElem?_getD,List.getElem?_eq_getElem hj] at this;exact this (by simp [he];omega))) HB1.out
   have HP:=hdd hP;clear hP
   go_wp2
   refine bodyPost_ret (v:=.tuple #[.slice none 0 0,.int .i64 3]) (by simp [results,Tryz.results23,go_sem]) rfl HP.out
end Go.Proofs.YtknpbekoenbphaaGreatDoor
namespace Go.Proofs.YtknpbekoenbphaaGreatDoor
open Go Go.RowKit Licit
theorem kyt {xs:List Bs} (h:Rv.StrictB xs) (s:Bs):kjt xs s=Rv.insB s xs:=by
 unfold kjt
 by_cases hm:s∈xs
 ·obtain ⟨h1,h2⟩:=Rv.pos_old h hm
  rw [Rv.insB_old h hm,if_pos];refine ⟨h1,?_⟩;rw [List.getD_eq_getElem?_getD,List.getElem?_eq_getElem h1];exact h2
 ·rw [Rv.insB_new hm,if_neg]
  rintro ⟨h1,h2⟩;rw [List.getD_eq_getElem?_getD,List.getElem?_eq_getElem h1] at h2;exact hm (h2 ▸ List.getElem_mem h1)
theorem kxy {a:Option Addr} {n c:Nat} {xs:List Value} {w:World} (h:IsSl (.slice a n c) xs w) {i:Nat} (hi:i<xs.length):∃b off,a=some ⟨b,off,none⟩∧w.cell? ⟨b,off+i,none⟩=some xs[i]:=by
 rcases h.2 with ⟨_,_,_,e⟩|⟨b,off,cap,e,h0,hc⟩
 ·subst e;simp at hi
 ·simp only [Value.slice.injEq] at e
  exact ⟨b,off,e.1,by rw [hc i hi,List.getElem?_eq_getElem hi]⟩
theorem ktm (v:Value) (l:List Rv.Ev) (ix:Int) (w:World) (h:kbt v l w):Calls Tryz.prog 24 #[v,.int .i64 ix] w (kel l ix w):=by
 obtain ⟨a,c,rfl⟩:=h.form;have hm:=h.1;have HN:=hdd (kjz _ l w h);clear h
 by_cases hE:(Rv.setE l (Rv.idsOf l)).2=0
 rotate_left
 ·have d1:((Rv.setE l (Rv.idsOf l)).2 == 0)=false:=beq_eq_false_iff_ne.2 hE
  have d2:((Rv.setE l (Rv.idsOf l)).2 != 0)=true:=by rw [bne,d1];rfl
  have HE:=hdd hE;clear hE
  go_enter Tryz.func24,Tryz.ntmps24
  go_wp2_with (first
   |(go_at_call 59
     refine HN.out.mono ?_;rintro en w1 ⟨hb1,sv,rfl,hz,-⟩;obtain rfl:=hz HE.out;have HB1:=hdd hb1;clear hb1 hz)
   |fail)
  refine bodyPost_ret (v:=.tuple #[.slice none 0 0,.int .i64 (Rv.setE l (Rv.idsOf l)).2]) (by simp [results,Tryz.results24,go_sem]) rfl (kil l ix w _ _ (Rv.pastE_err HE.out ix) (HB1.out.alloc HB1.out.size _))
 have HE:=hdd hE;have hO1:=Rv.set_ok.1 hE
 go_enter Tryz.func24,Tryz.ntmps24
 go_upto_region 4 with (first
  |(go_at_call 59
    refine HN.out.mono ?_;rintro en w1 ⟨hb1,sv,rfl,-,hz⟩;rw [hE];obtain ⟨S,vI,vR,vP,vO,pv,hS,hSl,rfl,hV⟩:=hz HE.out;obtain ⟨aI,cI,rfl⟩:=hV.ids.form;obtain ⟨aR,cR,rfl⟩:=hV.ranks.form;obtain ⟨aP,cP,rfl⟩:=hV.pasts.form;obtain ⟨aO,cO,rfl⟩:=hV.ord.formMap;simp only [List.length_map,List.length_range] at hV ⊢;have HS:=hdd (And.intro hS hSl);have HSv:=hdd hV;have HB1:=hdd hb1;clear hb1 hz hS hSl hV)
  |fail)
 obtain ⟨hS,hSl⟩:=HS.out;generalize (Rv.setE l (Rv.idsOf l)).1=e1 at *
 have hF:∀W,W=w1.alloc (.cells (kew (.slice a l.length c) (.slice aI (Rv.idsOf l).length cI) (.slice aR S.length cR) (.slice aP l.length cP) (.slice aO (Rv.ordI S (Rv.idsOf l)).length cO)) 107)→Below w1.heap.size w1 W∧W.cell? ⟨w1.heap.size,1,none⟩=some (.slice aI (Rv.idsOf l).length cI)∧W.cell? ⟨w1.heap.size,3,none⟩=some (.slice aP l.length cP):=by
  rintro _ rfl;exact ⟨(Below.refl _ _).alloc (Nat.le_refl _) _,by rw [kaa (kai _ _)];rfl,by rw [kaa (kai _ _)];rfl⟩
 obtain ⟨t,ht⟩:∃t,w1.heap.size=t:=⟨_,rfl⟩;show Code.wp _ _ _ _ (w1.alloc (.cells (kew (.slice a l.length c) (.slice aI (Rv.idsOf l).length cI) (.slice aR S.length cR) (.slice aP l.length cP) (.slice aO (Rv.ordI S (Rv.idsOf l)).length cO)) 107));generalize hw2:w1.alloc (.cells (kew (.slice a l.length c) (.slice aI (Rv.idsOf l).length cI) (.slice aR S.length cR) (.slice aP l.length cP) (.slice aO (Rv.ordI S (Rv.idsOf l)).length cO)) 107)=w2;obtain ⟨hb2,hc1,hc3⟩:=hF w2 hw2.symm;rw [ht] at hc1 hc3 ⊢;have HC2:=hdd (fun (W:World) (hb:Below w2.heap.size w2 W)=>And.intro ((hb.cell (p:=⟨t,1,none⟩) (World.block_lt_of_cell? _ _ hc1)).trans hc1) ((hb.cell (p:=⟨t,3,none⟩) (World.block_lt_of_cell? _ _ hc3)).trans hc3));have HB2:=hdd (HB1.out.next hb2);have HVb:=hdd (fun (W:World) (hb:Below w2.heap.size w2 W)=>HSv.out.below (hb2.next hb));clear hF hw2 hb2 hc1 hc3 HN ht HSv
 by_cases hin:0≤ix∧ix<(l.length:Int)
 rotate_left
 ·have HP:=hdd (kil l ix w w2 3 (Rv.pastE_out HE.out hS hin) HB2.out)
  by_cases h0:ix<0
  ·clear hin
   go_wp2_with fail
   refine bodyPost_ret (v:=.tuple #[.slice none 0 0,.int .i64 3]) (by simp [results,Tryz.results24,go_sem]) rfl HP.out
  ·have h1:(l.length:Int)≤ix:=by omega
   clear hin
   go_wp2_with fail
   refine bodyPost_ret (v:=.tuple #[.slice none 0 0,.int .i64 3]) (by simp [results,Tryz.results24,go_sem]) rfl HP.out
 obtain ⟨i,rfl⟩:∃i:Nat,ix=(i:Int):=⟨ix.toNat,by omega⟩;have hil:i<l.length:=by omega
 have d0:¬ ((i:Int)<0):=by omega
 have d1:¬ ((l.length:Int)≤(i:Int)):=by omega
 obtain ⟨row,hrow⟩:=(Rv.arrS_lower hS).2.2 i (by omega);have hfit:row.2.length=l.length:=by have:=(Rv.arrS_lower hS).1.1 i row hrow;omega
 have hpr:kia S i=row.2:=by unfold kia;rw [hrow];rfl
 have HPE:=hdd (Rv.pastE_in HE.out hS hil hrow);have hle:l.length≤1024:=hO1.1.le;obtain ⟨p,hp⟩:∃p,row.2=p:=⟨_,rfl⟩;rw [hp] at HPE hfit hpr;have HFit:=hdd hfit;have HIds:=hdd (Rv.ids_len l);obtain ⟨ids,hids⟩:∃ids,Rv.idsOf l=ids:=⟨_,rfl⟩;rw [hids] at HPE HIds HC2
 have HRows:=hdd (fun (W:World) (hb:Below w2.heap.size w2 W)=>by
  have hv:=HVb.out W hb;have h1:=hv.rows i hil;rw [hpr] at h1;exact And.intro (hids ▸ hv.ids) (And.intro hv.pasts h1))
 clear hin hrow hpr hp hfit hO1 HS hS hSl HVb hE HE hids
 go_wp2_with fail
 go_loopw [9,10] (fun s9 s10 wr=>∃k:Nat,k≤l.length∧s10 = .int .i64 k∧Below w2.heap.size w2 wr∧wr.ownsRow w2.heap.size 9 1 s9 (Rv.pastB ids p k).length ((Rv.pastB ids p k).map vS)) (fun _ s10 _=>l.length - (intOf s10).toNat)
 case atStart=>exact ⟨0,Nat.zero_le _,rfl,Below.refl _ _,World.ownsRow_nil _ _ _ _⟩
 case round =>
  obtain ⟨k,hk,rfl,hb,ho⟩:=hrel;have HB:=hdd hb;have HO:=hdd ho;obtain ⟨xs,hxs⟩:∃xs,Rv.pastB ids p k=xs:=⟨_,rfl⟩;have HXs:=hdd hxs;have HXl:=hdd (show xs.length≤1024 by rw [←hxs];exact Nat.le_trans (Rv.pastB_len _ _ _) (by omega));rw [hxs] at HO;obtain ⟨a9,c9,rfl⟩:=kag HO.out;obtain ⟨c1,c3⟩:=HC2.out wr hb;clear hb ho hxs
  by_cases hlt:k<l.length
  ·have hltI:(k:Int)<(l.length:Int):=by omega
   obtain ⟨hI,hP,hR⟩:=HRows.out wr HB.out;have hkI:k<ids.length:=by rw [HIds.out];exact hlt
   obtain ⟨bI,oI,rfl,cI'⟩:=kxy hI (i:=k) (by rw [List.length_map];exact hkI);obtain ⟨bP,oP,rfl,cP'⟩:=kxy hP (i:=i) (by rw [List.length_map,List.length_range];exact hil);obtain ⟨aV,cV,hpv⟩:=hR.formMap;rw [hpv] at hR;obtain ⟨bV,oV,rfl,cV'⟩:=kxy hR (i:=k) (by rw [List.length_map,HFit.out];exact hlt)
   have e1:((List.range l.length).map pv)[i]'(by rw [List.length_map,List.length_range];exact hil) = .slice (some ⟨bV,oV,none⟩) l.length cV:=by
    simp only [List.getElem_map,List.getElem_range];rw [hpv,HFit.out]
   have e2:∀h,(p.map vBo)[k]'h = .bool (p.getD k false):=fun h=>by
    rw [List.getElem_map,List.getD_eq_getElem?_getD,List.getElem?_eq_getElem (by rw [HFit.out];exact hlt)];rfl
   have e3:∀h,(ids.map vS)[k]'h = .string (B (ids.getD k [])):=fun h=>by
    rw [List.getElem_map,List.getD_eq_getElem?_getD,List.getElem?_eq_getElem hkI];rfl
   rw [e1] at cP';rw [e2] at cV';rw [e3] at cI';have HSu:=hdd (Rv.pastB_succ ids p k);have HSt:=hdd (Rv.pastB_strict ids p k);obtain ⟨s,hs⟩:∃s,ids.getD k []=s:=⟨_,rfl⟩;rw [hs] at cI';have HSs:=hdd hs;clear hs;have hkk:=HIds.out;have HPb:=hdd (rfl:p.getD k false=p.getD k false);clear e1 e2 e3 hpv hI hP hR
   cases hpk:p.getD k false with
   |true =>
    rw [hpk] at cV';have HPk:=hdd hpk;clear hpk
    go_wp2_with (first
     |(go_at_call 69
       go_loud (
       refine (kfp _ xs s wr (kdr HO.out (by have:=HXl.out;omega)) (kjq.own HO.out).cap (kjq.own HO.out).nil (by have:=HXl.out;omega)).mono ?_;rintro en w5 ⟨v5,rfl,hor,hlen,hb5⟩;have HB5:=hdd (HB.out.next hb5);have HO5:=hdd (kkw (W0:=w2) HO.out hor HB.out.size hb5);clear hor hlen hb5))
     |fail)
    have ho5:=HO5.out;rw [kyt (HXs.out ▸ HSt.out)] at ho5;refine ⟨⟨k+1,by omega,by go_num,HB5.out,?_⟩,?_⟩
    ·have hsu:=HSu.out
     rw [HPk.out,if_pos rfl,HXs.out,HSs.out] at hsu;rw [hsu];exact ho5
    ·simp [intOf];omega
   |false =>
    rw [hpk] at cV';have HPk:=hdd hpk;clear hpk
    go_wp2_with fail
    refine ⟨⟨k+1,by omega,by go_num,HB.out,?_⟩,?_⟩
    ·have hsu:=HSu.out
     rw [HPk.out,if_neg (by simp),HXs.out] at hsu;rw [hsu];exact HO.out
    ·simp [intOf];omega
  ·obtain rfl:k=l.length:=by omega
   have HP:=hdd (show kel l (i:Int) w (.returned (.tuple #[.slice a9 xs.length c9,.int .i64 0])) wr from by
    unfold kel;have hI:=kdr HO.out (by have:=HXl.out;omega);rw [HPE.out,HXs.out];exact ⟨_,rfl,hI,HXl.out,HB2.out.next HB.out⟩)
   go_wp2
   refine bodyPost_ret (v:=.tuple #[.slice a9 xs.length c9,.int .i64 0]) (by simp [results,Tryz.results24,go_sem]) rfl HP.out
theorem kql (haw:kgw) (vd ve:Value) (D:List Dd) (b a:Nat) (X:List Rv.Ev) (w:World) (hD:kfs vd D w) (hE:kc0 ve X w) (hn:khn ve) (hb:b<256) (ha:a<256) (ix:Int) (ht:Tab w) :
 Calls Tryz.prog 7 #[.agg #[vd,.int .u8 (b:Int),.int .u8 (a:Int),ve],.int .i64 ix] w fun en w'=>en = .returned (.bool true)∧Below w.heap.size w w':=by
 obtain ⟨ad,cd,rfl⟩:=hD.form;obtain ⟨ae,ce,rfl⟩:=hE.form;have HAw:=hdd haw;have HTb:=hdd (fun (W:World) (h:Below w.heap.size w W)=>ht.same h)
 have hF:∀W,W=w.alloc (.cells #[.slice ad D.length cd,.int .u8 (b:Int),.int .u8 (a:Int),.slice ae X.length ce] 25)→Below w.heap.size w W∧W.heap[w.heap.size]? = some (.cells #[.slice ad D.length cd,.int .u8 (b:Int),.int .u8 (a:Int),.slice ae X.length ce] 25 (0,0)):=by
  rintro _ rfl;exact ⟨(Below.refl _ _).alloc (Nat.le_refl _) _,kai _ _⟩
 have HHis:=hdd (fun (W:World) (h:Below w.heap.size w W)=>klj _ _ D b a X W (hD.below h) (hE.below h) hn hb ha);obtain ⟨t,htt⟩:∃t,w.heap.size=t:=⟨_,rfl⟩;have HTt:=hdd htt;clear hD hE hn htt ht haw
 go_enter Tryz.func7,Tryz.ntmps7
 go_upto_region 1 with fail
 generalize hw1:w.alloc (.cells #[.slice ad D.length cd,.int .u8 (b:Int),.int .u8 (a:Int),.slice ae X.length ce] 25)=w1;obtain ⟨hb1,hT1⟩:=hF w1 hw1.symm;rw [HTt.out] at hT1 ⊢;have HB1:=hdd hb1;have HT1:=hdd hT1;clear hF hw1 hb1 hT1
 go_upto_region 2 with (first
  |(refine wpList_load_row rfl 25 _ rfl t rfl 25 #[.slice ad D.length cd,.int .u8 (b:Int),.int .u8 (a:Int),.slice ae X.length ce] (0,0) _ HT1.out rfl rfl (by kernel_rfl) ?_)
  |(go_at_call 13
    go_loud (
    refine (HHis.out _ HB1.out).mono ?_;rintro en w2 ⟨v2,ok,rfl,hb2,hok⟩;have HB2:=hdd (HB1.out.next hb2);have HOk:=hdd hok;clear hb2 hok))
  |fail)
 cases ok with
 |false =>
  go_wp2_with (first
   |(go_at_call 14
     refine (HAw.out _ (HTb.out _ HB3.out)).mono ?_;rintro en w4 ⟨rfl,hb4⟩;have HB4:=hdd (HB3.out.next hb4);clear hb4)
   |(go_at_call 14
     refine (HAw.out _ (HTb.out _ HB2.out)).mono ?_;rintro en w3 ⟨rfl,hb3⟩;have HB3:=hdd (HB2.out.next hb3);clear hb3)
   |fail)
  go_ret
  exact ⟨rfl,HB4.out⟩
 |true =>
  obtain ⟨L,L0,l1,hO,hLl,hLt,-⟩:=HOk.out rfl;obtain ⟨l,hl⟩:∃l,ka2 L=l:=⟨_,rfl⟩;have hll:l.length=L.length:=by rw [←hl,kbd]
  have hI:kbt v2 l w2:=hl ▸ hO.is (by omega);have HI:=hdd (fun (W:World) (hb:Below w2.heap.size w2 W)=>hI.below hb);have HNc:=hdd hO.nilC
  have HLn:=hdd (show ∀i,i<l.length→km9 (l.getD i Rv.ev0) from fun i hi=>by
   have hi':i<L.length:=by omega
   have h1:=(hLt L[i] (List.getElem_mem hi')).len (by omega);have h2:l.getD i Rv.ev0=L[i].e:=by rw [←hl];simp [ka2,List.getD_eq_getElem?_getD,List.getElem?_eq_getElem hi']
   rw [h2];exact h1)
  obtain ⟨a2,c2,rfl⟩:=hI.form;clear hO hLl hLt hl hll hI HOk
  go_wp2_with (first
   |(go_at_call 25
     refine (ksr _ _ (Rv.pastE l ix).1 (Rv.pastE l ix).1 _ (H5.out.below HB6.out) H6.out).mono ?_;rintro en w7 ⟨rfl,q7,hq7⟩;have HB7:=hdd (HBw6.out.next (hq7 ▸ below_drewN (Below.refl _ _) q7));clear hq7)
   |(go_at_call 24
     refine (ktm _ l ix w5 (HI.out _ HB25.out)).mono ?_;rintro en w6 ⟨v6,rfl,h6,-,hb6⟩;obtain ⟨a6,c6,rfl⟩:=h6.formMap;have H6:=hdd h6;have HB6:=hdd hb6;have HBw6:=hdd (HB5.out.next hb6);clear h6 hb6)
   |(go_at_call 23
     refine (kui _ l ix w4 H4.out (HTb.out _ HB4.out)).mono ?_;rintro en w5 ⟨v5,rfl,h5,-,hb5⟩;obtain ⟨a5,c5,rfl⟩:=h5.formMap;have H5:=hdd h5;have HB5:=hdd (HB4.out.next hb5);have HB25:=hdd (HB24.out.next hb5);clear h5 hb5)
   |(go_at_call 16
     refine (kcq _ l w3 (HI.out _ HB23.out) HNc.out).mono ?_;rintro en w4 ⟨v4,M,rfl,h4,hM,hb4⟩
     have hM5:M.length≤100000:=by
      have:=(HI.out _ (Below.refl _ _)).1
      rw [←hM,kbd] at this;exact this
     have h4':kbt v4 l w4:=hM ▸ h4.is hM5;obtain ⟨a4,c4,rfl⟩:=h4'.form;have H4:=hdd h4';have HB4:=hdd (HB3.out.next hb4);have HB24:=hdd (HB23.out.next hb4);clear h4 hM hb4 h4' hM5)
   |(go_at_call 14
     refine (HAw.out _ (HTb.out _ HB2.out)).mono ?_;rintro en w3 ⟨rfl,hb3⟩;have HB3:=hdd (HB2.out.next hb3);have HB23:=hdd hb3;clear hb3)
   |fail)
  go_ret
  exact ⟨rfl,HB7.out⟩
end Go.Proofs.YtknpbekoenbphaaGreatDoor
