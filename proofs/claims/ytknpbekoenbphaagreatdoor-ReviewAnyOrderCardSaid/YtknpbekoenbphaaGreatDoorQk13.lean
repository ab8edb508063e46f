/- Parts of the proofs: WkRv8, PlainRt, WkRv9, PlainSo, PlainPa. No condition beyond those at each theorem. -/
import Derived.Deep.LoopGhost
import Derived.Sort.LotA
import Derived.Test.YtknpbekoenbphaaGreatDoorQk12
set_option linter.unusedVariables false
set_option linter.unusedSimpArgs false
set_option maxHeartbeats 16000000
set_option maxRecDepth 100000
namespace Go.Proofs.YtknpbekoenbphaaGreatDoor
open Go Go.RowKit Licit
def ke6 (L V:List Bs):List Bs:=V.foldl (fun M s=>if s∈M then M else M++[s]) L
theorem kpt {L V:List Bs} {s:Bs}:s∈ke6 L V ↔ s∈L∨s∈V:=by
 induction V generalizing L with
 |nil=>simp [ke6]
 |cons a r ih =>
  show s∈ke6 (if a∈L then L else L++[a]) r ↔ _;rw [ih]
  by_cases h:a∈L
  ·rw [if_pos h]
   simp only [List.mem_cons];constructor
   ·rintro (h2|h2)
    ·exact .inl h2
    ·exact .inr (.inr h2)
   ·rintro (h2|rfl|h2)
    ·exact .inl h2
    ·exact .inl h
    ·exact .inr h2
  ·rw [if_neg h]
   simp only [List.mem_append,List.mem_cons,List.not_mem_nil,or_false];constructor
   ·rintro ((h2|h2)|h2)
    ·exact .inl h2
    ·exact .inr (.inl h2)
    ·exact .inr (.inr h2)
   ·rintro (h2|h2|h2)
    ·exact .inl (.inl h2)
    ·exact .inl (.inr h2)
    ·exact .inr h2
theorem km0 (L V:List Bs) (s:Bs):ke6 L (V++[s])=if s∈ke6 L V then ke6 L V else ke6 L V++[s]:=by
 unfold ke6;rw [List.foldl_append];rfl
theorem kif {S:Nat→Prop} {w w1 w2:World} {r:Nat} (h:ka7 S w w1) (h2:ka7 (Licit.One r) w1 w2) (hr:w.heap.size≤r):ka7 S w w2 :=
 ⟨h2.os.trans h.os,h2.tape.trans h.tape,h2.output.trans h.output,Nat.le_trans h.size h2.size,fun k hk hs=>(h2.block k (Nat.lt_of_lt_of_le hk h.size) (fun e=>by have:k=r:=e;omega)).trans (h.block k hk hs)⟩
theorem kum (bd bs:Nat) (Ld Ls:List Bs) (w:World) (hd:kes w bd Ld) (hs:kes w bs Ls) (hne:bd≠bs) (hl:∀s∈Ls,s.length≤maxLen) :
 Calls Tryz.prog 132 #[.map (some bd),.map (some bs)] w fun e w'=>e = .returned (.tuple #[])∧∃L,kes w' bd L∧(∀s,s∈L ↔ s∈Ld∨s∈Ls)∧ka7 (Licit.One bd) w w':=by
 have hbd:=hd.lt;have hbs:=hs.lt;have HD:=hdd hd;obtain ⟨LS,hLS⟩:∃LS,(Ls.map fun s=>(s,Value.bool true))=LS:=⟨_,rfl⟩;unfold kes at hs;rw [hLS] at hs;have HS:=hdd hs;have HL:=hdd hl;have HLS:=hdd hLS;clear hd hs hl hLS
 go_enter Tryz.func132,Tryz.ntmps132
 go_wp2_with (first
  |(at_range;refine kgv _ rfl _ 92 rfl 9 4 kS Tryz.underlying92 bs _ rfl HS.out ?_
    intro w0 hr0 hb0 hs0;have HR0:=hdd hr0;have HD0:=hdd (show kes w0 bd Ld from kbi.below HD.out hb0 hbd);have HB0:=hdd hb0;clear hr0 hb0 hs0)
  |fail)
 go_frame
 go_loopw [4,5] (fun _ _ wr=>∃V:List (Bs × Value),kcg Tryz.prog 9 kS wr bs w.heap.size LS V∧kes wr bd (ke6 Ld (V.map (·.1)))∧ka7 (Licit.One bd) w wr)
  (fun _ _ wr=>wr.rangeLeft bs w.heap.size)
 case atStart=>exact ⟨[],HR0.out,HD0.out,ka7.of_below HB0.out⟩
 case round =>
  obtain ⟨V,hr,hd,hk⟩:=hrel;have HR:=hdd hr;have HD:=hdd hd;have HK:=hdd hk;clear hr hd hk
  go_wp2_with (first
   |(at_next;refine khs _ rfl _ rfl 9 kS kcx bs w.heap.size _ _ rfl HR.out ?_ ?_)
   |fail)
  ·intro hp
   have HP:=hdd hp;clear hp
   go_wp2
   go_end0
   refine ⟨rfl,_,HD.out,fun s=>?_,HK.out⟩;rw [kpt,(HP.out.map (·.1)).mem_iff,←HLS.out,List.map_map];simp [Function.comp_def]
  ·intro s v w1 hm hn hr1 hk1 hs1 hen hlt
   rw [←HLS.out] at hm;obtain ⟨t,ht,he⟩:=List.mem_map.1 hm;obtain ⟨rfl,rfl⟩:=Prod.mk.inj he;have htl:=HL.out t ht;have HD1:=hdd (show kes w1 bd (ke6 Ld (V.map (·.1))) from kbi.kept HD.out hk1 (fun e=>by have:bd=w.heap.size:=e;omega));have HR1:=hdd hr1;have HK1:=hdd (kif HK.out hk1 (Nat.le_refl _));have HLt:=hdd hlt;clear hm hn hr1 hk1 hs1 hlt ht he
   go_wp2_with (first
    |(at_mapUpdate;refine kbb _ rfl _ _ _ 92 rfl 9 4 kS kcx Tryz.underlying92 bd _ rfl HD1.out t rfl (.bool true) rfl (kbp htl) ?_
      intro w5 hm5 hk5 hs5;rw [kk1,←km0] at hm5;have HM5:=hdd (show kes w5 bd (ke6 Ld ((V++[(t,Value.bool true)]).map (·.1))) by rw [List.map_append];exact hm5);have hne':¬ Licit.One bd bs:=fun e=>hne e.symm
      have hnr:¬ Licit.One bd w.heap.size:=fun e=>by have:w.heap.size=bd:=e;omega
      have HR5:=hdd (HR1.out.kept hk5 hne' hnr);have HE5:=hdd (kfv (hk5.block _ HR1.out.map.lt hne') (hk5.block _ HR1.out.lt hnr));have HK5:=hdd (HK1.out.trans hk5);clear hm5 hk5 hs5 hne' hnr)
    |fail)
   go_roundw
   case rel=>first|exact ⟨_,HR5.out,HM5.out,HK5.out⟩|((repeat apply Exists.intro);exact ⟨⟨_,HR5.out,HM5.out,HK5.out⟩,rfl⟩)
   case measure=>rw [HE5.out];exact HLt.out
abbrev ptr (a:Nat):Value:=.pointer (some ⟨a,0,none⟩)
theorem kcr (w:World):(zeroValue 91).run Tryz.prog w = .ok (.pointer none) w:=by kernel_rfl
theorem kv8 (x:Bs) (p bd:Nat) (Ld:List (Bs × Value)) (w:World) (hx:x.length≤maxLen) (hp:w.cell? ⟨p,0,none⟩=some (.map (some bd))) (h:kbi Tryz.prog 9 kS w bd Ld) (hg:kb2 Ld x=none) :
 Calls Tryz.prog 131 #[.string (B x),ptr p] w fun e w'=>e = .returned (.bool true)∧w=w':=by
 have H:=hdd h;have HG:=hdd hg;clear h hg
 go_enter Tryz.func131,Tryz.ntmps131
 go_wp2_with (at_lookup;refine kbl _ rfl _ _ 134 false rfl 9 91 kS kcx Tryz.underlying134 (.pointer none) kcr bd Ld rfl H.out x rfl (kbp hx) ?_;rw [HG.out];simp only [Bool.false_eq_true,if_false,Option.getD_none])
 go_ret
 exact ⟨rfl,rfl⟩
theorem ksj (x:Bs) (p bd a:Nat) (Ld:List (Bs × Value)) (w:World) (hx:x.length≤maxLen) (hp:w.cell? ⟨p,0,none⟩=some (.map (some bd))) (h:kbi Tryz.prog 9 kS w bd Ld) (hg:kb2 Ld x=some (ptr a)) :
 Calls Tryz.prog 131 #[.string (B x),ptr p] w fun e w'=>e = .returned (.bool false)∧w=w':=by
 have H:=hdd h;have HG:=hdd hg;clear h hg
 go_enter Tryz.func131,Tryz.ntmps131
 go_wp2_with (at_lookup;refine kbl _ rfl _ _ 134 false rfl 9 91 kS kcx Tryz.underlying134 (.pointer none) kcr bd Ld rfl H.out x rfl (kbp hx) ?_;rw [HG.out];simp only [Bool.false_eq_true,if_false,Option.getD_some])
 go_ret
 exact ⟨rfl,rfl⟩
def kg4 (x y:Bs):Int:=if Rv.ltB x y=true then -1 else if Rv.ltB y x=true then 1 else 0
theorem kw1:∀x y:Bs,Rv.ltB x y=decide (x<y)
 | [],[]=>by simp [Rv.ltB,Op.bytesLess]
 |_ :: _,[]=>by simp [Rv.ltB,Op.bytesLess]
 | [],_ :: _=>by simp [Rv.ltB,Op.bytesLess]
 |a :: x,b :: y=>by
  have ih:Op.bytesLess x y=decide (x<y):=kw1 x y;show (decide (a<b) || (a == b && Op.bytesLess x y))=_;rw [ih,Bool.eq_iff_iff];simp [List.cons_lt_cons_iff]
theorem khe (x:Bs) (w:World):Calls Tryz.prog 187 #[.string (B x)] w fun e w'=>e = .returned (.bool false)∧w=w':=by
 have hq:=kbx x
 go_enter Tryz.func187,Tryz.ntmps187
 go_wp2
 go_ret
 exact ⟨rfl,rfl⟩
theorem kk0 (x y:Bs) (w:World):Calls Tryz.prog 122 #[.string (B x),.string (B y)] w fun e w'=>e = .returned (.int .i64 (kg4 x y))∧w=w':=by
 cases h1:Rv.ltB x y
 ·cases h2:Rv.ltB y x
  ·have hr:kg4 x y=0:=by unfold kg4;rw [h1,h2];rfl
   have e:x=y:=by
    rw [kw1] at h1 h2;have a1:=of_decide_eq_false h1;have a2:=of_decide_eq_false h2;exact List.le_antisymm (by simpa [List.not_lt] using a2) (by simpa [List.not_lt] using a1)
   rw [hr];subst e;have l1:=(kcc x x).trans h1;have l2:=kbx x;clear h1 h2 hr
   go_enter Tryz.func122,Tryz.ntmps122
   go_wp2_with (go_at_call 187;refine (khe _ _).mono ?_;rintro e w' ⟨rfl,rfl⟩)
   go_ret
   exact ⟨rfl,rfl⟩
  ·have hr:kg4 x y=1:=by unfold kg4;rw [h1,h2];rfl
   have ne:¬ x=y:=fun e=>by subst e;rw [h1] at h2;cases h2
   rw [hr];have l1:=(kcc x y).trans h1;have l2:=kby ne;clear h1 h2 hr ne
   go_enter Tryz.func122,Tryz.ntmps122
   go_wp2_with (go_at_call 187;refine (khe _ _).mono ?_;rintro e w' ⟨rfl,rfl⟩)
   go_ret
   exact ⟨rfl,rfl⟩
 ·have hr:kg4 x y = -1:=by unfold kg4;rw [h1];rfl
  rw [hr];have l1:=(kcc x y).trans h1;clear h1 hr
  go_enter Tryz.func122,Tryz.ntmps122
  go_wp2_with (go_at_call 187;refine (khe _ _).mono ?_;rintro e w' ⟨rfl,rfl⟩)
  go_ret
  exact ⟨rfl,rfl⟩
def or2 (a b:Int):Int:=if a=0 then b else a
theorem kwr (v:Value) (a b:Int) (w:World) (h:IsSl v [vI a,vI b] w):Calls Tryz.prog 121 #[v] w fun e w'=>e = .returned (.int .i64 (or2 a b))∧w=w':=by
 rcases h.2 with ⟨_,_,_,h0⟩|⟨bk,off,cap,rfl,h0,hc⟩
 ·cases h0
 have c0:w.cell? ⟨bk,off,none⟩=some (.int .i64 a):=hc 0 (by simp);have c0':w.cell? ⟨bk,off+0,none⟩=some (.int .i64 a):=c0;have c1:w.cell? ⟨bk,off+1,none⟩=some (.int .i64 b):=hc 1 (by simp);clear hc h0 h
 by_cases ha:a=0
 ·subst ha
  have hr:or2 0 b=b:=rfl;rw [hr];clear hr
  by_cases hb:b=0
  ·subst hb
   go_enter Tryz.func121,Tryz.ntmps121
   go_wp2
   refine wp_loop_rounds 3 ?_;rw [rounds_succ]
   go_wp2
   rw [rounds_succ]
   go_wp2
   rw [rounds_succ]
   go_wp2
   go_ret
   exact ⟨rfl,rfl⟩
  ·have d:(b == 0)=false:=by simpa using hb
   have d':(b != 0)=true:=by simpa using hb
   clear hb
   go_enter Tryz.func121,Tryz.ntmps121
   go_wp2
   refine wp_loop_rounds 3 ?_;rw [rounds_succ]
   go_wp2
   rw [rounds_succ]
   go_wp2
   go_ret
   exact ⟨rfl,rfl⟩
 ·have d:(a == 0)=false:=by simpa using ha
  have d':(a != 0)=true:=by simpa using ha
  have hr:or2 a b=a:=by unfold or2;rw [if_neg ha]
  rw [hr];clear hr ha
  go_enter Tryz.func121,Tryz.ntmps121
  go_wp2
  refine wp_loop_rounds 3 ?_;rw [rounds_succ]
  go_wp2
  go_ret
  exact ⟨rfl,rfl⟩
theorem kth (pa pb:Nat) (ia ib:Bs) (ra rb:Int) (w:World) (a0:w.cell? ⟨pa,0,none⟩=some (.string (B ia))) (a2:w.cell? ⟨pa,2,none⟩=some (.int .i64 ra)) (b0:w.cell? ⟨pb,0,none⟩=some (.string (B ib))) (b2:w.cell? ⟨pb,2,none⟩=some (.int .i64 rb)) :
 Calls Tryz.prog 134 #[ptr pa,ptr pb] w fun e w'=>e = .returned (.int .i64 (or2 (Lib.compareInt ra rb) (kg4 ia ib)))∧∃q os,w'=Go.Sort.grow (w.drewN q) os:=by
 go_enter Tryz.func134,Tryz.ntmps134
 go_wp2
 refine kaj (S:=fun W:World=>W.cell? ⟨pa,0,none⟩=some (.string (B ia))∧W.cell? ⟨pa,2,none⟩=some (.int .i64 ra)∧W.cell? ⟨pb,0,none⟩=some (.string (B ib))∧W.cell? ⟨pb,2,none⟩=some (.int .i64 rb)) (by kernel_rfl) ⟨a0,a2,b0,b2⟩ (fun hHeld=>?_);simp only [List.toList_toArray,len,kat]
 iterate 8 (refine tz 0 ?_;simp only [Act.put,s1,s2,s3])
 iterate 8 (refine tz 9 ?_;simp only [Act.put,s1,s2,s3])
 refine ar2 8 (by kernel_rfl) rfl (fun K hK=>?_);go_simp
 refine ((Tryz.cmp_Compare_int ra rb _).mono fun _ _ h=>(⟨h.1,h.2.symm⟩:_∧w.drew=_)).mono ?_;rintro en u ⟨rfl,rfl⟩;refine hK.out _ _ hHeld (fun hHeld=>?_);clear hK K
 try simp only [Act.put,s1,s2,s3]
 refine ar2 17 (by kernel_rfl) rfl (fun K hK=>?_);go_simp
 refine (kk0 ia ib _).mono ?_;rintro en u ⟨rfl,rfl⟩;refine hK.out _ _ hHeld (fun hHeld=>?_);clear hK K
 try simp only [Act.put,s1,s2,s3]
 refine ar2 18 (by kernel_rfl) rfl (fun K hK=>?_);go_simp
 have hbl:Below w.drew.heap.size w.drew (w.drew.alloc (.cells #[.int .i64 (Lib.compareInt ra rb),.int .i64 (kg4 ia ib)] 3)):=(Below.refl _ _).alloc (Nat.le_refl _) _;refine hK.out _ _ ⟨(hbl.cell (p:=⟨pa,0,none⟩) (World.block_lt_of_cell? _ _ a0)).trans a0,(hbl.cell (p:=⟨pa,2,none⟩) (World.block_lt_of_cell? _ _ a2)).trans a2,(hbl.cell (p:=⟨pb,0,none⟩) (World.block_lt_of_cell? _ _ b0)).trans b0,(hbl.cell (p:=⟨pb,2,none⟩) (World.block_lt_of_cell? _ _ b2)).trans b2⟩ (fun hHeld=>?_);clear hK K hbl
 try simp only [Act.put,s1,s2,s3]
 have hsl:IsSl (.slice (some ⟨w.drew.heap.size,0,none⟩) 2 2) [vI (Lib.compareInt ra rb),vI (kg4 ia ib)] (w.drew.alloc (.cells #[.int .i64 (Lib.compareInt ra rb),.int .i64 (kg4 ia ib)] 3)) :=
  IsSl.of_owns (base:=0) (kd5 (n:=2) (kai w.drew (.cells #[.int .i64 (Lib.compareInt ra rb),.int .i64 (kg4 ia ib)] 3)) (Nat.zero_le _) rfl (by unfold maxLen;omega)) (by simp [maxLen])
 have HSL:=hdd hsl;clear hsl;refine ar2 19 (by kernel_rfl) rfl (fun K hK=>?_);go_simp
 refine (kwr _ _ _ _ HSL.out).mono ?_;rintro en u ⟨rfl,rfl⟩;refine hK.out _ _ hHeld (fun hHeld=>?_);clear hK K
 try simp only [Act.put,s1,s2,s3]
 (refine tz 20 ?_;simp only [Act.put,s1,s2,s3])
 refine wpAnyH_done (by kernel_rfl) ?_ _;simp only [Exit.then]
 go_wp2
 go_ret
 exact ⟨rfl,1,#[.cells #[.int .i64 (Lib.compareInt ra rb),.int .i64 (kg4 ia ib)] 3],rfl⟩
end Go.Proofs.YtknpbekoenbphaaGreatDoor
namespace Licit.Rv
open Go Licit
theorem readyL_snoc (S:Stt) (x:Row) (js:List Nat) (j:Nat):readyL S x (js++[j])=(readyL S x js).bind fun y=>(S.getD j none).map fun z=>(max y.1 (z.1+1),orL (y.2.set j true) z.2):=by
 induction js generalizing x with
 |nil =>
  show readyL S x [j]=_;unfold readyL
  cases S.getD j none with
  |none=>rfl
  |some y=>rfl
 |cons a r ih =>
  rw [List.cons_append];unfold readyL
  cases S.getD a none with
  |none=>rfl
  |some y=>exact ih _
theorem readyL_none (S:Stt):∀(x:Row) (js:List Nat),readyL S x js=none ↔ ∃j∈js,S.getD j none=none
 |x,[]=>by simp [readyL]
 |x,a :: r=>by
  unfold readyL
  cases h:S.getD a none with
  |none=>simp only [true_iff];exact ⟨a,by simp,h⟩
  |some y =>
   simp only [];rw [readyL_none S _ r];constructor
   ·rintro ⟨j,hj,h2⟩;exact ⟨j,by simp [hj],h2⟩
   ·rintro ⟨j,hj,h2⟩
    rcases List.mem_cons.1 hj with rfl|hj
    ·rw [h] at h2;cases h2
    ·exact ⟨j,hj,h2⟩
theorem orL_len (a b:Past) (h:a.length=b.length):(orL a b).length=a.length:=by simp [orL,h]
theorem orL_at (a b:Past) (h:a.length=b.length) (m:Nat):(orL a b).getD m false=(a.getD m false || b.getD m false):=by
 unfold orL
 by_cases hm:m<a.length
 ·rw [List.getD_eq_getElem?_getD,List.getElem?_zipWith,List.getElem?_eq_getElem hm,List.getElem?_eq_getElem (h ▸ hm),List.getD_eq_getElem?_getD,List.getElem?_eq_getElem hm,List.getD_eq_getElem?_getD,List.getElem?_eq_getElem (h ▸ hm)]
  rfl
 ·rw [List.getD_eq_getElem?_getD,List.getElem?_eq_none (by simp [h];omega),List.getD_eq_getElem?_getD,List.getElem?_eq_none (by omega),List.getD_eq_getElem?_getD,List.getElem?_eq_none (by omega)]
  rfl
theorem set_at (a:Past) (j m:Nat) (hj:j<a.length):(a.set j true).getD m false=(decide (m=j) || a.getD m false):=by
 rw [List.getD_eq_getElem?_getD,List.getElem?_set,List.getD_eq_getElem?_getD]
 by_cases h:j=m
 ·subst h;simp [hj]
 ·simp [h,Ne.symm h]
def Fits (S:Stt):Prop:=∀i r,S.getD i none=some r→r.2.length=S.length
theorem readyL_len {S:Stt} (hS:Fits S):∀(x:Row) (js:List Nat),x.2.length=S.length→∀y,readyL S x js=some y→y.2.length=S.length
 |x,[],hx,y,h=>by simp [readyL] at h;rw [←h];exact hx
 |x,a :: r,hx,y,h=>by
  unfold readyL at h
  cases hq:S.getD a none with
  |none=>rw [hq] at h;cases h
  |some z =>
   rw [hq] at h;refine readyL_len hS _ r ?_ y h;rw [orL_len _ _ (by simp [hx,hS a z hq])];simp [hx]
theorem readyL_rank {S:Stt} {b:Nat} (hS:∀i r,S.getD i none=some r→r.1+1≤b):∀(x:Row) (js:List Nat),x.1≤b→∀y,readyL S x js=some y→y.1≤b
 |x,[],hx,y,h=>by simp [readyL] at h;rw [←h];exact hx
 |x,a :: r,hx,y,h=>by
  unfold readyL at h
  cases hq:S.getD a none with
  |none=>rw [hq] at h;cases h
  |some z =>
   rw [hq] at h;exact readyL_rank hS _ r (Nat.max_le.2 ⟨hx,hS a z hq⟩) y h
theorem kls (J:List (List Nat)) (S:Stt) (i:Nat):(stepS J S i).length=S.length:=by
 unfold stepS
 cases S.getD i none with
 |some _=>rfl
 |none =>
  simp only []
  cases readyL S (0,List.replicate S.length false) (J.getD i []) with
  |none=>rfl
  |some x=>simp
theorem kqu (J:List (List Nat)) {S:Stt} (hS:Fits S) (i:Nat):Fits (stepS J S i):=by
 unfold stepS
 cases hq:S.getD i none with
 |some _=>exact hS
 |none =>
  simp only []
  cases hr:readyL S (0,List.replicate S.length false) (J.getD i []) with
  |none=>exact hS
  |some x =>
   intro k r hk;simp only [List.length_set];rw [List.getD_eq_getElem?_getD,List.getElem?_set] at hk
   by_cases h:i=k
   ·rw [if_pos h] at hk
    by_cases hl:i<S.length
    ·rw [if_pos hl] at hk
     cases hk;exact readyL_len hS _ _ (by simp) _ hr
    ·rw [if_neg hl] at hk;cases hk
   ·rw [if_neg h,←List.getD_eq_getElem?_getD] at hk
    exact hS k r hk
theorem passS_succ (J:List (List Nat)) (S:Stt) (k:Nat):passS J S (k+1)=stepS J (passS J S k) k:=by
 unfold passS;rw [List.range_succ,List.foldl_append];rfl
theorem ke1 (J:List (List Nat)) (S:Stt):∀k,(passS J S k).length=S.length
 |0=>rfl
 |k+1=>by rw [passS_succ,kls,ke1 J S k]
theorem cntS_le (S:Stt):cntS S≤S.length:=List.length_filter_le _ _
theorem namesJ_at (l:List Ev) (ids:List Bs) {i:Nat} (h:i<l.length):(namesJ l ids).getD i []=(l.getD i ev0).names.map (findI ids):=by
 unfold namesJ;rw [List.getD_eq_getElem?_getD,List.getElem?_map,List.getElem?_eq_getElem h,List.getD_eq_getElem?_getD,List.getElem?_eq_getElem h];rfl
theorem findI_at {l:List Bs} {s:Bs} (h:findI l s<l.length):l.getD (findI l s) []=s:=by
 induction l with
 |nil=>simp at h
 |cons a r ih =>
  have e:findI (a :: r) s=if a=s then 0 else findI r s+1:=rfl
  rw [e] at h ⊢
  by_cases c:a=s
  ·simp [c]
  ·rw [if_neg c] at h ⊢
   rw [List.getD_cons_succ];exact ih (by simp only [List.length_cons] at h;omega)
end Licit.Rv
namespace Go.Proofs.YtknpbekoenbphaaGreatDoor
open Go Go.RowKit Licit
abbrev ndC (s:Bs) (i r:Int) (e:Rv.Ev) (vn vt vs vh vr:Value) (pb:Nat):Array Value:=#[.string (B s),.int .i64 i,.int .i64 r,.int .i64 e.kind,.string (B e.author),.int .i64 e.number,vn,.string (B e.root),.int .i64 e.bits,.int .i64 e.height,.string (B e.pkg),.string (B e.digest),.string (B e.question),.string (B e.scope),.string (B e.answer),.int .i64 e.till,vt,.int .i64 e.sg.i,vs,vh,vr,.map (some pb)]
def kg0 (ids:List Bs) (p:Rv.Past) (b:Nat) (w:World):Prop:=∃L,kes w b L∧∀s,s∈L ↔ ∃j,p.getD j false=true∧ids.getD j []=s
def kd4 (ids:List Bs) (e:Rv.Ev) (i:Nat) (row:Rv.Row) (b pb:Nat) (w0 w:World):Prop:=(∃na nc ta tc sa sc ha hc ra rc,kcw (evW e na nc ta tc sa sc ha hc ra rc) e w0∧w.heap[b]? = some (.cells (ndC (ids.getD i []) (i:Int) (row.1:Int) e (.slice na e.names.length nc) (.slice ta e.targets.length tc) (.slice sa e.sg.S.length sc) (.slice ha e.sg.H.length hc) (.slice ra e.sg.R.length rc) pb) 94 (0,0)))∧kg0 ids row.2 pb w
theorem kg0.of_block {ids:List Bs} {p:Rv.Past} {b:Nat} {w w':World} (h:kg0 ids p b w) (hb:w'.heap[b]? = w.heap[b]?):kg0 ids p b w':=by
 obtain ⟨L,h1,h2⟩:=h;exact ⟨L,kbi.of_block h1 hb,h2⟩
theorem kg0.lt {ids:List Bs} {p:Rv.Past} {b:Nat} {w:World} (h:kg0 ids p b w):b<w.heap.size:=by
 obtain ⟨L,h1,_⟩:=h;exact kbi.lt h1
structure Arr (l:List Rv.Ev) (ids:List Bs) (bd:Nat) (S:Rv.Stt) (pt pb:Nat→Nat) (D:List Nat) (w0 w:World):Prop where
 below:Below w0.heap.size w0 w
 done:kbi Tryz.prog 9 kS w bd (D.map fun i=>(ids.getD i [],ptr (pt i)))
 nodup:D.Nodup
 memD:∀i,i∈D ↔ i<l.length∧(S.getD i none).isSome=true
 node:∀i row,S.getD i none=some row→kd4 ids (l.getD i Rv.ev0) i row (pt i) (pb i) w0 w
 base:w0.heap.size≤bd
 after:∀i,i∈D→bd<pt i∧bd<pb i
 len:S.length=l.length
 fits:Rv.Fits S
 rank:∀i r,S.getD i none=some r→r.1+1≤D.length
theorem kd4.of_blocks {ids:List Bs} {e:Rv.Ev} {i:Nat} {row:Rv.Row} {b pb:Nat} {w0 w w':World} (h:kd4 ids e i row b pb w0 w) (h1:w'.heap[b]? = w.heap[b]?) (h2:w'.heap[pb]? = w.heap[pb]?):kd4 ids e i row b pb w0 w':=by
 obtain ⟨⟨na,nc,ta,tc,sa,sc,ha,hc,ra,rc,he,hb⟩,hp⟩:=h;exact ⟨⟨na,nc,ta,tc,sa,sc,ha,hc,ra,rc,he,h1.trans hb⟩,hp.of_block h2⟩
theorem kd4.lt {ids:List Bs} {e:Rv.Ev} {i:Nat} {row:Rv.Row} {b pb:Nat} {w0 w:World} (h:kd4 ids e i row b pb w0 w):b<w.heap.size∧pb<w.heap.size:=by
 obtain ⟨⟨na,nc,ta,tc,sa,sc,ha,hc,ra,rc,he,hb⟩,hp⟩:=h;exact ⟨kad hb,hp.lt⟩
theorem kd4.cells {ids:List Bs} {e:Rv.Ev} {i:Nat} {row:Rv.Row} {b pb:Nat} {w0 w:World} (h:kd4 ids e i row b pb w0 w) :
 w.cell? ⟨b,0,none⟩=some (.string (B (ids.getD i [])))∧w.cell? ⟨b,1,none⟩=some (.int .i64 (i:Int))∧w.cell? ⟨b,2,none⟩=some (.int .i64 (row.1:Int))∧w.cell? ⟨b,21,none⟩=some (.map (some pb)):=by
 obtain ⟨⟨na,nc,ta,tc,sa,sc,ha,hc,ra,rc,he,hb⟩,hp⟩:=h;refine ⟨?_,?_,?_,?_⟩ <;> (rw [kaa hb];rfl)
section
variable {l:List Rv.Ev} {ids:List Bs} {bd:Nat} {S:Rv.Stt} {pt pb:Nat→Nat} {D:List Nat} {w0 w w':World}
theorem Arr.inD (h:Arr l ids bd S pt pb D w0 w) {i:Nat} {row:Rv.Row} (hr:S.getD i none=some row):i∈D:=by
 refine (h.memD i).2 ⟨?_,by rw [hr];rfl⟩;rw [←h.len];rcases Nat.lt_or_ge i S.length with c|c
 ·exact c
 ·rw [List.getD_eq_getElem?_getD,List.getElem?_eq_none c] at hr;cases hr
theorem Arr.kept {T:Nat→Prop} (h:Arr l ids bd S pt pb D w0 w) (hk:ka7 T w w') (hb:∀k,k<w0.heap.size→¬ T k) (h1:¬ T bd) (h2:∀i,i∈D→¬ T (pt i)∧¬ T (pb i)):Arr l ids bd S pt pb D w0 w' where
 below:=h.below.trans (hk.below h.below.size hb)
 done:=h.done.kept hk h1
 nodup:=h.nodup
 memD:=h.memD
 node i row hr:=by
  have hn:=h.node i row hr;have hd:=h2 i (h.inD hr);exact hn.of_blocks (hk.block _ hn.lt.1 hd.1) (hk.block _ hn.lt.2 hd.2)
 base:=h.base
 after:=h.after
 len:=h.len
 fits:=h.fits
 rank:=h.rank
theorem Arr.grow (h:Arr l ids bd S pt pb D w0 w) (hb:Below w.heap.size w w'):Arr l ids bd S pt pb D w0 w' :=
 h.kept (T:=fun _=>False) (ka7.of_below hb) (fun _ _ e=>e) (fun e=>e) (fun _ _=>⟨fun e=>e,fun e=>e⟩)
theorem Arr.count (h:Arr l ids bd S pt pb D w0 w):D.length=Rv.cntS S:=by
 have e:(List.range S.length).filter (fun i=>(S.getD i none).isSome)=((List.range S.length).filter fun i=>decide (i∈D)):=by
  refine List.filter_congr fun i hi=>?_
  have h1:=h.memD i;rw [←h.len] at h1;rw [Bool.eq_iff_iff,decide_eq_true_eq,h1];exact ⟨fun c=>⟨List.mem_range.1 hi,c⟩,fun c=>c.2⟩
 have c1:Rv.cntS S=((List.range S.length).filter (fun i=>(S.getD i none).isSome)).length:=by
  unfold Rv.cntS
  have:S=(List.range S.length).map (fun i=>S.getD i none):=by
   apply List.ext_getElem
   ·simp
   ·intro i h1 h2
    simp [List.getD_eq_getElem?_getD,List.getElem?_eq_getElem h1]
  conv=>lhs;rw [this]
  rw [List.filter_map,List.length_map];rfl
 rw [c1,e];refine List.Perm.length_eq ((List.perm_ext_iff_of_nodup h.nodup (List.nodup_range.filter _)).2 fun i=>?_);rw [List.mem_filter,List.mem_range,decide_eq_true_eq];exact ⟨fun c=>⟨by rw [h.len];exact ((h.memD i).1 c).1,c⟩,fun c=>c.2⟩
theorem khv {α β:Type} {f:α→β}:∀{l:List α},(∀x∈l,∀y∈l,f x=f y→x=y)→l.Nodup→(l.map f).Nodup
 | [],_,_=>by simp
 |a :: r,hi,hn=>by
  simp only [List.map_cons,List.nodup_cons] at hn ⊢;refine ⟨fun hm=>?_,khv (fun x hx y hy=>hi x (by simp [hx]) y (by simp [hy])) hn.2⟩;obtain ⟨x,hx,e⟩:=List.mem_map.1 hm
  have:=hi x (by simp [hx]) a (by simp) e
  subst this;exact hn.1 hx
theorem Arr.get_some (h:Arr l ids bd S pt pb D w0 w) (hinj:∀i j,i<l.length→j<l.length→ids.getD i []=ids.getD j []→i=j) {i:Nat} (hi:i∈D):kb2 (D.map fun i=>(ids.getD i [],ptr (pt i))) (ids.getD i [])=some (ptr (pt i)):=by
 refine kf4 ?_ (List.mem_map.2 ⟨i,hi,rfl⟩);show ((D.map _).map _).Nodup;rw [List.map_map];exact khv (fun x hx y hy e=>hinj x y ((h.memD x).1 hx).1 ((h.memD y).1 hy).1 e) h.nodup
theorem Arr.get_none (h:Arr l ids bd S pt pb D w0 w) (hinj:∀i j,i<l.length→j<l.length→ids.getD i []=ids.getD j []→i=j) {i:Nat} (hl:i<l.length) (hi:i ∉ D):kb2 (D.map fun i=>(ids.getD i [],ptr (pt i))) (ids.getD i [])=none:=by
 rw [kea];intro hm;simp only [kbc,List.map_map,List.mem_map,Function.comp] at hm;obtain ⟨j,hj,he⟩:=hm
 have:=hinj j i ((h.memD j).1 hj).1 hl he
 subst this;exact hi hj
def upN (f:Nat→Nat) (i v:Nat):Nat→Nat:=fun k=>if k=i then v else f k
theorem kgo (f:Nat→Nat) (i v:Nat):upN f i v i=v:=by simp [upN]
theorem kmo (f:Nat→Nat) {i v k:Nat} (h:k≠i):upN f i v k=f k:=by simp [upN,h]
theorem Arr.add (h:Arr l ids bd S pt pb D w0 w) (hinj:∀i j,i<l.length→j<l.length→ids.getD i []=ids.getD j []→i=j) {i q m:Nat} {row:Rv.Row} (hi:i<l.length) (hs:S.getD i none=none) (hrow:row.2.length=l.length) (hrk:row.1≤D.length)
 (hd:kbi Tryz.prog 9 kS w' bd (ki0 (D.map fun i=>(ids.getD i [],ptr (pt i))) (ids.getD i []) (ptr q))) (hk:ka7 (Licit.One bd) w w') (hn:kd4 ids (l.getD i Rv.ev0) i row q m w0 w') (hq:bd<q) (hm:bd<m) :
 Arr l ids bd (S.set i (some row)) (upN pt i q) (upN pb i m) (D++[i]) w0 w':=by
 have hiD:i ∉ D:=fun c=>by have:=((h.memD i).1 c).2;rw [hs] at this;cases this
 have hne:∀k,k∈D→k≠i:=fun k hk e=>hiD (e ▸ hk)
 have hget:∀k,(S.set i (some row)).getD k none=if k=i then some row else S.getD k none:=by
  intro k;rw [List.getD_eq_getElem?_getD,List.getElem?_set,List.getD_eq_getElem?_getD]
  by_cases c:i=k
  ·subst c
   simp [show i<S.length by rw [h.len];exact hi]
  ·simp [c,Ne.symm c]
 refine ⟨h.below.trans (hk.below h.below.size (fun k hk2 e=>by have:k=bd:=e;have:=h.base;omega)),?_,?_,?_,?_,h.base,?_,by rw [List.length_set];exact h.len,?_,?_⟩
 ·rw [kim (fun c=>by
   have:=kea.1 (h.get_none hinj hi hiD)
   exact this c)] at hd
  rw [List.map_append,List.map_cons,List.map_nil,kgo];have e:D.map (fun k=>(ids.getD k [],ptr (upN pt i q k)))=D.map (fun k=>(ids.getD k [],ptr (pt k))):=List.map_congr_left fun k hk=>by rw [kmo _ (hne k hk)]
  rw [e];exact hd
 ·exact List.nodup_append.2 ⟨h.nodup,by simp,fun a ha b hb e=>by simp at hb;subst hb;exact hne a ha e⟩
 ·intro k
  rw [hget,List.mem_append,List.mem_singleton]
  by_cases c:k=i
  ·subst c;simp [hi]
  ·simp only [c,or_false,if_false];exact h.memD k
 ·intro k r hr
  rw [hget] at hr
  by_cases c:k=i
  ·subst c
   rw [if_pos rfl] at hr
   cases hr;rw [kgo,kgo];exact hn
  ·rw [if_neg c] at hr
   rw [kmo _ c,kmo _ c];have hn2:=h.node k r hr;have ha:=h.after k (h.inD hr);exact hn2.of_blocks (hk.block _ hn2.lt.1 (fun e=>by have:pt k=bd:=e;omega)) (hk.block _ hn2.lt.2 (fun e=>by have:pb k=bd:=e;omega))
 ·intro k hk2
  rcases List.mem_append.1 hk2 with hk2|hk2
  ·rw [kmo _ (hne k hk2),kmo _ (hne k hk2)];exact h.after k hk2
  ·simp at hk2;subst hk2;rw [kgo,kgo];exact ⟨hq,hm⟩
 ·intro k r hr
  rw [hget] at hr;rw [List.length_set,h.len]
  by_cases c:k=i
  ·rw [if_pos c] at hr;cases hr;exact hrow
  ·rw [if_neg c] at hr;rw [←h.len];exact h.fits k r hr
 ·intro k r hr
  rw [hget] at hr;rw [List.length_append,List.length_singleton]
  by_cases c:k=i
  ·rw [if_pos c] at hr;cases hr;omega
  ·rw [if_neg c] at hr;have:=h.rank k r hr;omega
end
end Go.Proofs.YtknpbekoenbphaaGreatDoor
namespace Licit.Rv
open Go Licit
section
variable {α:Type}
def kqy (b:α→α→Bool) (x:α):List α→List α
 | []=>[x]
 |y :: r=>if b x y=true then x :: y :: r else y :: kqy b x r
def klw (b:α→α→Bool) (l:List α):List α:=l.foldl (fun o x=>kqy b x o) []
def kcf (b:α→α→Bool) (l:List α):Prop:=l.Pairwise fun x y=>b y x=false
theorem swo_asymm {b:α→α→Bool} (h:Sort.SWO b) {x y:α} (h1:b x y=true):b y x=false:=by
 cases h2:b y x with
 |false=>rfl
 |true=>have:=h.trans _ _ _ h1 h2;rw [h.irrefl] at this;cases this
theorem ki3 (b:α→α→Bool) (x:α):∀l:List α,(kqy b x l).Perm (x :: l)
 | []=>List.Perm.refl _
 |y :: r=>by
  unfold kqy;split
  ·exact List.Perm.refl _
  ·exact ((ki3 b x r).cons y).trans (List.Perm.swap x y r)
theorem kip {b:α→α→Bool} (h:Sort.SWO b) (x:α):∀l:List α,kcf b l→kcf b (kqy b x l)
 | [],_=>List.pairwise_singleton _ _
 |y :: r,hl=>by
  have h1:=List.pairwise_cons.1 hl;unfold kqy
  by_cases c:b x y=true
  ·rw [if_pos c]
   refine List.pairwise_cons.2 ⟨fun z hz=>?_,hl⟩;have hyx:=swo_asymm h c;rcases List.mem_cons.1 hz with rfl|hz
   ·exact hyx
   ·exact h.ntrans _ _ _ (h1.1 z hz) hyx
  ·rw [if_neg c]
   refine List.pairwise_cons.2 ⟨fun z hz=>?_,kip h x r h1.2⟩;rcases List.mem_cons.1 ((ki3 b x r).mem_iff.1 hz) with rfl|hz
   ·simpa using c
   ·exact h1.1 z hz
theorem kv4 {b:α→α→Bool} (l o:List α):(l.foldl (fun o x=>kqy b x o) o).Perm (l++o):=by
 induction l generalizing o with
 |nil=>exact List.Perm.refl _
 |cons x r ih =>
  simp only [List.foldl_cons];refine (ih _).trans (((ki3 b x o).append_left r).trans ?_);exact List.perm_middle
theorem sortG_perm (b:α→α→Bool) (l:List α):(klw b l).Perm l:=by
 have:=kv4 (b:=b) l []
 rwa [List.append_nil] at this
theorem kiu {b:α→α→Bool} (h:Sort.SWO b) (l o:List α) (ho:kcf b o):kcf b (l.foldl (fun o x=>kqy b x o) o):=by
 induction l generalizing o with
 |nil=>exact ho
 |cons x r ih=>exact ih _ (kip h x o ho)
theorem kex {b:α→α→Bool} (h:Sort.SWO b) (l:List α):kcf b (klw b l):=kiu h l [] List.Pairwise.nil
theorem kek {b:α→α→Bool} {l l':List α} (hp:l.Perm l') (ht:∀x∈l,∀y∈l,b x y=false→b y x=false→x=y) (h1:kcf b l) (h2:kcf b l'):l=l' :=
 List.Perm.eq_of_pairwise (le:=fun x y=>b y x=false) (fun x y hx hy a c=>ht x hx y (hp.mem_iff.2 hy) c a) h1 h2 hp
end
theorem knj:∀x y:Bs,ltB x y=decide (x<y)
 | [],[]=>by simp [ltB,Op.bytesLess]
 |_ :: _,[]=>by simp [ltB,Op.bytesLess]
 | [],_ :: _=>by simp [ltB,Op.bytesLess]
 |a :: x,b :: y=>by
  have ih:Op.bytesLess x y=decide (x<y):=knj x y;show (decide (a<b) || (a == b && Op.bytesLess x y))=_;rw [ih,Bool.eq_iff_iff];simp [List.cons_lt_cons_iff]
theorem ltB_false {x y:Bs}:ltB x y=false ↔ y≤x:=by rw [knj,decide_eq_false_iff_not,List.not_lt]
theorem kwa {x y:Bs}:ltB x y=true ↔ x<y:=by rw [knj,decide_eq_true_eq]
theorem ltB_tot {x y:Bs} (h1:ltB x y=false) (h2:ltB y x=false):x=y:=List.le_antisymm (ltB_false.1 h2) (ltB_false.1 h1)
theorem ltB_irr (x:Bs):ltB x x=false:=by rw [ltB_false];exact List.le_refl _
theorem ke0 {x y z:Bs} (h1:ltB x y=true) (h2:ltB y z=true):ltB x z=true:=by rw [kwa] at *;exact List.lt_trans h1 h2
theorem kkx:Sort.SWO ltB where
 irrefl:=ltB_irr
 trans _ _ _:=ke0
 ntrans x y z h1 h2:=by rw [ltB_false] at *;exact List.le_trans h2 h1
theorem ltB_asymm {x y:Bs} (h:ltB x y=true):ltB y x=false:=swo_asymm kkx h
def befN (r s:Nat) (x y:Bs):Bool:=if r=s then ltB x y else decide (r<s)
theorem befN_swo {α:Type} (f:α→Nat) (g:α→Bs):Sort.SWO fun x y=>befN (f x) (f y) (g x) (g y) where
 irrefl x:=by simp [befN,ltB_irr]
 trans x y z h1 h2:=by
  unfold befN at *
  by_cases a:f x=f y
  ·rw [if_pos a] at h1
   rw [a]
   by_cases b:f y=f z
   ·rw [if_pos b] at h2 ⊢;exact ke0 h1 h2
   ·rw [if_neg b] at h2 ⊢;exact h2
  ·rw [if_neg a] at h1
   by_cases b:f y=f z
   ·rw [←b,if_neg a];exact h1
   ·rw [if_neg b] at h2
    simp only [decide_eq_true_eq] at h1 h2;rw [if_neg (by omega)];simp only [decide_eq_true_eq];omega
 ntrans x y z h1 h2:=by
  unfold befN at *
  by_cases a:f x=f y
  ·rw [if_pos a] at h1
   rw [a]
   by_cases b:f y=f z
   ·rw [if_pos b] at h2 ⊢;exact kkx.ntrans _ _ _ h1 h2
   ·rw [if_neg b] at h2 ⊢;exact h2
  ·rw [if_neg a] at h1
   by_cases b:f y=f z
   ·rw [←b,if_neg a];exact h1
   ·rw [if_neg b] at h2
    simp only [decide_eq_false_iff_not] at h1 h2;rw [if_neg (by omega)];simp only [decide_eq_false_iff_not];omega
theorem kkt (S:Stt) (ids:List Bs) (i k:Nat):befI S ids i k=befN (rankI S i) (rankI S k) (ids.getD i []) (ids.getD k []):=rfl
theorem kku (S:Stt) (ids:List Bs):Sort.SWO (befI S ids):=befN_swo (rankI S) (fun i=>ids.getD i [])
theorem befN_tot {r s:Nat} {x y:Bs} (h1:befN r s x y=false) (h2:befN s r y x=false):r=s∧x=y:=by
 unfold befN at *
 by_cases a:r=s
 ·subst a
  simp only [if_true] at h1 h2;exact ⟨rfl,ltB_tot h1 h2⟩
 ·rw [if_neg a] at h1
  rw [if_neg (Ne.symm a)] at h2;simp only [decide_eq_false_iff_not] at h1 h2;omega
theorem knh (b:Nat→Nat→Bool) (x:Nat):∀l,kt1 b x l=kqy b x l
 | []=>rfl
 |y :: r=>by unfold kt1 kqy;rw [knh b x r]
theorem krj (S:Stt) (ids:List Bs):ordI S ids=klw (befI S ids) (List.range S.length):=by
 unfold ordI klw
 congr 1
 funext o x
 exact knh _ _ _
theorem ordI_perm (S:Stt) (ids:List Bs):(ordI S ids).Perm (List.range S.length):=by rw [krj];exact sortG_perm _ _
theorem kc1 (S:Stt) (ids:List Bs):kcf (befI S ids) (ordI S ids):=by rw [krj];exact kex (kku S ids) _
theorem ordI_only {S:Stt} {ids l:List _} (hinj:∀i j,i<S.length→j<S.length→ids.getD i []=ids.getD j []→i=j) (hp:l.Perm (List.range S.length)) (hs:kcf (befI S ids) l):l=ordI S ids:=by
 refine kek (b:=befI S ids) (hp.trans (ordI_perm S ids).symm) (fun x hx y hy h1 h2=>?_) hs (kc1 S ids);have hx':=List.mem_range.1 (hp.mem_iff.1 hx);have hy':=List.mem_range.1 (hp.mem_iff.1 hy);exact hinj x y hx' hy' (befN_tot h1 h2).2
theorem ltP_swo:Sort.SWO ltP where
 irrefl x:=by simp [ltP,ltB_irr]
 trans x y z h1 h2:=by
  unfold ltP at *
  by_cases a:x.1=y.1
  ·rw [if_pos a] at h1
   rw [a]
   by_cases b:y.1=z.1
   ·rw [if_pos b] at h2 ⊢;exact ke0 h1 h2
   ·rw [if_neg b] at h2 ⊢;exact h2
  ·rw [if_neg a] at h1
   by_cases b:y.1=z.1
   ·rw [←b,if_neg a];exact h1
   ·rw [if_neg b] at h2
    have:=ke0 h1 h2
    rw [if_neg (fun e=>by rw [e,ltB_irr] at this;cases this)];exact this
 ntrans x y z h1 h2:=by
  unfold ltP at *
  by_cases a:x.1=y.1
  ·rw [if_pos a] at h1
   rw [a]
   by_cases b:y.1=z.1
   ·rw [if_pos b] at h2 ⊢;exact kkx.ntrans _ _ _ h1 h2
   ·rw [if_neg b] at h2 ⊢;exact h2
  ·rw [if_neg a] at h1
   by_cases b:y.1=z.1
   ·rw [←b,if_neg a];exact h1
   ·rw [if_neg b] at h2
    have:=kkx.ntrans _ _ _ h1 h2
    rw [if_neg (fun e=>by rw [←e] at h2;exact a (ltB_tot h1 h2))];exact this
theorem ltP_tot {x y:Bs × Bs} (h1:ltP x y=false) (h2:ltP y x=false):x=y:=by
 unfold ltP at *
 by_cases a:x.1=y.1
 ·rw [if_pos a] at h1
  rw [if_pos a.symm] at h2;exact Prod.ext a (ltB_tot h1 h2)
 ·rw [if_neg a] at h1
  rw [if_neg (Ne.symm a)] at h2;exact absurd (ltB_tot h1 h2) a
theorem krz (x:Bs × Bs):∀l,kz6 x l=kqy ltP x l
 | []=>rfl
 |y :: r=>by unfold kz6 kqy;rw [krz x r]
theorem sortP_eq (l:List (Bs × Bs)):sortP l=klw ltP l:=by
 unfold sortP klw
 congr 1
 funext o x
 exact krz _ _
theorem sortP_only {l l':List (Bs × Bs)} (hp:l'.Perm l) (hs:kcf ltP l'):l'=sortP l:=by
 rw [sortP_eq];exact kek (hp.trans (sortG_perm ltP l).symm) (fun _ _ _ _=>ltP_tot) hs (kex ltP_swo l)
theorem kfj (x:Bs):∀(l:List Bs) (z:Bs),z∈insB x l ↔ z=x∨z∈l
 | [],z=>by simp [insB]
 |y :: r,z=>by
  unfold insB;split
  ·rename_i e;subst e;simp
  ·split
   ·simp
   ·simp only [List.mem_cons,kfj x r z]
    constructor
    ·rintro (h|h|h)
     ·exact .inr (.inl h)
     ·exact .inl h
     ·exact .inr (.inr h)
    ·rintro (h|h|h)
     ·exact .inr (.inl h)
     ·exact .inl h
     ·exact .inr (.inr h)
def StrictB (l:List Bs):Prop:=l.Pairwise fun x y=>ltB x y=true
theorem kgf (x:Bs):∀l:List Bs,StrictB l→StrictB (insB x l)
 | [],_=>List.pairwise_singleton _ _
 |y :: r,hl=>by
  have h1:=List.pairwise_cons.1 hl;unfold insB
  by_cases e:x=y
  ·rw [if_pos e];exact hl
  ·rw [if_neg e]
   by_cases c:ltB x y=true
   ·rw [if_pos c]
    refine List.pairwise_cons.2 ⟨fun z hz=>?_,hl⟩;rcases List.mem_cons.1 hz with rfl|hz
    ·exact c
    ·exact ke0 c (h1.1 z hz)
   ·rw [if_neg c]
    refine List.pairwise_cons.2 ⟨fun z hz=>?_,kgf x r h1.2⟩;rcases (kfj x r z).1 hz with rfl|hz
    ·cases h2:ltB y z with
     |true=>rfl
     |false=>exact absurd (ltB_tot (by simpa using c) h2) e
    ·exact h1.1 z hz
theorem kos (l o:List Bs) (ho:StrictB o):StrictB (l.foldl (fun o x=>insB x o) o)∧∀z,z∈l.foldl (fun o x=>insB x o) o ↔ z∈l∨z∈o:=by
 induction l generalizing o with
 |nil=>exact ⟨ho,fun z=>by simp⟩
 |cons x r ih =>
  obtain ⟨h1,h2⟩:=ih (insB x o) (kgf x o ho);refine ⟨h1,fun z=>?_⟩;simp only [List.foldl_cons];rw [h2,kfj,List.mem_cons];constructor
  ·rintro (h|h|h)
   ·exact .inl (.inr h)
   ·exact .inl (.inl h)
   ·exact .inr h
  ·rintro ((h|h)|h)
   ·exact .inr (.inl h)
   ·exact .inl h
   ·exact .inr (.inr h)
theorem sortB_strict (l:List Bs):StrictB (sortB l):=(kos l [] List.Pairwise.nil).1
theorem sortB_mem (l:List Bs) (z:Bs):z∈sortB l ↔ z∈l:=by
 have:=(kos l [] List.Pairwise.nil).2 z
 simp only [List.not_mem_nil,or_false] at this;exact this
theorem strict_nodup {l:List Bs} (h:StrictB l):l.Nodup:=List.Pairwise.imp (fun {a b} c e=>by subst e;rw [ltB_irr] at c;cases c) h
theorem sortB_only {l l':List Bs} (hn:l'.Nodup) (hm:∀z,z∈l' ↔ z∈l) (hs:kcf ltB l'):l'=sortB l:=by
 have hp:l'.Perm (sortB l):=(List.perm_ext_iff_of_nodup hn (strict_nodup (sortB_strict l))).2 fun z=>by rw [hm,sortB_mem]
 refine kek hp (fun _ _ _ _=>ltB_tot) hs ?_;exact List.Pairwise.imp (fun {a b} c=>ltB_asymm c) (sortB_strict l)
def Lower (S:Stt):Prop:=Fits S∧∀i row,S.getD i none=some row→∀j,row.2.getD j false=true→∃r,S.getD j none=some r∧r.1<row.1
theorem khu {S:Stt} (hS:Lower S):∀(x:Row) (js:List Nat),x.2.length=S.length→(∀j,x.2.getD j false=true→∃r,S.getD j none=some r∧r.1<x.1)→∀y,readyL S x js=some y →
 ∀j,y.2.getD j false=true→∃r,S.getD j none=some r∧r.1<y.1
 |x,[],_,hx,y,h=>by simp [readyL] at h;rw [←h];exact hx
 |x,a :: r,hl,hx,y,h=>by
  unfold readyL at h
  cases hq:S.getD a none with
  |none=>rw [hq] at h;cases h
  |some z =>
   rw [hq] at h;have hz:=hS.1 a z hq
   have ha:a<S.length:=by
    rcases Nat.lt_or_ge a S.length with c|c
    ·exact c
    ·rw [List.getD_eq_getElem?_getD,List.getElem?_eq_none c] at hq;cases hq
   refine khu hS _ r (by rw [orL_len _ _ (by simp [hl,hz])];simp [hl]) (fun j hj=>?_) y h;dsimp only at hj ⊢;rw [orL_at _ _ (by simp [hl,hz]),set_at _ _ _ (by omega),Bool.or_eq_true,Bool.or_eq_true,decide_eq_true_eq] at hj;rcases hj with (rfl|hj)|hj
   ·exact ⟨z,hq,by omega⟩
   ·obtain ⟨q,h1,h2⟩:=hx j hj
    exact ⟨q,h1,by omega⟩
   ·obtain ⟨q,h1,h2⟩:=hS.2 a z hq j hj
    exact ⟨q,h1,by omega⟩
theorem knu (J:List (List Nat)) {S:Stt} (hS:Lower S) (i:Nat):Lower (stepS J S i):=by
 refine ⟨kqu J hS.1 i,?_⟩;unfold stepS
 cases hq:S.getD i none with
 |some _=>exact hS.2
 |none =>
  simp only []
  cases hr:readyL S (0,List.replicate S.length false) (J.getD i []) with
  |none=>exact hS.2
  |some x =>
   intro k row hk j hj
   have hx:=khu hS _ _ (by simp) (fun j hj=>by
    exfalso
    rw [List.getD_eq_getElem?_getD,List.getElem?_replicate] at hj;split at hj <;> simp at hj) x hr
   have hget:∀m r,S.getD m none=some r→(S.set i (some x)).getD m none=some r:=fun m r hm=>by
    have hne:i≠m:=fun e=>by rw [←e,hq] at hm;cases hm
    rw [List.getD_eq_getElem?_getD,List.getElem?_set,if_neg hne,←List.getD_eq_getElem?_getD];exact hm
   rw [List.getD_eq_getElem?_getD,List.getElem?_set] at hk
   by_cases h:i=k
   ·rw [if_pos h] at hk
    by_cases hl:i<S.length
    ·rw [if_pos hl] at hk
     cases hk;obtain ⟨r,h1,h2⟩:=hx j hj;exact ⟨r,hget _ _ h1,h2⟩
    ·rw [if_neg hl] at hk;cases hk
   ·rw [if_neg h,←List.getD_eq_getElem?_getD] at hk
    obtain ⟨r,h1,h2⟩:=hS.2 k row hk j hj;exact ⟨r,hget _ _ h1,h2⟩
theorem kjh (J:List (List Nat)) {S:Stt} (hS:Lower S):∀k,Lower (passS J S k)
 |0=>hS
 |k+1=>by rw [passS_succ];exact knu J (kjh J hS k) k
theorem kgn (J:List (List Nat)):∀(f:Nat) (S T:Stt),Lower S→roundsS J f S=some T→Lower T∧T.length=S.length∧T.length≤cntS T
 |0,S,T,_,h=>by cases h
 |f+1,S,T,hS,h=>by
  unfold roundsS at h
  by_cases c:S.length≤cntS S
  ·rw [if_pos c] at h;cases h;exact ⟨hS,rfl,c⟩
  ·rw [if_neg c] at h
   by_cases d:cntS (passS J S S.length)=cntS S
   ·rw [if_pos d] at h;cases h
   ·rw [if_neg d] at h
    obtain ⟨h1,h2,h3⟩:=kgn J f _ T (kjh J hS _) h;exact ⟨h1,h2.trans (ke1 _ _ _),h3⟩
theorem arrS_lower {l:List Ev} {ids:List Bs} {S:Stt} (h:arrS l ids=some S):Lower S∧S.length=l.length∧∀i,i<S.length→∃row,S.getD i none=some row:=by
 have hn:∀i:Nat,(List.replicate l.length (none:Option Row)).getD i none=none:=fun i=>by
  rw [List.getD_eq_getElem?_getD,List.getElem?_replicate];split <;> rfl
 obtain ⟨h1,h2,h3⟩:=kgn _ _ _ _ ⟨fun i r hr=>(by rw [hn] at hr;cases hr),fun i r hr=>(by rw [hn] at hr;cases hr)⟩ h;refine ⟨h1,by simpa using h2,fun i hi=>?_⟩
 have hall:S.filter (·.isSome)=S:=by
  have hle:(S.filter (·.isSome)).length=S.length:=Nat.le_antisymm (List.length_filter_le _ _) h3;exact List.filter_eq_self.2 (List.length_filter_eq_length_iff.1 hle)
 have hm:=List.filter_eq_self.1 hall S[i] (List.getElem_mem hi);obtain ⟨row,hr⟩:=Option.isSome_iff_exists.1 hm;exact ⟨row,by rw [List.getD_eq_getElem?_getD,List.getElem?_eq_getElem hi,hr];rfl⟩
theorem kdh {S:Stt} (hS:Lower S) {i k:Nat} (h:pastI S i k=true):rankI S k<rankI S i:=by
 unfold pastI at h
 cases hi:S.getD i none with
 |none=>rw [hi] at h;simp at h
 |some row =>
  rw [hi] at h;obtain ⟨r,h1,h2⟩:=hS.2 i row hi k h;unfold rankI;rw [hi,h1];exact h2
theorem past_self {S:Stt} (hS:Lower S) (i:Nat):pastI S i i=false:=by
 cases h:pastI S i i with
 |false=>rfl
 |true=>have:=kdh hS h;omega
theorem past_early {S:Stt} {ids:List Bs} (hS:Lower S) {A r:List Nat} {i:Nat} (h:ordI S ids=A++i :: r):∀k∈A,pastI S k i=false:=by
 intro k hk
 cases hp:pastI S k i with
 |false=>rfl
 |true =>
  have h1:=kdh hS hp;have hs:=kc1 S ids;rw [h] at hs;have h2:=(List.pairwise_append.1 hs).2.2 k hk i (by simp);rw [kkt] at h2;unfold befN at h2;rw [if_neg (by omega),decide_eq_false_iff_not] at h2;omega
theorem getL_find {κ:Type} [DecidableEq κ] (A:List Nat) (f:Nat→κ) (g:Nat→Value) (s:κ):kb2 (A.map fun i=>(f i,g i)) s=(A.find? fun i=>decide (f i=s)).map g:=by
 induction A with
 |nil=>rfl
 |cons a r ih =>
  simp only [List.map_cons,kb2,List.find?_cons]
  by_cases c:f a=s
  ·simp [c]
  ·simp [c,ih]
theorem setL_find {κ:Type} [DecidableEq κ] (A:List Nat) (f:Nat→κ) (g:Nat→Value) (i:Nat) (h:A.find? (fun k=>decide (f k=f i))=none):ki0 (A.map fun i=>(f i,g i)) (f i) (g i)=(A++[i]).map fun i=>(f i,g i):=by
 rw [List.map_append];refine kim fun hm=>?_
 rw [kbc,List.map_map,List.mem_map] at hm;obtain ⟨k,hk,e⟩:=hm
 have:=List.find?_eq_none.1 h k hk
 simp at this;exact this e
theorem turn_find (c:Cx) (A:List Nat) (a:Bs) (n:Int):A.find? (fun k=>decide (((c.ev k).author,(c.ev k).number)=(a,n)))=c.turn A a n:=by
 unfold Cx.turn
 congr 1
 funext k
 rw [Bool.eq_iff_iff];simp
theorem wd_snoc (c:Cx) (A:List Nat) (i:Nat) (s:Bs):c.wd (A++[i]) s=(c.wd A s || (decide ((c.ev i).kind=4) && decide ((c.ev i).targets.getD 0 []=s))):=by
 unfold Cx.wd;rw [List.any_append];simp
theorem ov_snoc (c:Cx) (A:List Nat) (i:Nat) (s:Bs):c.ov (A++[i]) s=(c.ov A s || (decide ((c.ev i).kind=5) && decide ((c.ev i).targets.getD 1 []=s))):=by
 unfold Cx.ov;rw [List.any_append];simp
def Cx.rpl (c:Cx) (i d:Nat):Bool:=decide ((c.ev i).kind=3) && (decide ((c.ev d).kind=3) && c.past i d && asked (c.ev d) (c.ev i))
theorem rp_snoc (c:Cx) (A:List Nat) (i:Nat) (s:Bs) (h:∀k∈A,c.past k i=false) (hi:c.past i i=false):c.rp (A++[i]) s=(c.rp A s || A.any fun d=>c.rpl i d && decide (c.id d=s)):=by
 rw [Bool.eq_iff_iff,Bool.or_eq_true];unfold Cx.rp Cx.rpl;simp only [List.any_eq_true,List.mem_append,List.mem_singleton,Bool.and_eq_true,decide_eq_true_eq];constructor
 ·rintro ⟨k,hk,h3,d,hd,⟨⟨h4,h5⟩,h6⟩,h7⟩
  rcases hd with hd|rfl
  ·rcases hk with hk|rfl
   ·exact .inl ⟨k,hk,h3,d,hd,⟨⟨h4,h5⟩,h6⟩,h7⟩
   ·exact .inr ⟨d,hd,⟨h3,⟨h5,h6⟩,h7⟩,h4⟩
  ·rcases hk with hk|rfl
   ·rw [h k hk] at h6;cases h6
   ·rw [hi] at h6;cases h6
 ·rintro (⟨k,hk,h3,d,hd,⟨⟨h4,h5⟩,h6⟩,h7⟩|⟨d,hd,⟨h3,⟨h5,h6⟩,h7⟩,h4⟩)
  ·exact ⟨k,.inl hk,h3,d,.inl hd,⟨⟨h4,h5⟩,h6⟩,h7⟩
  ·exact ⟨i,.inr rfl,h3,d,.inl hd,⟨⟨h4,h5⟩,h6⟩,h7⟩
end Licit.Rv
