/- Parts of the proofs: WkRvH, WkRvI, FrmSort2, WkRvJ. No condition beyond those at each theorem. -/
import Derived.Deep.CutRange
import Derived.Test.YtknpbekoenbphaaGreatDoorQk19
set_option linter.unusedVariables false
set_option linter.unusedSimpArgs false
set_option maxHeartbeats 16000000
set_option maxRecDepth 100000
namespace Go.Proofs.YtknpbekoenbphaaGreatDoor
open Go Go.RowKit Licit
abbrev dvC (d:Rv.Dc):Array Value:=#[.string (B d.id),.string (B d.author),.string (B d.question),.string (B d.scope),.string (B d.answer),.string (B d.digest),.int .i64 d.till,.bool d.wd,.bool d.ov,.bool d.rp]
def dsL (l:List Rv.Dc):List Value:=(l.map fun d=>(dvC d).toList).flatten
theorem ku6 (l:List Rv.Dc) (d:Rv.Dc):dsL (l++[d])=dsL l++(dvC d).toList:=by simp [dsL]
theorem kin {w:World} {o:Nat} {cs:Array Value} {t:TypeId} {fr:Nat × Nat} (hb:w.heap[o]? = some (.cells cs t fr)):∀j u,cs.toList[j]? = some u→w.cell? ((⟨o,0,none⟩:Addr).add j)=some u:=fun j u hu=>by
 have hadd:(⟨o,0,none⟩:Addr).add j=⟨o,j,none⟩:=by unfold Addr.add;split <;> simp_all
 rw [hadd,kaa hb,←Array.getElem?_toList];exact hu
theorem ka6 {o:Oper} {ev:Operand→Value} {x:Operand} (ho:o.op = .load 45 x) {W:World} {b k:Nat} {cs:List Value} (hl:cs.length=18) (hx:ev x = .pointer (some ⟨b,k,none⟩)) (h:W.rangeAt b k cs):(execOp ev o).run Tryz.prog W = .ok (.value (.agg cs.toArray)) W:=by
 have hi:(Tryz.prog.info? 45).map (·.size)=some cs.length:=by rw [hl];kernel_rfl
 unfold execOp;simp only [ho,hx,Instr.loadAt,Instr.sureAddr,Sem.run_bind,Sem.run_pure,Result.andThen_ok,run_loadVar_mid W b k 45 cs _ h Tryz.underlying45 rfl hi]
theorem kkv (c:Rv.Cx) (pt pb:Nat→Nat) (A:List Nat) (bj bE bT bN:Nat) (w0 w1 w:World) (hN:Nds c pt pb w0 w1) (hJ:Jr c pt A bj bE bT bN w1 w) (hlen:A.length≤1024) :
 Calls Tryz.prog 57 #[ptr bj] w fun en w'=>∃v,en = .returned v∧Below w.heap.size w w'∧w'.ownsRow w.heap.size 56 10 v (c.decs A).length (dsL (c.decs A)):=by
 obtain ⟨v,hg⟩:=hJ.g;have hvf:=kag hg.own;obtain ⟨va,vc,rfl⟩:=hvf;have cj2:w.cell? ⟨bj,2,none⟩=some (.slice va (kde c A).length vc):=by rw [kaa hg.head];rfl
 have hdl:(kde c A).length≤1024:=Nat.le_trans (List.length_filter_le _ _) hlen;have hdecs:c.decs A=(kde c A).map (c.decOf A):=rfl;have HDs:=hdd hdecs;have HN:=hdd hN;have HJ:=hdd hJ;have HG:=hdd hg;obtain ⟨i0,hi0,hz0,hz1,hz2⟩:∃i,Tryz.prog.info? 56=some i∧i.zero=some (dcV false false false)∧i.size=10∧i.bytes=112:=⟨_,rfl,by kernel_rfl,rfl,rfl⟩;have Hi:=hdd hi0;have Hz0:=hdd hz0;have Hz1:=hdd hz1;have Hz2:=hdd hz2;clear hdecs hN hJ hg hi0 hz0 hz1 hz2
 go_enter Tryz.func57,Tryz.ntmps57
 go_wp2
 go_loopw [3,5,6,7,13] (fun s3 _ _ _ n wr=>∃k:Nat,k≤(kde c A).length∧n = .int .i64 k∧Below w.heap.size w wr∧wr.ownsRow w.heap.size 56 10 s3 k (dsL (((kde c A).map (c.decOf A)).take k))) (fun _ _ _ _ n _=>(kde c A).length - (intOf n).toNat)
 case atStart=>exact ⟨0,Nat.zero_le _,rfl,Below.refl _ _,World.ownsRow_nil _ _ _ _⟩
 case round =>
  obtain ⟨k,hk,rfl,hb,ho⟩:=hrel;have HB:=hdd hb;have HO:=hdd ho;clear hb ho
  by_cases hlt:k<(kde c A).length
  ·obtain ⟨g0,cv,hve,-,-,-⟩:=kax HG.out.own (by omega)
   simp only [Value.slice.injEq,true_and] at hve;obtain ⟨rfl,rfl⟩:=hve;obtain ⟨d,hd⟩:∃d,(kde c A)[k]=d:=⟨_,rfl⟩;have hdm:d∈kde c A:=by rw [←hd];exact List.getElem_mem hlt
   have hdl2:d<c.l.length:=HJ.out.mem d (List.mem_filter.1 hdm).1;have hgr:=HG.out.grow HB.out
   have cd:wr.cell? ⟨g0,k,none⟩=some (ptr (pt d)):=by
    rw [kce hgr.own (by rw [List.length_map];exact hlt),List.getElem?_map,List.getElem?_eq_getElem hlt,hd];rfl
   have cd':wr.cell? ⟨g0,0+k,none⟩=some (ptr (pt d)):=by rw [Nat.zero_add];exact cd
   obtain ⟨⟨r2,na,nc,ta,tc,sa,sc,ha,hc,ra,rc,-,hnd⟩,-,-⟩:=HN.out.at hgr.below hdl2;have cd0:wr.cell? ⟨pt d,0,none⟩=some (.string (B (c.id d))):=by rw [kaa hnd];rfl
   have cj3:wr.cell? ⟨bj,3,none⟩=some (.map (some bN)):=by rw [kaa hgr.head];rfl
   obtain ⟨Ln,hLn,hfn⟩:=hgr.ended;obtain ⟨qa,hqa⟩:∃q,q=c.wd A (c.id d):=⟨_,rfl⟩;obtain ⟨qb,hqb⟩:∃q,q=c.ov A (c.id d):=⟨_,rfl⟩;obtain ⟨qc,hqc⟩:∃q,q=c.rp A (c.id d):=⟨_,rfl⟩;have HEd:=hdd (show (kb2 Ln (c.id d)).getD (dcV false false false)=dcV qa qb qc by rw [hfn,hqa,hqb,hqc]);have HRg:=hdd (keh hnd);have HOd:=hdd (evS1 (c.ev d) na nc ta tc sa sc ha hc ra rc);have HLn:=hdd hLn;have HNd:=hdd hnd;have HQ:=hdd (And.intro hqa (And.intro hqb hqc));have HDk:=hdd hd;clear hdm hgr hnd hfn hLn hqa hqb hqc hd
   go_upto_region 5 with fail
   go_cut [6,7,13] from 13 to 57 (fun s6 s7 n wx=>∃p6 p7:Nat,s6=ptr p6∧s7=ptr p7∧n = .int .i64 k∧wr.heap.size≤p7∧Below wr.heap.size wr wx∧wx.heap[p6]? = some (.cells (evS (c.ev d) na nc ta tc sa sc ha hc ra rc) 45 (0,0))∧wx.heap[p7]? = some (.cells (dcC qa qb qc) 56 (0,0)))
   case first =>
    have hSB:∀W:World,Below wr.heap.size wr W→(W.cell? ⟨bj,3,none⟩=some (.map (some bN))∧W.cell? ⟨pt d,0,none⟩=some (.string (B (c.id d))))∧W.rangeAt (pt d) 3 (evS (c.ev d) na nc ta tc sa sc ha hc ra rc).toList∧kbi Tryz.prog 9 kS W bN Ln:=fun W hb =>
     ⟨⟨(hb.cell (p:=⟨bj,3,none⟩) (World.block_lt_of_cell? _ _ cj3)).trans cj3,(hb.cell (p:=⟨pt d,0,none⟩) (World.block_lt_of_cell? _ _ cd0)).trans cd0⟩,keh ((hb.block _ (kad HNd.out)).trans HNd.out),HLn.out.below hb HLn.out.lt⟩
    have HSB:=hdd hSB;clear hSB;refine kaj (S:=fun W:World=>(W.cell? ⟨bj,3,none⟩=some (.map (some bN))∧W.cell? ⟨pt d,0,none⟩=some (.string (B (c.id d))))∧W.rangeAt (pt d) 3 (evS (c.ev d) na nc ta tc sa sc ha hc ra rc).toList∧kbi Tryz.prog 9 kS W bN Ln) (by kernel_rfl) (HSB.out _ (Below.refl _ _).drew) (fun hHeld=>?_);simp only [List.toList_toArray,len,kat]
    iterate 3 (refine tz 0 ?_;simp only [Act.put,s1,s2,s3])
    refine tkx 3 (.agg (evS (c.ev d) na nc ta tc sa sc ha hc ra rc)) rfl rfl (by kernel_rfl) (fun _ _ _ h=>h) (by assumption) ?_ ?_
    ·intro W hW;exact ka6 rfl rfl rfl hW.2.1
    simp only [Act.put,s1,s2,s3]
    iterate 8 (refine tz 4 ?_;simp only [Act.put,s1,s2,s3])
    refine tkx 12 (dcV qa qb qc) rfl rfl (by kernel_rfl) (fun _ _ _ h=>h) (by assumption) ?_ ?_
    ·intro W hW;exact ka4 rfl kcx Tryz.underlying136 kuv hW.2.2 rfl rfl (kbp (HN.out.idl d)) HEd.out
    simp only [Act.put,s1,s2,s3];refine wpAnyH_ready (rs:=[13,14]) (by kernel_rfl) (by simp) ?_;refine AllReadyH.cons rfl (fun K hK=>?_) (ar1 rfl (fun K hK=>?_))
    ·go_simp
     have hb1:Below wr.heap.size wr (wr.drew.alloc (.cells (evZ) 45)):=((Below.refl wr.heap.size wr).drew).alloc (by have:=((Below.refl wr.heap.size wr).drew).size;exact this) _;refine hK.out _ _ (HSB.out _ hb1) (fun hHeld=>?_);clear hK K
     try simp only [Act.put,s1,s2,s3]
     refine ar2 14 (by kernel_rfl) rfl (fun K hK=>?_)
     ·go_simp
      have hb2:Below wr.heap.size wr ((wr.drew.alloc (.cells (evZ) 45)).alloc (.cells (dcC false false false) 56)):=(hb1).alloc (by have:=(hb1).size;exact this) _;refine hK.out _ _ (HSB.out _ hb2) (fun hHeld=>?_);clear hK K
      try simp only [Act.put,s1,s2,s3]
      refine ar2 15 (by kernel_rfl) rfl (fun K hK=>?_)
      ·refine kam rfl 45 _ _ rfl _ rfl (evS (c.ev d) na nc ta tc sa sc ha hc ra rc) rfl 45 (evZ) (kah (kak (by first|rfl|simp) rfl)) (by kernel_rfl) rfl HOd.out ?_
       intro w3 hw3 hk3;have hb3:Below wr.heap.size wr w3:=(hb2).trans (hk3.below (B:=wr.heap.size) (hb2).size (fun q hq e=>by have h0:=(hb2).size;have:q=wr.heap.size:=e;omega));have ho3:=(hk3.block (wr.heap.size+1) (kad (kak (by first|rfl|simp) rfl)) (fun e=>by have:wr.heap.size+1=wr.heap.size:=e;omega)).trans (kak (by first|rfl|simp) rfl);refine hK.out _ _ (HSB.out _ hb3) (fun hHeld=>?_);clear hK K
       try simp only [Act.put,s1,s2,s3]
       have hl3:=kad hw3;have hz3:=hb3.size;refine ar2 16 (by kernel_rfl) rfl (fun K hK=>?_)
       ·refine kam rfl 56 _ _ rfl _ rfl (dcC qa qb qc) rfl 56 (dcC false false false) (ho3) (by kernel_rfl) rfl (kjj _ _ _) ?_
        intro w4 hw4 hk4;have hb4:Below wr.heap.size wr w4:=(hb3).trans (hk4.below (B:=wr.heap.size) (hb3).size (fun q hq e=>by have h0:=(hb3).size;have:q=wr.heap.size+1:=e;omega));have ho4:=(hk4.block (wr.heap.size) (kad (hw3)) (fun e=>by have:wr.heap.size=wr.heap.size+1:=e;omega)).trans (hw3);refine hK.out _ _ (HSB.out _ hb4) (fun hHeld=>?_);clear hK K
        try simp only [Act.put,s1,s2,s3]
        have hl4:=kad hw4;have hz4:=hb4.size;refine wpAnyH_done (by kernel_rfl) ?_ _;simp only [Exit.then]
        go_wp2_with fail
        go_meet
        exact ⟨_,_,rfl,rfl,rfl,by omega,hb4,ho4,hw4⟩
    ·go_simp
     have hb5:Below wr.heap.size wr (wr.drew.alloc (.cells (dcC false false false) 56)):=((Below.refl wr.heap.size wr).drew).alloc (by have:=((Below.refl wr.heap.size wr).drew).size;exact this) _;refine hK.out _ _ (HSB.out _ hb5) (fun hHeld=>?_);clear hK K
     try simp only [Act.put,s1,s2,s3]
     refine ar2 13 (by kernel_rfl) rfl (fun K hK=>?_)
     ·go_simp
      have hb6:Below wr.heap.size wr ((wr.drew.alloc (.cells (dcC false false false) 56)).alloc (.cells (evZ) 45)):=(hb5).alloc (by have:=(hb5).size;exact this) _;refine hK.out _ _ (HSB.out _ hb6) (fun hHeld=>?_);clear hK K
      try simp only [Act.put,s1,s2,s3]
      refine ar2 15 (by kernel_rfl) rfl (fun K hK=>?_)
      ·refine kam rfl 45 _ _ rfl _ rfl (evS (c.ev d) na nc ta tc sa sc ha hc ra rc) rfl 45 (evZ) (kak (by first|rfl|simp) rfl) (by kernel_rfl) rfl HOd.out ?_
       intro w7 hw7 hk7;have hb7:Below wr.heap.size wr w7:=(hb6).trans (hk7.below (B:=wr.heap.size) (hb6).size (fun q hq e=>by have h0:=(hb6).size;have:q=wr.heap.size+1:=e;omega));have ho7:=(hk7.block (wr.heap.size) (kad (kah (kak (by first|rfl|simp) rfl))) (fun e=>by have:wr.heap.size=wr.heap.size+1:=e;omega)).trans (kah (kak (by first|rfl|simp) rfl));refine hK.out _ _ (HSB.out _ hb7) (fun hHeld=>?_);clear hK K
       try simp only [Act.put,s1,s2,s3]
       have hl7:=kad hw7;have hz7:=hb7.size;refine ar2 16 (by kernel_rfl) rfl (fun K hK=>?_)
       ·refine kam rfl 56 _ _ rfl _ rfl (dcC qa qb qc) rfl 56 (dcC false false false) (ho7) (by kernel_rfl) rfl (kjj _ _ _) ?_
        intro w8 hw8 hk8;have hb8:Below wr.heap.size wr w8:=(hb7).trans (hk8.below (B:=wr.heap.size) (hb7).size (fun q hq e=>by have h0:=(hb7).size;have:q=wr.heap.size:=e;omega));have ho8:=(hk8.block (wr.heap.size+1) (kad (hw7)) (fun e=>by have:wr.heap.size+1=wr.heap.size:=e;omega)).trans (hw7);refine hK.out _ _ (HSB.out _ hb8) (fun hHeld=>?_);clear hK K
        try simp only [Act.put,s1,s2,s3]
        have hl8:=kad hw8;have hz8:=hb8.size;refine wpAnyH_done (by kernel_rfl) ?_ _;simp only [Exit.then]
        go_wp2_with fail
        go_meet
        exact ⟨_,_,rfl,rfl,rfl,by omega,hb8,ho8,hw8⟩
   case rest =>
    obtain ⟨p6,p7,rfl,rfl,rfl,hw7,hb5,h6,h7⟩:=hcut;have hnd5:=(hb5.block _ (kad HNd.out)).trans HNd.out;have hne6:p6≠p7:=by rintro rfl;rw [h6] at h7;cases h7
    have hned:pt d≠p7:=by
     intro e;rw [e,h7] at hnd5;simp only [Option.some.injEq,Obj.cells.injEq] at hnd5;exact absurd hnd5.2.1 (by decide)
    obtain ⟨-,f1,-,-,-,-,-,-,f8,f9,f10,f11,f12,-⟩:=ka3 h6;have fd0:wc.cell? ⟨pt d,0,none⟩=some (.string (B (c.id d))):=by rw [kaa hnd5];rfl
    have hSS:∀W:World,ka7 (Licit.One p7) wc W→W.cell? ⟨pt d,0,none⟩=some (.string (B (c.id d)))∧W.cell? ⟨p6,1,none⟩=some (.string (B (c.ev d).author))∧W.cell? ⟨p6,9,none⟩=some (.string (B (c.ev d).question))∧W.cell? ⟨p6,10,none⟩=some (.string (B (c.ev d).scope))∧W.cell? ⟨p6,11,none⟩=some (.string (B (c.ev d).answer))∧W.cell? ⟨p6,8,none⟩=some (.string (B (c.ev d).digest))∧W.cell? ⟨p6,12,none⟩=some (.int .i64 (c.ev d).till):=fun W hk =>
     have n6:¬ Licit.One p7 p6:=hne6
     ⟨(hk.cell (kad hnd5) hned).trans fd0,(hk.cell (kad h6) n6).trans f1,(hk.cell (kad h6) n6).trans f9,(hk.cell (kad h6) n6).trans f10,(hk.cell (kad h6) n6).trans f11,(hk.cell (kad h6) n6).trans f8,(hk.cell (kad h6) n6).trans f12⟩
    have HSS:=hdd hSS;have HB5:=hdd hb5;have H7:=hdd h7;have HW7:=hdd hw7;clear hnd5 hne6 hned hw7 f1 f8 f9 f10 f11 f12 fd0 hSS hb5 h6 h7 cd0 cj3 cd cd'
    go_upto_region 6 with fail
    refine kaj (S:=fun W:World=>W.cell? ⟨pt d,0,none⟩=some (.string (B (c.id d)))∧W.cell? ⟨p6,1,none⟩=some (.string (B (c.ev d).author))∧W.cell? ⟨p6,9,none⟩=some (.string (B (c.ev d).question))∧W.cell? ⟨p6,10,none⟩=some (.string (B (c.ev d).scope))∧W.cell? ⟨p6,11,none⟩=some (.string (B (c.ev d).answer))∧W.cell? ⟨p6,8,none⟩=some (.string (B (c.ev d).digest))∧W.cell? ⟨p6,12,none⟩=some (.int .i64 (c.ev d).till)) (by kernel_rfl) (HSS.out _ (ka7.of_below (Below.refl _ _).drew)) (fun hHeld=>?_);simp only [List.toList_toArray,len,kat]
    iterate 17 (refine tz 0 ?_;simp only [Act.put,s1,s2,s3])
    have h7x:=(show wc.drew.heap[p7]? = _ from H7.out);have k7x:ka7 (Licit.One p7) wc wc.drew:=ka7.of_below (Below.refl _ _).drew;have Hh7x:=hdd h7x;have Hk7x:=hdd k7x;clear h7x k7x;refine ar2 17 (by kernel_rfl) rfl (fun K hK=>?_);refine kan rfl 9 _ _ rfl p7 0 rfl (.string (B (c.id d))) rfl rfl rfl _ 56 Hh7x.out (by simp) (by kernel_rfl) ?_;intro x17 hy17 kx17;have hx17:x17.heap[p7]? = some (.cells #[.string (B (c.id d)),.string (B []),.string (B []),.string (B []),.string (B []),.string (B []),.int .i64 0,.bool qa,.bool qb,.bool qc] 56 (0,0)):=hy17;clear hy17;have Hkk17:=hdd (Hk7x.out.trans kx17);have Hhx17:=hdd hx17;refine hK.out _ _ (HSS.out _ Hkk17.out) (fun hHeld=>?_);clear hK K Hh7x kx17 hx17;simp only [Act.put,s4,s5,s6,s1,s2,s3]
    (refine tz 18 ?_;simp only [Act.put,s1,s2,s3])
    refine ar2 19 (by kernel_rfl) rfl (fun K hK=>?_);refine kan rfl 9 _ _ rfl p7 1 rfl (.string (B (c.ev d).author)) rfl rfl rfl _ 56 Hhx17.out (by simp) (by kernel_rfl) ?_;intro x19 hy19 kx19;have hx19:x19.heap[p7]? = some (.cells #[.string (B (c.id d)),.string (B (c.ev d).author),.string (B []),.string (B []),.string (B []),.string (B []),.int .i64 0,.bool qa,.bool qb,.bool qc] 56 (0,0)):=hy19;clear hy19;have Hkk19:=hdd (Hkk17.out.trans kx19);have Hhx19:=hdd hx19;refine hK.out _ _ (HSS.out _ Hkk19.out) (fun hHeld=>?_);clear hK K Hhx17 kx19 hx19;simp only [Act.put,s4,s5,s6,s1,s2,s3]
    (refine tz 20 ?_;simp only [Act.put,s1,s2,s3])
    refine ar2 21 (by kernel_rfl) rfl (fun K hK=>?_);refine kan rfl 9 _ _ rfl p7 2 rfl (.string (B (c.ev d).question)) rfl rfl rfl _ 56 Hhx19.out (by simp) (by kernel_rfl) ?_;intro x21 hy21 kx21;have hx21:x21.heap[p7]? = some (.cells #[.string (B (c.id d)),.string (B (c.ev d).author),.string (B (c.ev d).question),.string (B []),.string (B []),.string (B []),.int .i64 0,.bool qa,.bool qb,.bool qc] 56 (0,0)):=hy21;clear hy21;have Hkk21:=hdd (Hkk19.out.trans kx21);have Hhx21:=hdd hx21;refine hK.out _ _ (HSS.out _ Hkk21.out) (fun hHeld=>?_);clear hK K Hhx19 kx21 hx21;simp only [Act.put,s4,s5,s6,s1,s2,s3]
    (refine tz 22 ?_;simp only [Act.put,s1,s2,s3])
    refine ar2 23 (by kernel_rfl) rfl (fun K hK=>?_);refine kan rfl 9 _ _ rfl p7 3 rfl (.string (B (c.ev d).scope)) rfl rfl rfl _ 56 Hhx21.out (by simp) (by kernel_rfl) ?_;intro x23 hy23 kx23;have hx23:x23.heap[p7]? = some (.cells #[.string (B (c.id d)),.string (B (c.ev d).author),.string (B (c.ev d).question),.string (B (c.ev d).scope),.string (B []),.string (B []),.int .i64 0,.bool qa,.bool qb,.bool qc] 56 (0,0)):=hy23;clear hy23;have Hkk23:=hdd (Hkk21.out.trans kx23);have Hhx23:=hdd hx23;refine hK.out _ _ (HSS.out _ Hkk23.out) (fun hHeld=>?_);clear hK K Hhx21 kx23 hx23;simp only [Act.put,s4,s5,s6,s1,s2,s3]
    (refine tz 24 ?_;simp only [Act.put,s1,s2,s3])
    refine ar2 25 (by kernel_rfl) rfl (fun K hK=>?_);refine kan rfl 9 _ _ rfl p7 4 rfl (.string (B (c.ev d).answer)) rfl rfl rfl _ 56 Hhx23.out (by simp) (by kernel_rfl) ?_;intro x25 hy25 kx25;have hx25:x25.heap[p7]? = some (.cells #[.string (B (c.id d)),.string (B (c.ev d).author),.string (B (c.ev d).question),.string (B (c.ev d).scope),.string (B (c.ev d).answer),.string (B []),.int .i64 0,.bool qa,.bool qb,.bool qc] 56 (0,0)):=hy25;clear hy25;have Hkk25:=hdd (Hkk23.out.trans kx25);have Hhx25:=hdd hx25;refine hK.out _ _ (HSS.out _ Hkk25.out) (fun hHeld=>?_);clear hK K Hhx23 kx25 hx25;simp only [Act.put,s4,s5,s6,s1,s2,s3]
    (refine tz 26 ?_;simp only [Act.put,s1,s2,s3])
    refine ar2 27 (by kernel_rfl) rfl (fun K hK=>?_);refine kan rfl 9 _ _ rfl p7 5 rfl (.string (B (c.ev d).digest)) rfl rfl rfl _ 56 Hhx25.out (by simp) (by kernel_rfl) ?_;intro x27 hy27 kx27;have hx27:x27.heap[p7]? = some (.cells #[.string (B (c.id d)),.string (B (c.ev d).author),.string (B (c.ev d).question),.string (B (c.ev d).scope),.string (B (c.ev d).answer),.string (B (c.ev d).digest),.int .i64 0,.bool qa,.bool qb,.bool qc] 56 (0,0)):=hy27;clear hy27;have Hkk27:=hdd (Hkk25.out.trans kx27);have Hhx27:=hdd hx27;refine hK.out _ _ (HSS.out _ Hkk27.out) (fun hHeld=>?_);clear hK K Hhx25 kx27 hx27;simp only [Act.put,s4,s5,s6,s1,s2,s3]
    (refine tz 28 ?_;simp only [Act.put,s1,s2,s3])
    refine ar2 29 (by kernel_rfl) rfl (fun K hK=>?_);refine kan rfl 3 _ _ rfl p7 6 rfl (.int .i64 (c.ev d).till) rfl rfl rfl _ 56 Hhx27.out (by simp) (by kernel_rfl) ?_;intro x29 hy29 kx29;have hx29:x29.heap[p7]? = some (.cells #[.string (B (c.id d)),.string (B (c.ev d).author),.string (B (c.ev d).question),.string (B (c.ev d).scope),.string (B (c.ev d).answer),.string (B (c.ev d).digest),.int .i64 (c.ev d).till,.bool qa,.bool qb,.bool qc] 56 (0,0)):=hy29;clear hy29;have Hkk29:=hdd (Hkk27.out.trans kx29);have Hhx29:=hdd hx29;refine hK.out _ _ (HSS.out _ Hkk29.out) (fun hHeld=>?_);clear hK K Hhx27 kx29 hx29;simp only [Act.put,s4,s5,s6,s1,s2,s3];refine wpAnyH_done (by kernel_rfl) ?_ _;simp only [Exit.then]
    have HX:=hdd (show x29.heap[p7]? = some (.cells (dvC (c.decOf A d)) 56 (0,0)) by
     rw [Hhx29.out,HQ.out.1,HQ.out.2.1,HQ.out.2.2];rfl)
    have HB6:=hdd (show Below wr.heap.size wr x29 from HB5.out.trans (Hkk29.out.below HB5.out.size (fun q hq e=>by have:q=p7:=e;have:=HW7.out;omega)));have HO6:=hdd (kcd HO.out (w':=x29) (fun q _ hq=>HB6.out.block q hq));clear Hhx29 Hkk17 Hkk19 Hkk21 Hkk23 Hkk25 Hkk27 Hkk29 Hk7x hHeld
    have hkd:((kde c A).map (c.decOf A)).take (k+1)=((kde c A).map (c.decOf A)).take k++[c.decOf A d]:=by
     rw [List.take_succ_eq_append_getElem (by simpa using hlt),List.getElem_map,HDk.out]
    have HKd:=hdd hkd;clear hkd
    go_wp2_with (first
     |(refine wpList_load_mid rfl 56 _ rfl p7 0 rfl (dvC (c.decOf A d)).toList _ (kap HX.out) rfl rfl (by kernel_rfl) ?_)
     |(at_builtin
       refine wpList_append_own _ rfl _ _ 31 rfl w.heap.size 56 i0 (dcV false false false) 10 112 Tryz.underlying31 Hi.out Hz0.out Hz1.out Hz2.out rfl (by decide) _ k (dsL (((kde c A).map (c.decOf A)).take k)) rfl (HO6.out.alloc _) ⟨x29.heap.size,0,none⟩ 1 1 (dvC (c.decOf A d)).toList rfl rfl (kin (kai x29 (.cells (dvC (c.decOf A d)) 56))) (by simp [dvC,Value.oneCell']) (by unfold maxLen;omega) (by omega) (by have h1:=HB.out.size;have h2:=HB6.out.size;simp;omega) ?_;intro v8 w8 ho8 hg8 _;have HO8:=hdd (show w8.ownsRow w.heap.size 56 10 v8 (k+1) (dsL (((kde c A).map (c.decOf A)).take (k+1))) by rw [HKd.out,ku6];exact ho8);have HB8:=hdd (show Below w.heap.size w w8 from ((HB.out.next HB6.out).alloc (by have h1:=HB.out.size;have h2:=HB6.out.size;omega) _).grown hg8 (by have h1:=HB.out.size;have h2:=HB6.out.size;simp;omega) (fun q hq=>(HO6.out.lt q hq).1));clear ho8 hg8)
     |fail)
    go_roundw
    case rel=>exact ⟨k+1,by omega,by go_num,HB8.out,HO8.out⟩
    case measure=>simp [intOf];omega
  ·have hkl:k=(kde c A).length:=by omega
   subst hkl;have ho:=HO.out;rw [List.take_of_length_le (by simp)] at ho;obtain ⟨a9,c9,rfl⟩:=kag ho;have HO9:=hdd ho;clear ho
   go_wp2
   go_ret
   exact ⟨_,rfl,HB.out,by rw [HDs.out];simpa using HO9.out⟩
theorem kct (d:Rv.Dc) (w:World):Calls Tryz.prog 118 #[.agg (dvC d)] w fun e w'=>e = .returned (.bool d.over)∧Below w.heap.size w w':=by
 obtain ⟨i,a,q,s,n,g,t,wd,ov,rp⟩:=d;have hB:∀o,Below w.heap.size w (w.alloc o):=fun o=>(Below.refl _ _).alloc (Nat.le_refl _) _
 have HB:=hdd hB;clear hB
 cases wd <;> cases ov <;> cases rp <;> (
  go_enter Tryz.func118,Tryz.ntmps118
  go_wp2
  go_ret
  exact ⟨rfl,HB.out _⟩)
abbrev prV (x:Bs × Bs):Value:=.agg #[.string (B x.1),.string (B x.2)]
abbrev prC (x:Bs × Bs):Array Value:=#[.string (B x.1),.string (B x.2)]
theorem ksu (x y:Bs × Bs) (w:World):Calls Tryz.prog 120 #[prV x,prV y] w fun e w'=>e = .returned (.int .i64 (or2 (kg4 x.1 y.1) (kg4 x.2 y.2)))∧∃q os,w'=Go.Sort.grow (w.drewN q) os:=by
 have a0:=kah (o':=.cells (prC y) 116) (kai w (.cells (prC x) 116));have b0:=kak (w:=w.alloc (.cells (prC x) 116)) (o:=.cells (prC y) 116) (k:=w.heap.size+1) (by simp) rfl
 have hS:∀W:World,Below (w.heap.size+2) ((w.alloc (.cells (prC x) 116)).alloc (.cells (prC y) 116)) W→W.cell? ⟨w.heap.size,0,none⟩=some (.string (B x.1))∧W.cell? ⟨w.heap.size,1,none⟩=some (.string (B x.2))∧W.cell? ⟨w.heap.size+1,0,none⟩=some (.string (B y.1))∧W.cell? ⟨w.heap.size+1,1,none⟩=some (.string (B y.2)):=fun W hb=>by
  have h1:=kab hb (k:=w.heap.size) (by omega) a0;have h2:=kab hb (k:=w.heap.size+1) (by omega) b0;exact ⟨by rw [kaa h1];rfl,by rw [kaa h1];rfl,by rw [kaa h2];rfl,by rw [kaa h2];rfl⟩
 have HS:=hdd hS;clear hS a0 b0
 go_enter Tryz.func120,Tryz.ntmps120
 go_upto_region 1 with fail
 refine kaj (S:=fun W:World=>W.cell? ⟨w.heap.size,0,none⟩=some (.string (B x.1))∧W.cell? ⟨w.heap.size,1,none⟩=some (.string (B x.2))∧W.cell? ⟨w.heap.size+1,0,none⟩=some (.string (B y.1))∧W.cell? ⟨w.heap.size+1,1,none⟩=some (.string (B y.2))) (by kernel_rfl) (HS.out _ (Below.refl _ _).drew) (fun hHeld=>?_);simp only [List.toList_toArray,len,kat]
 iterate 4 (refine tz 0 ?_;simp only [Act.put,s1,s2,s3])
 iterate 4 (refine tz 5 ?_;simp only [Act.put,s1,s2,s3])
 refine ar2 4 (by kernel_rfl) rfl (fun K hK=>?_);go_simp
 refine (kk0 x.1 y.1 _).mono ?_;rintro en u ⟨rfl,rfl⟩;refine hK.out _ _ hHeld (fun hHeld=>?_);clear hK K
 try simp only [Act.put,s1,s2,s3]
 refine ar2 9 (by kernel_rfl) rfl (fun K hK=>?_);go_simp
 refine (kk0 x.2 y.2 _).mono ?_;rintro en u ⟨rfl,rfl⟩;refine hK.out _ _ hHeld (fun hHeld=>?_);clear hK K
 try simp only [Act.put,s1,s2,s3]
 refine ar2 10 (by kernel_rfl) rfl (fun K hK=>?_);go_simp
 have hbl:Below (w.heap.size+2) ((w.alloc (.cells (prC x) 116)).alloc (.cells (prC y) 116)) (((w.alloc (.cells (prC x) 116)).alloc (.cells (prC y) 116)).drew.alloc (.cells #[.int .i64 (kg4 x.1 y.1),.int .i64 (kg4 x.2 y.2)] 3)):=(Below.refl _ _).drew.alloc (by simp) _;refine hK.out _ _ (HS.out _ hbl) (fun hHeld=>?_);clear hK K hbl
 try simp only [Act.put,s1,s2,s3]
 have hsl:IsSl (.slice (some ⟨w.heap.size+1+1,0,none⟩) 2 2) [vI (kg4 x.1 y.1),vI (kg4 x.2 y.2)] (((w.alloc (.cells (prC x) 116)).alloc (.cells (prC y) 116)).drew.alloc (.cells #[.int .i64 (kg4 x.1 y.1),.int .i64 (kg4 x.2 y.2)] 3)) :=
  IsSl.of_owns (base:=0) (kd5 (n:=2) (kak (by simp) rfl) (Nat.zero_le _) rfl (by unfold maxLen;omega)) (by simp [maxLen])
 have HSL:=hdd hsl;clear hsl;refine ar2 11 (by kernel_rfl) rfl (fun K hK=>?_);go_simp
 refine (kwr _ _ _ _ HSL.out).mono ?_;rintro en u ⟨rfl,rfl⟩;refine hK.out _ _ hHeld (fun hHeld=>?_);clear hK K
 try simp only [Act.put,s1,s2,s3]
 (refine tz 12 ?_;simp only [Act.put,s1,s2,s3])
 refine wpAnyH_done (by kernel_rfl) ?_ _;simp only [Exit.then]
 go_wp2
 go_ret
 exact ⟨rfl,1,#[.cells (prC x) 116,.cells (prC y) 116,(.cells #[.int .i64 (kg4 x.1 y.1),.int .i64 (kg4 x.2 y.2)] 3)],rfl⟩
end Go.Proofs.YtknpbekoenbphaaGreatDoor
namespace Licit
open Go Go.RowKit Go.Sort Go.Proofs Go.Shelf
section
variable {α:Type} [Inhabited α]
omit [Inhabited α] in
theorem kdt {enc:α→List Value} {k:Nat} (hk:∀x,(enc x).length=k) (h0:0<k):∀(xs:List α) (t:Nat),((xs.map enc).flatten)[t]? = (xs[t / k]?).bind fun x=>(enc x)[t % k]?
 | [],t=>by simp
 |a :: r,t=>by
  rw [List.map_cons,List.flatten_cons]
  by_cases c:t<k
  ·rw [List.getElem?_append_left (by rw [hk];exact c),Nat.div_eq_of_lt c,Nat.mod_eq_of_lt c]
   rfl
  ·have c':k≤t:=Nat.le_of_not_lt c
   rw [List.getElem?_append_right (by rw [hk];exact c'),hk,kdt hk h0 r (t - k)]
   have e1:t / k=(t - k) / k+1:=by
    have:=Nat.add_div_right (t - k) h0
    rw [Nat.sub_add_cancel c'] at this;exact this
   have e2:t % k=(t - k) % k:=by rw [Nat.mod_eq_sub_mod c']
   rw [e1,e2,List.getElem?_cons_succ]
theorem kgp {α:Type} {enc:α→List Value} {k:Nat} (hk:∀x,(enc x).length=k) (xs:List α):((xs.map enc).flatten).length=xs.length*k:=by
 induction xs with
 |nil=>simp
 |cons a r ih=>rw [List.map_cons,List.flatten_cons,List.length_append,ih,hk,List.length_cons,Nat.succ_mul,Nat.add_comm]
theorem kke {enc:α→List Value} {k:Nat} (hk:∀x,(enc x).length=k) (h0:0<k) (xs:List α):flatK enc k xs.toArray=((xs.map enc).flatten).toArray:=by
 apply Array.ext
 ·rw [size_flatK,List.size_toArray,List.size_toArray,kgp hk]
 ·intro t h1 h2
  have h3:t<xs.length*k:=by rw [size_flatK,List.size_toArray] at h1;exact h1
  have hd:t / k<xs.length:=Nat.div_lt_of_lt_mul (by rw [Nat.mul_comm];exact h3);have hm:t % k<(enc xs[t / k]).length:=by rw [hk];exact Nat.mod_lt _ h0
  have e:=kdt hk h0 xs t;rw [List.getElem?_eq_getElem hd,Option.bind_some,List.getElem?_eq_getElem hm] at e
  have e1:(((xs.map enc).flatten).toArray)[t]=(enc xs[t / k])[t % k]:=by
   rw [List.getElem_toArray]
   have:=List.getElem?_eq_some_iff.1 e
   exact this.2
  rw [e1];have g1:(flatK enc k xs.toArray)[t]=(flatK enc k xs.toArray)[t]!:=(getElem!_pos _ t h1).symm;rw [g1,get_flatK enc k xs.toArray t (by rw [List.size_toArray];exact h3),getElem!_pos xs.toArray (t / k) (by simpa using hd)];rw [List.getElem_toArray,getElem!_pos (enc xs[t / k]) (t % k) hm]
theorem kqb {w:World} {base b cap n k:Nat} {e:TypeId} {vs:List Value} (h:w.ownsRow base e k (.slice (some ⟨b,0,none⟩) n cap) n vs):Holds id w b 0 vs.toArray:=by
 intro j hj;have hj':j<vs.length:=by simpa using hj
 rcases h.2 with ⟨h1,_⟩|⟨g,c,cur,hv,hg,hh,h1,h2,h3,h4⟩
 ·cases h1
 ·cases hv
  have hl:=h.1;have h5:vs[j]? = (List.take (n*k) cur.toList)[j]?:=by rw [h4]
  refine ⟨?_,?_⟩
  ·rw [kaa hh,Nat.zero_add]
   rw [List.getElem?_take_of_lt (by omega)] at h5;rw [←Array.getElem?_toList,←h5,ki8 vs j hj'];rfl
  ·unfold World.frozen?
   simp only [hh];simp
theorem kvz {w:World} {base b cap n k q:Nat} {e:TypeId} {vs us:List Value} {os:Array Obj} (h:w.ownsRow base e k (.slice (some ⟨b,0,none⟩) n cap) n vs) (hl:us.length=vs.length) :
 (sortWorld id w b 0 q us.toArray os).ownsRow base e k (.slice (some ⟨b,0,none⟩) n cap) n us:=by
 have hl2:=h.1;refine ⟨by rw [hl];exact hl2,?_⟩;rcases h.2 with ⟨h1,_⟩|⟨g,c,cur,hv,hg,hh,h1,h2,h3,h4⟩
 ·cases h1
 ·cases hv
  have hnk:n*k≤cap*k:=Nat.mul_le_mul_right k h1;refine .inr ⟨b,cap,putCells id 0 us.toArray cur,rfl,hg,?_,h1,h2,by simp [putCells,h3],?_⟩
  ·show (grow (putRow id (Sort.ahead w q) b 0 us.toArray) os).heap[b]? = _
   rw [heap_grow_old _ _ (by rw [Go.Sort.size_putRow];exact kad hh)];exact ker id (Sort.ahead w q) b 0 _ hh
  ·apply List.ext_getElem?
   intro j
   by_cases hj:j<us.length
   ·rw [List.getElem?_take_of_lt (by omega),Array.getElem?_toList,putCells,Array.getElem?_mapIdx,ki8 us j hj]
    rw [Array.getElem?_eq_getElem (show j<cur.size by omega)];simp [hj]
   ·rw [List.getElem?_eq_none (by simp;omega),List.getElem?_eq_none (by omega)]
theorem kvg {P:Program} {ρ:Ren} (L:SlLaysF0.n6 P ρ) (k:Nat) (h0:0<k) (aE:∀w,(isAgg (ρ.t 24)).run P w = .ok true w) (zE:∀w,(Go.sizeOf (ρ.t 24)).run P w = .ok k w) (enc:α→List Value) (hk:∀x,(enc x).length=k) (h1:∀x,∀v∈enc x,v.oneCell'=true)
 (cf:α→α→Int) (hO:SWO (ltOf cf)) (hT:∀x y,ltOf cf x y=false→ltOf cf y x=false→x=y) (g:Nat) (eg:∀args w,(callFunc g args).run P w = .ok (.enter g args) w)
 (xs:List α) (w:World) (base b cap:Nat) (e:TypeId) (hown:w.ownsRow base e k (.slice (some ⟨b,0,none⟩) xs.length cap) xs.length ((xs.map enc).flatten)) (hcap:xs.length<4611686018427387904)
 (hcmp:∀W,ka7 (One b) w W→∀x y,Calls P g #[.agg (enc x).toArray,.agg (enc y).toArray] W fun en w'=>en = .returned (.int .i64 (cf x y))∧∃q os',w'=grow (W.drewN q) os') :
 Calls P (ρ.f 6) #[.slice (some ⟨b,0,none⟩) xs.length cap,.func (.func g) #[] #[]] w fun en w'=>en = .returned (.tuple #[])∧w'.ownsRow base e k (.slice (some ⟨b,0,none⟩) xs.length cap) xs.length (((xs.mergeSort fun x y=>!(ltOf cf) y x).map enc).flatten)∧ka7 (One b) w w':=by
 have hlt:b<w.heap.size:=(hown.lt b rfl).2
 have hH:HoldsK enc k w b 0 xs.toArray:=by
  unfold HoldsK;rw [kke hk h0];exact kqb hown
 have hS:=AnyQ.slices_SortFunc_total L k aE zE enc hk h1 cf hO g #[] b 0 cap xs.toArray w eg (fun m os dk _ x y=>by
  have:=hcmp (sortWorldK enc k w b 0 m dk os) (kc9 id w b m (flatK enc k dk) os) x y
  simpa using this) hH hlt (by simpa using hcap) hT
 rw [List.size_toArray] at hS;refine hS.mono ?_;rintro en w' ⟨rfl,n,os,rfl⟩;refine ⟨rfl,?_,kc9 id w b n _ os⟩;show (sortWorld id w b 0 n (flatK enc k _) os).ownsRow _ _ _ _ _ _;rw [kke hk h0];exact kvz hown (by rw [kgp hk,kgp hk];simp)
end
end Licit
namespace Go.Proofs.YtknpbekoenbphaaGreatDoor
open Go Go.RowKit Licit
def prL (l:List (Bs × Bs)):List Value:=(l.map fun x=>(prC x).toList).flatten
theorem kvs (l:List (Bs × Bs)) (x:Bs × Bs):prL (l++[x])=prL l++(prC x).toList:=by simp [prL]
def cfP (x y:Bs × Bs):Int:=or2 (kg4 x.1 y.1) (kg4 x.2 y.2)
theorem kq2:ltOf cfP=Rv.ltP:=by
 funext x y
 obtain ⟨a,b⟩:=x;obtain ⟨c,d⟩:=y;unfold ltOf cfP Rv.ltP or2 kg4;dsimp only
 by_cases e:a=c
 ·subst e
  rw [Rv.ltB_irr];simp only [Bool.false_eq_true,if_false,if_true]
  cases h1:Rv.ltB b d
  ·cases h2:Rv.ltB d b <;> simp
  ·simp
 ·rw [if_neg e]
  cases h1:Rv.ltB a c
  ·cases h2:Rv.ltB c a
   ·exact absurd (Rv.ltB_tot h1 h2) e
   ·simp
  ·simp
theorem k1a (w:World):(isAgg (Tryz.sortDisp_ren.t 24)).run Tryz.prog w = .ok true w:=by kernel_rfl
theorem k0h (w:World):(Go.sizeOf (Tryz.sortDisp_ren.t 24)).run Tryz.prog w = .ok 2 w:=by kernel_rfl
theorem kpi (l:List (Bs × Bs)) (w:World) (base b cap:Nat) (hown:w.ownsRow base 116 2 (.slice (some ⟨b,0,none⟩) l.length cap) l.length (prL l)) (hm:l.length≤1048576) :
 Calls Tryz.prog 119 #[.slice (some ⟨b,0,none⟩) l.length cap,.func (.func 120) #[] #[]] w fun en w'=>en = .returned (.tuple #[])∧w'.ownsRow base 116 2 (.slice (some ⟨b,0,none⟩) l.length cap) l.length (prL (Rv.sortP l))∧ka7 (Licit.One b) w w':=by
 have eg:∀args w,(callFunc 120 args).run Tryz.prog w = .ok (.enter 120 args) w:=enters_of Tryz.func120 (by kernel_rfl) rfl
 have hS:=kvg Tryz.sortDisp 2 (by omega) k1a k0h (fun x:Bs × Bs=>(prC x).toList) (fun _=>rfl) (fun x v hv=>by
  simp only [prC,List.mem_cons,List.not_mem_nil,or_false] at hv;rcases hv with rfl|rfl <;> rfl) cfP (by rw [kq2];exact Rv.ltP_swo) (fun x y h1 h2=>by rw [kq2] at h1 h2;exact Rv.ltP_tot h1 h2) 120 eg l w base b cap 116 hown (by omega) (fun W _ x y=>ksu x y W)
 refine hS.mono ?_;rintro en w' ⟨rfl,ho,hk⟩;refine ⟨rfl,?_,hk⟩
 have e:(l.mergeSort fun x y=>!(ltOf cfP) y x)=Rv.sortP l:=by
  rw [kq2];refine Rv.sortP_only (List.mergeSort_perm _ _) ?_
  have hs:=List.pairwise_mergeSort (le:=fun x y:Bs × Bs=>!Rv.ltP y x) (fun a b c h1 h2=>by
   simp only [Bool.not_eq_true'] at h1 h2 ⊢;exact Rv.ltP_swo.ntrans _ _ _ h2 h1) (fun a b=>by
   cases h1:Rv.ltP b a with
   |false=>simp
   |true=>simp [Rv.swo_asymm Rv.ltP_swo h1]) l
  exact hs.imp fun {a b} h=>by simpa using h
 rw [e] at ho;exact ho
theorem kix (a:Option Addr) (cap:Nat) (w:World):Calls Tryz.prog 119 #[.slice a 0 cap,.func (.func 120) #[] #[]] w fun en w'=>en = .returned (.tuple #[])∧w'=w:=by
 have hS:=AnyF.slices_SortFunc_none (P:=Tryz.prog) (ρ:=Tryz.sortDisp_ren) { Tryz.sortDisp with } a cap (.func (.func 120) #[] #[]) w;exact hS
theorem ktn (l:List Rv.Dc):(Rv.dispsOf l).length≤l.length*l.length:=by
 induction l with
 |nil=>simp [Rv.dispsOf]
 |cons a r ih =>
  have h1:(Rv.dispsOf (a :: r)).length=((r.filter (Rv.disp a)).length)+(Rv.dispsOf r).length:=by simp [Rv.dispsOf]
  have h2:=List.length_filter_le (Rv.disp a) r;rw [h1,List.length_cons]
  have:(r.length+1)*(r.length+1)=r.length*r.length+r.length+r.length+1:=by rw [Nat.succ_mul,Nat.mul_succ];omega
  omega
def ksm (a b:Rv.Dc):Bs × Bs:=(Rv.minB a.id b.id,Rv.maxB a.id b.id)
theorem kj6 (a:Rv.Dc) (r:List Rv.Dc):Rv.dispsOf (a :: r)=(r.filter (Rv.disp a)).map (ksm a)++Rv.dispsOf r:=rfl
theorem km3 {w:World} {base g cap:Nat} {l:List Rv.Dc} (h:w.ownsRow base 56 10 (.slice (some ⟨g,0,none⟩) l.length cap) l.length (dsL l)) {i:Nat} (hi:i<l.length):w.rangeAt g (i*10) (dvC (l[i])).toList:=by
 intro j v hj;have hj10:j<10:=by have:=(List.getElem?_eq_some_iff.1 hj).1;simpa using this
 rcases h.2 with ⟨h0,_⟩|⟨g',cap',cur,h1,h2,h3,h4,h5,h6,h7⟩
 ·cases h0
 ·cases h1
  rw [kaa h3,←Array.getElem?_toList];have hlt:i*10+j<l.length*10:=by omega
  have e:(cur.toList.take (l.length*10))[i*10+j]? = (dsL l)[i*10+j]?:=by rw [h7]
  rw [List.getElem?_take_of_lt hlt] at e;rw [e];have hf:=kdt (enc:=fun d:Rv.Dc=>(dvC d).toList) (k:=10) (fun _=>rfl) (by omega) l (i*10+j);have e1:(i*10+j) / 10=i:=by omega
  have e2:(i*10+j) % 10=j:=by omega
  rw [e1,e2,List.getElem?_eq_getElem hi] at hf;exact hf.trans hj
end Go.Proofs.YtknpbekoenbphaaGreatDoor
