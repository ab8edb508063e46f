/- Parts of the proofs: PlainRd, WkHis, WkNs3, WkLO, LawKitAll, LawKit48, LawKit50, LawKitR, LawKit51. No condition beyond those at each theorem. -/
import Derived.Deep.DeepHandedRow
import Derived.Deep.Grids
import Derived.Lib.LaidTab
import Derived.Lib.SliceRun
import Derived.Lib.SmallJoins
import Derived.OpenShut
import Derived.ProofKit
import Derived.Stop.LaidErr
import Derived.Test.YtknpbekoenbphaaGreatDoorCards
import Derived.Test.YtknpbekoenbphaaGreatDoorTie
import Derived.Test.YtknpbekoenbphaaGreatDoorQk23
import Derived.Test.YtknpbekoenbphaaGreatDoorQk32
import Derived.Test.YtknpbekoenbphaaGreatDoorQk33
set_option linter.unusedVariables false
set_option linter.unusedSimpArgs false
set_option maxHeartbeats 16000000
set_option maxRecDepth 100000
namespace Licit.Rv
open Go Licit
structure InB (e:Ev):Prop where
 k1:1≤e.kind
 k5:e.kind≤5
 author:e.author.length≤32
 n0:0≤e.number
 n1:e.number≤63
 names:e.names.length≤16
 named:∀x∈e.names,x.length=32
 root:e.root.length≤32
 b0:0≤e.bits
 b1:e.bits≤256
 h0:0≤e.height
 h1:e.height≤6
 pkg:e.pkg.length≤32
 digest:e.digest.length≤32
 question:e.question.length≤128
 scope:e.scope.length≤128
 answer:e.answer.length≤200
 t0:0≤e.till
 t1:e.till≤1000
 aims:e.targets.length≤2
 aimed:∀x∈e.targets,x.length=32
theorem ko0 {s:Bs} (h:nameB s=true):s.length≤32:=by
 unfold nameB at h;simp only [Bool.and_eq_true,decide_eq_true_eq] at h;exact h.1.1.1.2
theorem kk6 {s:Bs} {a b:Nat} {c:UInt8} (h:textB s a b c=true):s.length≤b:=by
 unfold textB at h;simp only [Bool.and_eq_true,decide_eq_true_eq] at h;exact h.1.2
theorem kgd {s:Bs} (h:digB s=true):s.length=32:=by unfold digB at h;simpa using h
theorem valid_in {e:Ev} (h:validB e=true):InB e:=by
 unfold validB at h;rw [Bool.and_eq_true,Bool.and_eq_true,Bool.and_eq_true,Bool.and_eq_true,Bool.and_eq_true,Bool.and_eq_true] at h;obtain ⟨⟨⟨⟨⟨⟨ha,hn0⟩,hn1⟩,hnm⟩,hk⟩,hj⟩,hr⟩:=h;rw [decide_eq_true_eq] at hn0 hn1;unfold namesB at hnm;rw [Bool.and_eq_true,Bool.and_eq_true,decide_eq_true_eq,List.all_eq_true] at hnm;have hnames:∀x∈e.names,x.length=32:=fun x hx=>kgd (hnm.1.2 x hx)
 unfold restB at hr;simp only [Bool.and_eq_true,Bool.or_eq_true,decide_eq_true_eq] at hr;obtain ⟨⟨⟨⟨r1,r2⟩,r3⟩,r4⟩,r5⟩:=hr;have haut:=ko0 ha;unfold kindB at hk
 by_cases k1:e.kind=1
 ·rw [if_pos k1] at hk
  simp only [Bool.and_eq_true,decide_eq_true_eq] at hk;have hkey:8≤e.bits∧e.bits≤256∧0≤e.height∧e.height≤6:=by simpa [ket] using hk.2
  have e2:e.pkg=[]:=r2.resolve_left (by omega);have e3:e.digest=[]:=r3.resolve_left (by omega);have e4:=r4.resolve_left (by omega);have e5:e.targets=[]:=r5.resolve_left (by omega);exact ⟨by omega,by omega,haut,hn0,hn1,hnm.1.1,hnames,by rw [kgd hk.1.2];decide,by omega,by omega,by omega,by omega,by simp [e2],by simp [e3],by simp [e4.1.1.1],by simp [e4.1.1.2],by simp [e4.1.2],by omega,by omega,by simp [e5],by simp [e5]⟩
 rw [if_neg k1] at hk;have e1:=r1.resolve_left k1
 by_cases k2:e.kind=2
 ·rw [if_pos k2] at hk
  simp only [Bool.and_eq_true] at hk;have e4:=r4.resolve_left (by omega);have e5:e.targets=[]:=r5.resolve_left (by omega);exact ⟨by omega,by omega,haut,hn0,hn1,hnm.1.1,hnames,by simp [e1.1.1],by omega,by omega,by omega,by omega,ko0 hk.1,by rw [kgd hk.2];decide,by simp [e4.1.1.1],by simp [e4.1.1.2],by simp [e4.1.2],by omega,by omega,by simp [e5],by simp [e5]⟩
 rw [if_neg k2] at hk;have e2:e.pkg=[]:=r2.resolve_left k2
 by_cases k3:e.kind=3
 ·rw [if_pos k3] at hk
  unfold decidesB at hk;simp only [Bool.and_eq_true,decide_eq_true_eq] at hk;have e5:e.targets=[]:=r5.resolve_left (by omega);exact ⟨by omega,by omega,haut,hn0,hn1,hnm.1.1,hnames,by simp [e1.1.1],by omega,by omega,by omega,by omega,by simp [e2],by rw [kgd hk.1.1.2];decide,kk6 hk.1.1.1.1.1,kk6 hk.1.1.1.1.2,kk6 hk.1.1.1.2,hk.1.2,hk.2,by simp [e5],by simp [e5]⟩
 rw [if_neg k3] at hk;have e3:e.digest=[]:=r3.resolve_left (by omega);have e4:=r4.resolve_left k3
 by_cases k4:e.kind=4
 ·rw [if_pos k4] at hk
  simp only [Bool.and_eq_true,decide_eq_true_eq] at hk;refine ⟨by omega,by omega,haut,hn0,hn1,hnm.1.1,hnames,by simp [e1.1.1],by omega,by omega,by omega,by omega,by simp [e2],by simp [e3],by simp [e4.1.1.1],by simp [e4.1.1.2],by simp [e4.1.2],by omega,by omega,by omega,?_⟩
  match ht:e.targets,hk.1 with
  | [x],_ =>
    intro y hy;rw [ht] at hk;rw [List.mem_singleton.1 hy];exact kgd hk.2
 rw [if_neg k4] at hk
 by_cases k5:e.kind=5
 ·rw [if_pos k5] at hk
  simp only [Bool.and_eq_true,decide_eq_true_eq] at hk;refine ⟨by omega,by omega,haut,hn0,hn1,hnm.1.1,hnames,by simp [e1.1.1],by omega,by omega,by omega,by omega,by simp [e2],by simp [e3],by simp [e4.1.1.1],by simp [e4.1.1.2],by simp [e4.1.2],by omega,by omega,by omega,?_⟩
  match ht:e.targets,hk.1.1.1 with
  | [x,z],_ =>
    intro y hy;rw [ht] at hk;rcases List.mem_cons.1 hy with rfl|hy
    ·exact kgd hk.1.1.2
    ·rw [List.mem_singleton.1 hy];exact kgd hk.1.2
 ·rw [if_neg k5] at hk;cases hk
end Licit.Rv
namespace Go.Proofs.YtknpbekoenbphaaGreatDoor
open Go Go.RowKit Licit
theorem kcq (v:Value) (l:List Rv.Ev) (w:World) (h:kbt v l w) (hn:khn v):Calls Tryz.prog 16 #[v] w fun en w'=>∃v' M,en = .returned v'∧ka1 w.heap.size (Fr v' NoB) v' M w'∧ka2 M=l∧Below w.heap.size w w':=by
 obtain ⟨a0,c0,rfl⟩:=h.form;have qT:∀(w:World) (a:Option Addr) (n c n' c':Nat),(binOp .eql 23 (.slice a n c) (.slice none n' c')).run Tryz.prog w = .ok (.bool a.isNone) w:=fun w a n c n' c'=>Lib.run_eql_slice_nil w _ _ a n c n' c' Tryz.underlying23
 have HN:=hdd hn;have HI:=hdd h;have hll:l.length≤100000:=h.1;have HB0:=hdd ((Below.refl w.heap.size w).alloc (Nat.le_refl _) (.cells #[] 45));have HE0:=hdd (ka1.empty (G:=NoB) (base:=w.heap.size) w rfl (Nat.le_refl _))
 cases a0 with
 |none =>
  have h0:l.length=0:=by
   rcases h.2 with ⟨a,c,e,hl⟩|⟨b,off,c,e,_⟩
   ·rw [hl];rfl
   ·cases e
  clear h hn
  go_enter Tryz.func16,Tryz.ntmps16
  go_wp2_with fail
  go_ret
  exact ⟨_,[],rfl,ka1.nil _ _ _,(List.eq_nil_of_length_eq_zero h0).symm,Below.refl _ _⟩
 |some ad =>
  clear h hn
  go_enter Tryz.func16,Tryz.ntmps16
  go_wp2_with (first
   |(at_builtin
     go_loud (
     refine kd0 rfl _ _ rfl (base:=w.heap.size) (G:=NoB) (L:=[]) rfl rfl HE0.out HI.out HB0.out (fun q hq=>by
      rcases hq with hq|hq
      ·cases hq;exact Nat.le_refl _
      ·exact hq.elim) HN.out (by simp;omega) (by simp) ?_
     intro v7 w4 M hM hO4 hg4 hq4;have HB4:=hdd (HB0.out.grown hg4 (by simp) (fun q hq=>by cases hq;exact Nat.le_refl _));rw [List.nil_append] at hO4;have HO4:=hdd hO4;have HMe:=hdd hM;clear hM hO4 hg4 hq4))
   |fail)
  go_ret
  exact ⟨_,M,rfl,HO4.out,HMe.out,HB4.out⟩
theorem ka1.mono_base {b b':Nat} {F:Nat→Prop} {v:Value} {L:List EvX} {w:World} (h:ka1 b F v L w) (hb:b'≤b):ka1 b' F v L w:=⟨kbh h.row hb,h.safe⟩
def kxc (D:List Dd) (b:Nat) (X:List Rv.Ev) (w:World) (en:Ending) (w':World):Prop:=∃(v:Value) (ok:Bool),en = .returned (.tuple #[v,.bool ok])∧Below w.heap.size w w'∧(ok=true→∃(L L0:List EvX) (l1:List Rv.Ev),ka1 w.heap.size (Fr v NoB) v L w'∧L.length≤17∧(∀x∈L,kdz 1001 x.e)∧kfe L0∧L0.length≤12∧ka2 L=l1++X∧(b % 12=0∨b % 12=11→l1=ka2 L0))
theorem kfe.tiny {L:List EvX} (h:kfe L):∀x∈L,kdz 1000 x.e:=fun x hx=>by
 have hi:=Rv.valid_in (h.valid x hx);have hs:=h.sg x hx;refine ⟨Nat.le_trans hi.answer (by omega),Nat.le_trans hi.names (by omega),Nat.le_trans hi.aims (by omega),?_,?_,?_⟩ <;> rw [hs] <;> decide
theorem kqs {e:Rv.Ev} (h:kdn e=true):kdz 1001 e:=by
 unfold kdn at h;rw [Bool.and_eq_true,Bool.and_eq_true,Bool.and_eq_true,Bool.and_eq_true,Bool.and_eq_true] at h;have h1:=(khg h.1.1.1).1;have h2:=(khg h.1.1.2).1;have h3:=(khg h.1.2).2;have h4:=h.2;refine ⟨Nat.le_trans (h3 e.answer (by simp)) (by omega),by omega,by omega,?_,?_,?_⟩
 all_goals
  unfold kpp at h4;simp only [Bool.and_eq_true,decide_eq_true_eq] at h4;omega
theorem klj (vd ve:Value) (D:List Dd) (b a:Nat) (X:List Rv.Ev) (w:World) (hD:kfs vd D w) (hE:kc0 ve X w) (hn:khn ve) (hb:b<256) (ha:a<256) :
 Calls Tryz.prog 13 #[.agg #[vd,.int .u8 (b:Int),.int .u8 (a:Int),ve]] w (kxc D b X w):=by
 obtain ⟨ad,cd,rfl⟩:=hD.form;obtain ⟨ae,ce,rfl⟩:=hE.form
 have hF:∀W,W=w.alloc (.cells #[.slice ad D.length cd,.int .u8 (b:Int),.int .u8 (a:Int),.slice ae X.length ce] 25)→Below w.heap.size w W∧W.heap[w.heap.size]? = some (.cells #[.slice ad D.length cd,.int .u8 (b:Int),.int .u8 (a:Int),.slice ae X.length ce] 25 (0,0)):=by
  rintro _ rfl;exact ⟨(Below.refl _ _).alloc (Nat.le_refl _) _,kai _ _⟩
 obtain ⟨t,ht⟩:∃t,w.heap.size=t:=⟨_,rfl⟩;have HTt:=hdd ht;have HD:=hdd (fun (W:World) (h:Below w.heap.size w W)=>hD.below h);have HE:=hdd (fun (W:World) (h:Below w.heap.size w W)=>hE.below h);have HNe:=hdd hn;obtain ⟨r,hr⟩:∃r,b % 12=r:=⟨_,rfl⟩;have hr12:r<12:=by omega
 have hrm:(b:Int).tmod 12=(r:Int):=by rw [Int.tmod_eq_emod_of_nonneg (by omega)];omega
 have hwr:IntKind.i64.wrap (r:Int)=(r:Int):=by rw [IntKind.wrap_i64];omega
 have hwu:IntKind.u8.wrap (r:Int)=(r:Int):=by rw [IntKind.wrap_u8];omega
 have hwa:IntKind.i64.wrap (a:Int)=(a:Int):=by rw [IntKind.wrap_i64];omega
 have HR:=hdd hr;clear hD hE hn ht hr
 go_enter Tryz.func13,Tryz.ntmps13
 go_upto_region 1 with fail
 generalize hw1:w.alloc (.cells #[.slice ad D.length cd,.int .u8 (b:Int),.int .u8 (a:Int),.slice ae X.length ce] 25)=w1;obtain ⟨hb1,hT1⟩:=hF w1 hw1.symm;rw [HTt.out] at hT1 ⊢;have HB1:=hdd hb1;have HT1:=hdd hT1;have c0:w1.cell? ⟨t,0,none⟩=some (.slice ad D.length cd):=by rw [kaa hT1];rfl
 have c3:w1.cell? ⟨t,3,none⟩=some (.slice ae X.length ce):=by rw [kaa hT1];rfl
 have HFw:=hdd (kul (.slice ae X.length ce) X 4 w1 (HE.out w1 hb1) (by decide));clear hF hw1 hb1 hT1
 by_cases h12:12<D.length
 ·have d0:(12:Int)<(D.length:Int):=by omega
  go_wp2_with fail
  go_ret2
  exact ⟨_,false,rfl,HB1.out,fun h=>by cases h⟩
 have d0:¬ (12:Int)<(D.length:Int):=by omega
 go_wp2_with (first
  |(go_at_call 47
    go_loud (
    refine (HFw.out).mono ?_;rintro en w2 ⟨ok,rfl,hok,hb2⟩;have HOk:=hdd hok;have HB2:=hdd hb2;have HT2:=bhh hb2 HT1;clear hok hb2 c0 c3
    cases ok))
  |fail)
 ·go_ret2
  exact ⟨_,false,rfl,HB1.out.next HB2.out,fun h=>by cases h⟩
 have HSm:=hdd (HOk.out (by trivial));have hbw2:=HB1.out.next HB2.out;have HBw2:=hdd hbw2
 have HS:=hdd (fun (W:World) (hB:Below w2.heap.size w2 W)=>by
  have h:=kab hB (kad HT2.out) HT2.out;exact And.intro (show W.cell? ⟨t,0,none⟩=some (.slice ad D.length cd) by rw [kaa h];rfl) (And.intro (show W.cell? ⟨t,1,none⟩=some (.int .u8 (b:Int)) by rw [kaa h];rfl) (And.intro (show W.cell? ⟨t,2,none⟩=some (.int .u8 (a:Int)) by rw [kaa h];rfl) (show W.cell? ⟨t,3,none⟩=some (.slice ae X.length ce) by rw [kaa h];rfl))))
 clear hbw2 d0;refine kaj (S:=fun W=>W.cell? ⟨t,0,none⟩=some (.slice ad D.length cd)∧W.cell? ⟨t,1,none⟩=some (.int .u8 (b:Int))∧W.cell? ⟨t,2,none⟩=some (.int .u8 (a:Int))∧W.cell? ⟨t,3,none⟩=some (.slice ae X.length ce)) (by kernel_rfl) (HS.out w2.drew (Below.refl _ _).drew) (fun hHeld=>?_);have hbz:Below w2.heap.size w2 w2.drew:=(Below.refl _ _).drew;generalize w2.drew=wz at hbz hHeld ⊢;simp only [List.toList_toArray,len,kat]
 iterate 2 (refine tz 0 ?_;simp only [Act.put,s1,s2,s3])
 iterate 7 (refine tz 3 ?_;simp only [Act.put,s1,s2,s3])
 iterate 2 (refine tz 11 ?_;simp only [Act.put,s1,s2,s3])
 refine ar2 2 (by kernel_rfl) rfl (fun K hK=>?_);go_simp
 refine (kpb _ D wz (HD.out _ (HBw2.out.next hbz))).mono ?_;rintro en w3 ⟨v3,L0,rfl,hO3,hl3,hok3,hb3⟩;have hbz3:=hbz.next hb3;clear hHeld;refine hK.out _ _ (HS.out _ hbz3) (fun hHeld=>?_);clear hK K
 try simp only [Act.put,s1,s2,s3,s4,s5,s6]
 refine ar2 10 (by kernel_rfl) rfl (fun K hK=>?_);go_simp
 refine (kvv v3 L0 _ r a w3 hO3 hok3.nice (by omega) hok3.tiny (by omega)).mono ?_;rintro en w4 ⟨v4,L1,rfl,hO4,hl4,hev4,hti4,hb4⟩;have hbz4:=hbz3.next hb4;clear hHeld;refine hK.out _ _ (HS.out _ hbz4) (fun hHeld=>?_);clear hK K
 try simp only [Act.put,s1,s2,s3,s4,s5,s6]
 refine ar2 13 (by kernel_rfl) rfl (fun K hK=>?_);have hI:=(HE.out w2 HBw2.out).is (by have:=HSm.out.1;omega) HSm.out.2
 refine kjf rfl _ _ rfl (base:=w3.heap.size) (G:=NoB) (u:=v4) (v:=.slice ae X.length ce) (L:=L1) (l:=X) (w0:=w2) rfl rfl hO4 hI hbz4 (fun q hq=>by
  rcases hq with hq|hq
  ·exact Nat.le_trans hbz3.size (hO4.row.lt q hq).1
  ·exact hq.elim) HNe.out (by have:=HSm.out.1;rw [kbd] at hl4;omega) hb4.size ?_
 intro v5 w5 M hM hO5 hg5 hq5;have hbz5:Below w2.heap.size w2 w5:=hbz4.grown hg5 hbz4.size (fun q hq=>Nat.le_trans hbz3.size (hO4.row.lt q hq).1);clear hHeld;refine hK.out _ _ (HS.out _ hbz5) (fun hHeld=>?_);have HO5:=hdd (ka1.mono_base hO5 (show w.heap.size≤w3.heap.size from Nat.le_trans HBw2.out.size hbz3.size));have HB5:=hdd (HBw2.out.next hbz5);have HX:=hdd (And.intro hM (And.intro hl3 (And.intro hok3 (And.intro hl4 (And.intro hev4 hti4)))));clear hK K
 try simp only [Act.put,s1,s2,s3,s4,s5,s6]
 clear hM hO5 hg5 hq5 hl3 hok3 hl4 hev4 hti4 hO4 hO3 hI hb3 hb4 hbz hbz3 hbz4 hbz5
 iterate 2 (refine tz 14 ?_;simp only [Act.put,s1,s2,s3])
 refine wpAnyH_done (by kernel_rfl) ?_ _
 try simp only [Exit.then]
 go_wp2_with fail
 go_ret2
 obtain ⟨hM,hl3,hok3,hl4,hev4,hti4⟩:=HX.out;have hXl:=HSm.out.1;have hMl:M.length=X.length:=by rw [←hM,kbd]
 rw [kbd] at hl4;refine ⟨_,true,rfl,HB5.out,fun _=>⟨L1++M,L0,ka2 L1,HO5.out,by rw [List.length_append];omega,fun x hx=>?_,hok3,hl3,by rw [←hM];simp [ka2],fun h=>hev4 (by have:=HR.out;omega)⟩⟩;rcases List.mem_append.1 hx with hx|hx
 ·exact hti4 x hx
 ·have hm:x.e∈X:=hM ▸ List.mem_map.2 ⟨x,hx,rfl⟩
  obtain ⟨i,hi,he⟩:=List.getElem_of_mem hm;have h1:=HSm.out.2 i hi;rw [List.getD_eq_getElem?_getD,List.getElem?_eq_getElem hi,Option.getD_some,he] at h1;exact kqs h1
section
variable {l:List Rv.Ev} {ids:List Bs} (h:¬ 1024<l.length)
include h
end
abbrev vNt (k:Nat):Value:=.int .i64 (k:Int)
structure kz9 (l:List Rv.Ev) (S:Rv.Stt) (vI vR vP vO:Value) (pv:Nat→Value) (w:World):Prop where
 ids:IsSl vI ((Rv.idsOf l).map vS) w
 ranks:IsSl vR (S.map rkV) w
 pasts:IsSl vP ((List.range l.length).map pv) w
 rows:∀i,i<l.length→IsSl (pv i) ((kia S i).map vBo) w
 ord:IsSl vO ((Rv.ordI S (Rv.idsOf l)).map vNt) w
def kgw:Prop:=∀W:World,Tab W→Calls Tryz.prog 14 #[] W fun en w'=>en = .returned (.bool true)∧Below W.heap.size W w'
end Go.Proofs.YtknpbekoenbphaaGreatDoor
namespace Licit
open Go Go.RowKit
open Go.ChangeShapes Go.WideShapes Go.ChangeAt
section
variable {P:Program} {H:Type} {enc:TypeId × Value→H} {W:World} {r:Reach} {b0 base:Nat} {sp:Nat→Bool} {held:Bool} {t e:TypeId} {v:Value} {d:DataW H} {ps:List MemPlace}
theorem kwj {a:Addr} {x:Value} (h:W.cell? a=some x) (i:Nat):a.add i=⟨a.block,a.off+i,none⟩:=by
 have hs:a.spot=none:=by
  unfold World.cell? at h;split at h
  ·cases hs:a.spot with
   |none=>rfl
   |some s=>simp [hs] at h
  ·cases h
 unfold Addr.add
 cases a with
 |mk b o s =>
  simp only at hs;subst hs;split
  ·rename_i h0;subst h0;rfl
  ·rfl
theorem kki {a:Addr} {cap:Nat} {xs:List Value} (hm:xs.length≤maxLen) (hc:∀i,i<xs.length→W.cell? (a.add i)=xs[i]?):IsSl (.slice (some a) xs.length cap) xs W:=by
 refine ⟨hm,?_⟩
 by_cases h0:xs.length=0
 ·exact .inl ⟨_,cap,by rw [h0],List.eq_nil_of_length_eq_zero h0⟩
 ·have hx0:=hc 0 (by omega)
  have hadd:a.add 0=a:=by simp [Addr.add]
  rw [hadd,List.getElem?_eq_getElem (by omega)] at hx0;have hA:=fun i=>kwj hx0 i
  have ha:a=⟨a.block,a.off,none⟩:=by have:=hA 0;rw [hadd] at this;exact this
  refine .inr ⟨a.block,a.off,cap,by rw [←ha],by omega,fun i hi=>?_⟩;rw [←hA i];exact hc i hi
theorem kd6 {fuel:Nat} {y:DataW H × List MemPlace} (ht:P.underlying t=some (.slice e)) (he:P.underlying e=some .string) (hc:P.cellsOf e=1) (hf:DataW.trod enc P W base (fun _=>true) held fuel t [v]=some y) :
 ∃xs:List Bs,IsSl v (xs.map vS) W∧∀x∈xs,x.length≤maxLen:=by
 rcases open_strings ht he hc hf with ⟨hcs,hx⟩|⟨a,len',cap',zs,hcs,_,hl,hm,hz,hx,hcell,hwz⟩
 ·simp only [List.cons.injEq,and_true] at hcs
  subst hcs;exact ⟨[],⟨by simp,.inl ⟨none,0,rfl,rfl⟩⟩,by simp⟩
 ·simp only [List.cons.injEq,and_true] at hcs
  subst hcs;simp only [if_true] at hz;have hlen:(((zs.take len').map fun s=>s.data.toList).map vS).length=len':=by simp;omega
  refine ⟨(zs.take len').map fun s=>s.data.toList,?_,fun x hx=>?_⟩
  ·have:=kki (W:=W) (a:=a) (cap:=cap') (xs:=((zs.take len').map fun s=>s.data.toList).map vS) (by rw [hlen];omega) (fun i hi=>by
    rw [hlen] at hi;rw [hcell i (by omega)];simp [vS,hi,List.getD,List.getElem?_eq_getElem (show i<zs.length by omega),kzh])
   rwa [hlen] at this
  ·obtain ⟨s,hs,rfl⟩:=List.mem_map.1 hx
   exact hwz s (List.mem_of_mem_take hs)
end
end Licit
namespace Go.Proofs.YtknpbekoenbphaaGreatDoor
open Go Go.RowKit Licit
open Go.ChangeShapes Go.WideShapes Go.ChangeAt
theorem own:ownKnob Tryz.prog.godebug=none:=by kernel_rfl
theorem kxe:laidOutB Tryz.prog=true:=by kernel_rfl
abbrev ko6 : List (String × DataW Unit) := [("math/bits.deBruijn32tab", Rows.laid_math_bits_deBruijn32tab), ("math/bits.deBruijn64tab", Rows.laid_math_bits_deBruijn64tab), ("internal/strconv.uint64pow10", Rows.laid_internal_strconv_uint64pow10)]
theorem kok {W:World} (h:laidMetH Tryz.prog ko6 W):Tab W:=by
 have h':laidMet Tryz.prog ko6 W:=h;have h2:=h'.tail.tail
 have ht : Lib.TabIs Tryz.prog W "internal/strconv.uint64pow10" .u64 Lib.pow10Tab :=
  Lib.tabIs_of_head (rest:=[]) (g:=0) (t:=293) (e:=209) (n:=20) ko4 (by kernel_rfl) Tryz.underlying293 Tryz.underlying209 (by kernel_rfl) (by kernel_rfl) h2
 exact ⟨ht,World.block_lt_of_cell? W _ (ht.cell ko4 0 (by decide))⟩
theorem kkg {H:Type} {enc:TypeId × Value→H} {W W':World} (hb:Below W.heap.size W W') (ts:List TypeId):∀(vs:List Value) (ds:List (DataW H)) (ps:List MemPlace),
 ts.all (fun t=>Tryz.prog.readableRec t && decide (t<Tryz.prog.types.size))=true→DataW.TrodAll enc Tryz.prog W 0 (fun _=>true) true ts vs ds ps→(∀x∈ps,x.block<W.heap.size) →
 DataW.TrodAll enc Tryz.prog W' 0 (fun b=>decide (b<W.heap.size)) true ts vs ds ps:=by
 induction ts with
 |nil =>
  intro vs ds ps _ h _;obtain ⟨rfl,rfl,rfl⟩:=trodAll_nil h;exact trodAll_mk0
 |cons t ts ih =>
  intro vs ds ps hr h hlt;obtain ⟨v,vs',d,ds',p,q,rfl,rfl,rfl,h0,h1⟩:=trodAll_cons h;simp only [List.all_cons,Bool.and_eq_true,decide_eq_true_eq] at hr
  exact trodAll_cons_mk (Below.trod kxe hr.1.1 hr.1.2 h0 hb (fun x hx=>hlt x (List.mem_append_left _ hx)))
   (ih vs' ds' q hr.2 h1 (fun x hx=>hlt x (List.mem_append_right _ hx)))
theorem kid {H:Type} {enc:TypeId × Value→H} {f:Func} {s:ChangeSpec} {W W':World} {args:Array Value} {ds gs:List (DataW H)} {before:List MemPlace}
 (hW:DataW.Whole enc Tryz.prog f.params.toList s.vars false W args.toList ds gs before) (hv:s.vars=[]) (hres:f.resultTypes.toList=[4])
 (hr:f.params.toList.all (fun t=>Tryz.prog.readableRec t && decide (t<Tryz.prog.types.size))=true)
 (hs:s.fn H (ds++[]) = { results:=[.lit (.bool true)],args:=ds }) (hb:Below W.heap.size W W') :
 s.post enc Tryz.prog f false true false false W args (.bool true) W':=by
 have hlt:∀x∈before,x.block<W.heap.size:=fun x hx=>by simpa using hW.lt x hx
 have hW':=hW;obtain ⟨p,q,hA,hV,rfl,_,_⟩:=hW;rw [hv] at hV;obtain ⟨rfl,rfl⟩:=trodVars_none hV;have hs':s.fn H (ds++[]) = { results:=[.lit (.bool true)],args:=ds }:=hs;refine ⟨ds,[],p++[],[],p,[],hW',?_,?_,?_,hb.frame _,fun h=>by cases h⟩
 ·rw [hres,hs']
  have h1:f.resultTypes.size=1:=by rw [←Array.length_toList,hres];rfl
  rw [h1];exact trodAll_mk1 (shut_bool Tryz.underlying4 _)
 ·rw [hs']
  exact kkg hb _ _ _ _ hr hA (fun x hx=>hlt x (by simpa using hx))
 ·rw [hs',hv];rfl
def kx0 (cs:Array Value):Obj→Obj
 |.cells _ t frozen=>.cells cs t frozen
 |o=>o
noncomputable def kb4 (os:Os):World :=
 let w:=World.holding Tryz.prog os ⟨#[],#[],[]⟩
 { w with heap:=((w.heap.modify 0 (kx0 #[.int .u64 1,.int .u64 10,.int .u64 100,.int .u64 1000,.int .u64 10000,.int .u64 100000,.int .u64 1000000,.int .u64 10000000,.int .u64 100000000,.int .u64 1000000000,.int .u64 10000000000,.int .u64 100000000000,.int .u64 1000000000000,.int .u64 10000000000000,.int .u64 100000000000000,.int .u64 1000000000000000,.int .u64 10000000000000000,.int .u64 100000000000000000,.int .u64 1000000000000000000,.int .u64 10000000000000000000])).modify 1 (kx0 #[.int .u8 0,.int .u8 1,.int .u8 28,.int .u8 2,.int .u8 29,.int .u8 14,.int .u8 24,.int .u8 3,.int .u8 30,.int .u8 22,.int .u8 20,.int .u8 15,.int .u8 25,.int .u8 17,.int .u8 4,.int .u8 8,.int .u8 31,.int .u8 27,.int .u8 13,.int .u8 23,.int .u8 21,.int .u8 19,.int .u8 16,.int .u8 7,.int .u8 26,.int .u8 12,.int .u8 18,.int .u8 6,.int .u8 11,.int .u8 5,.int .u8 10,.int .u8 9])).modify 2 (kx0 #[.int .u8 0,.int .u8 1,.int .u8 56,.int .u8 2,.int .u8 57,.int .u8 49,.int .u8 28,.int .u8 3,.int .u8 61,.int .u8 58,.int .u8 42,.int .u8 50,.int .u8 38,.int .u8 29,.int .u8 17,.int .u8 4,.int .u8 62,.int .u8 47,.int .u8 59,.int .u8 36,.int .u8 45,.int .u8 43,.int .u8 51,.int .u8 22,.int .u8 53,.int .u8 39,.int .u8 33,.int .u8 30,.int .u8 24,.int .u8 18,.int .u8 12,.int .u8 5,.int .u8 63,.int .u8 55,.int .u8 48,.int .u8 27,.int .u8 60,.int .u8 41,.int .u8 37,.int .u8 16,.int .u8 46,.int .u8 35,.int .u8 44,.int .u8 21,.int .u8 52,.int .u8 32,.int .u8 23,.int .u8 11,.int .u8 54,.int .u8 26,.int .u8 40,.int .u8 15,.int .u8 34,.int .u8 20,.int .u8 31,.int .u8 10,.int .u8 25,.int .u8 14,.int .u8 19,.int .u8 9,.int .u8 13,.int .u8 8,.int .u8 7,.int .u8 6]) }
end Go.Proofs.YtknpbekoenbphaaGreatDoor
namespace Go.Proofs.YtknpbekoenbphaaGreatDoor
open Go Go.RowKit Licit
open Go.ChangeShapes Go.WideShapes Go.ChangeAt
open Go.ChangeMaps (open_string)
section
variable {H:Type} {enc:TypeId × Value→H} {P:Program} {W:World} {base:Nat} {sp:Nat→Bool} {held:Bool} {r:Reach} {b0:Nat} {v:Value} {d:DataW H} {ps:List MemPlace}
def vB (t:Bool):Value:=.bool t
end
end Go.Proofs.YtknpbekoenbphaaGreatDoor
namespace Go.Proofs.YtknpbekoenbphaaGreatDoor
open Go Go.RowKit Licit
open Go.ChangeShapes Go.WideShapes Go.ChangeAt
section
variable {H:Type} {enc:TypeId × Value→H} {P:Program} {W:World} {base:Nat} {sp:Nat→Bool} {held:Bool} {r:Reach} {b0:Nat} {v:Value} {d:DataW H} {ps:List MemPlace}
theorem kf8 {t:TypeId} {fs:Array Field} {fuel:Nat} {cs:List Value} {x:DataW H × List MemPlace} (ht:P.underlying t=some (.struct fs)) (h:DataW.trod enc P W base sp held fuel t cs=some x) :
 ∃n,cs.length=P.cellsOf t∧∀(i:Nat) (f:Field),fs[i]? = some f→∃y,DataW.trod enc P W base sp held n f.type ((cs.drop f.offset).take (P.cellsOf f.type))=some y:=by
 obtain ⟨xs,n,_,rfl,hl,hlen,hf⟩:=DataW.trod_struct ht h;refine ⟨n,hl,fun i f hi=>?_⟩
 have hlt:i<fs.size:=by
  rcases Nat.lt_or_ge i fs.size with h|h
  ·exact h
  ·rw [Array.getElem?_eq_none h] at hi;cases hi
 exact ⟨xs[i]'(by omega),by rw [hf i f hi];exact List.getElem?_eq_getElem (by omega)⟩
theorem kti {t:TypeId} {f0 f1 f2 f3 f4 f5 f6 f7 f8 f9 f10 f11 f12 f13:Field} {fuel:Nat} {cs:List Value} {x:DataW H × List MemPlace} (ht:P.underlying t=some (.struct #[f0,f1,f2,f3,f4,f5,f6,f7,f8,f9,f10,f11,f12,f13])) (h:DataW.trod enc P W base sp held fuel t cs=some x) :
 ∃n,cs.length=P.cellsOf t∧(∃y,DataW.trod enc P W base sp held n f0.type ((cs.drop f0.offset).take (P.cellsOf f0.type))=some y)∧(∃y,DataW.trod enc P W base sp held n f1.type ((cs.drop f1.offset).take (P.cellsOf f1.type))=some y)∧(∃y,DataW.trod enc P W base sp held n f2.type ((cs.drop f2.offset).take (P.cellsOf f2.type))=some y)∧(∃y,DataW.trod enc P W base sp held n f3.type ((cs.drop f3.offset).take (P.cellsOf f3.type))=some y)∧(∃y,DataW.trod enc P W base sp held n f4.type ((cs.drop f4.offset).take (P.cellsOf f4.type))=some y)∧(∃y,DataW.trod enc P W base sp held n f5.type ((cs.drop f5.offset).take (P.cellsOf f5.type))=some y)∧(∃y,DataW.trod enc P W base sp held n f6.type ((cs.drop f6.offset).take (P.cellsOf f6.type))=some y)∧(∃y,DataW.trod enc P W base sp held n f7.type ((cs.drop f7.offset).take (P.cellsOf f7.type))=some y)∧(∃y,DataW.trod enc P W base sp held n f8.type ((cs.drop f8.offset).take (P.cellsOf f8.type))=some y)∧(∃y,DataW.trod enc P W base sp held n f9.type ((cs.drop f9.offset).take (P.cellsOf f9.type))=some y)∧(∃y,DataW.trod enc P W base sp held n f10.type ((cs.drop f10.offset).take (P.cellsOf f10.type))=some y)∧(∃y,DataW.trod enc P W base sp held n f11.type ((cs.drop f11.offset).take (P.cellsOf f11.type))=some y)∧(∃y,DataW.trod enc P W base sp held n f12.type ((cs.drop f12.offset).take (P.cellsOf f12.type))=some y)∧(∃y,DataW.trod enc P W base sp held n f13.type ((cs.drop f13.offset).take (P.cellsOf f13.type))=some y):=by
 obtain ⟨n,hl,hF⟩:=kf8 ht h;exact ⟨n,hl,hF 0 f0 rfl,hF 1 f1 rfl,hF 2 f2 rfl,hF 3 f3 rfl,hF 4 f4 rfl,hF 5 f5 rfl,hF 6 f6 rfl,hF 7 f7 rfl,hF 8 f8 rfl,hF 9 f9 rfl,hF 10 f10 rfl,hF 11 f11 rfl,hF 12 f12 rfl,hF 13 f13 rfl⟩
theorem kow {t:TypeId} {f0 f1 f2 f3:Field} {fuel:Nat} {cs:List Value} {x:DataW H × List MemPlace} (ht:P.underlying t=some (.struct #[f0,f1,f2,f3])) (h:DataW.trod enc P W base sp held fuel t cs=some x) :
 ∃n,cs.length=P.cellsOf t∧(∃y,DataW.trod enc P W base sp held n f0.type ((cs.drop f0.offset).take (P.cellsOf f0.type))=some y)∧(∃y,DataW.trod enc P W base sp held n f1.type ((cs.drop f1.offset).take (P.cellsOf f1.type))=some y)∧(∃y,DataW.trod enc P W base sp held n f2.type ((cs.drop f2.offset).take (P.cellsOf f2.type))=some y)∧(∃y,DataW.trod enc P W base sp held n f3.type ((cs.drop f3.offset).take (P.cellsOf f3.type))=some y):=by
 obtain ⟨n,hl,hF⟩:=kf8 ht h;exact ⟨n,hl,hF 0 f0 rfl,hF 1 f1 rfl,hF 2 f2 rfl,hF 3 f3 rfl⟩
theorem ky4 {α:Type} {l:List α} (h:l.length=18):∃c0 c1 c2 c3 c4 c5 c6 c7 c8 c9 c10 c11 c12 c13 c14 c15 c16 c17,l=[c0,c1,c2,c3,c4,c5,c6,c7,c8,c9,c10,c11,c12,c13,c14,c15,c16,c17]:=by
 match l,h with
 | [c0,c1,c2,c3,c4,c5,c6,c7,c8,c9,c10,c11,c12,c13,c14,c15,c16,c17],_=>exact ⟨c0,c1,c2,c3,c4,c5,c6,c7,c8,c9,c10,c11,c12,c13,c14,c15,c16,c17,rfl⟩
theorem kpy {fuel:Nat} {cs:List Value} {x:DataW H × List MemPlace} (hf:DataW.trod enc Tryz.prog W base (fun _=>true) held fuel 45 cs=some x):cs.length=18∧∃e,klp (.agg cs.toArray) e W:=by
 obtain ⟨n,hl,⟨y0,h0⟩,⟨y1,h1⟩,⟨y2,h2⟩,⟨y3,h3⟩,⟨y4,h4⟩,⟨y5,h5⟩,⟨y6,h6⟩,⟨y7,h7⟩,⟨y8,h8⟩,⟨y9,h9⟩,⟨y10,h10⟩,⟨y11,h11⟩,⟨y12,h12⟩,⟨y13,h13⟩⟩:=kti Tryz.underlying45 hf;have e1:Tryz.prog.cellsOf 9=1:=by kernel_rfl
 have e2:Tryz.prog.cellsOf 3=1:=by kernel_rfl
 have e3:Tryz.prog.cellsOf 39=1:=by kernel_rfl
 have e4:Tryz.prog.cellsOf 41=2:=by kernel_rfl
 have e5:Tryz.prog.cellsOf 43=4:=by kernel_rfl
 have e6:Tryz.prog.cellsOf 45=18:=by kernel_rfl
 obtain ⟨c0,c1,c2,c3,c4,c5,c6,c7,c8,c9,c10,c11,c12,c13,c14,c15,c16,c17,rfl⟩:=ky4 (hl.trans e6);refine ⟨rfl,?_⟩;simp only [e1,e2,e3,e4,e5,List.drop_zero,List.drop_succ_cons,List.take_succ_cons,List.take_zero] at h0 h1 h2 h3 h4 h5 h6 h7 h8 h9 h10 h11 h12 h13;obtain ⟨i0,g0,_,_⟩:=DataW.trod_int Tryz.underlying3 h0;obtain ⟨s1,g1,_,_⟩:=DataW.trod_string Tryz.underlying9 h1;obtain ⟨i2,g2,_,_⟩:=DataW.trod_int Tryz.underlying3 h2;obtain ⟨l3,g3,_⟩:=kd6 Tryz.underlying39 Tryz.underlying9 (by kernel_rfl) h3;obtain ⟨s4,g4,_,_⟩:=DataW.trod_string Tryz.underlying9 h4;obtain ⟨z0,z1,k,_,_,k0,k1⟩:=trod_struct2 Tryz.underlying41 h5;simp only [e2,List.drop_zero,List.drop_succ_cons,List.take_succ_cons,List.take_zero] at k0 k1;obtain ⟨i5,g5,_,_⟩:=DataW.trod_int Tryz.underlying3 k0;obtain ⟨i6,g6,_,_⟩:=DataW.trod_int Tryz.underlying3 k1;obtain ⟨s7,g7,_,_⟩:=DataW.trod_string Tryz.underlying9 h6;obtain ⟨s8,g8,_,_⟩:=DataW.trod_string Tryz.underlying9 h7;obtain ⟨s9,g9,_,_⟩:=DataW.trod_string Tryz.underlying9 h8;obtain ⟨s10,g10,_,_⟩:=DataW.trod_string Tryz.underlying9 h9;obtain ⟨s11,g11,_,_⟩:=DataW.trod_string Tryz.underlying9 h10;obtain ⟨i12,g12,_,_⟩:=DataW.trod_int Tryz.underlying3 h11;obtain ⟨l13,g13,_⟩:=kd6 Tryz.underlying39 Tryz.underlying9 (by kernel_rfl) h12;obtain ⟨m,_,⟨q0,p0⟩,⟨q1,p1⟩,⟨q2,p2⟩,⟨q3,p3⟩⟩:=kow Tryz.underlying43 h13;simp only [e2,e3,List.drop_zero,List.drop_succ_cons,List.take_succ_cons,List.take_zero] at p0 p1 p2 p3;obtain ⟨i14,g14,_,_⟩:=DataW.trod_int Tryz.underlying3 p0;obtain ⟨l15,g15,_⟩:=kd6 Tryz.underlying39 Tryz.underlying9 (by kernel_rfl) p1;obtain ⟨l16,g16,_⟩:=kd6 Tryz.underlying39 Tryz.underlying9 (by kernel_rfl) p2;obtain ⟨l17,g17,_⟩:=kd6 Tryz.underlying39 Tryz.underlying9 (by kernel_rfl) p3;simp only [List.cons.injEq,and_true] at g0 g1 g2 g4 g5 g6 g7 g8 g9 g10 g11 g12 g14;obtain ⟨a3,b3,rfl⟩:=g3.formMap;obtain ⟨a13,b13,rfl⟩:=g13.formMap;obtain ⟨a15,b15,rfl⟩:=g15.formMap;obtain ⟨a16,b16,rfl⟩:=g16.formMap;obtain ⟨a17,b17,rfl⟩:=g17.formMap;refine ⟨⟨i0,s1.data.toList,i2,l3,s4.data.toList,i5,i6,s7.data.toList,s8.data.toList,s9.data.toList,s10.data.toList,s11.data.toList,i12,l13,⟨i14,l15,l16,l17⟩⟩,a3,b3,a13,b13,a15,b15,a16,b16,a17,b17,?_,g3,g13,g15,g16,g17⟩;rw [g0,g1,g2,g4,g5,g6,g7,g8,g9,g10,g11,g12,g14];simp only [evW,evS,evV,evC,kzh]
end
end Go.Proofs.YtknpbekoenbphaaGreatDoor
namespace Licit
open Go Go.RowKit
open Go.ChangeShapes Go.WideShapes Go.ChangeAt
section
variable {H:Type} {enc:TypeId × Value→H} {P:Program} {W:World} {base:Nat} {held:Bool} {v:Value}
theorem kjm {t e:TypeId} {k fuel:Nat} {y:DataW H × List MemPlace} (ht:P.underlying t=some (.slice e)) (hk:P.cellsOf e=k) (hk0:0<k) (hf:DataW.trod enc P W base (fun _=>true) held fuel t [v]=some y) :
 v = .slice none 0 0∨∃a n cap,v = .slice (some a) n cap∧n≤cap∧cap≤maxLen∧(0<n→∃b off,a=⟨b,off,none⟩∧b<W.heap.size∧∀i,i<n→∃cs m x,cs.length=k∧(∀j u,cs[j]? = some u→W.cell? ⟨b,(off+i*k)+j,none⟩=some u)∧DataW.trod enc P W base (fun _=>true) held m e cs=some x):=by
 rcases DataW.trod_slice ht hf with ⟨h,_⟩|⟨a,n,cap,els,rest,m,_,h,_,_,hn,hc,hl,hel,_,_⟩
 ·simp only [List.cons.injEq,and_true] at h
  exact .inl h
 ·simp only [List.cons.injEq,and_true] at h
  refine .inr ⟨a,n,cap,h,hn,hc,fun h0=>?_⟩;rw [hk] at hel
  have hcs:∀i,i<n→∃cs x,W.cells? base (a.add (i*k)) k=some cs∧DataW.trod enc P W base (fun _=>true) held m e cs=some x:=fun i hi=>by
   have h1:=hel i hi;rw [List.getElem?_eq_getElem (by omega)] at h1;obtain ⟨cs,h2,h3⟩:=Option.bind_eq_some_iff.1 h1;exact ⟨cs,_,h2,h3⟩
  have hadd0:a.add (0*k)=a:=by rw [Nat.zero_mul];simp [Addr.add]
  obtain ⟨cs0,x0,hc0,_⟩:=hcs 0 h0;rw [hadd0] at hc0;have hblk:=World.cells?_block hc0 hk0;obtain ⟨_,hl0,hce0⟩:=World.cells?_some hc0;have hA0:=hce0 0 hk0;have hadd1:a.add 0=a:=by simp [Addr.add]
  rw [hadd1,List.getElem?_eq_getElem (by omega)] at hA0;have hA:=fun i=>kwj hA0 i
  have ha:a=⟨a.block,a.off,none⟩:=by have:=hA 0;rw [hadd1] at this;exact this
  refine ⟨a.block,a.off,ha,hblk,fun i hi=>?_⟩;obtain ⟨cs,x,hci,hx⟩:=hcs i hi;obtain ⟨_,hli,hcei⟩:=World.cells?_some hci;refine ⟨cs,m,x,hli,fun j u hu=>?_,hx⟩
  have hj:j<k:=by
   rcases Nat.lt_or_ge j cs.length with c|c
   ·omega
   ·rw [List.getElem?_eq_none c] at hu;cases hu
  have h1:=hcei j hj;rw [hA (i*k)] at h1;have h2:(⟨a.block,a.off+i*k,none⟩:Addr).add j=⟨a.block,(a.off+i*k)+j,none⟩:=by simp [Addr.add]
  rw [h2,hu] at h1;exact h1
end
end Licit
namespace Go.Proofs.YtknpbekoenbphaaGreatDoor
open Go Go.RowKit Licit
open Go.ChangeShapes Go.WideShapes Go.ChangeAt
section
variable {H:Type} {enc:TypeId × Value→H} {W:World} {base:Nat} {held:Bool} {v:Value}
theorem kn0 {fuel:Nat} {y:DataW H × List MemPlace} (hf:DataW.trod enc Tryz.prog W base (fun _=>true) held fuel 23 [v]=some y):∃l,kc0 v l W∧khn v:=by
 rcases kjm Tryz.underlying23 (by kernel_rfl:Tryz.prog.cellsOf 45=18) (by decide) hf with rfl|⟨a,n,cap,rfl,hn,hc,h⟩
 ·exact ⟨[],⟨by simp,.inl ⟨none,0,rfl,rfl⟩⟩,fun n c e=>by cases e;rfl⟩
 ·rcases Nat.eq_zero_or_pos n with h0|h0
  ·subst h0
   exact ⟨[],⟨by simp,.inl ⟨_,cap,rfl,rfl⟩⟩,fun n c e=>by cases e⟩
  ·obtain ⟨b,off,rfl,hb,he⟩:=h h0
   have hx:∀i:Nat,∃e:Rv.Ev,i<n→kpf b (off+i*18) e W:=fun i=>by
    by_cases c:i<n
    ·obtain ⟨cs,m,x,hl,hcell,hx⟩:=he i c
     obtain ⟨-,e,hr⟩:=kpy hx;refine ⟨e,fun _=>?_⟩;have hr0:=hr;obtain ⟨na,nc,ta,tc,sa,sc,ha,hc',ra,rc,hv,h1⟩:=hr;refine ⟨na,nc,ta,tc,sa,sc,ha,hc',ra,rc,hv ▸ hr0,fun j u hu=>hcell j u ?_⟩
     have h2:cs=(evS e na nc ta tc sa sc ha hc' ra rc).toList:=by
      exact congrArg Array.toList (Value.agg.inj hv)
     rw [h2];exact hu
    ·exact ⟨Rv.ev0,fun h=>absurd h c⟩
   obtain ⟨g,hg⟩:=Classical.axiomOfChoice hx;refine ⟨(List.range n).map g,⟨by rw [List.length_map,List.length_range];omega,.inr ⟨b,off,cap,by rw [List.length_map,List.length_range],by rw [List.length_map,List.length_range];exact h0,hb,fun i hi=>?_⟩⟩,fun n c e=>by cases e⟩;rw [List.length_map,List.length_range] at hi
   have:((List.range n).map g).getD i Rv.ev0=g i:=by simp [List.getD_eq_getElem?_getD,hi]
   rw [this];exact hg i hi
theorem kc8 {k:IntKind} {m:Int} {n:Nat} (h:(Lit.int k m).wf=true) (hk:k.signed=false) (hb:k.max<n):∃x:Nat,m=(x:Int)∧x<n:=by
 simp only [Lit.wf,IntKind.min,hk,Bool.and_eq_true,decide_eq_true_eq] at h;refine ⟨m.toNat,?_,?_⟩
 ·have h1:(0:Int)≤m:=by simpa using h.1
  omega
 ·have h1:(0:Int)≤m:=by simpa using h.1
  have h2:=h.2;omega
theorem k0x {α:Type} {l:List α} (h:l.length=8):∃c0 c1 c2 c3 c4 c5 c6 c7,l=[c0,c1,c2,c3,c4,c5,c6,c7]:=by
 match l,h with
 | [c0,c1,c2,c3,c4,c5,c6,c7],_=>exact ⟨c0,c1,c2,c3,c4,c5,c6,c7,rfl⟩
theorem ks4 {fuel:Nat} {cs:List Value} {x:DataW H × List MemPlace} (hf:DataW.trod enc Tryz.prog W base (fun _=>true) held fuel 129 cs=some x):∃d:Dd,cs=(ddC d).toList:=by
 obtain ⟨n,hl,hF⟩:=kf8 Tryz.underlying129 hf;have e6:Tryz.prog.cellsOf 129=8:=by kernel_rfl
 obtain ⟨c0,c1,c2,c3,c4,c5,c6,c7,rfl⟩:=k0x (hl.trans e6);obtain ⟨y0,h0⟩:=hF 0 _ rfl;obtain ⟨y1,h1⟩:=hF 1 _ rfl;obtain ⟨y2,h2⟩:=hF 2 _ rfl;obtain ⟨y3,h3⟩:=hF 3 _ rfl;obtain ⟨y4,h4⟩:=hF 4 _ rfl;obtain ⟨y5,h5⟩:=hF 5 _ rfl;obtain ⟨y6,h6⟩:=hF 6 _ rfl;have e1:Tryz.prog.cellsOf 5=1:=by kernel_rfl
 have e2:Tryz.prog.cellsOf 127=1:=by kernel_rfl
 have e3:Tryz.prog.cellsOf 51=2:=by kernel_rfl
 simp only [List.getElem_toArray,List.getElem_cons_zero,List.getElem_cons_succ,e1,e2,e3,List.drop_zero,List.drop_succ_cons,List.take_succ_cons,List.take_zero] at h0 h1 h2 h3 h4 h5 h6;obtain ⟨i0,g0,_,b0⟩:=DataW.trod_int Tryz.underlying5 h0;obtain ⟨i1,g1,_,b1⟩:=DataW.trod_int Tryz.underlying5 h1;obtain ⟨i2,g2,_,b2⟩:=DataW.trod_int Tryz.underlying5 h2;obtain ⟨i3,g3,_,b3⟩:=DataW.trod_int Tryz.underlying5 h3;obtain ⟨i4,g4,_,b4⟩:=DataW.trod_int Tryz.underlying5 h4;obtain ⟨i5,g5,_,b5⟩:=DataW.trod_int Tryz.underlying127 h5;obtain ⟨xs,m,_,_,_,hxl,hx⟩:=DataW.trod_array Tryz.underlying51 h6;have x0:=hx 0 (by decide);have x1:=hx 1 (by decide);rw [List.getElem?_eq_getElem (by omega)] at x0 x1;simp only [e1,Nat.zero_mul,Nat.one_mul,List.drop_zero,List.drop_succ_cons,List.take_succ_cons,List.take_zero] at x0 x1;obtain ⟨i6,g6,_,b6⟩:=DataW.trod_int Tryz.underlying5 x0;obtain ⟨i7,g7,_,b7⟩:=DataW.trod_int Tryz.underlying5 x1;simp only [List.cons.injEq,and_true] at g0 g1 g2 g3 g4 g5 g6 g7;obtain ⟨n0,rfl,l0⟩:=kc8 (n:=256) b0 rfl (by decide);obtain ⟨n1,rfl,l1⟩:=kc8 (n:=256) b1 rfl (by decide);obtain ⟨n2,rfl,l2⟩:=kc8 (n:=256) b2 rfl (by decide);obtain ⟨n3,rfl,l3⟩:=kc8 (n:=256) b3 rfl (by decide);obtain ⟨n4,rfl,l4⟩:=kc8 (n:=256) b4 rfl (by decide);obtain ⟨n5,rfl,l5⟩:=kc8 (n:=65536) b5 rfl (by decide);obtain ⟨n6,rfl,l6⟩:=kc8 (n:=256) b6 rfl (by decide);obtain ⟨n7,rfl,l7⟩:=kc8 (n:=256) b7 rfl (by decide);exact ⟨⟨n0,n1,n2,n3,n4,n5,n6,n7,l0,l1,l2,l3,l4,l5,l6,l7⟩,by rw [g0,g1,g2,g3,g4,g5,g6,g7]⟩
def dd0:Dd:=⟨0,0,0,0,0,0,0,0,by decide,by decide,by decide,by decide,by decide,by decide,by decide,by decide⟩
theorem kqt {fuel:Nat} {y:DataW H × List MemPlace} (hf:DataW.trod enc Tryz.prog W base (fun _=>true) held fuel 22 [v]=some y):∃D,kfs v D W:=by
 rcases kjm Tryz.underlying22 (by kernel_rfl:Tryz.prog.cellsOf 129=8) (by decide) hf with rfl|⟨a,n,cap,rfl,hn,hc,h⟩
 ·exact ⟨[],by simp,.inl ⟨none,0,rfl,rfl⟩⟩
 ·rcases Nat.eq_zero_or_pos n with h0|h0
  ·subst h0
   exact ⟨[],by simp,.inl ⟨_,cap,rfl,rfl⟩⟩
  ·obtain ⟨b,off,rfl,hb,he⟩:=h h0
   have hx:∀i:Nat,∃d:Dd,i<n→W.rangeAt b (off+i*8) (ddC d).toList:=fun i=>by
    by_cases c:i<n
    ·obtain ⟨cs,m,x,hl,hcell,hx⟩:=he i c
     obtain ⟨d,hd⟩:=ks4 hx;exact ⟨d,fun _ j u hu=>hcell j u (by rw [hd];exact hu)⟩
    ·exact ⟨dd0,fun h=>absurd h c⟩
   obtain ⟨g,hg⟩:=Classical.axiomOfChoice hx;refine ⟨(List.range n).map g,by rw [List.length_map,List.length_range];omega,.inr ⟨b,off,cap,by rw [List.length_map,List.length_range],by rw [List.length_map,List.length_range];exact h0,hb,fun i hi=>?_⟩⟩;rw [List.length_map,List.length_range] at hi
   have:((List.range n).map g)[i]'(by rw [List.length_map,List.length_range];exact hi)=g i:=by simp
   rw [this];exact hg i hi
theorem k0s {α:Type} {l:List α} (h:l.length=4):∃c0 c1 c2 c3,l=[c0,c1,c2,c3]:=by
 match l,h with
 | [c0,c1,c2,c3],_=>exact ⟨c0,c1,c2,c3,rfl⟩
theorem kmd {fuel:Nat} {cs:List Value} {x:DataW H × List MemPlace} (hf:DataW.trod enc Tryz.prog W base (fun _=>true) held fuel 25 cs=some x) :
 ∃(vd ve:Value) (D:List Dd) (b a:Nat) (X:List Rv.Ev),cs=[vd,.int .u8 (b:Int),.int .u8 (a:Int),ve]∧kfs vd D W∧kc0 ve X W∧khn ve∧b<256∧a<256:=by
 obtain ⟨n,hl,⟨y0,h0⟩,⟨y1,h1⟩,⟨y2,h2⟩,⟨y3,h3⟩⟩:=kow Tryz.underlying25 hf;have e0:Tryz.prog.cellsOf 25=4:=by kernel_rfl
 have e1:Tryz.prog.cellsOf 5=1:=by kernel_rfl
 have e2:Tryz.prog.cellsOf 22=1:=by kernel_rfl
 have e3:Tryz.prog.cellsOf 23=1:=by kernel_rfl
 obtain ⟨c0,c1,c2,c3,rfl⟩:=k0s (hl.trans e0);simp only [e1,e2,e3,List.drop_zero,List.drop_succ_cons,List.take_succ_cons,List.take_zero] at h0 h1 h2 h3;obtain ⟨D,hD⟩:=kqt h0;obtain ⟨i1,g1,_,b1⟩:=DataW.trod_int Tryz.underlying5 h1;obtain ⟨i2,g2,_,b2⟩:=DataW.trod_int Tryz.underlying5 h2;obtain ⟨X,hX,hn⟩:=kn0 h3;simp only [List.cons.injEq,and_true] at g1 g2;obtain ⟨n1,rfl,l1⟩:=kc8 (n:=256) b1 rfl (by decide);obtain ⟨n2,rfl,l2⟩:=kc8 (n:=256) b2 rfl (by decide);exact ⟨c0,c3,D,n1,n2,X,by rw [g1,g2],hD,hX,hn,l1,l2⟩
theorem kff {r:Reach} {b0:Nat} {d:DataW H} {ps:List MemPlace} (hval:Value.okWide Tryz.prog W r b0 25 v) (hd:DataW.Trod enc Tryz.prog W base (fun _=>true) held 25 v d ps) :
 ∃(vd ve:Value) (D:List Dd) (b a:Nat) (X:List Rv.Ev),v = .agg #[vd,.int .u8 (b:Int),.int .u8 (a:Int),ve]∧kfs vd D W∧kc0 ve X W∧khn ve∧b<256∧a<256:=by
 obtain ⟨cs,rfl,_⟩:=okWide_struct Tryz.underlying25 hval;obtain ⟨fuel,hf⟩:=hd;obtain ⟨vd,ve,D,b,a,X,hc,h⟩:=kmd hf;exact ⟨vd,ve,D,b,a,X,congrArg (fun l=>Value.agg l.toArray) hc,h⟩
end
end Go.Proofs.YtknpbekoenbphaaGreatDoor
