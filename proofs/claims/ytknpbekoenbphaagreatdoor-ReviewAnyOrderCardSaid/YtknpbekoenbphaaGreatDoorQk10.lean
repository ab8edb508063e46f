/- Parts of the proofs: WkRv3. No condition beyond those at each theorem. -/
import Derived.Test.YtknpbekoenbphaaGreatDoorQk08
import Derived.Test.YtknpbekoenbphaaGreatDoorQk09
set_option linter.unusedVariables false
set_option linter.unusedSimpArgs false
set_option maxHeartbeats 16000000
set_option maxRecDepth 100000
namespace Go.Proofs.YtknpbekoenbphaaGreatDoor
open Go Go.RowKit Licit
structure kt0 (e:Rv.Ev):Prop where
 author:e.author.length≤1000000000
 root:e.root.length≤1000000000
 pkg:e.pkg.length≤1000000000
 digest:e.digest.length≤1000000000
 question:e.question.length≤1000000000
 scope:e.scope.length≤1000000000
 answer:e.answer.length≤1000000000
 names:∀x∈e.names,x.length≤1000000000
 targets:∀x∈e.targets,x.length≤1000000000
def kcw (v:Value) (e:Rv.Ev) (w:World):Prop:=kt0 e∧∃na nc ta tc sa sc ha hc ra rc,v=evW e na nc ta tc sa sc ha hc ra rc ∧
 IsSl (.slice na e.names.length nc) (e.names.map vS) w∧IsSl (.slice ta e.targets.length tc) (e.targets.map vS) w∧IsSl (.slice sa e.sg.S.length sc) (e.sg.S.map vS) w∧IsSl (.slice ha e.sg.H.length hc) (e.sg.H.map vS) w∧IsSl (.slice ra e.sg.R.length rc) (e.sg.R.map vS) w
theorem kcw.below {v:Value} {e:Rv.Ev} {w w':World} (h:kcw v e w) (hb:Below w.heap.size w w'):kcw v e w':=by
 obtain ⟨ho,na,nc,ta,tc,sa,sc,ha,hc,ra,rc,rfl,h1,h2,h3,h4,h5⟩:=h;exact ⟨ho,na,nc,ta,tc,sa,sc,ha,hc,ra,rc,rfl,h1.below hb,h2.below hb,h3.below hb,h4.below hb,h5.below hb⟩
theorem kpq (e:Rv.Ev) (na ta sa ha ra:Option Addr) (nc tc sc hc rc:Nat) (w:World) (ho:kt0 e) (hT:IsSl (.slice ta e.targets.length tc) (e.targets.map vS) w) :
 Calls Tryz.prog 90 #[evW e na nc ta tc sa sc ha hc ra rc] w (kee w (kb1 e) (.slice na e.names.length nc) (kc5 e.kind (.slice ta e.targets.length tc)) (.slice sa e.sg.S.length sc) (.slice ha e.sg.H.length hc) (.slice ra e.sg.R.length rc) (okF e)):=by
 have hml:=hT.1;rw [List.length_map] at hml;have hm:∀n:Nat,n≤1000000000→n≤maxLen:=fun n h=>by unfold maxLen;omega
 by_cases h1:e.kind=1
 ·exact km1 e na ta sa ha ra nc tc sc hc rc w h1
 by_cases h2:e.kind=2
 ·exact krm e na ta sa ha ra nc tc sc hc rc w h2 (hm _ ho.pkg)
 by_cases h3:e.kind=3
 ·exact kta e na ta sa ha ra nc tc sc hc rc w h3 (hm _ ho.question) (hm _ ho.scope) (hm _ ho.answer)
 by_cases h4:e.kind=4
 ·by_cases hl:e.targets.length=1
  ·obtain ⟨tb,to,tc',hv,htb,hT0⟩:=hT.text rfl (show 0<e.targets.length by omega)
   simp only [Value.slice.injEq,true_and] at hv;obtain ⟨rfl,rfl⟩:=hv;exact kpc e na sa ha ra nc tb to tc sc hc rc w h4 hl htb hT0
  ·exact kqj e na ta sa ha ra nc tc sc hc rc w h4 hml hl
 by_cases h5:e.kind=5
 ·by_cases hl:e.targets.length=2
  ·obtain ⟨tb,to,tc',hv,htb,hT0⟩:=hT.text rfl (show 0<e.targets.length by omega)
   obtain ⟨tb1,to1,tc1,hv1,-,hT1⟩:=hT.text rfl (show 1<e.targets.length by omega);simp only [Value.slice.injEq,true_and] at hv hv1;obtain ⟨rfl,rfl⟩:=hv;obtain ⟨h1,rfl⟩:=hv1;simp only [Option.some.injEq,Addr.mk.injEq,and_true] at h1;obtain ⟨rfl,rfl⟩:=h1;exact kpu e na sa ha ra nc tb to tc sc hc rc w h5 hl htb hT0 hT1
  ·exact kp7 e na ta sa ha ra nc tc sc hc rc w h5 hml hl
 exact kmg e na ta sa ha ra nc tc sc hc rc w h1 h2 h3 h4 h5
def kec (r:Rv.Ev):Bool:=decide (r.root++r.pkg++r.digest++r.question++r.scope++r.answer=[]) && decide (r.bits=0) && decide (r.height=0) && decide (r.till=0) && decide (r.targets.length=0)
theorem knc (e:Rv.Ev):Rv.validB e=(okF e && Rv.nameB e.author && decide (0≤e.number) && decide (e.number≤63) && Rv.namesB e.names && kec (kb1 e)):=by
 have hr:kec (kb1 e)=(okF e && kec (kb1 e) || (!okF e && kec (kb1 e))):=by cases okF e <;> simp
 unfold Rv.validB
 have key:Rv.kindB e=true→(kec (kb1 e)=Rv.restB e):=by
  intro hk;unfold Rv.kindB at hk;unfold kec kb1 Rv.restB
  by_cases h1:e.kind=1
  ·simp [h1,and_assoc,Bool.and_assoc]
  by_cases h2:e.kind=2
  ·simp [h2,and_assoc,Bool.and_assoc]
   cases decide (e.root=[]) <;> cases decide (e.question=[]) <;> cases decide (e.scope=[]) <;> cases decide (e.answer=[]) <;> cases decide (e.bits=0) <;> cases decide (e.height=0) <;> cases decide (e.till=0) <;> rfl
  by_cases h3:e.kind=3
  ·simp [h3,and_assoc,Bool.and_assoc]
   cases decide (e.root=[]) <;> cases decide (e.pkg=[]) <;> cases decide (e.bits=0) <;> cases decide (e.height=0) <;> rfl
  by_cases h4:e.kind=4
  ·simp [h4,and_assoc,Bool.and_assoc]
   cases decide (e.root=[]) <;> cases decide (e.pkg=[]) <;> cases decide (e.digest=[]) <;> cases decide (e.question=[]) <;> cases decide (e.scope=[]) <;> cases decide (e.answer=[]) <;> cases decide (e.bits=0) <;> cases decide (e.height=0) <;> cases decide (e.till=0) <;> rfl
  by_cases h5:e.kind=5
  ·simp [h5,and_assoc,Bool.and_assoc]
   cases decide (e.root=[]) <;> cases decide (e.pkg=[]) <;> cases decide (e.digest=[]) <;> cases decide (e.question=[]) <;> cases decide (e.scope=[]) <;> cases decide (e.answer=[]) <;> cases decide (e.bits=0) <;> cases decide (e.height=0) <;> cases decide (e.till=0) <;> rfl
  ·simp [h1,h2,h3,h4,h5] at hk
 unfold okF
 cases hk:Rv.kindB e
 ·simp
 ·rw [key hk]
  cases Rv.nameB e.author <;> cases decide (0≤e.number) <;> cases decide (e.number≤63) <;> cases Rv.namesB e.names <;> simp
theorem kpr (k:Int) (a:Option Addr) (n c:Nat) (e:Rv.Ev) (hk:e.kind=k) (hn:e.targets.length=n):∃a' c',kc5 k (.slice a n c) = .slice a' (kb1 e).targets.length c':=by
 unfold kc5 kb1
 by_cases h4:k=4
 ·subst h4;exact ⟨none,0,by simp [hk]⟩
 by_cases h5:k=5
 ·subst h5;exact ⟨none,0,by simp [hk]⟩
 refine ⟨a,c,?_⟩;rw [if_neg (by simp [h4,h5])];subst hn;subst hk
 by_cases h1:e.kind=1
 ·simp [h1]
 by_cases h2:e.kind=2
 ·simp [h2]
 by_cases h3:e.kind=3
 ·simp [h3]
 ·simp [h1,h2,h3,h4,h5]
theorem kp6 {e:Rv.Ev} (h:kt0 e):kt0 { kb1 e with author:=e.author,names:=e.names,targets:=e.targets }:=by
 obtain ⟨h1,h2,h3,h4,h5,h6,h7,h8,h9⟩:=h;unfold kb1;constructor <;> (repeat' split) <;> first|assumption|simp
theorem ku3 (e:Rv.Ev) (na ta sa ha ra:Option Addr) (nc tc sc hc rc:Nat) (w:World) (ho:kt0 e) (hN:IsSl (.slice na e.names.length nc) (e.names.map vS) w) (hT:IsSl (.slice ta e.targets.length tc) (e.targets.map vS) w) :
 Calls Tryz.prog 39 #[evW e na nc ta tc sa sc ha hc ra rc] w fun en w'=>en = .returned (.int .i64 (Rv.validE e))∧Below w.heap.size w w':=by
 obtain ⟨a',c',hrt⟩:=kpr e.kind ta e.targets.length tc e rfl rfl;have hf:=fun W (hb:Below w.heap.size w W)=>kpq e na ta sa ha ra nc tc sc hc rc W ho (hT.below hb)
 have hqn:=fun W (hb:Below w.heap.size w W)=>(ksg _ e.names W (hN.below hb)).mono (fun _ _ (h:_∧_)=>(⟨h.1,h.2.symm⟩:_∧W=_))
 have hq1:=fun W=>kwz e.author W (by have:=ho.author;unfold maxLen;omega)
 have hv:Rv.validE e=if (okF e && Rv.nameB e.author && decide (0≤e.number) && decide (e.number≤63) && Rv.namesB e.names && kec (kb1 e))=true then 0 else 1:=by unfold Rv.validE;rw [knc]
 rw [hv];have hrs:=kp6 ho;have hnl:=hN.1;rw [List.length_map] at hnl;unfold maxLen at hnl
 have htl:(kb1 e).targets.length≤9223372036854775807:=by
  have h1:=hT.1;rw [List.length_map] at h1;unfold maxLen at h1;unfold kb1
  (repeat' split) <;> first|exact Nat.zero_le _|omega
 rw [hrt] at hf;have HE:=hdd (kai w (.cells (evS e na nc ta tc sa sc ha hc ra rc) 45));have HB0:=hdd ((Below.refl w.heap.size w).alloc (Nat.le_refl _) (.cells (evS e na nc ta tc sa sc ha hc ra rc) 45));generalize kb1 e=r at *;generalize Rv.nameB e.author=RA at *;generalize Rv.namesB e.names=RN at *;generalize okF e=RO at *;have HO:=hdd (kbe r (.slice na e.names.length nc) (.slice a' r.targets.length c') (.slice sa e.sg.S.length sc) (.slice ha e.sg.H.length hc) (.slice ra e.sg.R.length rc) rfl rfl rfl rfl rfl);have QF:=hdd hf;have QN:=hdd hqn;have qn:=hq1;clear hf hqn hq1 hv hrt hN hT
 cases RO
 ·simp only [Bool.false_and,Bool.false_eq_true,if_false]
  go_enter Tryz.func39,Tryz.ntmps39
  go_wp2_with (first|(refine wpList_load_row rfl 45 _ rfl w.heap.size rfl 45 (evS e na nc ta tc sa sc ha hc ra rc) (0,0) _ HE.out rfl rfl (by kernel_rfl) ?_)|fail)
  refine (QF.out _ HB0.out).mono ?_;rintro en w1 ⟨rfl,hb⟩;have hB1:=HB0.out.next hb;have hw1:w1.heap[w.heap.size]? = some (.cells (evS e na nc ta tc sa sc ha hc ra rc) 45 (0,0)):=kab hb (by simp) HE.out;have HB1:=hdd hB1;have HW1:=hdd hw1;have HZ1:=hdd hb.size;obtain ⟨e0,e1,e2,e3,e4,e5,e6,e7,e8,e9,e10,e11,e12,e13,e14,e15,e16,e17⟩:=ka3 hw1;clear hb hB1 hw1 e0 e4 e5 e6 e7 e8 e9 e10 e11 e12 e13 e14 e15 e16 e17
  go_upto_region 2 with (
   refine kac rfl 45 _ _ rfl w1.heap.size rfl (evC r (.slice na e.names.length nc) (.slice a' r.targets.length c') (.slice sa e.sg.S.length sc) (.slice ha e.sg.H.length hc) (.slice ra e.sg.R.length rc)) rfl 45 evZ (kak rfl rfl) (by kernel_rfl) rfl HO.out ?_;intro w2 hw2 hk2;have hB2:Below w1.heap.size w1 w2:=((Below.refl _ _).alloc (Nat.le_refl _) _).trans (hk2.below (B:=w1.heap.size) (by simp) (fun k hk e=>by have:k=w1.heap.size:=e;omega));have hlt1:w.heap.size<w1.heap.size:=kad HW1.out;have e1':=(hB2.cell (p:=⟨w.heap.size,1,none⟩) hlt1).trans e1;have e2':=(hB2.cell (p:=⟨w.heap.size,2,none⟩) hlt1).trans e2;have e3':=(hB2.cell (p:=⟨w.heap.size,3,none⟩) hlt1).trans e3;obtain ⟨r0,r1,r2,r3,r4,r5,r6,r7,r8,r9,r10,r11,r12,r13,r14,r15,r16,r17⟩:=ka3 hw2;have HB2:=hdd (HB1.out.next hB2);clear hw2 hk2 hB2 e1 e2 e3 r0 r1 r2 r3 r14 r15 r16 r17)
  go_wp2_with ((first|(go_at_call 91;(with_reducible refine (qn _).mono ?_);rintro en w' ⟨rfl,rfl⟩)|(go_at_call 92;refine (QN.out _ HB2.out).mono ?_;rintro en w' ⟨rfl,rfl⟩)))
  go_ret
  exact ⟨rfl,HB2.out⟩
 cases RA
 ·simp only [Bool.false_and,Bool.and_false,Bool.false_eq_true,if_false]
  go_enter Tryz.func39,Tryz.ntmps39
  go_wp2_with (first|(refine wpList_load_row rfl 45 _ rfl w.heap.size rfl 45 (evS e na nc ta tc sa sc ha hc ra rc) (0,0) _ HE.out rfl rfl (by kernel_rfl) ?_)|fail)
  refine (QF.out _ HB0.out).mono ?_;rintro en w1 ⟨rfl,hb⟩;have hB1:=HB0.out.next hb;have hw1:w1.heap[w.heap.size]? = some (.cells (evS e na nc ta tc sa sc ha hc ra rc) 45 (0,0)):=kab hb (by simp) HE.out;have HB1:=hdd hB1;have HW1:=hdd hw1;have HZ1:=hdd hb.size;obtain ⟨e0,e1,e2,e3,e4,e5,e6,e7,e8,e9,e10,e11,e12,e13,e14,e15,e16,e17⟩:=ka3 hw1;clear hb hB1 hw1 e0 e4 e5 e6 e7 e8 e9 e10 e11 e12 e13 e14 e15 e16 e17
  go_upto_region 2 with (
   refine kac rfl 45 _ _ rfl w1.heap.size rfl (evC r (.slice na e.names.length nc) (.slice a' r.targets.length c') (.slice sa e.sg.S.length sc) (.slice ha e.sg.H.length hc) (.slice ra e.sg.R.length rc)) rfl 45 evZ (kak rfl rfl) (by kernel_rfl) rfl HO.out ?_;intro w2 hw2 hk2;have hB2:Below w1.heap.size w1 w2:=((Below.refl _ _).alloc (Nat.le_refl _) _).trans (hk2.below (B:=w1.heap.size) (by simp) (fun k hk e=>by have:k=w1.heap.size:=e;omega));have hlt1:w.heap.size<w1.heap.size:=kad HW1.out;have e1':=(hB2.cell (p:=⟨w.heap.size,1,none⟩) hlt1).trans e1;have e2':=(hB2.cell (p:=⟨w.heap.size,2,none⟩) hlt1).trans e2;have e3':=(hB2.cell (p:=⟨w.heap.size,3,none⟩) hlt1).trans e3;obtain ⟨r0,r1,r2,r3,r4,r5,r6,r7,r8,r9,r10,r11,r12,r13,r14,r15,r16,r17⟩:=ka3 hw2;have HB2:=hdd (HB1.out.next hB2);clear hw2 hk2 hB2 e1 e2 e3 r0 r1 r2 r3 r14 r15 r16 r17)
  go_wp2_with ((first|(go_at_call 91;(with_reducible refine (qn _).mono ?_);rintro en w' ⟨rfl,rfl⟩)|(go_at_call 92;refine (QN.out _ HB2.out).mono ?_;rintro en w' ⟨rfl,rfl⟩)))
  go_ret
  exact ⟨rfl,HB2.out⟩
 by_cases c1:0≤e.number
 rotate_left
 ·have dn:decide (e.number<0)=true:=decide_eq_true (by omega)
  simp only [decide_eq_false c1,Bool.false_and,Bool.and_false,Bool.false_eq_true,if_false];clear c1
  go_enter Tryz.func39,Tryz.ntmps39
  go_wp2_with (first|(refine wpList_load_row rfl 45 _ rfl w.heap.size rfl 45 (evS e na nc ta tc sa sc ha hc ra rc) (0,0) _ HE.out rfl rfl (by kernel_rfl) ?_)|fail)
  refine (QF.out _ HB0.out).mono ?_;rintro en w1 ⟨rfl,hb⟩;have hB1:=HB0.out.next hb;have hw1:w1.heap[w.heap.size]? = some (.cells (evS e na nc ta tc sa sc ha hc ra rc) 45 (0,0)):=kab hb (by simp) HE.out;have HB1:=hdd hB1;have HW1:=hdd hw1;have HZ1:=hdd hb.size;obtain ⟨e0,e1,e2,e3,e4,e5,e6,e7,e8,e9,e10,e11,e12,e13,e14,e15,e16,e17⟩:=ka3 hw1;clear hb hB1 hw1 e0 e4 e5 e6 e7 e8 e9 e10 e11 e12 e13 e14 e15 e16 e17
  go_upto_region 2 with (
   refine kac rfl 45 _ _ rfl w1.heap.size rfl (evC r (.slice na e.names.length nc) (.slice a' r.targets.length c') (.slice sa e.sg.S.length sc) (.slice ha e.sg.H.length hc) (.slice ra e.sg.R.length rc)) rfl 45 evZ (kak rfl rfl) (by kernel_rfl) rfl HO.out ?_;intro w2 hw2 hk2;have hB2:Below w1.heap.size w1 w2:=((Below.refl _ _).alloc (Nat.le_refl _) _).trans (hk2.below (B:=w1.heap.size) (by simp) (fun k hk e=>by have:k=w1.heap.size:=e;omega));have hlt1:w.heap.size<w1.heap.size:=kad HW1.out;have e1':=(hB2.cell (p:=⟨w.heap.size,1,none⟩) hlt1).trans e1;have e2':=(hB2.cell (p:=⟨w.heap.size,2,none⟩) hlt1).trans e2;have e3':=(hB2.cell (p:=⟨w.heap.size,3,none⟩) hlt1).trans e3;obtain ⟨r0,r1,r2,r3,r4,r5,r6,r7,r8,r9,r10,r11,r12,r13,r14,r15,r16,r17⟩:=ka3 hw2;have HB2:=hdd (HB1.out.next hB2);clear hw2 hk2 hB2 e1 e2 e3 r0 r1 r2 r3 r14 r15 r16 r17)
  go_wp2_with ((first|(go_at_call 91;(with_reducible refine (qn _).mono ?_);rintro en w' ⟨rfl,rfl⟩)|(go_at_call 92;refine (QN.out _ HB2.out).mono ?_;rintro en w' ⟨rfl,rfl⟩)))
  go_ret
  exact ⟨rfl,HB2.out⟩
 have dn1:decide (e.number<0)=false:=decide_eq_false (by omega);rw [decide_eq_true c1]
 by_cases c2:e.number≤63
 rotate_left
 ·have dn:decide (63<e.number)=true:=decide_eq_true (by omega)
  simp only [decide_eq_false c2,Bool.false_and,Bool.and_false,Bool.false_eq_true,if_false];clear c1 c2
  go_enter Tryz.func39,Tryz.ntmps39
  go_wp2_with (first|(refine wpList_load_row rfl 45 _ rfl w.heap.size rfl 45 (evS e na nc ta tc sa sc ha hc ra rc) (0,0) _ HE.out rfl rfl (by kernel_rfl) ?_)|fail)
  refine (QF.out _ HB0.out).mono ?_;rintro en w1 ⟨rfl,hb⟩;have hB1:=HB0.out.next hb;have hw1:w1.heap[w.heap.size]? = some (.cells (evS e na nc ta tc sa sc ha hc ra rc) 45 (0,0)):=kab hb (by simp) HE.out;have HB1:=hdd hB1;have HW1:=hdd hw1;have HZ1:=hdd hb.size;obtain ⟨e0,e1,e2,e3,e4,e5,e6,e7,e8,e9,e10,e11,e12,e13,e14,e15,e16,e17⟩:=ka3 hw1;clear hb hB1 hw1 e0 e4 e5 e6 e7 e8 e9 e10 e11 e12 e13 e14 e15 e16 e17
  go_upto_region 2 with (
   refine kac rfl 45 _ _ rfl w1.heap.size rfl (evC r (.slice na e.names.length nc) (.slice a' r.targets.length c') (.slice sa e.sg.S.length sc) (.slice ha e.sg.H.length hc) (.slice ra e.sg.R.length rc)) rfl 45 evZ (kak rfl rfl) (by kernel_rfl) rfl HO.out ?_;intro w2 hw2 hk2;have hB2:Below w1.heap.size w1 w2:=((Below.refl _ _).alloc (Nat.le_refl _) _).trans (hk2.below (B:=w1.heap.size) (by simp) (fun k hk e=>by have:k=w1.heap.size:=e;omega));have hlt1:w.heap.size<w1.heap.size:=kad HW1.out;have e1':=(hB2.cell (p:=⟨w.heap.size,1,none⟩) hlt1).trans e1;have e2':=(hB2.cell (p:=⟨w.heap.size,2,none⟩) hlt1).trans e2;have e3':=(hB2.cell (p:=⟨w.heap.size,3,none⟩) hlt1).trans e3;obtain ⟨r0,r1,r2,r3,r4,r5,r6,r7,r8,r9,r10,r11,r12,r13,r14,r15,r16,r17⟩:=ka3 hw2;have HB2:=hdd (HB1.out.next hB2);clear hw2 hk2 hB2 e1 e2 e3 r0 r1 r2 r3 r14 r15 r16 r17)
  go_wp2_with ((first|(go_at_call 91;(with_reducible refine (qn _).mono ?_);rintro en w' ⟨rfl,rfl⟩)|(go_at_call 92;refine (QN.out _ HB2.out).mono ?_;rintro en w' ⟨rfl,rfl⟩)))
  go_ret
  exact ⟨rfl,HB2.out⟩
 have dn2:decide (63<e.number)=false:=decide_eq_false (by omega);rw [decide_eq_true c2]
 cases RN
 ·simp only [Bool.false_and,Bool.and_false,Bool.false_eq_true,if_false]
  clear c1 c2
  go_enter Tryz.func39,Tryz.ntmps39
  go_wp2_with (first|(refine wpList_load_row rfl 45 _ rfl w.heap.size rfl 45 (evS e na nc ta tc sa sc ha hc ra rc) (0,0) _ HE.out rfl rfl (by kernel_rfl) ?_)|fail)
  refine (QF.out _ HB0.out).mono ?_;rintro en w1 ⟨rfl,hb⟩;have hB1:=HB0.out.next hb;have hw1:w1.heap[w.heap.size]? = some (.cells (evS e na nc ta tc sa sc ha hc ra rc) 45 (0,0)):=kab hb (by simp) HE.out;have HB1:=hdd hB1;have HW1:=hdd hw1;have HZ1:=hdd hb.size;obtain ⟨e0,e1,e2,e3,e4,e5,e6,e7,e8,e9,e10,e11,e12,e13,e14,e15,e16,e17⟩:=ka3 hw1;clear hb hB1 hw1 e0 e4 e5 e6 e7 e8 e9 e10 e11 e12 e13 e14 e15 e16 e17
  go_upto_region 2 with (
   refine kac rfl 45 _ _ rfl w1.heap.size rfl (evC r (.slice na e.names.length nc) (.slice a' r.targets.length c') (.slice sa e.sg.S.length sc) (.slice ha e.sg.H.length hc) (.slice ra e.sg.R.length rc)) rfl 45 evZ (kak rfl rfl) (by kernel_rfl) rfl HO.out ?_;intro w2 hw2 hk2;have hB2:Below w1.heap.size w1 w2:=((Below.refl _ _).alloc (Nat.le_refl _) _).trans (hk2.below (B:=w1.heap.size) (by simp) (fun k hk e=>by have:k=w1.heap.size:=e;omega));have hlt1:w.heap.size<w1.heap.size:=kad HW1.out;have e1':=(hB2.cell (p:=⟨w.heap.size,1,none⟩) hlt1).trans e1;have e2':=(hB2.cell (p:=⟨w.heap.size,2,none⟩) hlt1).trans e2;have e3':=(hB2.cell (p:=⟨w.heap.size,3,none⟩) hlt1).trans e3;obtain ⟨r0,r1,r2,r3,r4,r5,r6,r7,r8,r9,r10,r11,r12,r13,r14,r15,r16,r17⟩:=ka3 hw2;have HB2:=hdd (HB1.out.next hB2);clear hw2 hk2 hB2 e1 e2 e3 r0 r1 r2 r3 r14 r15 r16 r17)
  go_wp2_with ((first|(go_at_call 91;(with_reducible refine (qn _).mono ?_);rintro en w' ⟨rfl,rfl⟩)|(go_at_call 92;refine (QN.out _ HB2.out).mono ?_;rintro en w' ⟨rfl,rfl⟩)))
  go_ret
  exact ⟨rfl,HB2.out⟩
 simp only [Bool.true_and];clear c1 c2;have z1:(B r.root).size≤1000000000:=hrs.root;have z2:(B r.pkg).size≤1000000000:=hrs.pkg;have z3:(B r.digest).size≤1000000000:=hrs.digest;have z4:(B r.question).size≤1000000000:=hrs.question;have z5:(B r.scope).size≤1000000000:=hrs.scope;have z6:(B r.answer).size≤1000000000:=hrs.answer;clear hrs;obtain ⟨X,hX⟩:∃X,r.root++r.pkg++r.digest++r.question++r.scope++r.answer=X:=⟨_,rfl⟩;have hx:B r.root++B r.pkg++B r.digest++B r.question++B r.scope++B r.answer=B X:=by rw [ka5,ka5,ka5,ka5,ka5,hX]
 have HX:=hdd hX;have Hx:=hdd hx;clear hX hx
 by_cases cX:X=[]
 rotate_left
 ·have t1:(B r.root++B r.pkg++B r.digest++B r.question++B r.scope++B r.answer).toList.isEmpty=false:=by rw [Hx.out,ByteArray.toList_eq,B_list];simpa using cX
  have t2:(!(B r.root++B r.pkg++B r.digest++B r.question++B r.scope++B r.answer).toList.isEmpty)=true:=by rw [t1];rfl
  have hq:kec r=false:=by unfold kec;rw [HX.out,decide_eq_false cX];rfl
  simp only [hq,Bool.false_eq_true,if_false];clear hq cX
  go_enter Tryz.func39,Tryz.ntmps39
  go_wp2_with (first|(refine wpList_load_row rfl 45 _ rfl w.heap.size rfl 45 (evS e na nc ta tc sa sc ha hc ra rc) (0,0) _ HE.out rfl rfl (by kernel_rfl) ?_)|fail)
  refine (QF.out _ HB0.out).mono ?_;rintro en w1 ⟨rfl,hb⟩;have hB1:=HB0.out.next hb;have hw1:w1.heap[w.heap.size]? = some (.cells (evS e na nc ta tc sa sc ha hc ra rc) 45 (0,0)):=kab hb (by simp) HE.out;have HB1:=hdd hB1;have HW1:=hdd hw1;have HZ1:=hdd hb.size;obtain ⟨e0,e1,e2,e3,e4,e5,e6,e7,e8,e9,e10,e11,e12,e13,e14,e15,e16,e17⟩:=ka3 hw1;clear hb hB1 hw1 e0 e4 e5 e6 e7 e8 e9 e10 e11 e12 e13 e14 e15 e16 e17
  go_upto_region 2 with (
   refine kac rfl 45 _ _ rfl w1.heap.size rfl (evC r (.slice na e.names.length nc) (.slice a' r.targets.length c') (.slice sa e.sg.S.length sc) (.slice ha e.sg.H.length hc) (.slice ra e.sg.R.length rc)) rfl 45 evZ (kak rfl rfl) (by kernel_rfl) rfl HO.out ?_;intro w2 hw2 hk2;have hB2:Below w1.heap.size w1 w2:=((Below.refl _ _).alloc (Nat.le_refl _) _).trans (hk2.below (B:=w1.heap.size) (by simp) (fun k hk e=>by have:k=w1.heap.size:=e;omega));have hlt1:w.heap.size<w1.heap.size:=kad HW1.out;have e1':=(hB2.cell (p:=⟨w.heap.size,1,none⟩) hlt1).trans e1;have e2':=(hB2.cell (p:=⟨w.heap.size,2,none⟩) hlt1).trans e2;have e3':=(hB2.cell (p:=⟨w.heap.size,3,none⟩) hlt1).trans e3;obtain ⟨r0,r1,r2,r3,r4,r5,r6,r7,r8,r9,r10,r11,r12,r13,r14,r15,r16,r17⟩:=ka3 hw2;have HB2:=hdd (HB1.out.next hB2);clear hw2 hk2 hB2 e1 e2 e3 r0 r1 r2 r3 r14 r15 r16 r17)
  go_wp2_with ((first|(go_at_call 91;(with_reducible refine (qn _).mono ?_);rintro en w' ⟨rfl,rfl⟩)|(go_at_call 92;refine (QN.out _ HB2.out).mono ?_;rintro en w' ⟨rfl,rfl⟩)))
  go_ret
  exact ⟨rfl,HB2.out⟩
 have t1:(B r.root++B r.pkg++B r.digest++B r.question++B r.scope++B r.answer).toList=[]:=by rw [Hx.out,ByteArray.toList_eq,B_list];exact cX
 by_cases cb:r.bits=0
 rotate_left
 ·have t3:(r.bits == 0)=false:=by simpa using cb
  have hq:kec r=false:=by unfold kec;rw [decide_eq_false cb];simp
  simp only [hq,Bool.false_eq_true,if_false];clear hq cX
  go_enter Tryz.func39,Tryz.ntmps39
  go_wp2_with (first|(refine wpList_load_row rfl 45 _ rfl w.heap.size rfl 45 (evS e na nc ta tc sa sc ha hc ra rc) (0,0) _ HE.out rfl rfl (by kernel_rfl) ?_)|fail)
  refine (QF.out _ HB0.out).mono ?_;rintro en w1 ⟨rfl,hb⟩;have hB1:=HB0.out.next hb;have hw1:w1.heap[w.heap.size]? = some (.cells (evS e na nc ta tc sa sc ha hc ra rc) 45 (0,0)):=kab hb (by simp) HE.out;have HB1:=hdd hB1;have HW1:=hdd hw1;have HZ1:=hdd hb.size;obtain ⟨e0,e1,e2,e3,e4,e5,e6,e7,e8,e9,e10,e11,e12,e13,e14,e15,e16,e17⟩:=ka3 hw1;clear hb hB1 hw1 e0 e4 e5 e6 e7 e8 e9 e10 e11 e12 e13 e14 e15 e16 e17
  go_upto_region 2 with (
   refine kac rfl 45 _ _ rfl w1.heap.size rfl (evC r (.slice na e.names.length nc) (.slice a' r.targets.length c') (.slice sa e.sg.S.length sc) (.slice ha e.sg.H.length hc) (.slice ra e.sg.R.length rc)) rfl 45 evZ (kak rfl rfl) (by kernel_rfl) rfl HO.out ?_;intro w2 hw2 hk2;have hB2:Below w1.heap.size w1 w2:=((Below.refl _ _).alloc (Nat.le_refl _) _).trans (hk2.below (B:=w1.heap.size) (by simp) (fun k hk e=>by have:k=w1.heap.size:=e;omega));have hlt1:w.heap.size<w1.heap.size:=kad HW1.out;have e1':=(hB2.cell (p:=⟨w.heap.size,1,none⟩) hlt1).trans e1;have e2':=(hB2.cell (p:=⟨w.heap.size,2,none⟩) hlt1).trans e2;have e3':=(hB2.cell (p:=⟨w.heap.size,3,none⟩) hlt1).trans e3;obtain ⟨r0,r1,r2,r3,r4,r5,r6,r7,r8,r9,r10,r11,r12,r13,r14,r15,r16,r17⟩:=ka3 hw2;have HB2:=hdd (HB1.out.next hB2);clear hw2 hk2 hB2 e1 e2 e3 r0 r1 r2 r3 r14 r15 r16 r17)
  go_wp2_with ((first|(go_at_call 91;(with_reducible refine (qn _).mono ?_);rintro en w' ⟨rfl,rfl⟩)|(go_at_call 92;refine (QN.out _ HB2.out).mono ?_;rintro en w' ⟨rfl,rfl⟩)))
  go_ret
  exact ⟨rfl,HB2.out⟩
 have t3:(r.bits == 0)=true:=by simpa using cb
 by_cases ch:r.height=0
 rotate_left
 ·have t4:(r.height == 0)=false:=by simpa using ch
  have hq:kec r=false:=by unfold kec;rw [decide_eq_false ch];simp
  simp only [hq,Bool.false_eq_true,if_false];clear hq cX cb ch
  go_enter Tryz.func39,Tryz.ntmps39
  go_wp2_with (first|(refine wpList_load_row rfl 45 _ rfl w.heap.size rfl 45 (evS e na nc ta tc sa sc ha hc ra rc) (0,0) _ HE.out rfl rfl (by kernel_rfl) ?_)|fail)
  refine (QF.out _ HB0.out).mono ?_;rintro en w1 ⟨rfl,hb⟩;have hB1:=HB0.out.next hb;have hw1:w1.heap[w.heap.size]? = some (.cells (evS e na nc ta tc sa sc ha hc ra rc) 45 (0,0)):=kab hb (by simp) HE.out;have HB1:=hdd hB1;have HW1:=hdd hw1;have HZ1:=hdd hb.size;obtain ⟨e0,e1,e2,e3,e4,e5,e6,e7,e8,e9,e10,e11,e12,e13,e14,e15,e16,e17⟩:=ka3 hw1;clear hb hB1 hw1 e0 e4 e5 e6 e7 e8 e9 e10 e11 e12 e13 e14 e15 e16 e17
  go_upto_region 2 with (
   refine kac rfl 45 _ _ rfl w1.heap.size rfl (evC r (.slice na e.names.length nc) (.slice a' r.targets.length c') (.slice sa e.sg.S.length sc) (.slice ha e.sg.H.length hc) (.slice ra e.sg.R.length rc)) rfl 45 evZ (kak rfl rfl) (by kernel_rfl) rfl HO.out ?_;intro w2 hw2 hk2;have hB2:Below w1.heap.size w1 w2:=((Below.refl _ _).alloc (Nat.le_refl _) _).trans (hk2.below (B:=w1.heap.size) (by simp) (fun k hk e=>by have:k=w1.heap.size:=e;omega));have hlt1:w.heap.size<w1.heap.size:=kad HW1.out;have e1':=(hB2.cell (p:=⟨w.heap.size,1,none⟩) hlt1).trans e1;have e2':=(hB2.cell (p:=⟨w.heap.size,2,none⟩) hlt1).trans e2;have e3':=(hB2.cell (p:=⟨w.heap.size,3,none⟩) hlt1).trans e3;obtain ⟨r0,r1,r2,r3,r4,r5,r6,r7,r8,r9,r10,r11,r12,r13,r14,r15,r16,r17⟩:=ka3 hw2;have HB2:=hdd (HB1.out.next hB2);clear hw2 hk2 hB2 e1 e2 e3 r0 r1 r2 r3 r14 r15 r16 r17)
  go_wp2_with ((first|(go_at_call 91;(with_reducible refine (qn _).mono ?_);rintro en w' ⟨rfl,rfl⟩)|(go_at_call 92;refine (QN.out _ HB2.out).mono ?_;rintro en w' ⟨rfl,rfl⟩)))
  go_ret
  exact ⟨rfl,HB2.out⟩
 have t4:(r.height == 0)=true:=by simpa using ch
 by_cases ct:r.till=0
 rotate_left
 ·have t5:(r.till == 0)=false:=by simpa using ct
  have t5':(r.till != 0)=true:=by simpa using ct
  have hq:kec r=false:=by unfold kec;rw [decide_eq_false ct];simp
  simp only [hq,Bool.false_eq_true,if_false];clear hq cX cb ch ct
  go_enter Tryz.func39,Tryz.ntmps39
  go_wp2_with (first|(refine wpList_load_row rfl 45 _ rfl w.heap.size rfl 45 (evS e na nc ta tc sa sc ha hc ra rc) (0,0) _ HE.out rfl rfl (by kernel_rfl) ?_)|fail)
  refine (QF.out _ HB0.out).mono ?_;rintro en w1 ⟨rfl,hb⟩;have hB1:=HB0.out.next hb;have hw1:w1.heap[w.heap.size]? = some (.cells (evS e na nc ta tc sa sc ha hc ra rc) 45 (0,0)):=kab hb (by simp) HE.out;have HB1:=hdd hB1;have HW1:=hdd hw1;have HZ1:=hdd hb.size;obtain ⟨e0,e1,e2,e3,e4,e5,e6,e7,e8,e9,e10,e11,e12,e13,e14,e15,e16,e17⟩:=ka3 hw1;clear hb hB1 hw1 e0 e4 e5 e6 e7 e8 e9 e10 e11 e12 e13 e14 e15 e16 e17
  go_upto_region 2 with (
   refine kac rfl 45 _ _ rfl w1.heap.size rfl (evC r (.slice na e.names.length nc) (.slice a' r.targets.length c') (.slice sa e.sg.S.length sc) (.slice ha e.sg.H.length hc) (.slice ra e.sg.R.length rc)) rfl 45 evZ (kak rfl rfl) (by kernel_rfl) rfl HO.out ?_;intro w2 hw2 hk2;have hB2:Below w1.heap.size w1 w2:=((Below.refl _ _).alloc (Nat.le_refl _) _).trans (hk2.below (B:=w1.heap.size) (by simp) (fun k hk e=>by have:k=w1.heap.size:=e;omega));have hlt1:w.heap.size<w1.heap.size:=kad HW1.out;have e1':=(hB2.cell (p:=⟨w.heap.size,1,none⟩) hlt1).trans e1;have e2':=(hB2.cell (p:=⟨w.heap.size,2,none⟩) hlt1).trans e2;have e3':=(hB2.cell (p:=⟨w.heap.size,3,none⟩) hlt1).trans e3;obtain ⟨r0,r1,r2,r3,r4,r5,r6,r7,r8,r9,r10,r11,r12,r13,r14,r15,r16,r17⟩:=ka3 hw2;have HB2:=hdd (HB1.out.next hB2);clear hw2 hk2 hB2 e1 e2 e3 r0 r1 r2 r3 r14 r15 r16 r17)
  go_wp2_with ((first|(go_at_call 91;(with_reducible refine (qn _).mono ?_);rintro en w' ⟨rfl,rfl⟩)|(go_at_call 92;refine (QN.out _ HB2.out).mono ?_;rintro en w' ⟨rfl,rfl⟩)))
  go_ret
  exact ⟨rfl,HB2.out⟩
 have t5:(r.till == 0)=true:=by simpa using ct
 have t5':(r.till != 0)=false:=by simpa using ct
 by_cases cg:r.targets.length=0
 rotate_left
 ·have t6:((r.targets.length:Int) == 0)=false:=beq_eq_false_iff_ne.2 (by omega)
  have t6':((r.targets.length:Int) != 0)=true:=by rw [bne,t6];rfl
  have hq:kec r=false:=by unfold kec;rw [decide_eq_false cg];simp
  simp only [hq,Bool.false_eq_true,if_false];clear hq cX cb ch ct cg
  go_enter Tryz.func39,Tryz.ntmps39
  go_wp2_with (first|(refine wpList_load_row rfl 45 _ rfl w.heap.size rfl 45 (evS e na nc ta tc sa sc ha hc ra rc) (0,0) _ HE.out rfl rfl (by kernel_rfl) ?_)|fail)
  refine (QF.out _ HB0.out).mono ?_;rintro en w1 ⟨rfl,hb⟩;have hB1:=HB0.out.next hb;have hw1:w1.heap[w.heap.size]? = some (.cells (evS e na nc ta tc sa sc ha hc ra rc) 45 (0,0)):=kab hb (by simp) HE.out;have HB1:=hdd hB1;have HW1:=hdd hw1;have HZ1:=hdd hb.size;obtain ⟨e0,e1,e2,e3,e4,e5,e6,e7,e8,e9,e10,e11,e12,e13,e14,e15,e16,e17⟩:=ka3 hw1;clear hb hB1 hw1 e0 e4 e5 e6 e7 e8 e9 e10 e11 e12 e13 e14 e15 e16 e17
  go_upto_region 2 with (
   refine kac rfl 45 _ _ rfl w1.heap.size rfl (evC r (.slice na e.names.length nc) (.slice a' r.targets.length c') (.slice sa e.sg.S.length sc) (.slice ha e.sg.H.length hc) (.slice ra e.sg.R.length rc)) rfl 45 evZ (kak rfl rfl) (by kernel_rfl) rfl HO.out ?_;intro w2 hw2 hk2;have hB2:Below w1.heap.size w1 w2:=((Below.refl _ _).alloc (Nat.le_refl _) _).trans (hk2.below (B:=w1.heap.size) (by simp) (fun k hk e=>by have:k=w1.heap.size:=e;omega));have hlt1:w.heap.size<w1.heap.size:=kad HW1.out;have e1':=(hB2.cell (p:=⟨w.heap.size,1,none⟩) hlt1).trans e1;have e2':=(hB2.cell (p:=⟨w.heap.size,2,none⟩) hlt1).trans e2;have e3':=(hB2.cell (p:=⟨w.heap.size,3,none⟩) hlt1).trans e3;obtain ⟨r0,r1,r2,r3,r4,r5,r6,r7,r8,r9,r10,r11,r12,r13,r14,r15,r16,r17⟩:=ka3 hw2;have HB2:=hdd (HB1.out.next hB2);clear hw2 hk2 hB2 e1 e2 e3 r0 r1 r2 r3 r14 r15 r16 r17)
  go_wp2_with ((first|(go_at_call 91;(with_reducible refine (qn _).mono ?_);rintro en w' ⟨rfl,rfl⟩)|(go_at_call 92;refine (QN.out _ HB2.out).mono ?_;rintro en w' ⟨rfl,rfl⟩)))
  go_ret
  exact ⟨rfl,HB2.out⟩
 have t6:((r.targets.length:Int) == 0)=true:=beq_iff_eq.2 (by omega);have t6':((r.targets.length:Int) != 0)=false:=by rw [bne,t6];rfl
 have hq:kec r=true:=by unfold kec;rw [HX.out,decide_eq_true cX,decide_eq_true cb,decide_eq_true ch,decide_eq_true ct,decide_eq_true cg];rfl
 simp only [hq,if_true];clear hq cX cb ch ct cg
 go_enter Tryz.func39,Tryz.ntmps39
 go_wp2_with (first|(refine wpList_load_row rfl 45 _ rfl w.heap.size rfl 45 (evS e na nc ta tc sa sc ha hc ra rc) (0,0) _ HE.out rfl rfl (by kernel_rfl) ?_)|fail)
 refine (QF.out _ HB0.out).mono ?_;rintro en w1 ⟨rfl,hb⟩;have hB1:=HB0.out.next hb;have hw1:w1.heap[w.heap.size]? = some (.cells (evS e na nc ta tc sa sc ha hc ra rc) 45 (0,0)):=kab hb (by simp) HE.out;have HB1:=hdd hB1;have HW1:=hdd hw1;have HZ1:=hdd hb.size;obtain ⟨e0,e1,e2,e3,e4,e5,e6,e7,e8,e9,e10,e11,e12,e13,e14,e15,e16,e17⟩:=ka3 hw1;clear hb hB1 hw1 e0 e4 e5 e6 e7 e8 e9 e10 e11 e12 e13 e14 e15 e16 e17
 go_upto_region 2 with (
  refine kac rfl 45 _ _ rfl w1.heap.size rfl (evC r (.slice na e.names.length nc) (.slice a' r.targets.length c') (.slice sa e.sg.S.length sc) (.slice ha e.sg.H.length hc) (.slice ra e.sg.R.length rc)) rfl 45 evZ (kak rfl rfl) (by kernel_rfl) rfl HO.out ?_;intro w2 hw2 hk2;have hB2:Below w1.heap.size w1 w2:=((Below.refl _ _).alloc (Nat.le_refl _) _).trans (hk2.below (B:=w1.heap.size) (by simp) (fun k hk e=>by have:k=w1.heap.size:=e;omega));have hlt1:w.heap.size<w1.heap.size:=kad HW1.out;have e1':=(hB2.cell (p:=⟨w.heap.size,1,none⟩) hlt1).trans e1;have e2':=(hB2.cell (p:=⟨w.heap.size,2,none⟩) hlt1).trans e2;have e3':=(hB2.cell (p:=⟨w.heap.size,3,none⟩) hlt1).trans e3;obtain ⟨r0,r1,r2,r3,r4,r5,r6,r7,r8,r9,r10,r11,r12,r13,r14,r15,r16,r17⟩:=ka3 hw2;have HB2:=hdd (HB1.out.next hB2);clear hw2 hk2 hB2 e1 e2 e3 r0 r1 r2 r3 r14 r15 r16 r17)
 go_wp2_with ((first|(go_at_call 91;(with_reducible refine (qn _).mono ?_);rintro en w' ⟨rfl,rfl⟩)|(go_at_call 92;refine (QN.out _ HB2.out).mono ?_;rintro en w' ⟨rfl,rfl⟩)))
 go_ret
 exact ⟨rfl,HB2.out⟩
theorem klq (v:Value) (e:Rv.Ev) (w:World) (h:kcw v e w):Calls Tryz.prog 39 #[v] w fun en w'=>en = .returned (.int .i64 (Rv.validE e))∧Below w.heap.size w w':=by
 obtain ⟨ho,na,nc,ta,tc,sa,sc,ha,hc,ra,rc,rfl,h1,h2,-⟩:=h;exact ku3 e na ta sa ha ra nc tc sc hc rc w ho h1 h2
end Go.Proofs.YtknpbekoenbphaaGreatDoor
