/- Parts of the proofs: PlainFo, PlainRf. No condition beyond those at each theorem. -/
import Derived.Test.YtknpbekoenbphaaGreatDoorQk13
set_option linter.unusedVariables false
set_option linter.unusedSimpArgs false
set_option maxHeartbeats 16000000
set_option maxRecDepth 100000
namespace Licit.Rv
open Go Licit
theorem kdw {p:Nat→Bool} {A:List Nat} {i:Nat} (h:A.find? p=none):(A++[i]).find? p=if p i=true then some i else none:=by
 rw [List.find?_append,h]
 by_cases c:p i=true
 ·simp [c]
 ·simp [c]
theorem kfx {p:Nat→Bool} {A:List Nat} {i j:Nat} (h:A.find? p=some j):(A++[i]).find? p=some j:=by
 rw [List.find?_append,h];rfl
theorem person_other (c:Cx) (A:List Nat) (i:Nat) (s:Bs) (h:(c.ev i).author≠s):c.person (A++[i]) s=c.person A s:=by
 unfold Cx.person
 have e1:(A++[i]).find? (fun k=>decide ((c.ev k).kind=1) && decide ((c.ev k).author=s))=A.find? (fun k=>decide ((c.ev k).kind=1) && decide ((c.ev k).author=s)):=by
  cases hq:A.find? (fun k=>decide ((c.ev k).kind=1) && decide ((c.ev k).author=s)) with
  |none=>rw [kdw hq];simp [h]
  |some j=>exact kfx hq
 have e2:(A++[i]).filter (fun k=>decide ((c.ev k).author=s))=A.filter (fun k=>decide ((c.ev k).author=s)):=by
  rw [List.filter_append];simp [h]
 rw [e1,e2]
theorem kiq (c:Cx) (A:List Nat) (i:Nat) (s:Bs) (h:(c.ev i).author=s):(((A++[i]).filter fun k=>decide ((c.ev k).author=s)).length:Int)=((A.filter fun k=>decide ((c.ev k).author=s)).length:Int)+1:=by
 rw [List.filter_append];simp [h]
theorem person_more (c:Cx) (A:List Nat) (i:Nat) (s:Bs) (h:(c.ev i).author=s) (hk:(c.ev i).kind≠1):c.person (A++[i]) s = { c.person A s with next:=(c.person A s).next+1 }:=by
 unfold Cx.person
 have e1:(A++[i]).find? (fun k=>decide ((c.ev k).kind=1) && decide ((c.ev k).author=s))=A.find? (fun k=>decide ((c.ev k).kind=1) && decide ((c.ev k).author=s)):=by
  cases hq:A.find? (fun k=>decide ((c.ev k).kind=1) && decide ((c.ev k).author=s)) with
  |none=>rw [kdw hq];simp [hk]
  |some j=>exact kfx hq
 rw [e1,kiq c A i s h]
 cases A.find? (fun k=>decide ((c.ev k).kind=1) && decide ((c.ev k).author=s)) <;> rfl
theorem person_join (c:Cx) (A:List Nat) (i:Nat) (s:Bs) (h:(c.ev i).author=s) (hk:(c.ev i).kind=1) (hn:∀k∈A,¬ ((c.ev k).kind=1∧(c.ev k).author=s)):c.person (A++[i]) s=⟨(c.ev i).author,(c.ev i).root,(c.ev i).bits,(c.ev i).height,(c.person A s).next+1⟩:=by
 have hq:A.find? (fun k=>decide ((c.ev k).kind=1) && decide ((c.ev k).author=s))=none:=List.find?_eq_none.2 fun k hk2=>by have:=hn k hk2;simpa using this
 unfold Cx.person;rw [kdw hq,kiq c A i s h,hq];simp [hk,h]
theorem person_zero (c:Cx) (s:Bs):c.person [] s=⟨[],[],0,0,0⟩:=rfl
theorem kom (c:Cx) (A:List Nat) (i:Nat) (p:Bs):c.upsOf (A++[i]) p=if (c.ev i).kind=2∧(c.ev i).pkg=p then c.upsOf A p++[i] else c.upsOf A p:=by
 unfold Cx.upsOf;rw [List.filter_append]
 by_cases h:(c.ev i).kind=2∧(c.ev i).pkg=p
 ·rw [if_pos h];simp [h.1,h.2]
 ·rw [if_neg h]
  have:(decide ((c.ev i).kind=2) && decide ((c.ev i).pkg=p))=false:=by
   rw [Bool.eq_false_iff];intro e;rw [Bool.and_eq_true,decide_eq_true_eq,decide_eq_true_eq] at e;exact h e
  simp [this]
theorem pack_yes (c:Cx) (A:List Nat) (i:Nat) (p:Bs) (h:(c.ev i).kind=2) (hp:(c.ev i).pkg=p):c.pack (A++[i]) p=⟨p,(c.ev i).digest,(c.pack A p).ups+1⟩:=by
 unfold Cx.pack;rw [kom,if_pos ⟨h,hp⟩];simp
theorem pack_no (c:Cx) (A:List Nat) (i:Nat) (p:Bs) (h:¬ ((c.ev i).kind=2∧(c.ev i).pkg=p)):c.pack (A++[i]) p=c.pack A p:=by
 unfold Cx.pack;rw [kom,if_neg h]
theorem kln (l:List Bs):kcf ltB (sortB l):=List.Pairwise.imp (fun {a b} c=>ltB_asymm c) (sortB_strict l)
theorem sortB_congr {l l':List Bs} (h:∀z,z∈l ↔ z∈l'):sortB l=sortB l' :=
 sortB_only (strict_nodup (sortB_strict l)) (fun z=>by rw [sortB_mem,h]) (kln l)
section
variable {c:Cx} {A:List Nat} {i:Nat}
theorem ksc {a:Bs} {n:Int} {j:Nat} (h:c.turn A a n=some j):j∈A∧(c.ev j).author=a∧(c.ev j).number=n:=by
 unfold Cx.turn at h;have h1:=List.find?_some h;have h2:=List.mem_of_find?_eq_some h;simp only [Bool.and_eq_true,decide_eq_true_eq] at h1;exact ⟨h2,h1⟩
theorem findI_mem {l:List Bs} {s:Bs}:findI l s<l.length ↔ s∈l:=by
 induction l with
 |nil=>simp [findI]
 |cons a r ih =>
  have e:findI (a :: r) s=if a=s then 0 else findI r s+1:=rfl
  rw [e]
  by_cases h:a=s
  ·simp [h]
  ·rw [if_neg h];simp only [List.length_cons,List.mem_cons,Ne.symm h,false_or,←ih];omega
end
end Licit.Rv
