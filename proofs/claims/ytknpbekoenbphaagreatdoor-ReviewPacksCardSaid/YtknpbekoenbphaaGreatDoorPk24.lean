/- Parts of the proofs: WkRvG, PlainFo, PlainRf. No condition beyond those at each theorem. -/
import Derived.Test.YtknpbekoenbphaaGreatDoorPk21
set_option linter.unusedVariables false
set_option linter.unusedSimpArgs false
set_option maxHeartbeats 16000000
set_option maxRecDepth 100000
namespace Go.Proofs.YtknpbekoenbphaaGreatDoor
open Go Go.RowKit Licit
theorem ktu {l : List Rv.Ev} (h : (Rv.setE l (Rv.idsOf l)).2 ≠ 0) : (Rv.foldE l).2 = Rv.setE l (Rv.idsOf l) := by unfold Rv.foldE Rv.foldI; rw [if_neg h]
theorem kta {l : List Rv.Ev} (h : (Rv.setE l (Rv.idsOf l)).2 = 0) {S : Rv.Stt} (hS : Rv.arrS l (Rv.idsOf l) = some S) : (Rv.foldE l).2 = match (Rv.Cx.mk l (Rv.idsOf l) S).replay [] (Rv.ordI S (Rv.idsOf l)) with
 | some (i, f) => ((i : Int), f)
 | none => (-1, 0) := by
 unfold Rv.foldE Rv.foldI
 rw [if_pos h, hS]
 dsimp only
 generalize Rv.Cx.replay _ _ _ = q
 cases q with
 | none => rfl
 | some p => rfl
theorem koo {l : List Rv.Ev} (h : (Rv.setE l (Rv.idsOf l)).2 = 0) {S : Rv.Stt} (hS : Rv.arrS l (Rv.idsOf l) = some S) (hr : (Rv.Cx.mk l (Rv.idsOf l) S).replay [] (Rv.ordI S (Rv.idsOf l)) = none) : Rv.foldE l = ((Rv.Cx.mk l (Rv.idsOf l) S).state (Rv.ordI S (Rv.idsOf l)), -1, 0) := by
 unfold Rv.foldE Rv.foldI
 rw [if_pos h, hS]
 dsimp only
 rw [hr]
theorem kld {l : List Rv.Ev} (h : (Rv.setE l (Rv.idsOf l)).2 = 0) : (Rv.preE l (Rv.idsOf l)).2 = 0 := by
 unfold Rv.setE at h
 by_cases c : (Rv.preE l (Rv.idsOf l)).2 = 0
 · exact c
 · rw [if_neg c] at h; exact h
theorem kjs (c : Rv.Cx) (A : List Nat) (i : Nat) (r : List Nat) : c.replay A (i :: r) = if c.apply A i = 0 then c.replay (A ++ [i]) r else some (i, c.apply A i) := rfl
def khj (l : List Rv.Ev) (w : World) (en : Ending) (w' : World) : Prop := Below w.heap.size w w' ∧ ∃ jv nv, en = .returned (.tuple #[jv, nv, .int .i64 (Rv.foldE l).2.1, .int .i64 (Rv.foldE l).2.2]) ∧
 ((Rv.foldE l).2.2 = 0 → ∃ (S : Rv.Stt) (pt pb : Nat → Nat) (bj bE bT bN : Nat) (w1 : World), Rv.arrS l (Rv.idsOf l) = some S ∧ Rv.foldE l = ((Rv.Cx.mk l (Rv.idsOf l) S).state (Rv.ordI S (Rv.idsOf l)), -1, 0) ∧ jv = ptr bj ∧ Nds (Rv.Cx.mk l (Rv.idsOf l) S) pt pb w w1 ∧
   Jr (Rv.Cx.mk l (Rv.idsOf l) S) pt (Rv.ordI S (Rv.idsOf l)) bj bE bT bN w1 w' ∧ w'.ownsRow w.heap.size 91 1 nv l.length ((Rv.ordI S (Rv.idsOf l)).map fun i => ptr (pt i)))
theorem kv7 (c : Rv.Cx) (A : List Nat) (i : Nat) (h : c.apply A i ≠ 0) (r : List Nat) : c.replay A (i :: r) = some (i, c.apply A i) := by rw [kjs, if_neg h]
theorem kr1 (v : Value) (l : List Rv.Ev) (w : World) (h : ki9 v l w) (ht : Tab w) : Calls Tryz.prog 53 #[v] w (khj l w) := by
 have HA := hdd (koy v l w h ht)
 have hmm := @run_makeMap Tryz.prog
 clear h ht
 by_cases hE : (Rv.setE l (Rv.idsOf l)).2 = 0
 rotate_left
 · have d1 : ((Rv.setE l (Rv.idsOf l)).2 == 0) = false := beq_eq_false_iff_ne.2 hE
   have d2 : ((Rv.setE l (Rv.idsOf l)).2 != 0) = true := by rw [bne, d1]; rfl
   have HF := hdd (ktu hE)
   have HE := hdd hE
   clear hE
   go_enter Tryz.func53, Tryz.ntmps53
   go_wp2_with (first | (go_at_call 66; refine HA.out.mono ?_; intro en w1 hpost; unfold ked at hpost; obtain ⟨hb1, va, rfl, -⟩ := hpost; have HB1 := hdd hb1; clear hb1) | fail)
   have hP : khj l w (.returned (.tuple #[.pointer none, .slice none 0 0, .int .i64 (Rv.setE l (Rv.idsOf l)).1, .int .i64 (Rv.setE l (Rv.idsOf l)).2])) w1 := by
    unfold khj
    rw [HF.out]
    exact ⟨HB1.out, _, _, rfl, fun h => absurd h HE.out⟩
   refine bodyPost_ret (v := .tuple #[.pointer none, .slice none 0 0, .int .i64 (Rv.setE l (Rv.idsOf l)).1, .int .i64 (Rv.setE l (Rv.idsOf l)).2]) (by simp [results, Tryz.results53, go_sem]) rfl hP
 have HE := hdd hE
 go_enter Tryz.func53, Tryz.ntmps53
 go_upto_region 2 with (first | (go_at_call 66; refine HA.out.mono ?_; intro en w1 hpost; unfold ked at hpost; rw [hE] at hpost; obtain ⟨hb1, va, rfl, hok⟩ := hpost; have HB1 := hdd hb1; have HOK := hdd (hok rfl); clear hb1 hok) | fail)
 obtain ⟨S, pt, pb, hS, hSl, hown, hnd⟩ := HOK.out
 obtain ⟨a, cap, rfl⟩ := kah hown
 generalize (Rv.setE l (Rv.idsOf l)).1 = e1 at *
 obtain ⟨c, hc⟩ : ∃ c : Rv.Cx, c = Rv.Cx.mk l (Rv.idsOf l) S := ⟨_, rfl⟩
 have hlow := Rv.arrS_lower hS
 have hN : Nds c pt pb w w1 := by
  rw [hc]
  exact ⟨ksf.of l (kld HE.out), hSl, hlow.1, kiy l, HB1.out, hnd⟩
 have HN := hdd hN
 have HS := hdd hS
 have HOwn := hdd hown
 have HC := hdd hc
 have HSl := hdd hSl
 have HLow := hdd hlow.1
 have HRep := hdd (kta HE.out hS)
 obtain ⟨O, hO⟩ : ∃ O, Rv.ordI S (Rv.idsOf l) = O := ⟨_, rfl⟩
 have HO := hdd hO
 have hOl : O.length = l.length := by rw [← hO, (Rv.ordI_perm S _).length_eq, List.length_range, hSl]
 have HOl := hdd hOl
 have hle := (ksf.of l (kld HE.out)).le
 clear hS hSl hown hnd hlow hN HOK hE hO hc HA hOl
 go_upto_region 5 with fail
 have hb4 : Below w1.heap.size w1 ((((w1.alloc (.map #[] 0)).alloc (.map #[] 0)).alloc (.map #[] 0)).alloc (.cells #[.map (some w1.heap.size), .map (some (w1.heap.size + 1)), .slice none 0 0, .map (some (w1.heap.size + 2))] 138)) := ((((Below.refl _ _).alloc (Nat.le_refl _) _).alloc (by simp) _).alloc (by simp; omega) _).alloc (by simp; omega) _
 have hJ0 : Jr c pt [] (w1.heap.size + 1 + 1 + 1) w1.heap.size (w1.heap.size + 1) (w1.heap.size + 1 + 1) w1 ((((w1.alloc (.map #[] 0)).alloc (.map #[] 0)).alloc (.map #[] 0)).alloc (.cells #[.map (some w1.heap.size), .map (some (w1.heap.size + 1)), .slice none 0 0, .map (some (w1.heap.size + 1 + 1))] 138)) := by
  refine ⟨hb4, ?_, ?_, ⟨[], ?_, fun s => rfl⟩, ⟨.slice none 0 0, kaj (by simp) rfl, World.ownsRow_nil _ _ _ _⟩, by simp, by omega, by omega, by omega, by omega, by omega⟩
  · exact (kbj.made w1).below (B := (w1.alloc (.map #[] 0)).heap.size) ((((Below.refl _ _).alloc (Nat.le_refl _) _).alloc (by simp) _).alloc (by simp) _) (by simp)
  · have h := kbj.made (P := Tryz.prog) (k := 140) (kv := kT) (w1.alloc (.map #[] 0))
    rw [World.size_alloc] at h
    exact h.below (B := ((w1.alloc (.map #[] 0)).alloc (.map #[] 0)).heap.size) (((Below.refl _ _).alloc (Nat.le_refl _) _).alloc (by simp) _) (by simp)
  · have h := kbj.made (P := Tryz.prog) (k := 9) (kv := kS) ((w1.alloc (.map #[] 0)).alloc (.map #[] 0))
    rw [World.size_alloc, World.size_alloc] at h
    exact h.below (B := (((w1.alloc (.map #[] 0)).alloc (.map #[] 0)).alloc (.map #[] 0)).heap.size) ((Below.refl _ _).alloc (Nat.le_refl _) _) (by simp)
 have HJ0 := hdd hJ0
 have hcl : c.l = l := by rw [HC.out]
 have hcS : c.S = S := by rw [HC.out]
 have Hcl := hdd hcl
 have HcS := hdd hcS
 have HRep2 := hdd (show (Rv.foldE l).2 = match c.replay [] O with
  | some (i, f) => ((i : Int), f)
  | none => (-1, 0) by rw [HRep.out, HC.out, HO.out])
 clear hb4 hJ0 hcl hcS HRep
 go_wp2
 go_loopw [11, 12, 30] (fun _ _ n wr => ∃ k : Nat, k ≤ O.length ∧ n = .int .i64 k ∧ Jr c pt (O.take k) (w1.heap.size + 1 + 1 + 1) w1.heap.size (w1.heap.size + 1) (w1.heap.size + 1 + 1) w1 wr ∧ c.replay (O.take k) (O.drop k) = c.replay [] O) (fun _ _ n _ => O.length - (intOf n).toNat)
 case atStart => exact ⟨0, Nat.zero_le _, rfl, HJ0.out, rfl⟩
 case round =>
  obtain ⟨k, hk, rfl, hj, hr⟩ := hrel
  have HJ := hdd hj
  have HR := hdd hr
  clear hj hr
  have hol := HOl.out
  by_cases hlt : k < O.length
  · have hlt2 : k < l.length := by omega
    obtain ⟨g0, cv, hve, -, -, -⟩ := kb2 HOwn.out (by omega)
    simp only [Value.slice.injEq, true_and] at hve
    obtain ⟨rfl, rfl⟩ := hve
    obtain ⟨i, hi⟩ : ∃ i, O[k] = i := ⟨_, rfl⟩
    have how := kcu HOwn.out (w' := wr) fun q hq => HJ.out.below.block q (HOwn.out.lt q hq).2
    have cd : wr.cell? ⟨g0, k, none⟩ = some (ptr (pt i)) := by
     rw [kid how (by rw [List.length_map, HO.out]; exact hlt), HO.out, List.getElem?_map, List.getElem?_eq_getElem hlt, hi]; rfl
    have cd' : wr.cell? ⟨g0, 0 + k, none⟩ = some (ptr (pt i)) := by rw [Nat.zero_add]; exact cd
    have hperm := Rv.ordI_perm S (Rv.idsOf l)
    have hsplit : O = O.take k ++ i :: O.drop (k + 1) := by
     rw [← hi, ← List.drop_eq_getElem_cons hlt, List.take_append_drop]
    have hnd : O.Nodup := by rw [← HO.out]; exact hperm.nodup_iff.2 List.nodup_range
    have hil : i < c.l.length := by
     rw [Hcl.out, ← HSl.out]
     have : i ∈ O := by rw [← hi]; exact List.getElem_mem hlt
     rw [← HO.out] at this
     exact List.mem_range.1 (hperm.mem_iff.1 this)
    have hiA : i ∉ O.take k := by
     rw [hsplit] at hnd
     intro hm
     exact (List.nodup_append.1 hnd).2.2 i hm i (by simp) rfl
    have hA : ∀ q ∈ O.take k, c.past q i = false := by
     intro q hq
     show Rv.pastI c.S q i = false
     rw [HcS.out]
     exact Rv.past_early HLow.out (HO.out.trans hsplit) q hq
    have hii : c.past i i = false := by
     show Rv.pastI c.S i i = false
     rw [HcS.out]
     exact Rv.past_self HLow.out i
    have HApp := hdd (ksy c pt pb (O.take k) _ _ _ _ w w1 wr HN.out HJ.out i hil hiA hA hii (by rw [List.length_take]; omega))
    have hdrop : O.drop k = i :: O.drop (k + 1) := by rw [← hi]; exact List.drop_eq_getElem_cons hlt
    have htake : O.take (k + 1) = O.take k ++ [i] := by rw [List.take_succ_eq_append_getElem hlt, hi]
    have HDr := hdd hdrop
    have HTk := hdd htake
    have HIl := hdd hil
    clear hperm hsplit hnd hil hiA hA hii hdrop htake how hi
    by_cases hap : c.apply (O.take k) i = 0
    · have HAp := hdd hap
      clear hap
      go_wp2_with (first
       | (go_at_call 114; refine HApp.out.mono ?_; intro en w2 hpost; unfold kkh at hpost; rw [HAp.out] at hpost; obtain ⟨rfl, hb2, hj2⟩ := hpost; have HB2 := hdd hb2; have HJ2 := hdd (hj2 rfl); clear hb2 hj2)
       | fail)
      go_roundw
      case rel => exact ⟨k + 1, by omega, by go_num, by rw [HTk.out]; exact HJ2.out, by rw [← HR.out, HDr.out, kjs, if_pos HAp.out, HTk.out]⟩
      case measure => simp [intOf]; omega
    · have d1 : (c.apply (O.take k) i == 0) = false := beq_eq_false_iff_ne.2 hap
      have d2 : (c.apply (O.take k) i != 0) = true := by rw [bne, d1]; rfl
      have HRes := hdd (show (Rv.foldE l).2 = ((i : Int), c.apply (O.take k) i) by rw [HRep2.out, ← HR.out, HDr.out, kv7 c _ i hap])
      have HAp := hdd hap
      clear hap
      go_upto_region 10 with (first
       | (go_at_call 114; refine HApp.out.mono ?_; intro en w2 hpost; unfold kkh at hpost; obtain ⟨rfl, hb2, -⟩ := hpost; have HB2 := hdd hb2; clear hb2)
       | fail)
      obtain ⟨⟨r2, na2, nc2, ta2, tc2, sa2, sc2, ha2, hc2, ra2, rc2, -, hni⟩, -, -⟩ := HN.out.at HB2.out HIl.out
      have ci1 : w2.cell? ⟨pt i, 1, none⟩ = some (.int .i64 (i : Int)) := by rw [kab hni]; rfl
      have hP : khj l w (.returned (.tuple #[.pointer none, .slice none 0 0, .int .i64 (i : Int), .int .i64 (c.apply (O.take k) i)])) w2.drew := by
       unfold khj
       rw [HRes.out]
       exact ⟨(HB1.out.next HB2.out).drew, _, _, rfl, fun h => absurd h HAp.out⟩
      have HP := hdd hP
      clear hni hP
      refine wp_region_still_lit (by kernel_rfl) (by kernel_rfl) ?_
      repeat still_step
      refine wpStill_nil ?_
      rw [show (⟨w2.heap, w2.tape, w2.drawn + 1, w2.os, w2.output⟩ : World) = w2.drew from rfl]
      go_wp2
      refine bodyPost_ret (v := .tuple #[.pointer none, .slice none 0 0, .int .i64 (i : Int), .int .i64 (c.apply (O.take k) i)]) (by simp [results, Tryz.results53, go_sem]) rfl HP.out
  · have hkl : k = O.length := by omega
    subst hkl
    have hr := HR.out
    rw [List.take_length, List.drop_length] at hr
    have hnone : c.replay [] O = none := hr.symm
    have hj := HJ.out
    rw [List.take_length] at hj
    have hfs := koo HE.out HS.out (by rw [HO.out, ← HC.out]; exact hnone)
    have hP : khj l w (.returned (.tuple #[ptr (w1.heap.size + 1 + 1 + 1), .slice a l.length cap, .int .i64 (-1), .int .i64 0])) wr := by
     unfold khj
     rw [hfs]
     refine ⟨HB1.out.next hj.below, _, _, rfl, fun _ => ⟨S, pt, pb, w1.heap.size + 1 + 1 + 1, w1.heap.size, w1.heap.size + 1, w1.heap.size + 1 + 1, w1, HS.out, rfl, rfl, ?_, ?_, kcu HOwn.out fun q hq => hj.below.block q (HOwn.out.lt q hq).2⟩⟩
     · rw [← HC.out]; exact HN.out
     · rw [← HC.out, HO.out]; exact hj
    have HP := hdd hP
    clear hr hnone hj hfs hP
    go_wp2
    refine bodyPost_ret (v := .tuple #[ptr (w1.heap.size + 1 + 1 + 1), .slice a l.length cap, .int .i64 (-1), .int .i64 0]) (by simp [results, Tryz.results53, go_sem]) rfl HP.out
end Go.Proofs.YtknpbekoenbphaaGreatDoor
namespace Licit.Rv
open Go Licit
theorem ke0 {p : Nat → Bool} {A : List Nat} {i : Nat} (h : A.find? p = none) : (A ++ [i]).find? p = if p i = true then some i else none := by
 rw [List.find?_append, h]
 by_cases c : p i = true
 · simp [c]
 · simp [c]
theorem kgy {p : Nat → Bool} {A : List Nat} {i j : Nat} (h : A.find? p = some j) : (A ++ [i]).find? p = some j := by
 rw [List.find?_append, h]; rfl
theorem person_other (c : Cx) (A : List Nat) (i : Nat) (s : Bs) (h : (c.ev i).author ≠ s) : c.person (A ++ [i]) s = c.person A s := by
 unfold Cx.person
 have e1 : (A ++ [i]).find? (fun k => decide ((c.ev k).kind = 1) && decide ((c.ev k).author = s)) = A.find? (fun k => decide ((c.ev k).kind = 1) && decide ((c.ev k).author = s)) := by
  cases hq : A.find? (fun k => decide ((c.ev k).kind = 1) && decide ((c.ev k).author = s)) with
  | none => rw [ke0 hq]; simp [h]
  | some j => exact kgy hq
 have e2 : (A ++ [i]).filter (fun k => decide ((c.ev k).author = s)) = A.filter (fun k => decide ((c.ev k).author = s)) := by
  rw [List.filter_append]; simp [h]
 rw [e1, e2]
theorem kj0 (c : Cx) (A : List Nat) (i : Nat) (s : Bs) (h : (c.ev i).author = s) : (((A ++ [i]).filter fun k => decide ((c.ev k).author = s)).length : Int) = ((A.filter fun k => decide ((c.ev k).author = s)).length : Int) + 1 := by
 rw [List.filter_append]; simp [h]
theorem person_more (c : Cx) (A : List Nat) (i : Nat) (s : Bs) (h : (c.ev i).author = s) (hk : (c.ev i).kind ≠ 1) : c.person (A ++ [i]) s = { c.person A s with next := (c.person A s).next + 1 } := by
 unfold Cx.person
 have e1 : (A ++ [i]).find? (fun k => decide ((c.ev k).kind = 1) && decide ((c.ev k).author = s)) = A.find? (fun k => decide ((c.ev k).kind = 1) && decide ((c.ev k).author = s)) := by
  cases hq : A.find? (fun k => decide ((c.ev k).kind = 1) && decide ((c.ev k).author = s)) with
  | none => rw [ke0 hq]; simp [hk]
  | some j => exact kgy hq
 rw [e1, kj0 c A i s h]
 cases A.find? (fun k => decide ((c.ev k).kind = 1) && decide ((c.ev k).author = s)) <;> rfl
theorem person_join (c : Cx) (A : List Nat) (i : Nat) (s : Bs) (h : (c.ev i).author = s) (hk : (c.ev i).kind = 1) (hn : ∀ k ∈ A, ¬ ((c.ev k).kind = 1 ∧ (c.ev k).author = s)) : c.person (A ++ [i]) s = ⟨(c.ev i).author, (c.ev i).root, (c.ev i).bits, (c.ev i).height, (c.person A s).next + 1⟩ := by
 have hq : A.find? (fun k => decide ((c.ev k).kind = 1) && decide ((c.ev k).author = s)) = none := List.find?_eq_none.2 fun k hk2 => by have := hn k hk2; simpa using this
 unfold Cx.person
 rw [ke0 hq, kj0 c A i s h, hq]
 simp [hk, h]
theorem person_zero (c : Cx) (s : Bs) : c.person [] s = ⟨[], [], 0, 0, 0⟩ := rfl
theorem kql (c : Cx) (A : List Nat) (i : Nat) (p : Bs) : c.upsOf (A ++ [i]) p = if (c.ev i).kind = 2 ∧ (c.ev i).pkg = p then c.upsOf A p ++ [i] else c.upsOf A p := by
 unfold Cx.upsOf
 rw [List.filter_append]
 by_cases h : (c.ev i).kind = 2 ∧ (c.ev i).pkg = p
 · rw [if_pos h]; simp [h.1, h.2]
 · rw [if_neg h]
   have : (decide ((c.ev i).kind = 2) && decide ((c.ev i).pkg = p)) = false := by
    rw [Bool.eq_false_iff]; intro e; rw [Bool.and_eq_true, decide_eq_true_eq, decide_eq_true_eq] at e; exact h e
   simp [this]
theorem pack_yes (c : Cx) (A : List Nat) (i : Nat) (p : Bs) (h : (c.ev i).kind = 2) (hp : (c.ev i).pkg = p) : c.pack (A ++ [i]) p = ⟨p, (c.ev i).digest, (c.pack A p).ups + 1⟩ := by
 unfold Cx.pack
 rw [kql, if_pos ⟨h, hp⟩]
 simp
theorem pack_no (c : Cx) (A : List Nat) (i : Nat) (p : Bs) (h : ¬ ((c.ev i).kind = 2 ∧ (c.ev i).pkg = p)) : c.pack (A ++ [i]) p = c.pack A p := by
 unfold Cx.pack
 rw [kql, if_neg h]
theorem knc (l : List Bs) : kd4 ltB (sortB l) := List.Pairwise.imp (fun {a b} c => ltB_asymm c) (sortB_strict l)
theorem sortB_congr {l l' : List Bs} (h : ∀ z, z ∈ l ↔ z ∈ l') : sortB l = sortB l' :=
 sortB_only (strict_nodup (sortB_strict l)) (fun z => by rw [sortB_mem, h]) (knc l)
end Licit.Rv
