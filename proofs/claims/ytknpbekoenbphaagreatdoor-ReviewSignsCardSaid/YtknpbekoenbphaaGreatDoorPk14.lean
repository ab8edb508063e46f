/- Parts of the proofs: WkRv7, WkRv8, PlainRt. No condition beyond those at each theorem. -/
import Derived.Carry
import Derived.Deep.LoopGhost
import Derived.Test.YtknpbekoenbphaaGreatDoorPk13
set_option linter.unusedVariables false
set_option linter.unusedSimpArgs false
set_option maxHeartbeats 16000000
set_option maxRecDepth 100000
namespace Go.Proofs.YtknpbekoenbphaaGreatDoor
open Go Go.RowKit Licit
def k0w (b o : Nat) (e : Rv.Ev) (w : World) : Prop := ∃ na nc ta tc sa sc ha hc ra rc, kc1 (evW e na nc ta tc sa sc ha hc ra rc) e w ∧ w.rangeAt b o (evS e na nc ta tc sa sc ha hc ra rc).toList
def ki9 (v : Value) (l : List Rv.Ev) (w : World) : Prop := l.length ≤ 100000 ∧ ((∃ a cap, v = .slice a 0 cap ∧ l = []) ∨
 ∃ b off cap, v = .slice (some ⟨b, off, none⟩) l.length cap ∧ 0 < l.length ∧ b < w.heap.size ∧ ∀ i, i < l.length → k0w b (off + i * 18) (l.getD i Rv.ev0) w)
theorem kj9 {w w' : World} {b o : Nat} {cs : List Value} (h : w.rangeAt b o cs) (hb : Below w.heap.size w w') (hlt : b < w.heap.size) : w'.rangeAt b o cs := fun j v hj => by
 rw [hb.cell (p := ⟨b, o + j, none⟩) hlt]; exact h j v hj
theorem k0w.below {b o : Nat} {e : Rv.Ev} {w w' : World} (h : k0w b o e w) (hb : Below w.heap.size w w') (hlt : b < w.heap.size) : k0w b o e w' := by
 obtain ⟨na, nc, ta, tc, sa, sc, ha, hc, ra, rc, h1, h2⟩ := h
 exact ⟨na, nc, ta, tc, sa, sc, ha, hc, ra, rc, h1.below hb, kj9 h2 hb hlt⟩
theorem ki9.below {v : Value} {l : List Rv.Ev} {w w' : World} (h : ki9 v l w) (hb : Below w.heap.size w w') : ki9 v l w' := by
 refine ⟨h.1, ?_⟩
 rcases h.2 with h | ⟨b, off, cap, rfl, h0, hlt, hc⟩
 · exact .inl h
 · exact .inr ⟨b, off, cap, rfl, h0, Nat.lt_of_lt_of_le hlt hb.size, fun i hi => (hc i hi).below hb hlt⟩
theorem ki9.form {v : Value} {l : List Rv.Ev} {w : World} (h : ki9 v l w) : ∃ a cap, v = .slice a l.length cap := by
 rcases h.2 with ⟨a, cap, rfl, rfl⟩ | ⟨b, off, cap, rfl, _⟩
 · exact ⟨a, cap, rfl⟩
 · exact ⟨_, cap, rfl⟩
theorem ki9.at {a : Option Addr} {n cap : Nat} {l : List Rv.Ev} {w : World} (h : ki9 (.slice a n cap) l w) {i : Nat} (hi : i < l.length) : ∃ b off, a = some ⟨b, off, none⟩ ∧ b < w.heap.size ∧ k0w b (off + i * 18) (l.getD i Rv.ev0) w := by
 rcases h.2 with ⟨a, cap, e, rfl⟩ | ⟨b, off, cap, e, h0, hlt, hc⟩
 · simp at hi
 · simp only [Value.slice.injEq] at e
   obtain ⟨rfl, -, -⟩ := e
   exact ⟨b, off, rfl, hlt, hc i hi⟩
def kkp (l : List Rv.Ev) (k : Nat) : List Bs := (l.take k).map Rv.idE ++ List.replicate (l.length - k) []
theorem krp (l : List Rv.Ev) : kkp l 0 = List.replicate l.length [] := by simp [kkp]
theorem kto (l : List Rv.Ev) : kkp l l.length = Rv.idsOf l := by simp [kkp, Rv.idsOf]
theorem kte (l : List Rv.Ev) {k : Nat} (h : k ≤ l.length) : (kkp l k).length = l.length := by simp [kkp]; omega
theorem krj (l : List Rv.Ev) {k : Nat} (h : k < l.length) : (kkp l k).set k (Rv.idE (l.getD k Rv.ev0)) = kkp l (k + 1) := by
 unfold kkp
 have hl : ((l.take k).map Rv.idE).length = k := by simp; omega
 rw [List.set_append_right _ _ (by omega), hl, show l.length - k = (l.length - (k + 1)) + 1 by omega, List.replicate_succ, List.take_succ_eq_append_getElem h, List.map_append, List.getD_eq_getElem?_getD, List.getElem?_eq_getElem h]
 simp only [Nat.sub_self, List.set_cons_zero, Option.getD_some, List.map_cons, List.map_nil, List.append_assoc, List.singleton_append]
theorem k0q (n : Nat) : (madeCells #[Value.string ⟨#[]⟩] n).toList = (List.replicate n []).map vS := by
 simp [madeCells, vS, B]
 apply List.ext_getElem
 · simp
 · intro i h1 h2
   simp [Nat.mod_one]
theorem k1c (L : List Bs) (i : Nat) (x : Bs) : (L.map vS).toArray.setIfInBounds i (vS x) = ((L.set i x).map vS).toArray := by simp [List.map_set]
theorem kc1.namesIs {e : Rv.Ev} {na ta sa ha ra : Option Addr} {nc tc sc hc rc : Nat} {w : World} (h : kc1 (evW e na nc ta tc sa sc ha hc ra rc) e w) : IsSl (.slice na e.names.length nc) (e.names.map vS) w := by
 obtain ⟨ho, na', nc', ta', tc', sa', sc', ha', hc', ra', rc', hq, hN, -⟩ := h
 simp only [Value.agg.injEq, Array.mk.injEq, List.cons.injEq, Value.slice.injEq, true_and, and_true] at hq
 obtain ⟨⟨rfl, rfl⟩, -⟩ := hq
 exact hN
theorem krx (ids : List Bs) (l : List Bs) : (l.any fun s => decide (ids.length ≤ Rv.findI ids s)) = l.any fun s => !decide (s ∈ ids) := by
 congr 1
 funext s
 by_cases h : s ∈ ids
 · rw [decide_eq_false (by have := kq2.2 h; omega), decide_eq_true h]; rfl
 · have h3 : ¬ Rv.findI ids s < ids.length := fun h2 => h (kq2.1 h2)
   rw [decide_eq_true (by omega), decide_eq_false h]; rfl
theorem Tryz.infoS : (Tryz.prog.info? 9).map (fun i => (i.zero, i.size, i.bytes)) = some (some (.string ⟨#[]⟩), 1, 16) := by kernel_rfl
def kj3 (l : List Rv.Ev) (w : World) (en : Ending) (w' : World) : Prop := Below w.heap.size w w' ∧ ∃ v, en = .returned (.tuple #[v, .int .i64 (Rv.preE l (Rv.idsOf l)).1, .int .i64 (Rv.preE l (Rv.idsOf l)).2]) ∧
 ((Rv.preE l (Rv.idsOf l)).2 = 0 → ∃ b, v = .slice (some ⟨b, 0, none⟩) l.length l.length ∧ w.heap.size ≤ b ∧ w'.heap[b]? = some (.cells (((Rv.idsOf l).map vS).toArray) 9 (0, 0)))
theorem kne (v : Value) (l : List Rv.Ev) (w : World) (h : ki9 v l w) (ht : Tab w) : Calls Tryz.prog 129 #[v] w (kj3 l w) := by
 obtain ⟨a, cap, rfl⟩ := h.form
 have hl := h.1
 obtain ⟨i0, hi, hz0, hz1, hz2⟩ := info_parts Tryz.infoS
 have Hi := hdd hi
 have Hz0 := hdd hz0
 have Hz1 := hdd hz1
 have Hz2 := hdd hz2
 have HL := hdd h
 have HT := hdd ht
 clear hi hz0 hz1 hz2 h ht
 by_cases c0 : 1024 < l.length
 · have hp : Rv.preE l (Rv.idsOf l) = (-1, 10) := by unfold Rv.preE; rw [if_pos c0]
   have d0 : decide (1024 < (l.length : Int)) = true := decide_eq_true (by omega)
   have HP := hdd (show kj3 l w (.returned (.tuple #[.slice none 0 0, .int .i64 (-1), .int .i64 10])) w by
    unfold kj3
    rw [hp]
    exact ⟨Below.refl _ _, _, rfl, fun h => by cases h⟩)
   clear hp c0
   go_enter Tryz.func129, Tryz.ntmps129
   go_wp2
   refine bodyPost_ret (v := .tuple #[.slice none 0 0, .int .i64 (-1), .int .i64 10]) (by simp [results, Tryz.results129, go_sem]) rfl HP.out
 have d0 : decide (1024 < (l.length : Int)) = false := decide_eq_false (by omega)
 go_enter Tryz.func129, Tryz.ntmps129
 go_wp2_with (first
  | (at_make
     refine wpList_make_full _ rfl _ _ 39 rfl w.heap.size 9 i0 (.string ⟨#[]⟩) 1 Tryz.underlying39 Hi.out Hz0.out Hz1.out _ _ _ _ l.length rfl rfl rfl rfl (by rw [Hz2.out]; omega) (by unfold maxLen; omega) (by simp) ?_
     intro w1 ho1 hg1
     have hb1 : Below w.heap.size w w1 := (Below.refl _ _).grown hg1 (by simp) (by simp)
     have hr1 := Sha.own_full ho1
     rw [show (madeCells (Value.string ⟨#[]⟩).cells (l.length * 1)).toList = (kkp l 0).map vS by rw [krp, Nat.mul_one]; exact k0q l.length] at hr1
     have HB1 := hdd hb1
     have HR1 := hdd hr1
     clear ho1 hg1 hb1 hr1))
 go_loopw [6, 7, 8, 9, 23] (fun _ _ _ _ n wr => ∃ k : Nat, k ≤ l.length ∧ n = .int .i64 k ∧ (∀ i, i < k → (!Rv.validB (l.getD i Rv.ev0)) = false) ∧ wr.heap[w.heap.size]? = some (.cells ((kkp l k).map vS).toArray 9 (0, 0)) ∧ Below w.heap.size w wr) (fun _ _ _ _ n _ => l.length - (intOf n).toNat)
 case atStart => exact ⟨0, by omega, rfl, fun i hi => by omega, HR1.out, HB1.out⟩
 case round =>
  obtain ⟨k, hk, rfl, hv, hr, hB⟩ := hrel
  have HV := hdd hv
  have HR := hdd hr
  have HB := hdd hB
  clear hv hr hB
  by_cases hlt : k < l.length
  · obtain ⟨b, off, rfl, hbw, na, nc, ta, tc, sa, sc, ha, hc, ra, rc, hE, hA⟩ := (HL.out.below HB.out).at hlt
    have HE := hdd hE
    have HA := hdd hA
    have hfs := krj l hlt
    have hid : Rv.validB (l.getD k Rv.ev0) = true → Rv.idsOf l = Rv.idsOf l := fun _ => rfl
    have HVE := hdd (fun (hx : Rv.validB (l.getD k Rv.ev0) = false) => (kha (p := fun i => !Rv.validB (l.getD i Rv.ev0)) hlt HV.out (by rw [hx]; rfl)))
    have HVT := hdd (fun (hx : Rv.validB (l.getD k Rv.ev0) = true) => (show ∀ i, i < k + 1 → (!Rv.validB (l.getD i Rv.ev0)) = false from fun i hi => by
     rcases Nat.lt_succ_iff_lt_or_eq.1 hi with h2 | rfl
     · exact HV.out i h2
     · rw [hx]; rfl))
    have HFS := hdd hfs
    have HBw := hdd hbw
    generalize l.getD k Rv.ev0 = e at *
    have HO := hdd (evS1 e na nc ta tc sa sc ha hc ra rc)
    clear hE hA hfs hid hbw
    cases hq : Rv.validB e
    · have HQ := hdd hq
      have hi1 : Rv.validE e = 1 := by unfold Rv.validE; rw [hq]; rfl
      have HI := hdd hi1
      have HP := hdd (show Rv.preE l (Rv.idsOf l) = ((k : Int), 1) by unfold Rv.preE; rw [if_neg c0, HVE.out hq])
      clear hq hi1
      go_wp2_with (first
       | (refine wpList_load_mid rfl 45 _ rfl b _ rfl (evS e na nc ta tc sa sc ha hc ra rc).toList _ HA.out rfl rfl (by kernel_rfl) ?_)
       | (refine kaa rfl 45 _ _ rfl wr.heap.size rfl (evS e na nc ta tc sa sc ha hc ra rc) rfl 45 evZ (kaj rfl rfl) (by kernel_rfl) rfl HO.out ?_
          intro w2 hw2 hk2
          have hb2 : Below wr.heap.size wr w2 := ((Below.refl _ _).alloc (Nat.le_refl _) _).trans (hk2.below (B := wr.heap.size) (by simp) (fun q hq e => by have : q = wr.heap.size := e; omega))
          have HW2 := hdd hw2
          have HB2 := hdd (HB.out.next hb2)
          have HR2 := bhh hb2 HR
          have HE2 := hdd (HE.out.below hb2)
          clear hw2 hk2 hb2)
       | (refine wpList_load_row rfl 45 _ rfl wr.heap.size rfl 45 (evS e na nc ta tc sa sc ha hc ra rc) (0, 0) _ HW2.out rfl rfl (by kernel_rfl) ?_)
       | fail)
      refine (knh _ e _ HE2.out (HT.out.same HB2.out)).mono ?_
      rw [HI.out]
      rintro en w3 ⟨rfl, hb⟩
      have HB3 := hdd (HB2.out.next hb)
      have HR3 := bhh hb HR2
      clear hb
      go_wp2
      refine bodyPost_ret (v := .tuple #[.slice none 0 0, .int .i64 (k : Int), .int .i64 1]) (by simp [results, Tryz.results129, go_sem]) rfl ?_
      unfold kj3
      rw [HP.out]
      exact ⟨HB3.out, _, rfl, fun h => by cases h⟩
    · have HQ := hdd hq
      have hi1 : Rv.validE e = 0 := by unfold Rv.validE; rw [hq]; rfl
      have HI := hdd hi1
      clear hq hi1
      go_wp2_with (first
       | (refine wpList_load_mid rfl 45 _ rfl b _ rfl (evS e na nc ta tc sa sc ha hc ra rc).toList _ HA.out rfl rfl (by kernel_rfl) ?_)
       | (refine kaa rfl 45 _ _ rfl wr.heap.size rfl (evS e na nc ta tc sa sc ha hc ra rc) rfl 45 evZ (kaj rfl rfl) (by kernel_rfl) rfl HO.out ?_
          intro w2 hw2 hk2
          have hb2 : Below wr.heap.size wr w2 := ((Below.refl _ _).alloc (Nat.le_refl _) _).trans (hk2.below (B := wr.heap.size) (by simp) (fun q hq e => by have : q = wr.heap.size := e; omega))
          have HW2 := hdd hw2
          have HB2 := hdd (HB.out.next hb2)
          have HR2 := bhh hb2 HR
          have HE2 := hdd (HE.out.below hb2)
          clear hw2 hk2 hb2)
       | (refine wpList_load_row rfl 45 _ rfl wr.heap.size rfl 45 (evS e na nc ta tc sa sc ha hc ra rc) (0, 0) _ HW2.out rfl rfl (by kernel_rfl) ?_)
       | fail)
      refine (knh _ e _ HE2.out (HT.out.same HB2.out)).mono ?_
      rw [HI.out]
      rintro en w3 ⟨rfl, hb⟩
      have HB3 := hdd (HB2.out.next hb)
      have HR3 := bhh hb HR2
      clear hb
      go_wp2_with (refine kae rfl 9 _ _ rfl w.heap.size k rfl (vS (Rv.idE e)) rfl rfl rfl _ _ HR3.out (by simp [kte l hk]; exact hlt) (by kernel_rfl) ?_
                   intro w4 h4 hk4
                   rw [k1c, HFS.out] at h4
                   have HR4 := hdd h4
                   have HB4 := hdd (HB3.out.trans (hk4.below HB3.out.size (fun q hq e => by have : q = w.heap.size := e; omega)))
                   clear h4 hk4)
      go_roundw
      case rel => exact ⟨k + 1, by omega, by go_num, HVT.out HQ.out, HR4.out, HB4.out⟩
      case measure => simp [intOf]; omega
  · obtain rfl : k = l.length := by omega
    have hr := HR.out
    rw [kto] at hr
    have hvA : Rv.firstF (fun i => !Rv.validB (l.getD i Rv.ev0)) l.length = none := keg.2 HV.out
    have hidl : (Rv.idsOf l).length = l.length := by simp [Rv.idsOf]
    have hids : ∀ x ∈ Rv.idsOf l, x.length ≤ maxLen := by
     intro x hx
     obtain ⟨e, -, rfl⟩ := List.mem_map.1 hx
     unfold Rv.idE
     split
     · show (Sha.sha _).length ≤ _
       rw [Sha.sha_len]
       decide
     · simp
    have HVA := hdd hvA
    have HIdl := hdd hidl
    have HIds := hdd hids
    clear HR hlt hk HV
    have HR := hdd hr
    clear hr hvA hidl hids
    have hmm := @run_makeMap Tryz.prog
    obtain ⟨wo, rfl⟩ : ∃ wo : World, wo = wr := ⟨_, rfl⟩
    have hbo : Below wo.heap.size wo ((wo.alloc (.map #[] 0)).alloc (.cells #[.map (some wo.heap.size)] 92)) := ((Below.refl _ _).alloc (Nat.le_refl _) _).alloc (by simp) _
    have HBo := hdd (HB.out.next hbo)
    have HRo := bhh hbo HR
    have hlt0 := kac HR.out
    have HVo := hdd (show ((wo.alloc (.map #[] 0)).alloc (.cells #[.map (some wo.heap.size)] 92)).heap[wo.heap.size + 1]? = some (.cells #[.map (some wo.heap.size)] 92 (0, 0)) from kaj (by simp) rfl)
    have HMo := hdd (show kfw ((wo.alloc (.map #[] 0)).alloc (.cells #[.map (some wo.heap.size)] 92)) wo.heap.size [] from (kbj.made wo).below ((Below.refl (wo.alloc (.map #[] 0)).heap.size _).alloc (Nat.le_refl _) _) (by simp))
    have HS0 := hdd (Nat.le_of_lt hlt0)
    clear hbo
    go_wp2
    go_loopw [11, 12, 45] (fun _ _ n wr => ∃ k : Nat, k ≤ l.length ∧ n = .int .i64 k ∧ (∀ i, i < k → decide (Rv.findI (Rv.idsOf l) ((Rv.idsOf l).getD i []) < i) = false) ∧ wr.heap[w.heap.size]? = some (.cells ((Rv.idsOf l).map vS).toArray 9 (0, 0)) ∧
     wr.heap[wo.heap.size + 1]? = some (.cells #[.map (some wo.heap.size)] 92 (0, 0)) ∧ kfw wr wo.heap.size ((Rv.idsOf l).take k) ∧ Below w.heap.size w wr) (fun _ _ n _ => l.length - (intOf n).toNat)
    case atStart => exact ⟨0, by omega, rfl, fun i hi => by omega, HRo.out, HVo.out, HMo.out, HBo.out⟩
    case round =>
     obtain ⟨k, hk, rfl, hv, hr, hv1, hm1, hB⟩ := hrel
     have hcm : wr.cell? ⟨wo.heap.size + 1, 0, none⟩ = some (.map (some wo.heap.size)) := by rw [kab hv1]; rfl
     have HV := hdd hv
     have HRr := hdd hr
     have HVr := hdd hv1
     have HMr := hdd hm1
     have HBr := hdd hB
     clear hv hr hv1 hm1 hB HB HR HBo HRo HVo HMo
     by_cases hlt : k < l.length
     · have hxc : wr.cell? ⟨w.heap.size, 0 + k, none⟩ = some (.string (B ((Rv.idsOf l).getD k []))) := by
        rw [Nat.zero_add, kab HRr.out, List.getElem?_toArray]
        exact kg3 _ (by rw [HIdl.out]; exact hlt)
       have hxc' : wr.cell? ⟨w.heap.size, k, none⟩ = some (.string (B ((Rv.idsOf l).getD k []))) := by rw [← hxc, Nat.zero_add]
       have hmem := ksc (l := Rv.idsOf l) (s := (Rv.idsOf l).getD k []) (k := k) (by rw [HIdl.out]; omega)
       have hkl : (Rv.idsOf l).getD k [] ∈ Rv.idsOf l := by
        rw [List.getD_eq_getElem?_getD, List.getElem?_eq_getElem (by rw [HIdl.out]; exact hlt)]
        exact List.getElem_mem _
       have hxl := HIds.out _ hkl
       have HTK := hdd (List.take_succ_eq_append_getElem (l := Rv.idsOf l) (i := k) (by rw [HIdl.out]; exact hlt))
       have HGK := hdd (show (Rv.idsOf l)[k]'(by rw [HIdl.out]; exact hlt) = (Rv.idsOf l).getD k [] by rw [List.getD_eq_getElem?_getD, List.getElem?_eq_getElem (by rw [HIdl.out]; exact hlt)]; rfl)
       have HFS := hdd (fun (hx : Rv.findI (Rv.idsOf l) ((Rv.idsOf l).getD k []) < k) => kha (p := fun i => decide (Rv.findI (Rv.idsOf l) ((Rv.idsOf l).getD i []) < i)) hlt HV.out (decide_eq_true hx))
       have HVN := hdd (fun (hx : ¬ Rv.findI (Rv.idsOf l) ((Rv.idsOf l).getD k []) < k) => (show ∀ i, i < k + 1 → decide (Rv.findI (Rv.idsOf l) ((Rv.idsOf l).getD i []) < i) = false from fun i hi => by
        rcases Nat.lt_succ_iff_lt_or_eq.1 hi with h2 | rfl
        · exact HV.out i h2
        · exact decide_eq_false hx))
       rw [HGK.out] at HTK
       generalize (Rv.idsOf l).getD k [] = x at *
       have HMem := hdd hmem
       clear hmem hkl
       by_cases hx : x ∈ (Rv.idsOf l).take k
       · have HD := hdd (decide_eq_true hx)
         have HP := hdd (show Rv.preE l (Rv.idsOf l) = ((k : Int), 6) by unfold Rv.preE; rw [if_neg c0, HVA.out]; dsimp only; rw [HFS.out (HMem.out.2 hx)])
         clear hx
         go_wp2_with (at_lookup; refine ken _ rfl _ _ rfl wo.heap.size _ rfl HMr.out x rfl hxl ?_; rw [HD.out])
         refine bodyPost_ret (v := .tuple #[.slice none 0 0, .int .i64 (k : Int), .int .i64 6]) (by simp [results, Tryz.results129, go_sem]) rfl ?_
         unfold kj3
         rw [HP.out]
         exact ⟨HBr.out, _, rfl, fun h => by cases h⟩
       · have HD := hdd (decide_eq_false hx)
         have HX := hdd hx
         clear hx
         go_wp2_with (first
          | (at_lookup; refine ken _ rfl _ _ rfl wo.heap.size _ rfl HMr.out x rfl hxl ?_; rw [HD.out])
          | (at_mapUpdate; refine kbd _ rfl _ _ _ 92 rfl 9 4 kS kde Tryz.underlying92 wo.heap.size _ rfl HMr.out x rfl (.bool true) rfl (kbv hxl) ?_
             intro w5 hm5 hk5 hs5
             rw [kmh, if_neg HX.out, ← HTK.out] at hm5
             have HM5 := hdd (show kfw w5 wo.heap.size ((Rv.idsOf l).take (k + 1)) from hm5)
             have HR5 := hdd ((hk5.block _ (kac HRr.out) (fun e => by have : w.heap.size = wo.heap.size := e; omega)).trans HRr.out)
             have HV5 := hdd ((hk5.block _ (kac HVr.out) (fun e => by have : wo.heap.size + 1 = wo.heap.size := e; omega)).trans HVr.out)
             have HB5 := hdd (HBr.out.trans (hk5.below HBr.out.size (fun q hq e => by have : q = wo.heap.size := e; have := HS0.out; omega)))
             clear hm5 hk5 hs5))
         go_roundw
         case rel => exact ⟨k + 1, by omega, by go_num, HVN.out (fun h => HX.out (HMem.out.1 h)), HR5.out, HV5.out, HM5.out, HB5.out⟩
         case measure => simp [intOf]; omega
     · obtain rfl : k = l.length := by omega
       have hm2 := HMr.out
       rw [show (Rv.idsOf l).take l.length = Rv.idsOf l by rw [← HIdl.out, List.take_length]] at hm2
       have HVB := hdd (keg.2 HV.out)
       have HMr := hdd hm2
       clear hm2 HV hlt hk
       have eg := hdd (enters_of Tryz.func189 (by kernel_rfl) rfl)
       obtain ⟨wp, rfl⟩ : ∃ wp : World, wp = wr := ⟨_, rfl⟩
       go_wp2
       go_loopw [13, 14, 59] (fun _ _ n wr => ∃ k : Nat, k ≤ l.length ∧ n = .int .i64 k ∧ (∀ i, i < k → ((l.getD i Rv.ev0).names.any fun s => decide ((Rv.idsOf l).length ≤ Rv.findI (Rv.idsOf l) s)) = false) ∧ Below wp.heap.size wp wr) (fun _ _ n _ => l.length - (intOf n).toNat)
       case atStart => exact ⟨0, by omega, rfl, fun i hi => by omega, Below.refl _ _⟩
       case round =>
        obtain ⟨k, hk, rfl, hv, hB⟩ := hrel
        have HV := hdd hv
        have HBp := hdd hB
        have HB := hdd (HBr.out.next hB)
        have HR3 := bhh hB HRr
        clear hv hB
        by_cases hlt : k < l.length
        · obtain ⟨b, off, rfl, hbw, na, nc, ta, tc, sa, sc, ha, hc, ra, rc, hE, hA⟩ := (HL.out.below HB.out).at hlt
          have HE := hdd hE
          have HA := hdd hA
          have HFS := hdd (fun hx => kha (p := fun i => (l.getD i Rv.ev0).names.any fun s => decide ((Rv.idsOf l).length ≤ Rv.findI (Rv.idsOf l) s)) hlt HV.out hx)
          have HVN := hdd (fun (hx : ((l.getD k Rv.ev0).names.any fun s => decide ((Rv.idsOf l).length ≤ Rv.findI (Rv.idsOf l) s)) = false) => (show ∀ i, i < k + 1 → ((l.getD i Rv.ev0).names.any fun s => decide ((Rv.idsOf l).length ≤ Rv.findI (Rv.idsOf l) s)) = false from fun i hi => by
           rcases Nat.lt_succ_iff_lt_or_eq.1 hi with h2 | rfl
           · exact HV.out i h2
           · exact hx))
          generalize l.getD k Rv.ev0 = e at *
          have HO := hdd (evS1 e na nc ta tc sa sc ha hc ra rc)
          clear hE hA hbw
          go_wp2_with (first
           | (refine wpList_load_mid rfl 45 _ rfl b _ rfl (evS e na nc ta tc sa sc ha hc ra rc).toList _ HA.out rfl rfl (by kernel_rfl) ?_)
           | (refine kaa rfl 45 _ _ rfl wr.heap.size rfl (evS e na nc ta tc sa sc ha hc ra rc) rfl 45 evZ (kaj rfl rfl) (by kernel_rfl) rfl HO.out ?_
              intro w2 hw2 hk2
              have hb2 : Below wr.heap.size wr w2 := ((Below.refl _ _).alloc (Nat.le_refl _) _).trans (hk2.below (B := wr.heap.size) (by simp) (fun q hq e => by have : q = wr.heap.size := e; omega))
              have e3 : w2.cell? ⟨wr.heap.size, 3, none⟩ = some (.slice na e.names.length nc) := by rw [kab hw2]; rfl
              have HB2 := hdd (HB.out.next hb2)
              have HR2 := bhh hb2 HR3
              have HE2 := hdd (HE.out.below hb2)
              have HBq := hdd (HBp.out.next hb2)
              clear hw2 hk2 hb2)
           | fail)
          have hcon := kna 189 (.pointer (some ⟨wo.heap.size + 1, 0, none⟩)) (fun s => !decide (s ∈ Rv.idsOf l)) eg.out _ e.names w2 HE2.out.namesIs (fun x hx => kue x (wo.heap.size + 1) wo.heap.size (Rv.idsOf l) w2 (by
           have := HE2.out.1.names x hx; unfold maxLen; omega) ((HBq.out.cell (p := ⟨wo.heap.size + 1, 0, none⟩) (kac HVr.out)).trans hcm) (HMr.out.below HBq.out (HMr.out.lt)))
          rw [← krx] at hcon
          cases hx : (e.names.any fun s => decide ((Rv.idsOf l).length ≤ Rv.findI (Rv.idsOf l) s))
          · rw [hx] at hcon
            have HX := hdd hx
            have HC := hdd hcon
            clear hx hcon e3
            refine HC.out.mono ?_
            rintro en w3 ⟨rfl, rfl⟩
            go_wp2
            go_roundw
            case rel => exact ⟨k + 1, by omega, by go_num, HVN.out HX.out, HBq.out⟩
            case measure => simp [intOf]; omega
          · rw [hx] at hcon
            have HP := hdd (show Rv.preE l (Rv.idsOf l) = ((k : Int), 7) by unfold Rv.preE; rw [if_neg c0, HVA.out]; dsimp only; rw [HVB.out]; dsimp only; rw [HFS.out hx])
            have HC := hdd hcon
            clear hx hcon e3
            refine HC.out.mono ?_
            rintro en w3 ⟨rfl, rfl⟩
            go_wp2
            refine bodyPost_ret (v := .tuple #[.slice none 0 0, .int .i64 (k : Int), .int .i64 7]) (by simp [results, Tryz.results129, go_sem]) rfl ?_
            unfold kj3
            rw [HP.out]
            exact ⟨HB2.out, _, rfl, fun h => by cases h⟩
        · obtain rfl : k = l.length := by omega
          have HP := hdd (show Rv.preE l (Rv.idsOf l) = (-1, 0) by unfold Rv.preE; rw [if_neg c0, HVA.out]; dsimp only; rw [HVB.out]; dsimp only; rw [keg.2 HV.out])
          clear hlt hk
          go_wp2
          refine bodyPost_ret (v := .tuple #[.slice (some ⟨w.heap.size, 0, none⟩) l.length l.length, .int .i64 (-1), .int .i64 0]) (by simp [results, Tryz.results129, go_sem]) rfl ?_
          unfold kj3
          rw [HP.out]
          exact ⟨HB.out, _, rfl, fun _ => ⟨w.heap.size, rfl, Nat.le_refl _, HR3.out⟩⟩
def kf5 (L V : List Bs) : List Bs := V.foldl (fun M s => if s ∈ M then M else M ++ [s]) L
theorem krr {L V : List Bs} {s : Bs} : s ∈ kf5 L V ↔ s ∈ L ∨ s ∈ V := by
 induction V generalizing L with
 | nil => simp [kf5]
 | cons a r ih =>
   show s ∈ kf5 (if a ∈ L then L else L ++ [a]) r ↔ _
   rw [ih]
   by_cases h : a ∈ L
   · rw [if_pos h]
     simp only [List.mem_cons]
     constructor
     · rintro (h2 | h2)
       · exact .inl h2
       · exact .inr (.inr h2)
     · rintro (h2 | rfl | h2)
       · exact .inl h2
       · exact .inl h
       · exact .inr h2
   · rw [if_neg h]
     simp only [List.mem_append, List.mem_cons, List.not_mem_nil, or_false]
     constructor
     · rintro ((h2 | h2) | h2)
       · exact .inl h2
       · exact .inr (.inl h2)
       · exact .inr (.inr h2)
     · rintro (h2 | h2 | h2)
       · exact .inl (.inl h2)
       · exact .inl (.inr h2)
       · exact .inr h2
theorem kpc (L V : List Bs) (s : Bs) : kf5 L (V ++ [s]) = if s ∈ kf5 L V then kf5 L V else kf5 L V ++ [s] := by
 unfold kf5; rw [List.foldl_append]; rfl
theorem kxt {S : Nat → Prop} {w w1 w2 : World} {r : Nat} (h : ka1 S w w1) (h2 : ka1 (Licit.One r) w1 w2) (hr : w.heap.size ≤ r) : ka1 S w w2 :=
 ⟨h2.os.trans h.os, h2.tape.trans h.tape, h2.output.trans h.output, Nat.le_trans h.size h2.size, fun k hk hs => (h2.block k (Nat.lt_of_lt_of_le hk h.size) (fun e => by have : k = r := e; omega)).trans (h.block k hk hs)⟩
theorem kx5 (bd bs : Nat) (Ld Ls : List Bs) (w : World) (hd : kfw w bd Ld) (hs : kfw w bs Ls) (hne : bd ≠ bs) (hl : ∀ s ∈ Ls, s.length ≤ maxLen) :
 Calls Tryz.prog 132 #[.map (some bd), .map (some bs)] w fun e w' => e = .returned (.tuple #[]) ∧ ∃ L, kfw w' bd L ∧ (∀ s, s ∈ L ↔ s ∈ Ld ∨ s ∈ Ls) ∧ ka1 (Licit.One bd) w w' := by
 have hbd := hd.lt
 have hbs := hs.lt
 have HD := hdd hd
 obtain ⟨LS, hLS⟩ : ∃ LS, (Ls.map fun s => (s, Value.bool true)) = LS := ⟨_, rfl⟩
 unfold kfw at hs
 rw [hLS] at hs
 have HS := hdd hs
 have HL := hdd hl
 have HLS := hdd hLS
 clear hd hs hl hLS
 go_enter Tryz.func132, Tryz.ntmps132
 go_wp2_with (first
  | (at_range; refine khk _ rfl _ 92 rfl 9 4 kS Tryz.underlying92 bs _ rfl HS.out ?_
     intro w0 hr0 hb0 hs0
     have HR0 := hdd hr0
     have HD0 := hdd (show kfw w0 bd Ld from kbj.below HD.out hb0 hbd)
     have HB0 := hdd hb0
     clear hr0 hb0 hs0)
  | fail)
 go_frame
 go_loopw [4, 5] (fun _ _ wr => ∃ V : List (Bs × Value), kcq Tryz.prog 9 kS wr bs w.heap.size LS V ∧ kfw wr bd (kf5 Ld (V.map (·.1))) ∧ ka1 (Licit.One bd) w wr)
  (fun _ _ wr => wr.rangeLeft bs w.heap.size)
 case atStart => exact ⟨[], HR0.out, HD0.out, ka1.of_below HB0.out⟩
 case round =>
  obtain ⟨V, hr, hd, hk⟩ := hrel
  have HR := hdd hr
  have HD := hdd hd
  have HK := hdd hk
  clear hr hd hk
  go_wp2_with (first
   | (at_next; refine ki2 _ rfl _ rfl 9 kS kde bs w.heap.size _ _ rfl HR.out ?_ ?_)
   | fail)
  · intro hp
    have HP := hdd hp
    clear hp
    go_wp2
    go_end0
    refine ⟨rfl, _, HD.out, fun s => ?_, HK.out⟩
    rw [krr, (HP.out.map (·.1)).mem_iff, ← HLS.out, List.map_map]
    simp [Function.comp_def]
  · intro s v w1 hm hn hr1 hk1 hs1 hen hlt
    rw [← HLS.out] at hm
    obtain ⟨t, ht, he⟩ := List.mem_map.1 hm
    obtain ⟨rfl, rfl⟩ := Prod.mk.inj he
    have htl := HL.out t ht
    have HD1 := hdd (show kfw w1 bd (kf5 Ld (V.map (·.1))) from kbj.kept HD.out hk1 (fun e => by have : bd = w.heap.size := e; omega))
    have HR1 := hdd hr1
    have HK1 := hdd (kxt HK.out hk1 (Nat.le_refl _))
    have HLt := hdd hlt
    clear hm hn hr1 hk1 hs1 hlt ht he
    go_wp2_with (first
     | (at_mapUpdate; refine kbd _ rfl _ _ _ 92 rfl 9 4 kS kde Tryz.underlying92 bd _ rfl HD1.out t rfl (.bool true) rfl (kbv htl) ?_
        intro w5 hm5 hk5 hs5
        rw [kmh, ← kpc] at hm5
        have HM5 := hdd (show kfw w5 bd (kf5 Ld ((V ++ [(t, Value.bool true)]).map (·.1))) by rw [List.map_append]; exact hm5)
        have hne' : ¬ Licit.One bd bs := fun e => hne e.symm
        have hnr : ¬ Licit.One bd w.heap.size := fun e => by have : w.heap.size = bd := e; omega
        have HR5 := hdd (HR1.out.kept hk5 hne' hnr)
        have HE5 := hdd (kgz (hk5.block _ HR1.out.map.lt hne') (hk5.block _ HR1.out.lt hnr))
        have HK5 := hdd (HK1.out.trans hk5)
        clear hm5 hk5 hs5 hne' hnr)
     | fail)
    go_roundw
    case rel => first | exact ⟨_, HR5.out, HM5.out, HK5.out⟩ | ((repeat apply Exists.intro); exact ⟨⟨_, HR5.out, HM5.out, HK5.out⟩, rfl⟩)
    case measure => rw [HE5.out]; exact HLt.out
abbrev ptr (a : Nat) : Value := .pointer (some ⟨a, 0, none⟩)
theorem kc9 (w : World) : (zeroValue 91).run Tryz.prog w = .ok (.pointer none) w := by kernel_rfl
theorem kx1 (x : Bs) (p bd : Nat) (Ld : List (Bs × Value)) (w : World) (hx : x.length ≤ maxLen) (hp : w.cell? ⟨p, 0, none⟩ = some (.map (some bd))) (h : kbj Tryz.prog 9 kS w bd Ld) (hg : kcb Ld x = none) :
 Calls Tryz.prog 131 #[.string (B x), ptr p] w fun e w' => e = .returned (.bool true) ∧ w = w' := by
 have H := hdd h
 have HG := hdd hg
 clear h hg
 go_enter Tryz.func131, Tryz.ntmps131
 go_wp2_with (at_lookup; refine kbp _ rfl _ _ 134 false rfl 9 91 kS kde Tryz.underlying134 (.pointer none) kc9 bd Ld rfl H.out x rfl (kbv hx) ?_; rw [HG.out]; simp only [Bool.false_eq_true, if_false, Option.getD_none])
 go_ret
 exact ⟨rfl, rfl⟩
theorem kt5 (x : Bs) (p bd a : Nat) (Ld : List (Bs × Value)) (w : World) (hx : x.length ≤ maxLen) (hp : w.cell? ⟨p, 0, none⟩ = some (.map (some bd))) (h : kbj Tryz.prog 9 kS w bd Ld) (hg : kcb Ld x = some (ptr a)) :
 Calls Tryz.prog 131 #[.string (B x), ptr p] w fun e w' => e = .returned (.bool false) ∧ w = w' := by
 have H := hdd h
 have HG := hdd hg
 clear h hg
 go_enter Tryz.func131, Tryz.ntmps131
 go_wp2_with (at_lookup; refine kbp _ rfl _ _ 134 false rfl 9 91 kS kde Tryz.underlying134 (.pointer none) kc9 bd Ld rfl H.out x rfl (kbv hx) ?_; rw [HG.out]; simp only [Bool.false_eq_true, if_false, Option.getD_some])
 go_ret
 exact ⟨rfl, rfl⟩
def kh8 (x y : Bs) : Int := if Rv.ltB x y = true then -1 else if Rv.ltB y x = true then 1 else 0
theorem kyz : ∀ x y : Bs, Rv.ltB x y = decide (x < y)
 | [], [] => by simp [Rv.ltB, Op.bytesLess]
 | _ :: _, [] => by simp [Rv.ltB, Op.bytesLess]
 | [], _ :: _ => by simp [Rv.ltB, Op.bytesLess]
 | a :: x, b :: y => by
   have ih : Op.bytesLess x y = decide (x < y) := kyz x y
   show (decide (a < b) || (a == b && Op.bytesLess x y)) = _
   rw [ih, Bool.eq_iff_iff]
   simp [List.cons_lt_cons_iff]
theorem kig (x : Bs) (w : World) : Calls Tryz.prog 187 #[.string (B x)] w fun e w' => e = .returned (.bool false) ∧ w = w' := by
 have hq := kcl x
 go_enter Tryz.func187, Tryz.ntmps187
 go_wp2
 go_ret
 exact ⟨rfl, rfl⟩
theorem kl2 (x y : Bs) (w : World) : Calls Tryz.prog 122 #[.string (B x), .string (B y)] w fun e w' => e = .returned (.int .i64 (kh8 x y)) ∧ w = w' := by
 cases h1 : Rv.ltB x y
 · cases h2 : Rv.ltB y x
   · have hr : kh8 x y = 0 := by unfold kh8; rw [h1, h2]; rfl
     have e : x = y := by
      rw [kyz] at h1 h2
      have a1 := of_decide_eq_false h1
      have a2 := of_decide_eq_false h2
      exact List.le_antisymm (by simpa [List.not_lt] using a2) (by simpa [List.not_lt] using a1)
     rw [hr]
     subst e
     have l1 := (kdu x x).trans h1
     have l2 := kcl x
     clear h1 h2 hr
     go_enter Tryz.func122, Tryz.ntmps122
     go_wp2_with (go_at_call 187; refine (kig _ _).mono ?_; rintro e w' ⟨rfl, rfl⟩)
     go_ret
     exact ⟨rfl, rfl⟩
   · have hr : kh8 x y = 1 := by unfold kh8; rw [h1, h2]; rfl
     have ne : ¬ x = y := fun e => by subst e; rw [h1] at h2; cases h2
     rw [hr]
     have l1 := (kdu x y).trans h1
     have l2 := kci ne
     clear h1 h2 hr ne
     go_enter Tryz.func122, Tryz.ntmps122
     go_wp2_with (go_at_call 187; refine (kig _ _).mono ?_; rintro e w' ⟨rfl, rfl⟩)
     go_ret
     exact ⟨rfl, rfl⟩
 · have hr : kh8 x y = -1 := by unfold kh8; rw [h1]; rfl
   rw [hr]
   have l1 := (kdu x y).trans h1
   clear h1 hr
   go_enter Tryz.func122, Tryz.ntmps122
   go_wp2_with (go_at_call 187; refine (kig _ _).mono ?_; rintro e w' ⟨rfl, rfl⟩)
   go_ret
   exact ⟨rfl, rfl⟩
def or2 (a b : Int) : Int := if a = 0 then b else a
theorem kyg (v : Value) (a b : Int) (w : World) (h : IsSl v [vI a, vI b] w) : Calls Tryz.prog 121 #[v] w fun e w' => e = .returned (.int .i64 (or2 a b)) ∧ w = w' := by
 rcases h.2 with ⟨_, _, _, h0⟩ | ⟨bk, off, cap, rfl, h0, hc⟩
 · cases h0
 have c0 : w.cell? ⟨bk, off, none⟩ = some (.int .i64 a) := hc 0 (by simp)
 have c0' : w.cell? ⟨bk, off + 0, none⟩ = some (.int .i64 a) := c0
 have c1 : w.cell? ⟨bk, off + 1, none⟩ = some (.int .i64 b) := hc 1 (by simp)
 clear hc h0 h
 by_cases ha : a = 0
 · subst ha
   have hr : or2 0 b = b := rfl
   rw [hr]
   clear hr
   by_cases hb : b = 0
   · subst hb
     go_enter Tryz.func121, Tryz.ntmps121
     go_wp2
     refine wp_loop_rounds 3 ?_
     rw [rounds_succ]
     go_wp2
     rw [rounds_succ]
     go_wp2
     rw [rounds_succ]
     go_wp2
     go_ret
     exact ⟨rfl, rfl⟩
   · have d : (b == 0) = false := by simpa using hb
     have d' : (b != 0) = true := by simpa using hb
     clear hb
     go_enter Tryz.func121, Tryz.ntmps121
     go_wp2
     refine wp_loop_rounds 3 ?_
     rw [rounds_succ]
     go_wp2
     rw [rounds_succ]
     go_wp2
     go_ret
     exact ⟨rfl, rfl⟩
 · have d : (a == 0) = false := by simpa using ha
   have d' : (a != 0) = true := by simpa using ha
   have hr : or2 a b = a := by unfold or2; rw [if_neg ha]
   rw [hr]
   clear hr ha
   go_enter Tryz.func121, Tryz.ntmps121
   go_wp2
   refine wp_loop_rounds 3 ?_
   rw [rounds_succ]
   go_wp2
   go_ret
   exact ⟨rfl, rfl⟩
theorem kvj (pa pb : Nat) (ia ib : Bs) (ra rb : Int) (w : World) (a0 : w.cell? ⟨pa, 0, none⟩ = some (.string (B ia))) (a2 : w.cell? ⟨pa, 2, none⟩ = some (.int .i64 ra)) (b0 : w.cell? ⟨pb, 0, none⟩ = some (.string (B ib))) (b2 : w.cell? ⟨pb, 2, none⟩ = some (.int .i64 rb)) :
 Calls Tryz.prog 134 #[ptr pa, ptr pb] w fun e w' => e = .returned (.int .i64 (or2 (Lib.compareInt ra rb) (kh8 ia ib))) ∧ ∃ q os, w' = Go.Sort.grow (w.drewN q) os := by
 go_enter Tryz.func134, Tryz.ntmps134
 go_wp2
 refine kat (S := fun W : World => W.cell? ⟨pa, 0, none⟩ = some (.string (B ia)) ∧ W.cell? ⟨pa, 2, none⟩ = some (.int .i64 ra) ∧ W.cell? ⟨pb, 0, none⟩ = some (.string (B ib)) ∧ W.cell? ⟨pb, 2, none⟩ = some (.int .i64 rb)) (by kernel_rfl) ⟨a0, a2, b0, b2⟩ (fun hHeld => ?_)
 simp only [List.toList_toArray, len, kbc]
 iterate 8 (refine tk 0 rfl rfl rfl (by kernel_rfl) (fun _ _ _ h => h) (by intro W hW; (try dsimp only at hW); go_simp <;> with_reducible rfl) (by assumption) ?_; simp only [Act.put, s1, s2, s3])
 iterate 8 (refine tk 9 rfl rfl rfl (by kernel_rfl) (fun _ _ _ h => h) (by intro W hW; (try dsimp only at hW); go_simp <;> with_reducible rfl) (by assumption) ?_; simp only [Act.put, s1, s2, s3])
 refine wpAnyH_ready (rs := [8]) (by kernel_rfl) (by simp) ?_
 refine ar1 rfl (fun K hK => ?_)
 go_simp
 refine ((Tryz.cmp_Compare_int ra rb _).mono fun _ _ h => (⟨h.1, h.2.symm⟩ : _ ∧ w.drew = _)).mono ?_
 rintro en u ⟨rfl, rfl⟩
 refine hK.out _ _ hHeld (fun hHeld => ?_)
 clear hK K
 try simp only [Act.put, s1, s2, s3]
 refine wpAnyH_ready (rs := [17]) (by kernel_rfl) (by simp) ?_
 refine ar1 rfl (fun K hK => ?_)
 go_simp
 refine (kl2 ia ib _).mono ?_
 rintro en u ⟨rfl, rfl⟩
 refine hK.out _ _ hHeld (fun hHeld => ?_)
 clear hK K
 try simp only [Act.put, s1, s2, s3]
 refine wpAnyH_ready (rs := [18]) (by kernel_rfl) (by simp) ?_
 refine ar1 rfl (fun K hK => ?_)
 go_simp
 have hbl : Below w.drew.heap.size w.drew (w.drew.alloc (.cells #[.int .i64 (Lib.compareInt ra rb), .int .i64 (kh8 ia ib)] 3)) := (Below.refl _ _).alloc (Nat.le_refl _) _
 refine hK.out _ _ ⟨(hbl.cell (p := ⟨pa, 0, none⟩) (World.block_lt_of_cell? _ _ a0)).trans a0, (hbl.cell (p := ⟨pa, 2, none⟩) (World.block_lt_of_cell? _ _ a2)).trans a2, (hbl.cell (p := ⟨pb, 0, none⟩) (World.block_lt_of_cell? _ _ b0)).trans b0, (hbl.cell (p := ⟨pb, 2, none⟩) (World.block_lt_of_cell? _ _ b2)).trans b2⟩ (fun hHeld => ?_)
 clear hK K hbl
 try simp only [Act.put, s1, s2, s3]
 have hsl : IsSl (.slice (some ⟨w.drew.heap.size, 0, none⟩) 2 2) [vI (Lib.compareInt ra rb), vI (kh8 ia ib)] (w.drew.alloc (.cells #[.int .i64 (Lib.compareInt ra rb), .int .i64 (kh8 ia ib)] 3)) :=
  IsSl.of_owns (base := 0) (kc3 (n := 2) (kak w.drew (.cells #[.int .i64 (Lib.compareInt ra rb), .int .i64 (kh8 ia ib)] 3)) (Nat.zero_le _) rfl (by unfold maxLen; omega)) (by simp [maxLen])
 have HSL := hdd hsl
 clear hsl
 refine wpAnyH_ready (rs := [19]) (by kernel_rfl) (by simp) ?_
 refine ar1 rfl (fun K hK => ?_)
 go_simp
 refine (kyg _ _ _ _ HSL.out).mono ?_
 rintro en u ⟨rfl, rfl⟩
 refine hK.out _ _ hHeld (fun hHeld => ?_)
 clear hK K
 try simp only [Act.put, s1, s2, s3]
 (refine tk 20 rfl rfl rfl (by kernel_rfl) (fun _ _ _ h => h) (by intro W hW; (try dsimp only at hW); go_simp <;> with_reducible rfl) (by assumption) ?_; simp only [Act.put, s1, s2, s3])
 refine wpAnyH_done (by kernel_rfl) ?_ _
 simp only [Exit.then]
 go_wp2
 go_ret
 exact ⟨rfl, 1, #[.cells #[.int .i64 (Lib.compareInt ra rb), .int .i64 (kh8 ia ib)] 3], rfl⟩
end Go.Proofs.YtknpbekoenbphaaGreatDoor
namespace Licit.Rv
open Go Licit
theorem readyL_snoc (S : Stt) (x : Row) (js : List Nat) (j : Nat) : readyL S x (js ++ [j]) = (readyL S x js).bind fun y => (S.getD j none).map fun z => (max y.1 (z.1 + 1), orL (y.2.set j true) z.2) := by
 induction js generalizing x with
 | nil =>
   show readyL S x [j] = _
   unfold readyL
   cases S.getD j none with
   | none => rfl
   | some y => rfl
 | cons a r ih =>
   rw [List.cons_append]
   unfold readyL
   cases S.getD a none with
   | none => rfl
   | some y => exact ih _
theorem readyL_none (S : Stt) : ∀ (x : Row) (js : List Nat), readyL S x js = none ↔ ∃ j ∈ js, S.getD j none = none
 | x, [] => by simp [readyL]
 | x, a :: r => by
   unfold readyL
   cases h : S.getD a none with
   | none => simp only [true_iff]; exact ⟨a, by simp, h⟩
   | some y =>
     simp only []
     rw [readyL_none S _ r]
     constructor
     · rintro ⟨j, hj, h2⟩; exact ⟨j, by simp [hj], h2⟩
     · rintro ⟨j, hj, h2⟩
       rcases List.mem_cons.1 hj with rfl | hj
       · rw [h] at h2; cases h2
       · exact ⟨j, hj, h2⟩
theorem kuv (a b : Past) (h : a.length = b.length) : (orL a b).length = a.length := by simp [orL, h]
theorem orL_at (a b : Past) (h : a.length = b.length) (m : Nat) : (orL a b).getD m false = (a.getD m false || b.getD m false) := by
 unfold orL
 by_cases hm : m < a.length
 · rw [List.getD_eq_getElem?_getD, List.getElem?_zipWith, List.getElem?_eq_getElem hm, List.getElem?_eq_getElem (h ▸ hm), List.getD_eq_getElem?_getD, List.getElem?_eq_getElem hm, List.getD_eq_getElem?_getD, List.getElem?_eq_getElem (h ▸ hm)]
   rfl
 · rw [List.getD_eq_getElem?_getD, List.getElem?_eq_none (by simp [h]; omega), List.getD_eq_getElem?_getD, List.getElem?_eq_none (by omega), List.getD_eq_getElem?_getD, List.getElem?_eq_none (by omega)]
   rfl
theorem set_at (a : Past) (j m : Nat) (hj : j < a.length) : (a.set j true).getD m false = (decide (m = j) || a.getD m false) := by
 rw [List.getD_eq_getElem?_getD, List.getElem?_set, List.getD_eq_getElem?_getD]
 by_cases h : j = m
 · subst h; simp [hj]
 · simp [h, Ne.symm h]
def Fits (S : Stt) : Prop := ∀ i r, S.getD i none = some r → r.2.length = S.length
theorem readyL_len {S : Stt} (hS : Fits S) : ∀ (x : Row) (js : List Nat), x.2.length = S.length → ∀ y, readyL S x js = some y → y.2.length = S.length
 | x, [], hx, y, h => by simp [readyL] at h; rw [← h]; exact hx
 | x, a :: r, hx, y, h => by
   unfold readyL at h
   cases hq : S.getD a none with
   | none => rw [hq] at h; cases h
   | some z =>
     rw [hq] at h
     refine readyL_len hS _ r ?_ y h
     rw [kuv _ _ (by simp [hx, hS a z hq])]
     simp [hx]
theorem readyL_rank {S : Stt} {b : Nat} (hS : ∀ i r, S.getD i none = some r → r.1 + 1 ≤ b) : ∀ (x : Row) (js : List Nat), x.1 ≤ b → ∀ y, readyL S x js = some y → y.1 ≤ b
 | x, [], hx, y, h => by simp [readyL] at h; rw [← h]; exact hx
 | x, a :: r, hx, y, h => by
   unfold readyL at h
   cases hq : S.getD a none with
   | none => rw [hq] at h; cases h
   | some z =>
     rw [hq] at h
     exact readyL_rank hS _ r (Nat.max_le.2 ⟨hx, hS a z hq⟩) y h
theorem kuo (J : List (List Nat)) (S : Stt) (i : Nat) : (stepS J S i).length = S.length := by
 unfold stepS
 cases S.getD i none with
 | some _ => rfl
 | none =>
   simp only []
   cases readyL S (0, List.replicate S.length false) (J.getD i []) with
   | none => rfl
   | some x => simp
theorem kse (J : List (List Nat)) {S : Stt} (hS : Fits S) (i : Nat) : Fits (stepS J S i) := by
 unfold stepS
 cases hq : S.getD i none with
 | some _ => exact hS
 | none =>
   simp only []
   cases hr : readyL S (0, List.replicate S.length false) (J.getD i []) with
   | none => exact hS
   | some x =>
     intro k r hk
     simp only [List.length_set]
     rw [List.getD_eq_getElem?_getD, List.getElem?_set] at hk
     by_cases h : i = k
     · rw [if_pos h] at hk
       by_cases hl : i < S.length
       · rw [if_pos hl] at hk
         cases hk
         exact readyL_len hS _ _ (by simp) _ hr
       · rw [if_neg hl] at hk; cases hk
     · rw [if_neg h, ← List.getD_eq_getElem?_getD] at hk
       exact hS k r hk
theorem passS_succ (J : List (List Nat)) (S : Stt) (k : Nat) : passS J S (k + 1) = stepS J (passS J S k) k := by
 unfold passS
 rw [List.range_succ, List.foldl_append]
 rfl
theorem knr (J : List (List Nat)) (S : Stt) : ∀ k, (passS J S k).length = S.length
 | 0 => rfl
 | k + 1 => by rw [passS_succ, kuo, knr J S k]
theorem cntS_le (S : Stt) : cntS S ≤ S.length := List.length_filter_le _ _
theorem namesJ_at (l : List Ev) (ids : List Bs) {i : Nat} (h : i < l.length) : (namesJ l ids).getD i [] = (l.getD i ev0).names.map (findI ids) := by
 unfold namesJ
 rw [List.getD_eq_getElem?_getD, List.getElem?_map, List.getElem?_eq_getElem h, List.getD_eq_getElem?_getD, List.getElem?_eq_getElem h]
 rfl
theorem findI_at {l : List Bs} {s : Bs} (h : findI l s < l.length) : l.getD (findI l s) [] = s := by
 induction l with
 | nil => simp at h
 | cons a r ih =>
   have e : findI (a :: r) s = if a = s then 0 else findI r s + 1 := rfl
   rw [e] at h ⊢
   by_cases c : a = s
   · simp [c]
   · rw [if_neg c] at h ⊢
     rw [List.getD_cons_succ]
     exact ih (by simp only [List.length_cons] at h; omega)
end Licit.Rv
