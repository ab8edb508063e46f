/- Parts of the proofs: WkRvK, WkRvL. No condition beyond those at each theorem. -/
import Derived.Test.YtknpbekoenbphaaGreatDoorPk22
set_option linter.unusedVariables false
set_option linter.unusedSimpArgs false
set_option maxHeartbeats 16000000
set_option maxRecDepth 100000
namespace Go.Proofs.YtknpbekoenbphaaGreatDoor
open Go Go.RowKit Licit
theorem kce {P : Program} {ops : Array Oper} {rest : List Oper} {op : Oper} {a : Act} {w : World} {Q : Exit → Act → World → Prop} (hw : Region.wanted op (yielded ops a.tmps) = true) (ty : TypeId) (x : Operand) (ho : op.op = .load ty x)
 (b o : Nat) (hx : a.eval x = .pointer (some ⟨b, o, none⟩)) (cs : List Value) (d : TypeDesc) (hc : w.rangeAt b o cs)
 (hu : P.underlying ty = some d) (hd : d.isRow = true) (hi : (P.info? ty).map (·.size) = some cs.length)
 (h : wpList P ops Q rest (a.put op.dst (.agg cs.toArray)) w) : wpList P ops Q (op :: rest) a w :=
 BigFrame.wpList_want hw fun _ hK => wp_load_mid ty x ho b o hx cs d hc hu hd hi (hK _ _ h)
theorem kwq {P : Program} (x y : Bs) (ats : Array TypeId) (t : TypeId) (w : World) : (Builtin.min_ ats t #[.string (B x), .string (B y)]).run P w = .ok (.string (B (Rv.minB x y))) w := by
 have l1 := kdu x y
 unfold Rv.minB
 cases h2 : Rv.ltB y x
 · cases h1 : Rv.ltB x y
   · have e := Rv.ltB_tot h1 h2
     subst e
     simp [Builtin.min_, Builtin.min2, Op.stringOp, asBool, l1, h1, Result.andThen]
   · simp [Builtin.min_, Builtin.min2, Op.stringOp, asBool, l1, h1, Result.andThen]
 · have h1 := Rv.ltB_asymm h2
   have hne : x ≠ y := fun e => by rw [e, Rv.ltB_irr] at h2; cases h2
   have q := kci hne
   simp [Builtin.min_, Builtin.min2, Op.stringOp, asBool, l1, h1, q, Result.andThen]
theorem kv8 {P : Program} (x y : Bs) (ats : Array TypeId) (t : TypeId) (w : World) : (Builtin.max_ ats t #[.string (B x), .string (B y)]).run P w = .ok (.string (B (Rv.maxB x y))) w := by
 have l1 := kdu x y
 have l2 := kdu y x
 unfold Rv.maxB
 cases h1 : Rv.ltB x y
 · cases h2 : Rv.ltB y x
   · have e := Rv.ltB_tot h1 h2
     subst e
     simp [Builtin.max_, Builtin.max2, Op.stringOp, asBool, l1, h1, Result.andThen]
   · simp [Builtin.max_, Builtin.max2, Op.stringOp, asBool, l1, l2, h1, h2, Result.andThen]
 · have h2 := Rv.ltB_asymm h1
   have hne : x ≠ y := fun e => by rw [e, Rv.ltB_irr] at h1; cases h1
   have q := kci hne
   have q2 := kci (Ne.symm hne)
   simp [Builtin.max_, Builtin.max2, Op.stringOp, asBool, l1, l2, h1, h2, q, q2, Result.andThen]
theorem kpj {P : Program} {w : World} {ops : Array Oper} {rest : List Oper} {o : Oper} {a : Act} {Q : Exit → Act → World → Prop} (hgd : o.guard = none) (x y : Operand) (t : TypeId) (ho : o.op = .call { callee := .builtin .min, args := #[x, y], argTypes := #[t, t] })
 (s u : Bs) (hx : a.eval x = .string (B s)) (hy : a.eval y = .string (B u)) (h : wpList P ops Q rest (a.put o.dst (.string (B (Rv.minB s u)))) w) : wpList P ops Q (o :: rest) a w := by
 refine wpList_plain hgd fun K' hK' => ?_
 have hr := kwq (P := P) s u #[t, t] o.type w
 unfold Oper.wp execOp
 simp only [ho, resolve, invoke, builtin, Sem.run_bind, Sem.run_pure, Result.andThen_ok, List.map_toArray, List.map_cons, List.map_nil, hx, hy, hr]
 exact hK' _ _ h
theorem kox {P : Program} {w : World} {ops : Array Oper} {rest : List Oper} {o : Oper} {a : Act} {Q : Exit → Act → World → Prop} (hgd : o.guard = none) (x y : Operand) (t : TypeId) (ho : o.op = .call { callee := .builtin .max, args := #[x, y], argTypes := #[t, t] })
 (s u : Bs) (hx : a.eval x = .string (B s)) (hy : a.eval y = .string (B u)) (h : wpList P ops Q rest (a.put o.dst (.string (B (Rv.maxB s u)))) w) : wpList P ops Q (o :: rest) a w := by
 refine wpList_plain hgd fun K' hK' => ?_
 have hr := kv8 (P := P) s u #[t, t] o.type w
 unfold Oper.wp execOp
 simp only [ho, resolve, invoke, builtin, Sem.run_bind, Sem.run_pure, Result.andThen_ok, List.map_toArray, List.map_cons, List.map_nil, hx, hy, hr]
 exact hK' _ _ h
theorem kz4 (d : Rv.Dc) : (dvC d).all (·.oneCell') = true := by simp [dvC, Value.oneCell']
def kiw (l : List Rv.Dc) (pre : List (Bs × Bs)) (da : Rv.Dc) (k j : Nat) : List (Bs × Bs) := pre ++ (((l.drop (k + 1)).take j).filter (Rv.disp da)).map (kur da)
theorem kng (l : List Rv.Dc) (a : Option Addr) (cap : Nat) (w : World) (base : Nat) (hown : w.ownsRow base 56 10 (.slice a l.length cap) l.length (dsL l)) (hm : l.length ≤ 1024) :
 Calls Tryz.prog 58 #[.slice a l.length cap] w fun en w' => ∃ v', en = .returned v' ∧ Below w.heap.size w w' ∧ w'.ownsRow w.heap.size 116 2 v' (Rv.dispsOf l).length (prL (Rv.sortP (Rv.dispsOf l))) := by
 have HOw := hdd hown
 have hln := ku6 l
 have hmul : l.length * l.length ≤ 1024 * 1024 := Nat.mul_le_mul hm hm
 have HLn := hdd (Nat.le_trans hln hmul)
 have hlc : l.length ≤ cap := by
  rcases hown.2 with ⟨h1, h2⟩ | ⟨g, c, cur, h1, _, _, h2, _⟩
  · omega
  · cases h1; exact h2
 have HOd := hdd kz4
 obtain ⟨i0, hi0, hz0, hz1, hz2⟩ : ∃ i, Tryz.prog.info? 116 = some i ∧ i.zero = some (prV ([], [])) ∧ i.size = 2 ∧ i.bytes = 32 := ⟨_, rfl, by kernel_rfl, rfl, rfl⟩
 have Hi := hdd hi0
 have Hz0 := hdd hz0
 have Hz1 := hdd hz1
 have Hz2 := hdd hz2
 clear hown hln hmul hi0 hz0 hz1 hz2
 go_enter Tryz.func58, Tryz.ntmps58
 go_wp2
 go_loopw [3, 5, 6, 8, 11] (fun s3 _ _ _ n wr => ∃ (k : Nat) (pre : List (Bs × Bs)), k ≤ l.length ∧ n = .int .i64 k ∧ pre ++ Rv.dispsOf (l.drop k) = Rv.dispsOf l ∧ Below w.heap.size w wr ∧ wr.ownsRow w.heap.size 116 2 s3 pre.length (prL pre)) (fun _ _ _ _ n _ => l.length - (intOf n).toNat)
 case atStart => exact ⟨0, [], Nat.zero_le _, rfl, rfl, Below.refl _ _, World.ownsRow_nil _ _ _ _⟩
 case round =>
  obtain ⟨k, pre, hk, rfl, hp, hb, ho⟩ := hrel
  have HP := hdd hp
  have HB := hdd hb
  have HO := hdd ho
  clear hp hb ho
  by_cases hlt : k < l.length
  · obtain ⟨g0, cv, hve, -, hg0, -⟩ := kb2 HOw.out (by omega)
    simp only [Value.slice.injEq, true_and] at hve
    obtain ⟨rfl, rfl⟩ := hve
    obtain ⟨da, hda⟩ : ∃ d, l[k] = d := ⟨_, rfl⟩
    have HR0 := hdd (fun (W : World) (hb : Below w.heap.size w W) (i : Nat) (hi : i < l.length) => kzk (kcu HOw.out (w' := W) fun q hq => hb.block q (HOw.out.lt q hq).2) hi)
    have hra := HR0.out wr HB.out k hlt
    rw [hda] at hra
    have HRa := hdd hra
    have HDa := hdd hda
    have hcons : l.drop k = da :: l.drop (k + 1) := by rw [← hda]; exact List.drop_eq_getElem_cons hlt
    have HCons := hdd hcons
    clear hra hda hcons
    go_upto_region 6 with (first
     | (refine wpList_load_mid rfl 56 _ rfl g0 _ rfl (dvC da).toList _ HRa.out rfl rfl (by kernel_rfl) ?_)
     | (refine kaa rfl 56 _ _ rfl wr.heap.size rfl (dvC da) rfl 56 (dcC false false false) (kaj rfl rfl) (by kernel_rfl) rfl (HOd.out da) ?_
        intro w2 hw2 hk2
        have HW2 := hdd hw2
        have HB2 := hdd (show Below wr.heap.size wr w2 from ((Below.refl wr.heap.size wr).alloc (Nat.le_refl _) _).trans (hk2.below (B := wr.heap.size) (by simp) (fun q hq e => by have : q = wr.heap.size := e; omega)))
        clear hw2 hk2)
     | fail)
    have hk1 : (0 : Int) ≤ (k : Int) + 1 := by omega
    have hk2 : (k : Int) + 1 ≤ (l.length : Int) := by omega
    have hk3 : (l.length : Int) ≤ (cap : Int) := by omega
    have hkc : (k : Int) + 1 ≤ (cap : Int) := by omega
    have HO2 := hdd (show w2.ownsRow w.heap.size 116 2 u3 pre.length (prL pre) from kaf HO.out (w' := w2) (fun q _ hq => HB2.out.block q hq))
    by_cases hcap : k + 1 = cap
    · have hkl : k + 1 = l.length := by omega
      have hdr : l.drop (k + 1) = [] := List.drop_eq_nil_of_le (by omega)
      have HP2 := hdd (show pre ++ Rv.dispsOf (l.drop (k + 1)) = Rv.dispsOf l by
       rw [← HP.out, HCons.out, hdr]; rfl)
      have hci : ((k : Int) + 1 = (cap : Int)) = True := by simp; omega
      have hci2 : ¬ (k : Int) + 1 < (cap : Int) := by omega
      have hz : l.length - (k + 1) = 0 := by omega
      have HKl := hdd hkl
      clear hdr hcap hkl
      go_wp2
      refine wp_loop_rounds 1 ?_
      rw [rounds_succ]
      go_wp2
      go_roundw
      have hkl := HKl.out
      case rel => first | exact ⟨k + 1, pre, by omega, by go_num, HP2.out, HB.out.trans (HB2.out.mono HB.out.size), HO2.out⟩ | ((repeat apply Exists.intro); exact ⟨⟨k + 1, pre, by omega, by go_num, HP2.out, HB.out.trans (HB2.out.mono HB.out.size), HO2.out⟩, rfl⟩)
      case measure => simp [intOf]; omega
    · have hne : ¬ (k : Int) + 1 = (cap : Int) := by omega
      have hlt3 : (k : Int) + 1 < (cap : Int) := by omega
      go_wp2
      obtain ⟨wo, rfl⟩ : ∃ wo : World, wo = wr := ⟨_, rfl⟩
      go_loopw [3, 8, 21] (fun s3 _ n wx => ∃ j : Nat, j ≤ l.length - (k + 1) ∧ n = .int .i64 j ∧ Below w.heap.size w wx ∧ wx.heap[wo.heap.size]? = some (.cells (dvC da) 56 (0, 0)) ∧ wx.ownsRow w.heap.size 116 2 s3 (kiw l pre da k j).length (prL (kiw l pre da k j))) (fun _ _ n _ => l.length - (k + 1) - (intOf n).toNat)
      case atStart => exact ⟨0, Nat.zero_le _, rfl, HB.out.trans (HB2.out.mono HB.out.size), HW2.out, by simpa [kiw] using HO2.out⟩
      case round =>
       obtain ⟨j, hj, rfl, hb, hwa, ho⟩ := hrel
       have HBx := hdd hb
       have HAx := hdd hwa
       have HOx := hdd ho
       clear hb hwa ho
       by_cases hlj : j < l.length - (k + 1)
       · have hji : k + 1 + j < l.length := by omega
         obtain ⟨db, hdb⟩ : ∃ d, l[k + 1 + j] = d := ⟨_, rfl⟩
         have hrb := HR0.out wr HBx.out (k + 1 + j) hji
         rw [hdb, show (k + 1 + j) * 10 = (k + 1) * 10 + j * 10 by omega] at hrb
         have HRb := hdd hrb
         have hsuc : kiw l pre da k (j + 1) = kiw l pre da k j ++ if Rv.disp da db = true then [kur da db] else [] := by
          unfold kiw
          have hjl : j < (l.drop (k + 1)).length := by rw [List.length_drop]; exact hlj
          rw [List.take_succ_eq_append_getElem hjl, List.filter_append, List.map_append, List.append_assoc]
          have e : (l.drop (k + 1))[j] = db := by rw [List.getElem_drop]; exact hdb
          rw [e]
          by_cases h : Rv.disp da db = true
          · simp [h]
          · simp [h]
         have HSuc := hdd hsuc
         have hle : (kiw l pre da k (j + 1)).length ≤ 1048576 := by
          have h1 := HLn.out
          have h2 : (kiw l pre da k (j + 1)).length ≤ (Rv.dispsOf l).length := by
           rw [← HP.out, HCons.out, klp]
           unfold kiw
           simp only [List.length_append, List.length_map]
           have := ((List.take_sublist (j + 1) (l.drop (k + 1))).filter (Rv.disp da)).length_le
           omega
          omega
         have HLe := hdd hle
         clear hrb hsuc hle hdb
         go_upto_region 9 with (first
          | (refine wpList_load_mid rfl 56 _ rfl g0 _ rfl (dvC db).toList _ HRb.out rfl rfl (by kernel_rfl) ?_)
          | (refine kaa rfl 56 _ _ rfl wr.heap.size rfl (dvC db) rfl 56 (dcC false false false) (kaj rfl rfl) (by kernel_rfl) rfl (HOd.out db) ?_
             intro w3 hw3 hk3
             have HW3 := hdd hw3
             have HB3 := hdd (show Below wr.heap.size wr w3 from ((Below.refl wr.heap.size wr).alloc (Nat.le_refl _) _).trans (hk3.below (B := wr.heap.size) (by simp) (fun q hq e => by have : q = wr.heap.size := e; omega)))
             clear hw3 hk3)
          | fail)
         have HAw := hdd (fun (W : World) (hb : Below w3.heap.size w3 W) => show W.heap[wo.heap.size]? = some (.cells (dvC da) 56 (0, 0)) from kad (HB3.out.trans (hb.mono HB3.out.size)) (kac HAx.out) HAx.out)
         have HBw := hdd (fun (W : World) (hb : Below w3.heap.size w3 W) => show W.heap[wr.heap.size]? = some (.cells (dvC db) 56 (0, 0)) from kad hb (kac HW3.out) HW3.out)
         have HBel := hdd (fun (W : World) (hb : Below w3.heap.size w3 W) => show Below w.heap.size w W from HBx.out.trans ((HB3.out.trans (hb.mono HB3.out.size)).mono HBx.out.size))
         have HOw3 := hdd (fun (W : World) (hb : Below w3.heap.size w3 W) => kaf HOx.out (w' := W) (fun q _ hq => (HB3.out.trans (hb.mono HB3.out.size)).block q hq))
         have HDisp := hdd (show Rv.disp da db = !(da.over || db.over || !decide (da.question = db.question) || !decide (da.scope = db.scope) || decide (da.answer = db.answer)) from rfl)
         cases hoa : da.over with
         | true =>
           have hno : Rv.disp da db = false := by rw [HDisp.out, hoa]; simp
           have HNo := hdd hno
           have HOa := hdd hoa
           clear hno hoa
           go_wp2_with (first | (refine wpList_load_mid rfl 56 _ rfl wo.heap.size 0 rfl (dvC da).toList _ (kav (HAw.out _ (Below.refl _ _))) rfl rfl (by kernel_rfl) ?_) | fail)
           (refine (kc8 da _).mono ?_; rintro en w4 ⟨rfl, hb4⟩; rw [HOa.out]; have HB4 := hdd (show Below w3.heap.size w3 w4 from hb4); clear hb4)
           go_wp2
           have HPn := hdd (show kiw l pre da k (j + 1) = kiw l pre da k j by rw [HSuc.out, HNo.out]; simp)
           go_roundw
           case rel => first | exact ⟨j + 1, by omega, by go_num, HBel.out _ HB4.out, HAw.out _ HB4.out, by rw [HPn.out]; exact HOw3.out _ HB4.out⟩ | ((repeat apply Exists.intro); exact ⟨⟨j + 1, by omega, by go_num, HBel.out _ HB4.out, HAw.out _ HB4.out, by rw [HPn.out]; exact HOw3.out _ HB4.out⟩, rfl⟩)
           case measure => simp [intOf]; omega
         | false =>
           have HOa := hdd hoa
           clear hoa
           cases hob : db.over with
           | true =>
             have hno : Rv.disp da db = false := by rw [HDisp.out, hob]; simp
             have HNo := hdd hno
             have HOb := hdd hob
             clear hno hob
             go_wp2_with (first | (refine wpList_load_mid rfl 56 _ rfl wo.heap.size 0 rfl (dvC da).toList _ (kav (HAw.out _ (Below.refl _ _))) rfl rfl (by kernel_rfl) ?_) | fail)
             (refine (kc8 da _).mono ?_; rintro en w4 ⟨rfl, hb4⟩; rw [HOa.out]; have HB4 := hdd (show Below w3.heap.size w3 w4 from hb4); clear hb4)
             go_wp2_with (first | (refine kce (by kernel_rfl) 56 _ rfl wr.heap.size 0 rfl (dvC db).toList _ (kav (HBw.out _ HB4.out)) rfl rfl (by kernel_rfl) ?_) | fail)
             (refine (kc8 db _).mono ?_; rintro en w5 ⟨rfl, hb5⟩; rw [HOb.out]; have HB5 := hdd (show Below w3.heap.size w3 w5 from HB4.out.next hb5); have hA5 := HAw.out _ HB5.out; have hB5 := HBw.out _ HB5.out; have a2 : w5.cell? ⟨wo.heap.size, 2, none⟩ = some (.string (B da.question)) := (by rw [kab hA5]; rfl); have a3 : w5.cell? ⟨wo.heap.size, 3, none⟩ = some (.string (B da.scope)) := (by rw [kab hA5]; rfl); have a4 : w5.cell? ⟨wo.heap.size, 4, none⟩ = some (.string (B da.answer)) := (by rw [kab hA5]; rfl); have b2 : w5.cell? ⟨wr.heap.size, 2, none⟩ = some (.string (B db.question)) := (by rw [kab hB5]; rfl); have b3 : w5.cell? ⟨wr.heap.size, 3, none⟩ = some (.string (B db.scope)) := (by rw [kab hB5]; rfl); have b4 : w5.cell? ⟨wr.heap.size, 4, none⟩ = some (.string (B db.answer)) := (by rw [kab hB5]; rfl); have a0 : w5.cell? ⟨wo.heap.size, 0, none⟩ = some (.string (B da.id)) := (by rw [kab hA5]; rfl); have b0 : w5.cell? ⟨wr.heap.size, 0, none⟩ = some (.string (B db.id)) := (by rw [kab hB5]; rfl); clear hb5 hA5 hB5)
             go_wp2
             have HPn := hdd (show kiw l pre da k (j + 1) = kiw l pre da k j by rw [HSuc.out, HNo.out]; simp)
             go_roundw
             case rel => first | exact ⟨j + 1, by omega, by go_num, HBel.out _ HB5.out, HAw.out _ HB5.out, by rw [HPn.out]; exact HOw3.out _ HB5.out⟩ | ((repeat apply Exists.intro); exact ⟨⟨j + 1, by omega, by go_num, HBel.out _ HB5.out, HAw.out _ HB5.out, by rw [HPn.out]; exact HOw3.out _ HB5.out⟩, rfl⟩)
             case measure => simp [intOf]; omega
           | false =>
             have HOb := hdd hob
             clear hob
             by_cases hq : da.question = db.question
             · have hq1 : ((B da.question).toList == (B db.question).toList) = true := by rw [hq]; exact kcl _
               have hq2 : ((B da.question).toList != (B db.question).toList) = false := by rw [bne, hq1]; rfl
               by_cases hs : da.scope = db.scope
               · have hs1 : ((B da.scope).toList == (B db.scope).toList) = true := by rw [hs]; exact kcl _
                 have hs2 : ((B da.scope).toList != (B db.scope).toList) = false := by rw [bne, hs1]; rfl
                 by_cases ha : da.answer = db.answer
                 · have ha1 : ((B da.answer).toList == (B db.answer).toList) = true := by rw [ha]; exact kcl _
                   have hno : Rv.disp da db = false := by rw [HDisp.out, ha]; simp
                   have HNo := hdd hno
                   clear hno hq hs ha
                   go_wp2_with (first | (refine wpList_load_mid rfl 56 _ rfl wo.heap.size 0 rfl (dvC da).toList _ (kav (HAw.out _ (Below.refl _ _))) rfl rfl (by kernel_rfl) ?_) | fail)
                   (refine (kc8 da _).mono ?_; rintro en w4 ⟨rfl, hb4⟩; rw [HOa.out]; have HB4 := hdd (show Below w3.heap.size w3 w4 from hb4); clear hb4)
                   go_wp2_with (first | (refine kce (by kernel_rfl) 56 _ rfl wr.heap.size 0 rfl (dvC db).toList _ (kav (HBw.out _ HB4.out)) rfl rfl (by kernel_rfl) ?_) | fail)
                   (refine (kc8 db _).mono ?_; rintro en w5 ⟨rfl, hb5⟩; rw [HOb.out]; have HB5 := hdd (show Below w3.heap.size w3 w5 from HB4.out.next hb5); have hA5 := HAw.out _ HB5.out; have hB5 := HBw.out _ HB5.out; have a2 : w5.cell? ⟨wo.heap.size, 2, none⟩ = some (.string (B da.question)) := (by rw [kab hA5]; rfl); have a3 : w5.cell? ⟨wo.heap.size, 3, none⟩ = some (.string (B da.scope)) := (by rw [kab hA5]; rfl); have a4 : w5.cell? ⟨wo.heap.size, 4, none⟩ = some (.string (B da.answer)) := (by rw [kab hA5]; rfl); have b2 : w5.cell? ⟨wr.heap.size, 2, none⟩ = some (.string (B db.question)) := (by rw [kab hB5]; rfl); have b3 : w5.cell? ⟨wr.heap.size, 3, none⟩ = some (.string (B db.scope)) := (by rw [kab hB5]; rfl); have b4 : w5.cell? ⟨wr.heap.size, 4, none⟩ = some (.string (B db.answer)) := (by rw [kab hB5]; rfl); have a0 : w5.cell? ⟨wo.heap.size, 0, none⟩ = some (.string (B da.id)) := (by rw [kab hA5]; rfl); have b0 : w5.cell? ⟨wr.heap.size, 0, none⟩ = some (.string (B db.id)) := (by rw [kab hB5]; rfl); clear hb5 hA5 hB5)
                   go_wp2
                   have HPn := hdd (show kiw l pre da k (j + 1) = kiw l pre da k j by rw [HSuc.out, HNo.out]; simp)
                   go_roundw
                   case rel => first | exact ⟨j + 1, by omega, by go_num, HBel.out _ HB5.out, HAw.out _ HB5.out, by rw [HPn.out]; exact HOw3.out _ HB5.out⟩ | ((repeat apply Exists.intro); exact ⟨⟨j + 1, by omega, by go_num, HBel.out _ HB5.out, HAw.out _ HB5.out, by rw [HPn.out]; exact HOw3.out _ HB5.out⟩, rfl⟩)
                   case measure => simp [intOf]; omega
                 · have ha1 := kci ha
                   have hyes : Rv.disp da db = true := by rw [HDisp.out, HOa.out, HOb.out]; simp [hq, hs, ha]
                   have HYes := hdd hyes
                   clear hyes hq hs ha
                   go_wp2_with (first | (refine wpList_load_mid rfl 56 _ rfl wo.heap.size 0 rfl (dvC da).toList _ (kav (HAw.out _ (Below.refl _ _))) rfl rfl (by kernel_rfl) ?_) | fail)
                   (refine (kc8 da _).mono ?_; rintro en w4 ⟨rfl, hb4⟩; rw [HOa.out]; have HB4 := hdd (show Below w3.heap.size w3 w4 from hb4); clear hb4)
                   go_wp2_with (first | (refine kce (by kernel_rfl) 56 _ rfl wr.heap.size 0 rfl (dvC db).toList _ (kav (HBw.out _ HB4.out)) rfl rfl (by kernel_rfl) ?_) | fail)
                   (refine (kc8 db _).mono ?_; rintro en w5 ⟨rfl, hb5⟩; rw [HOb.out]; have HB5 := hdd (show Below w3.heap.size w3 w5 from HB4.out.next hb5); have hA5 := HAw.out _ HB5.out; have hB5 := HBw.out _ HB5.out; have a2 : w5.cell? ⟨wo.heap.size, 2, none⟩ = some (.string (B da.question)) := (by rw [kab hA5]; rfl); have a3 : w5.cell? ⟨wo.heap.size, 3, none⟩ = some (.string (B da.scope)) := (by rw [kab hA5]; rfl); have a4 : w5.cell? ⟨wo.heap.size, 4, none⟩ = some (.string (B da.answer)) := (by rw [kab hA5]; rfl); have b2 : w5.cell? ⟨wr.heap.size, 2, none⟩ = some (.string (B db.question)) := (by rw [kab hB5]; rfl); have b3 : w5.cell? ⟨wr.heap.size, 3, none⟩ = some (.string (B db.scope)) := (by rw [kab hB5]; rfl); have b4 : w5.cell? ⟨wr.heap.size, 4, none⟩ = some (.string (B db.answer)) := (by rw [kab hB5]; rfl); have a0 : w5.cell? ⟨wo.heap.size, 0, none⟩ = some (.string (B da.id)) := (by rw [kab hA5]; rfl); have b0 : w5.cell? ⟨wr.heap.size, 0, none⟩ = some (.string (B db.id)) := (by rw [kab hB5]; rfl); clear hb5 hA5 hB5)
                   go_upto_region 10 with fail
                   have HOy := hdd (HOw3.out _ HB5.out)
                   have HSz := hdd (HBel.out _ HB5.out).size
                   have HLy := hdd (show (kiw l pre da k j).length + 1 ≤ 1048576 by
                    have := HLe.out
                    rw [HSuc.out, HYes.out, if_pos rfl, List.length_append, List.length_singleton] at this
                    exact this)
                   go_wp2_with (first
                    | (refine kpj rfl _ _ 9 rfl da.id db.id rfl rfl ?_)
                    | (refine kox rfl _ _ 9 rfl da.id db.id rfl rfl ?_)
                    | (at_builtin
                       refine wpList_append_own _ rfl _ _ 32 rfl w.heap.size 116 i0 (prV ([], [])) 2 32 Tryz.underlying32 Hi.out Hz0.out Hz1.out Hz2.out rfl (by decide) _ (kiw l pre da k j).length (prL (kiw l pre da k j)) rfl (HOy.out.alloc _) ⟨w5.heap.size, 0, none⟩ 1 1 (prC (kur da db)).toList rfl rfl (kjm (kak w5 (.cells (prC (kur da db)) 116))) (by simp [prC, Value.oneCell']) (by have := HLy.out; unfold maxLen; omega) (by have := HLy.out; omega) (by have := HSz.out; simp; omega) ?_
                       intro v8 w8 ho8 hg8 _
                       have HO8 := hdd (show w8.ownsRow w.heap.size 116 2 v8 (kiw l pre da k (j + 1)).length (prL (kiw l pre da k (j + 1))) by
                        rw [HSuc.out, HYes.out, if_pos rfl, kx4, List.length_append, List.length_singleton]; exact ho8)
                       have HB8 := hdd (show Below w.heap.size w w8 from ((HBel.out _ HB5.out).alloc HSz.out _).grown hg8 (by have := HSz.out; simp; omega) (fun q hq => (HOy.out.lt q hq).1))
                       have HA8 := hdd (show w8.heap[wo.heap.size]? = some (.cells (dvC da) 56 (0, 0)) from (hg8.block _ (by have := kac (HAw.out _ HB5.out); simp; omega) (fun e => by
                        obtain ⟨cs, h9⟩ := kjq HOy.out (Eq.symm e)
                        rw [HAw.out _ HB5.out] at h9
                        simp only [Option.some.injEq, Obj.cells.injEq] at h9
                        exact absurd h9.2.1 (by decide))).trans (kaq (HAw.out _ HB5.out)))
                       clear ho8 hg8)
                    | fail)
                   go_roundw
                   case rel => first | exact ⟨j + 1, by omega, by go_num, HB8.out, HA8.out, HO8.out⟩ | ((repeat apply Exists.intro); exact ⟨⟨j + 1, by omega, by go_num, HB8.out, HA8.out, HO8.out⟩, rfl⟩)
                   case measure => simp [intOf]; omega
               · have hs1 := kci hs
                 have hs2 : ((B da.scope).toList != (B db.scope).toList) = true := by rw [bne, hs1]; rfl
                 have hno : Rv.disp da db = false := by rw [HDisp.out]; simp [hs]
                 have HNo := hdd hno
                 clear hno hq hs
                 go_wp2_with (first | (refine wpList_load_mid rfl 56 _ rfl wo.heap.size 0 rfl (dvC da).toList _ (kav (HAw.out _ (Below.refl _ _))) rfl rfl (by kernel_rfl) ?_) | fail)
                 (refine (kc8 da _).mono ?_; rintro en w4 ⟨rfl, hb4⟩; rw [HOa.out]; have HB4 := hdd (show Below w3.heap.size w3 w4 from hb4); clear hb4)
                 go_wp2_with (first | (refine kce (by kernel_rfl) 56 _ rfl wr.heap.size 0 rfl (dvC db).toList _ (kav (HBw.out _ HB4.out)) rfl rfl (by kernel_rfl) ?_) | fail)
                 (refine (kc8 db _).mono ?_; rintro en w5 ⟨rfl, hb5⟩; rw [HOb.out]; have HB5 := hdd (show Below w3.heap.size w3 w5 from HB4.out.next hb5); have hA5 := HAw.out _ HB5.out; have hB5 := HBw.out _ HB5.out; have a2 : w5.cell? ⟨wo.heap.size, 2, none⟩ = some (.string (B da.question)) := (by rw [kab hA5]; rfl); have a3 : w5.cell? ⟨wo.heap.size, 3, none⟩ = some (.string (B da.scope)) := (by rw [kab hA5]; rfl); have a4 : w5.cell? ⟨wo.heap.size, 4, none⟩ = some (.string (B da.answer)) := (by rw [kab hA5]; rfl); have b2 : w5.cell? ⟨wr.heap.size, 2, none⟩ = some (.string (B db.question)) := (by rw [kab hB5]; rfl); have b3 : w5.cell? ⟨wr.heap.size, 3, none⟩ = some (.string (B db.scope)) := (by rw [kab hB5]; rfl); have b4 : w5.cell? ⟨wr.heap.size, 4, none⟩ = some (.string (B db.answer)) := (by rw [kab hB5]; rfl); have a0 : w5.cell? ⟨wo.heap.size, 0, none⟩ = some (.string (B da.id)) := (by rw [kab hA5]; rfl); have b0 : w5.cell? ⟨wr.heap.size, 0, none⟩ = some (.string (B db.id)) := (by rw [kab hB5]; rfl); clear hb5 hA5 hB5)
                 go_wp2
                 have HPn := hdd (show kiw l pre da k (j + 1) = kiw l pre da k j by rw [HSuc.out, HNo.out]; simp)
                 go_roundw
                 case rel => first | exact ⟨j + 1, by omega, by go_num, HBel.out _ HB5.out, HAw.out _ HB5.out, by rw [HPn.out]; exact HOw3.out _ HB5.out⟩ | ((repeat apply Exists.intro); exact ⟨⟨j + 1, by omega, by go_num, HBel.out _ HB5.out, HAw.out _ HB5.out, by rw [HPn.out]; exact HOw3.out _ HB5.out⟩, rfl⟩)
                 case measure => simp [intOf]; omega
             · have hq1 := kci hq
               have hq2 : ((B da.question).toList != (B db.question).toList) = true := by rw [bne, hq1]; rfl
               have hno : Rv.disp da db = false := by rw [HDisp.out]; simp [hq]
               have HNo := hdd hno
               clear hno hq
               go_wp2_with (first | (refine wpList_load_mid rfl 56 _ rfl wo.heap.size 0 rfl (dvC da).toList _ (kav (HAw.out _ (Below.refl _ _))) rfl rfl (by kernel_rfl) ?_) | fail)
               (refine (kc8 da _).mono ?_; rintro en w4 ⟨rfl, hb4⟩; rw [HOa.out]; have HB4 := hdd (show Below w3.heap.size w3 w4 from hb4); clear hb4)
               go_wp2_with (first | (refine kce (by kernel_rfl) 56 _ rfl wr.heap.size 0 rfl (dvC db).toList _ (kav (HBw.out _ HB4.out)) rfl rfl (by kernel_rfl) ?_) | fail)
               (refine (kc8 db _).mono ?_; rintro en w5 ⟨rfl, hb5⟩; rw [HOb.out]; have HB5 := hdd (show Below w3.heap.size w3 w5 from HB4.out.next hb5); have hA5 := HAw.out _ HB5.out; have hB5 := HBw.out _ HB5.out; have a2 : w5.cell? ⟨wo.heap.size, 2, none⟩ = some (.string (B da.question)) := (by rw [kab hA5]; rfl); have a3 : w5.cell? ⟨wo.heap.size, 3, none⟩ = some (.string (B da.scope)) := (by rw [kab hA5]; rfl); have a4 : w5.cell? ⟨wo.heap.size, 4, none⟩ = some (.string (B da.answer)) := (by rw [kab hA5]; rfl); have b2 : w5.cell? ⟨wr.heap.size, 2, none⟩ = some (.string (B db.question)) := (by rw [kab hB5]; rfl); have b3 : w5.cell? ⟨wr.heap.size, 3, none⟩ = some (.string (B db.scope)) := (by rw [kab hB5]; rfl); have b4 : w5.cell? ⟨wr.heap.size, 4, none⟩ = some (.string (B db.answer)) := (by rw [kab hB5]; rfl); have a0 : w5.cell? ⟨wo.heap.size, 0, none⟩ = some (.string (B da.id)) := (by rw [kab hA5]; rfl); have b0 : w5.cell? ⟨wr.heap.size, 0, none⟩ = some (.string (B db.id)) := (by rw [kab hB5]; rfl); clear hb5 hA5 hB5)
               go_wp2
               have HPn := hdd (show kiw l pre da k (j + 1) = kiw l pre da k j by rw [HSuc.out, HNo.out]; simp)
               go_roundw
               case rel => first | exact ⟨j + 1, by omega, by go_num, HBel.out _ HB5.out, HAw.out _ HB5.out, by rw [HPn.out]; exact HOw3.out _ HB5.out⟩ | ((repeat apply Exists.intro); exact ⟨⟨j + 1, by omega, by go_num, HBel.out _ HB5.out, HAw.out _ HB5.out, by rw [HPn.out]; exact HOw3.out _ HB5.out⟩, rfl⟩)
               case measure => simp [intOf]; omega
       · have hjl : j = l.length - (k + 1) := by omega
         have HP2 := hdd (show kiw l pre da k j ++ Rv.dispsOf (l.drop (k + 1)) = Rv.dispsOf l by
          rw [← HP.out, HCons.out, klp]
          unfold kiw
          rw [List.take_of_length_le (by rw [List.length_drop]; omega), List.append_assoc])
         go_wp2
         go_roundw
         case rel => first | exact ⟨k + 1, _, by omega, by go_num, HP2.out, HBx.out, HOx.out⟩ | ((repeat apply Exists.intro); exact ⟨⟨k + 1, _, by omega, by go_num, HP2.out, HBx.out, HOx.out⟩, rfl⟩)
         case measure => simp [intOf]; omega
  · have hkl : k = l.length := by omega
    have hpre : pre = Rv.dispsOf l := by
     have := HP.out
     rw [hkl, List.drop_length] at this
     simpa [Rv.dispsOf] using this
    have ho := HO.out
    rw [hpre] at ho
    have HOe := hdd ho
    have hlb := HLn.out
    clear hpre ho
    by_cases h0 : (Rv.dispsOf l).length = 0
    · obtain ⟨av, cv, rfl⟩ := kah HOe.out
      have hnil : Rv.dispsOf l = [] := List.eq_nil_of_length_eq_zero h0
      have HS := hdd (show Calls Tryz.prog 119 #[.slice av (Rv.dispsOf l).length cv, .func (.func 120) #[] #[]] wr fun en w' => en = .returned (.tuple #[]) ∧ w' = wr by rw [h0]; exact kkv av cv wr)
      have HOf := hdd (show wr.ownsRow w.heap.size 116 2 (.slice av (Rv.dispsOf l).length cv) (Rv.dispsOf l).length (prL (Rv.sortP (Rv.dispsOf l))) by
       have := HOe.out
       rw [hnil] at this ⊢
       exact this)
      clear h0 hnil
      go_wp2_with (first | (go_at_call 119; refine HS.out.mono ?_; rintro en w9 ⟨rfl, rfl⟩) | fail)
      go_ret
      exact ⟨_, rfl, HB.out, HOf.out⟩
    · obtain ⟨g, cv, rfl, hg1, hg2, hg3⟩ := kb2 HOe.out (by omega)
      have HS := hdd (krz (Rv.dispsOf l) wr w.heap.size g cv HOe.out (by omega))
      have HG := hdd hg1
      clear h0 hg1 hg2 hg3
      go_wp2_with (first | (go_at_call 119; refine HS.out.mono ?_; rintro en w9 ⟨rfl, ho9, hk9⟩; have HO9 := hdd ho9; have HK9 := hdd hk9; clear ho9 hk9) | fail)
      go_ret
      have hg := HG.out
      exact ⟨_, rfl, HB.out.trans (HK9.out.below HB.out.size (fun q hq e => by have : q = g := e; omega)), HO9.out⟩
end Go.Proofs.YtknpbekoenbphaaGreatDoor
namespace Go.Proofs.YtknpbekoenbphaaGreatDoor
open Go Go.RowKit Licit Go.Maps Go.Sort Go.Shelf
theorem kvl (mb : Option Nat) (W : World) : Calls Tryz.prog 55 #[.map mb] W fun e w' => e = .returned (.func (.func 116) #[] #[.pointer (some ⟨W.heap.size, 0, none⟩)]) ∧ w' = W.alloc (.cells #[.map mb] 89) :=
 callsIn_wide.1 (AnyZ.keys_in Tryz.keysR Fence.wide 5 trivial rfl mb W)
theorem ktz (mb : Option Nat) (W : World) : Calls Tryz.prog 56 #[.map mb] W fun e w' => e = .returned (.func (.func 117) #[] #[.pointer (some ⟨W.heap.size, 0, none⟩)]) ∧ w' = W.alloc (.cells #[.map mb] 90) :=
 callsIn_wide.1 (AnyZ.keys_in Tryz.keysI Fence.wide 5 trivial rfl mb W)
theorem km5 (m : Nat) : AnyZ.SortsIn Tryz.prog Tryz.sortedS_ren Fence.wide m :=
 ⟨fun blk off cap ss W hH hblk hsz => callsIn_wide.2 (AnyM.slices_Sort_string Tryz.sortStr blk off cap ss W hH hblk hsz),
  fun p cap W => callsIn_wide.2 (AnyM.slices_Sort_string_none Tryz.sortStr p cap W)⟩
theorem koa {ss l : List Bs} (hp : ss.Perm l) (hn : l.Nodup) : (ss.mergeSort fun x y => decide (x ≤ y)) = Rv.sortB l := by
 have hm := List.mergeSort_perm ss fun x y => decide (x ≤ y)
 refine Rv.sortB_only ((hm.trans hp).nodup_iff.2 hn) (fun z => (hm.trans hp).mem_iff) ?_
 have hs := List.pairwise_mergeSort (le := fun x y : Bs => decide (x ≤ y)) (fun a b c h1 h2 => by simp only [decide_eq_true_eq] at *; exact List.le_trans h1 h2) (fun a b => by simp only [Bool.or_eq_true, decide_eq_true_eq]; exact List.le_total a b) ss
 exact hs.imp fun {a b} h => by rw [Rv.ltB_false]; simpa using h
theorem kva {w : World} {b : Nat} {L : List (Bs × Value)} (h : kbj Tryz.prog 9 kS w b L) (hn : L.length ≤ 1048576) : ∃ (nn : Nat) (D0 : DataW Unit), w.ownsMap Tryz.prog 9 (fun _ => some (.nil, [])) b nn D0 ∧ (strKeys D0).Perm (kbg L) ∧ Maps.size D0 = L.length := by
 have hread := fun es clock hb => h.readable (es := es) (clock := clock) hb
 obtain ⟨es, clock, hb, hst, hl, hr⟩ := h
 have hsz : es.size = L.length := by have := congrArg List.length hl; simpa using this
 have hk : ∀ x ∈ es.toList, ∃ s : Bs, x.key = kS s ∧ Go.WideElems.rg Tryz.prog 9 (fun _ => some ((.nil : DataW Unit), [])) x = (.string s, .nil) := fun x hx => by
  obtain ⟨l, hl⟩ := hread es clock hb x hx
  obtain ⟨y, e1, e2, _⟩ := Go.Maps.keyOf_str Tryz.underlying9 hl
  refine ⟨y, e1, ?_⟩
  unfold Go.WideElems.rg Go.WideElems.rd
  rw [hl, e2]
  rfl
 have hmap : ((es.toList.map (Go.WideElems.rg Tryz.prog 9 (fun _ => some ((.nil : DataW Unit), [])))).map fun p => strOf p.1) = kbg L := by
  have e1 : es.toList.map (·.key) = L.map fun x => kS x.1 := by
   have := congrArg (List.map (·.1)) hl
   simpa [List.map_map, Function.comp_def] using this
  have e2 : ((es.toList.map (Go.WideElems.rg Tryz.prog 9 (fun _ => some ((.nil : DataW Unit), [])))).map fun p => strOf p.1) = (es.toList.map (·.key)).map fun v => match v with | .string z => z.data.toList | _ => [] := by
   rw [List.map_map, List.map_map]
   refine List.map_congr_left fun x hx => ?_
   obtain ⟨s, h1, h2⟩ := hk x hx
   simp only [Function.comp, h1, h2]
   exact (B_list s).symm
  rw [e2, e1, List.map_map]
  unfold kbg
  exact List.map_congr_left fun x _ => B_list x.1
 refine ⟨es.size, .map ((es.toList.map (Go.WideElems.rg Tryz.prog 9 (fun _ => some ((.nil : DataW Unit), [])))).foldr DataW.insert []), ⟨es, clock, hb, ⟨by rw [hsz]; unfold maxLen; omega, hst, fun x hx => ?_⟩, Nat.le_refl _, rfl⟩, ?_, ?_⟩
 · obtain ⟨l, hl⟩ := hread es clock hb x hx
   exact ⟨(l, .nil), by unfold Go.WideElems.rd; rw [hl]; rfl⟩
 · rw [← hmap]
   exact (Go.WideShapes.sorted_perm _).map _
 · show (List.foldr DataW.insert [] _).length = _
   rw [(Go.WideShapes.sorted_perm _).length_eq, List.length_map, Array.length_toList, hsz]
theorem ko9 (b : Nat) (L : List (Bs × Value)) (w : World) (h : kbj Tryz.prog 9 kS w b L) (hn : L.length ≤ 1048576) :
 Calls Tryz.prog 54 #[.func (.func 116) #[] #[.pointer (some ⟨w.heap.size, 0, none⟩)]] (w.alloc (.cells #[.map (some b)] 89)) fun e w' => ∃ v, e = .returned v ∧ w'.ownsRow (w.heap.size + 1) 9 1 v (Rv.sortB (kbg L)).length ((Rv.sortB (kbg L)).map vS) ∧ Below (w.heap.size + 1) (w.alloc (.cells #[.map (some b)] 89)) w' := by
 obtain ⟨nn, D0, hown, hperm, hsz⟩ := kva h hn
 have hbl := hown.lt
 have hseq : SeqGives Fence.wide 2 Tryz.prog 116 #[.pointer (some ⟨w.heap.size, 0, none⟩)] encStr (fun ss => ss.Perm (strKeys D0)) (Maps.size D0) (w.alloc (.cells #[.map (some b)] 89)) :=
  AnyZ.keys_gives (ρ := Tryz.keysR_ren) { Tryz.keysR with } Fence.wide _ trivial rfl (by omega) w.heap.size b nn D0 _ (by simp) (by simp) (by
   obtain ⟨es, clock, hb, Ft, hs, hD⟩ := hown
   exact ⟨es, clock, (Below.heap_alloc _ _ b hbl).trans hb, Ft, hs, hD⟩)
 have hc := callsIn_wide.1 (AnyZ.sorted_in Tryz.sortedS Fence.wide 5 trivial trivial trivial trivial rfl (by omega) (km5 _) (enters_of Tryz.func52 (by kernel_rfl) rfl) 116 #[.pointer (some ⟨w.heap.size, 0, none⟩)] trivial (enters_of Tryz.func116 (by kernel_rfl) rfl) _ (Maps.size D0) (by rw [hsz]; unfold maxLen; omega) (by rw [hsz]; omega) _ hseq)
 refine hc.mono ?_
 rintro e w' ⟨v, ss, rfl, hp, hrow, -, hb⟩
 have hs : (ss.mergeSort fun x y => decide (x ≤ y)) = Rv.sortB (kbg L) := koa (hp.trans hperm) (h.nodup kde)
 rw [World.size_alloc] at hrow hb
 rw [hs] at hrow
 have hl : ss.length = (Rv.sortB (kbg L)).length := by rw [← hs]; simp
 rw [hl] at hrow
 exact ⟨v, rfl, hrow, hb⟩
theorem kow (b : Nat) (L : List (Bs × Value)) (w : World) (h : kbj Tryz.prog 9 kS w b L) (hn : L.length ≤ 1048576) :
 Calls Tryz.prog 54 #[.func (.func 117) #[] #[.pointer (some ⟨w.heap.size, 0, none⟩)]] (w.alloc (.cells #[.map (some b)] 90)) fun e w' => ∃ v, e = .returned v ∧ w'.ownsRow (w.heap.size + 1) 9 1 v (Rv.sortB (kbg L)).length ((Rv.sortB (kbg L)).map vS) ∧ Below (w.heap.size + 1) (w.alloc (.cells #[.map (some b)] 90)) w' := by
 obtain ⟨nn, D0, hown, hperm, hsz⟩ := kva h hn
 have hbl := hown.lt
 have hseq : SeqGives Fence.wide 2 Tryz.prog 117 #[.pointer (some ⟨w.heap.size, 0, none⟩)] encStr (fun ss => ss.Perm (strKeys D0)) (Maps.size D0) (w.alloc (.cells #[.map (some b)] 90)) :=
  AnyZ.keys_gives (ρ := Tryz.keysI_ren) { Tryz.keysI with } Fence.wide _ trivial rfl (by omega) w.heap.size b nn D0 _ (by simp) (by simp) (by
   obtain ⟨es, clock, hb, Ft, hs, hD⟩ := hown
   exact ⟨es, clock, (Below.heap_alloc _ _ b hbl).trans hb, Ft, hs, hD⟩)
 have hc := callsIn_wide.1 (AnyZ.sorted_in Tryz.sortedS Fence.wide 5 trivial trivial trivial trivial rfl (by omega) (km5 _) (enters_of Tryz.func52 (by kernel_rfl) rfl) 117 #[.pointer (some ⟨w.heap.size, 0, none⟩)] trivial (enters_of Tryz.func117 (by kernel_rfl) rfl) _ (Maps.size D0) (by rw [hsz]; unfold maxLen; omega) (by rw [hsz]; omega) _ hseq)
 refine hc.mono ?_
 rintro e w' ⟨v, ss, rfl, hp, hrow, -, hb⟩
 have hs : (ss.mergeSort fun x y => decide (x ≤ y)) = Rv.sortB (kbg L) := koa (hp.trans hperm) (h.nodup kde)
 rw [World.size_alloc] at hrow hb
 rw [hs] at hrow
 have hl : ss.length = (Rv.sortB (kbg L)).length := by rw [← hs]; simp
 rw [hl] at hrow
 exact ⟨v, rfl, hrow, hb⟩
end Go.Proofs.YtknpbekoenbphaaGreatDoor
