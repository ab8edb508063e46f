/- Parts of the proofs: WkList, WkRefEnc, WkRefEncL, WkLam1. No condition beyond those at each theorem. -/
import Derived.Deep.RegionWith
import Derived.Test.YtknpbekoenbphaaGreatDoorPk06
set_option linter.unusedVariables false
set_option linter.unusedSimpArgs false
set_option maxHeartbeats 16000000
set_option maxRecDepth 100000
namespace Go.Proofs.YtknpbekoenbphaaGreatDoor
open Go Go.RowKit Licit
theorem ky4 {α : Type} (one : α → Bs × Int) (xs : List α) (acc : Bs) (k : Nat) (hk : k < xs.length) :
 klk one (xs.drop k) acc = if (one xs[k]).2 ≠ 0 then ([], (one xs[k]).2) else klk one (xs.drop (k + 1)) (acc ++ (one xs[k]).1) := by
 rw [List.drop_eq_getElem_cons hk]; rfl
theorem kh5 (s : Bs) : (kar s).1.length ≤ 65600 := by
 unfold kar
 split
 · simp
 · have := kdr (n := (s.length : Int)) (by omega) (by omega)
   rw [kbt, Int.toNat_natCast] at this
   simp; omega
theorem kk1 {w w' : World} {base : Nat} {e : TypeId} {size : Nat} {v : Value} {n : Nat} {xs : List Value} (h : w.ownsRowF base e size v n xs) (hb : Below w.heap.size w w') : w'.ownsRowF base e size v n xs := by
 obtain ⟨h1, h2⟩ := h
 refine ⟨h1, ?_⟩
 rcases h2 with h2 | ⟨g, cap, cur, fz, hv, hg, hh, r⟩
 · exact .inl h2
 · exact .inr ⟨g, cap, cur, fz, hv, hg, by rw [hb.block g (kac hh)]; exact hh, r⟩
theorem kgg {T e : TypeId} {B b : Nat} {p : Value} {bs : List Value} {w w' : World} (h : Lib.BuilderAtF T e B b p bs w) (hb : Below w.heap.size w w') : Lib.BuilderAtF T e B b p bs w' := by
 obtain ⟨hB, v, hbk, hown, hne⟩ := h
 exact ⟨hB, v, by rw [hb.block b (kac hbk)]; exact hbk, kk1 hown hb, hne⟩
theorem kfk {T e : TypeId} {B b : Nat} {bs : List Value} {w w' : World} (h : Lib.IsBuilderF T e B b bs w) (hb : Below w.heap.size w w') : Lib.IsBuilderF T e B b bs w' :=
 h.elim (fun h => .inl (kgg h hb)) (fun h => .inr (kgg h hb))
theorem kpa (w : World) (T e : TypeId) : Lib.IsBuilderF T e w.heap.size w.heap.size [] (w.alloc (.cells #[.pointer none, .slice none 0 0] T)) :=
 .inl ⟨Nat.le_refl _, _, kak _ _, World.ownsRowF_nil _ _ _ _, by simp [Value.ownBlock]⟩
theorem kuf (v : Value) (xs : List Bs) (w : World) (h : IsSl v (xs.map vS) w) (hl : ∀ x ∈ xs, x.length ≤ maxLen) (ht : Tab w) :
 Calls Tryz.prog 200 #[v, .func (.func 153) #[] #[]] w fun e w' => e = .returned (.tuple #[.string (B (ka7 kar xs).1), .int .i64 (ka7 kar xs).2]) ∧ Below w.heap.size w w' := by
 obtain ⟨hm, h⟩ := h
 rw [List.length_map] at hm
 unfold maxLen at hm
 have hbn := kpa w 261 5
 have htn := ht.same ((Below.refl _ _).alloc (Nat.le_refl _) (.cells #[.pointer none, .slice none 0 0] 261))
 rcases h with ⟨a, cap, rfl, h⟩ | ⟨b, off, cap, rfl, h0, hc⟩
 · obtain rfl : xs = [] := by simpa using h
   have R : ka7 kar ([] : List Bs) = (Lib.decDigits 0 ++ [59], 0) := rfl
   have HR := hdd R
   have hd0 : (B (Lib.decDigits 0)).size ≤ 21 := kdr (n := 0) (by omega) (by omega)
   have HI := hdd (show Lib.itoa 0 = Lib.decDigits 0 by rfl)
   have Hw0 := hdd (show ([] : List Value).length + (B (Lib.decDigits 0) ++ (⟨#[59]⟩ : ByteArray)).size ≤ 140737488355328 by rw [List.length_nil, ByteArray.size_append, show (⟨#[59]⟩ : ByteArray).size = 1 from rfl]; omega)
   clear R h
   go_enter Tryz.func200, Tryz.ntmps200
   go_wp2_with (first
    | (go_at_call 199; refine (kji 0 (by omega) (by omega) _ htn).mono ?_; rw [HI.out]; rintro e w1 ⟨rfl, hb⟩)
    | (go_at_call 231; refine (kee w.heap.size w.heap.size [] _ _ (kfk hbn hb) Hw0.out (by have := hb.size; simp at this; omega)).mono ?_; rintro e w2 ⟨rfl, hB2, hb2, _⟩))
   refine wp_loop_rounds 1 ?_
   rw [rounds_succ]
   go_wp2_with (first
    | (go_at_call 232; refine (Tryz.Builder_String_any_k w.heap.size w.heap.size (Lib.decDigits 0 ++ [59]) _ (.inr (by rw [List.nil_append, Lib.strCells_eq, show ((⟨#[59]⟩ : ByteArray)) = B [59] from rfl, ka9, B_list] at hB2; exact hB2)) (by have := hb.size; have := hb2.size; simp at *; omega)).mono ?_; rintro e w3 ⟨rfl, _, hb3, _⟩))
   go_ret2
   exact ⟨by rw [HR.out]; rfl, ((((Below.refl _ _).alloc (Nat.le_refl _) _).trans (hb.mono (by simp))).trans hb2).trans hb3⟩
 · rw [List.length_map] at h0 hc
   by_cases hbig : 1024 < xs.length
   · have R : ka7 kar xs = ([], 10) := by simp [ka7, hbig]
     have HR := hdd R
     clear R hc
     go_enter Tryz.func200, Tryz.ntmps200
     rw [List.length_map]
     go_wp2
     go_ret2
     exact ⟨by rw [HR.out]; rfl, Below.refl _ _⟩
   · have HR := hdd (show ka7 kar xs = klk kar xs (Lib.decDigits xs.length ++ [59]) by simp [ka7, hbig])
     have hbw : b < w.heap.size := by
      have := hc 0 (by omega)
      exact World.block_lt_of_cell? w _ (this.trans (List.getElem?_eq_getElem (by simpa using h0)))
     have HC := hdd hc
     clear hc
     have hd0 := kdr (n := (xs.length : Int)) (by omega) (by omega)
     rw [Int.toNat_natCast] at hd0
     have HI := hdd (show Lib.itoa (xs.length : Int) = Lib.decDigits xs.length by unfold Lib.itoa; rw [if_neg (by omega), Int.toNat_natCast])
     have Hw0 := hdd (show ([] : List Value).length + (B (Lib.decDigits xs.length) ++ (⟨#[59]⟩ : ByteArray)).size ≤ 140737488355328 by rw [List.length_nil, ByteArray.size_append, show (⟨#[59]⟩ : ByteArray).size = 1 from rfl]; omega)
     go_enter Tryz.func200, Tryz.ntmps200
     rw [List.length_map]
     go_wp2_with (first
      | (go_at_call 199; refine (kji _ (by omega) (by omega) _ htn).mono ?_; rw [HI.out]; rintro e w1 ⟨rfl, hb⟩)
      | (go_at_call 231; refine (kee w.heap.size w.heap.size [] _ _ (kfk hbn hb) Hw0.out (by have := hb.size; simp at this; omega)).mono ?_; rintro e w2 ⟨rfl, hB2, hb2, _⟩))
     have hB2' : Lib.IsBuilderF 261 5 w.heap.size w.heap.size (Lib.byteCells (Lib.decDigits xs.length ++ [59])) w2 := .inr (by rw [List.nil_append, Lib.strCells_eq, show ((⟨#[59]⟩ : ByteArray)) = B [59] from rfl, ka9, B_list] at hB2; exact hB2)
     have hbb : Below w.heap.size w w2 := (((Below.refl _ _).alloc (Nat.le_refl _) _).trans (hb.mono (by simp))).trans hb2
     have hsz2 : w.heap.size < w2.heap.size := by have := hb.size; have := hb2.size; simp at *; omega
     have HB2 := hdd hB2'
     have HBB := hdd hbb
     have htab := ht.same hbb
     clear hB2 hB2' hbb hb hb2 hbn htn
     go_loopw [21] (fun i wr => ∃ (k : Nat) (acc : Bs), k ≤ xs.length ∧ i = .int .i64 k ∧ acc.length ≤ 22 + k * 65600 ∧ Lib.IsBuilderF 261 5 w.heap.size w.heap.size (Lib.byteCells acc) wr ∧ Below w.heap.size w wr ∧ w.heap.size < wr.heap.size ∧ Hid (klk kar (xs.drop k) acc = ka7 kar xs)) (fun i _ => xs.length - (intOf i).toNat)
     case atStart => exact ⟨0, _, Nat.zero_le _, rfl, by rw [kbt] at hd0; simp; omega, HB2.out, HBB.out, hsz2, HR.out.symm⟩
     case round =>
      obtain ⟨k, acc, hk, rfl, hal, hBr, hbr, hszr, H⟩ := hrel
      have HBr := hdd hBr
      have Hbr := hdd hbr
      have htr := ht.same hbr
      by_cases hlt : k < xs.length
      · have hcell : wr.cell? ⟨b, off + k, none⟩ = some (vS xs[k]) := by
         rw [hbr.cell (p := ⟨b, off + k, none⟩) hbw, HC.out k hlt]; simp [hlt]
        have hx := hl xs[k] (List.getElem_mem hlt)
        have HA := hdd (ky4 kar xs acc k hlt)
        clear hBr hbr
        unfold vS at hcell
        by_cases hone : (kar xs[k]).2 = 0
        · have hone' : ((kar xs[k]).2 == 0) = true := by simp [hone]
          have hone'' : ((kar xs[k]).2 != 0) = false := by simp [hone]
          have HO := hdd hone
          have hln := kh5 xs[k]
          clear hone
          go_wp2_with (first
           | (go_at_call 153; refine (kg7 xs[k] _ hx htr).mono ?_; rintro e w3 ⟨rfl, hb3⟩; have Hb3 := hdd hb3; have hs3 := hb3.size; clear hb3)
           | (go_at_call 231; refine (kee w.heap.size w.heap.size (Lib.byteCells acc) _ _ (kfk HBr.out Hb3.out) (by rw [Lib.byteCells_length, kbt]; omega) (by omega)).mono ?_; rintro e w4 ⟨rfl, hB4, hb4, _⟩; have HB4 := hdd hB4; have Hb4 := hdd hb4; have hs4 := hb4.size; clear hB4 hb4))
          go_roundw
          case rel =>
           refine ⟨k + 1, acc ++ (kar xs[k]).1, by omega, by go_num, by rw [List.length_append]; omega, ?_, ?_, by omega, ?_⟩
           · have := HB4.out
             rw [Lib.strCells_eq, B_list, ← Lib.byteCells_append] at this
             exact .inr this
           · exact (Hbr.out.trans (Hb3.out.mono (by omega))).trans Hb4.out
           · have := HA.out
             rw [if_neg (by simp [HO.out])] at this
             exact this.symm.trans H.out
          case measure => simp [intOf]; omega
        · have hone' : ((kar xs[k]).2 == 0) = false := by simpa using hone
          have hone'' : ((kar xs[k]).2 != 0) = true := by simpa using hone
          have hfin := H.out
          have HF : Hid (ka7 kar xs = ([], (kar xs[k]).2)) := by show _ = _; rw [← hfin, HA.out, if_pos hone]
          clear hone hfin
          go_wp2_with (first
           | (go_at_call 153; refine (kg7 xs[k] _ hx htr).mono ?_; rintro e w3 ⟨rfl, hb3⟩; have Hb3 := hdd hb3; have hs3 := hb3.size; clear hb3))
          go_ret2
          exact ⟨by rw [HF.out]; rfl, Hbr.out.trans (Hb3.out.mono (by omega))⟩
      · obtain rfl : k = xs.length := by omega
        have HF : Hid (ka7 kar xs = (acc, 0)) := by
         show _ = _
         have hfin := H.out
         rw [← hfin, List.drop_length]; rfl
        clear hBr hbr
        go_wp2_with (first
         | (go_at_call 232; refine (Tryz.Builder_String_any_k w.heap.size w.heap.size acc _ HBr.out (by omega)).mono ?_; rintro e w3 ⟨rfl, _, hb3, _⟩))
        go_ret2
        exact ⟨by rw [HF.out]; rfl, Hbr.out.trans hb3⟩
theorem kd2 (v : Value) (xs : List Bs) (w : World) (h : IsSl v (xs.map vS) w) (hl : ∀ x ∈ xs, x.length ≤ maxLen) (ht : Tab w) :
 Calls Tryz.prog 154 #[v] w fun e w' => e = .returned (.tuple #[.string (B (ka7 kar xs).1), .int .i64 (ka7 kar xs).2]) ∧ Below w.heap.size w w' := by
 go_enter Tryz.func154, Tryz.ntmps154
 go_wp2_with (go_at_call 200; refine (kuf v xs _ h hl ht).mono ?_; rintro e w1 ⟨rfl, hb⟩)
 go_ret2
 exact ⟨rfl, hb⟩
theorem k14 (W : World) (g cap : Nat) (m : Int) (h : W.cell? ⟨g, 0, none⟩ = some (.int .u8 m)) (h0 : 0 ≤ m) (h1 : m ≤ 255) :
 (convert 208 9 (.slice (some ⟨g, 0, none⟩) 1 cap)).run Tryz.prog W = .ok (.string (B [UInt8.ofNat m.toNat])) W := by
 refine run_convert_bytes_back (P := Tryz.prog) W 208 9 5 ⟨g, 0, none⟩ cap [UInt8.ofNat m.toNat] Tryz.underlying208 Tryz.underlying5 Tryz.underlying9 (fun j hj => ?_)
 obtain rfl : j = 0 := by simpa using hj
 have hm : ((UInt8.ofNat m.toNat).toNat : Int) = m := by
  rw [UInt8.toNat_ofNat']
  omega
 show W.cell? ⟨g, 0, none⟩ = _
 rw [h, List.getElem_cons_zero, hm]
theorem kf3 {n : Int} (h0 : 0 ≤ n) (h1 : n ≤ 9223372036854775807) : (B (Lib.decDigits n.toNat)).size ≤ 21 := by
 have := Lib.itoa_length_le n (by omega) h1
 unfold Lib.itoa at this
 rw [if_neg (by omega)] at this
 exact this
theorem k2t {W w1 : World} (hb : Below W.heap.size W w1) : (∀ b o, b < W.heap.size → w1.cell? ⟨b, o, none⟩ = W.cell? ⟨b, o, none⟩) ∧ (∀ b o, b < W.heap.size → w1.frozen? ⟨b, o, none⟩ = W.frozen? ⟨b, o, none⟩) :=
 ⟨fun b o h => hb.cell (p := ⟨b, o, none⟩) h, fun b o h => hb.frozen (p := ⟨b, o, none⟩) h⟩
theorem ktk {n : Int} (h0 : 0 ≤ n) (h : n < 10) : Lib.decDigits n.toNat = [UInt8.ofNat (48 + n).toNat] := by
 rw [Lib.decDigits_one (by omega), show (48 + n).toNat = 48 + n.toNat by omega]
theorem kzs {n : Int} (h : ¬ n < 10) : Lib.decDigits n.toNat = Lib.decDigits (n / 10).toNat ++ [UInt8.ofNat (48 + n % 10).toNat] := by
 rw [Lib.decDigits, dif_neg (by omega), show (n / 10).toNat = n.toNat / 10 by omega, show (48 + n % 10).toNat = 48 + n.toNat % 10 by omega]
theorem khf (k : Nat) : ∀ (n : Int) (w : World), 0 ≤ n → n < k → n ≤ 9223372036854775807 →
 Calls Tryz.prog 170 #[.int .i64 n] w fun e w' => e = .returned (.string (B (Lib.decDigits n.toNat))) ∧ Below w.heap.size w w' := by
 induction k with
 | zero => intro n w h0 h1; omega
 | succ k ih =>
   intro n w h0 hk h1
   have HI := hdd ih
   clear ih
   by_cases hlt : n < 10
   · have HR := hdd (ktk h0 hlt)
     have kc := k14 ((w.alloc (.cells #[.int .u8 (48 + n)] 5))) w.heap.size 1 (48 + n) (kp9 _ _) (by omega) (by omega)
     go_enter Tryz.func170, Tryz.ntmps170
     go_wp2
     go_ret
     exact ⟨by rw [HR.out]; rfl, (Below.refl _ _).alloc (Nat.le_refl _) _⟩
   · have HR := hdd (kzs hlt)
     have hds := kf3 (n := n / 10) (by omega) (by omega)
     have kc := fun (W : World) (g cap : Nat) (h : W.cell? ⟨g, 0, none⟩ = some (.int .u8 (48 + n % 10))) => k14 W g cap (48 + n % 10) h (by omega) (by omega)
     have HW := hdd (fun W => HI.out (n / 10) W (by omega) (by omega) (by omega))
     have HD := hdd hds
     have r0 : 0 ≤ n % 10 := by omega
     have r1 : n % 10 < 10 := by omega
     have e1 : n.tdiv 10 = n / 10 := Int.tdiv_eq_ediv_of_nonneg h0
     have e2 : IntKind.i64.wrap (n / 10) = n / 10 := by rw [IntKind.wrap_i64]; omega
     have e3 : n.tmod 10 = n % 10 := Int.tmod_eq_emod_of_nonneg h0
     have e4 : IntKind.i64.wrap (n % 10) = n % 10 := by rw [IntKind.wrap_i64]; omega
     have e5 : IntKind.i64.wrap (48 + n % 10) = 48 + n % 10 := by rw [IntKind.wrap_i64]; omega
     have e6 : IntKind.u8.wrap (48 + n % 10) = 48 + n % 10 := by rw [IntKind.wrap_u8]; omega
     have hone : (B [UInt8.ofNat (48 + n % 10).toNat]).size = 1 := rfl
     clear hds
     go_enter Tryz.func170, Tryz.ntmps170
     go_wp2_with fail
     go_region_with (first
      | (go_at_call 170; refine (HW.out _).mono ?_; rintro e w' ⟨rfl, hb⟩; obtain ⟨hc, hf⟩ := k2t hb; have hsz := hb.size; have Hb := hdd hb; have hd := HD.out; clear hb))
     all_goals go_wp2
     all_goals go_ret
     all_goals refine ⟨by rw [HR.out, ← ka9]; rfl, ?_⟩
     all_goals first
      | exact (((Below.refl _ w).drew).trans Hb.out).alloc (by have := Hb.out.size; simp at this; omega) _
      | exact (((Below.refl _ w).drew).alloc (by simp) _).trans (Hb.out.mono (by simp))
theorem kgh (s : Bs) (w : World) (hs : s.length ≤ maxLen) :
 Calls Tryz.prog 156 #[.string (B s)] w fun e w' => e = .returned (.tuple #[.string (B (kar s).1), .int .i64 (kar s).2]) ∧ Below w.heap.size w w' := by
 have hss : (B s).size = s.length := rfl
 unfold maxLen at hs
 by_cases hn : 65536 < s.length
 · have R : kar s = ([], 10) := by simp [kar, hn]
   have HR := hdd R
   clear R
   go_enter Tryz.func156, Tryz.ntmps156
   go_wp2_with fail
   all_goals go_ret2
   all_goals exact ⟨by rw [HR.out]; rfl, Below.refl _ _⟩
 · have R : kar s = (Lib.decDigits s.length ++ [58] ++ s ++ [44], 0) := by simp [kar, hn]
   have HR := hdd R
   clear R
   have hsz := kf3 (n := (s.length : Int)) (by omega) (by omega)
   rw [Int.toNat_natCast] at hsz
   have HD := fun w => khf (s.length + 1) (s.length : Int) w (by omega) (by omega) (by omega)
   rw [Int.toNat_natCast] at HD
   have HD := hdd HD
   go_enter Tryz.func156, Tryz.ntmps156
   go_wp2_with (go_at_call 170; refine (HD.out _).mono ?_; rintro e w' ⟨rfl, hb⟩)
   go_ret2
   exact ⟨by rw [HR.out, ← ka9, ← ka9, ← ka9]; rfl, hb⟩
theorem kwa {α : Type} (one : α → Bs × Int) (xs : List α) (acc : Bs) (k : Nat) (hk : k < xs.length) :
 klk one (xs.drop k) acc = if (one xs[k]).2 ≠ 0 then ([], (one xs[k]).2) else klk one (xs.drop (k + 1)) (acc ++ (one xs[k]).1) := by
 rw [List.drop_eq_getElem_cons hk]; rfl
theorem ksq (s : Bs) : (kar s).1.length ≤ 65600 := by
 unfold kar
 split
 · simp
 · have := kf3 (n := (s.length : Int)) (by omega) (by omega)
   rw [kbt, Int.toNat_natCast] at this
   simp; omega
theorem kc2 (v : Value) (xs : List Bs) (w : World) (h : IsSl v (xs.map vS) w) (hl : ∀ x ∈ xs, x.length ≤ maxLen) :
 Calls Tryz.prog 110 #[v] w fun e w' => e = .returned (.tuple #[.string (B (ka7 kar xs).1), .int .i64 (ka7 kar xs).2]) ∧ Below w.heap.size w w' := by
 obtain ⟨hm, h⟩ := h
 rw [List.length_map] at hm
 unfold maxLen at hm
 have hd0 := kf3 (n := (xs.length : Int)) (by omega) (by omega)
 rw [Int.toNat_natCast] at hd0
 have HD := fun w => khf (xs.length + 1) (xs.length : Int) w (by omega) (by omega) (by omega)
 rw [Int.toNat_natCast] at HD
 have HD := hdd HD
 rcases h with ⟨a, cap, rfl, h⟩ | ⟨b, off, cap, rfl, h0, hc⟩
 · obtain rfl : xs = [] := by simpa using h
   have R : ka7 kar ([] : List Bs) = (Lib.decDigits 0 ++ [59], 0) := rfl
   have HR := hdd R
   have hd0' : (B (Lib.decDigits 0)).size ≤ 21 := hd0
   have HD' := hdd (fun w => (show Calls Tryz.prog 170 #[.int .i64 0] w fun e w' => e = .returned (.string (B (Lib.decDigits 0))) ∧ Below w.heap.size w w' from HD.out w))
   clear R h hd0
   go_enter Tryz.func110, Tryz.ntmps110
   go_wp2_with (first
    | (go_at_call 170; refine (HD'.out _).mono ?_; rintro e w1 ⟨rfl, hb⟩))
   refine wp_loop_rounds 1 ?_
   rw [rounds_succ]
   go_wp2
   go_ret2
   exact ⟨by rw [HR.out, ← ka9]; rfl, hb⟩
 · rw [List.length_map] at h0 hc
   by_cases hbig : 1024 < xs.length
   · have R : ka7 kar xs = ([], 10) := by simp [ka7, hbig]
     have HR := hdd R
     clear R hc
     go_enter Tryz.func110, Tryz.ntmps110
     rw [List.length_map]
     go_wp2
     go_ret2
     exact ⟨by rw [HR.out]; rfl, Below.refl _ _⟩
   · have HR := hdd (show ka7 kar xs = klk kar xs (Lib.decDigits xs.length ++ [59]) by simp [ka7, hbig])
     have hbw : b < w.heap.size := by
      have := hc 0 (by omega)
      exact World.block_lt_of_cell? w _ (this.trans (List.getElem?_eq_getElem (by simpa using h0)))
     have HC := hdd hc
     clear hc
     go_enter Tryz.func110, Tryz.ntmps110
     rw [List.length_map]
     go_wp2_with (first
      | (go_at_call 170; refine (HD.out _).mono ?_; rintro e w1 ⟨rfl, hb⟩))
     have Hb := hdd hb
     clear hb
     go_loopw [4, 18] (fun o i wr => ∃ (k : Nat) (acc : Bs), k ≤ xs.length ∧ i = .int .i64 k ∧ o = .string (B acc) ∧ acc.length ≤ 22 + k * 65600 ∧ Below w.heap.size w wr ∧ Hid (klk kar (xs.drop k) acc = ka7 kar xs)) (fun _ i _ => xs.length - (intOf i).toNat)
     case atStart => exact ⟨0, Lib.decDigits xs.length ++ [59], Nat.zero_le _, rfl, by rw [← ka9]; rfl, by rw [kbt] at hd0; simp; omega, Hb.out, HR.out.symm⟩
     case round =>
      obtain ⟨k, acc, hk, rfl, rfl, hal, hbr, H⟩ := hrel
      have Hbr := hdd hbr
      have hszr := hbr.size
      by_cases hlt : k < xs.length
      · have hcell : wr.cell? ⟨b, off + k, none⟩ = some (vS xs[k]) := by
         rw [hbr.cell (p := ⟨b, off + k, none⟩) hbw, HC.out k hlt]; simp [hlt]
        have hx := hl xs[k] (List.getElem_mem hlt)
        have HA := hdd (kwa kar xs acc k hlt)
        clear hbr
        unfold vS at hcell
        by_cases hone : (kar xs[k]).2 = 0
        · have hone' : ((kar xs[k]).2 == 0) = true := by simp [hone]
          have hone'' : ((kar xs[k]).2 != 0) = false := by simp [hone]
          have HO := hdd hone
          have hln := ksq xs[k]
          have hs1 : (B acc).size = acc.length := rfl
          have hs2 : (B (kar xs[k]).1).size = (kar xs[k]).1.length := rfl
          clear hone
          go_wp2_with (first
           | (go_at_call 156; refine (kgh xs[k] _ hx).mono ?_; rintro e w3 ⟨rfl, hb3⟩; have Hb3 := hdd hb3; have hs3 := hb3.size; clear hb3))
          go_roundw
          case rel =>
           refine ⟨k + 1, acc ++ (kar xs[k]).1, by omega, by go_num, by rw [← ka9], by rw [List.length_append]; omega, ?_, ?_⟩
           · exact Hbr.out.trans (Hb3.out.mono (by omega))
           · have := HA.out
             rw [if_neg (by simp [HO.out])] at this
             exact this.symm.trans H.out
          case measure => simp [intOf]; omega
        · have hone' : ((kar xs[k]).2 == 0) = false := by simpa using hone
          have hone'' : ((kar xs[k]).2 != 0) = true := by simpa using hone
          have hfin := H.out
          have HF : Hid (ka7 kar xs = ([], (kar xs[k]).2)) := by show _ = _; rw [← hfin, HA.out, if_pos hone]
          clear hone hfin
          go_wp2_with (first
           | (go_at_call 156; refine (kgh xs[k] _ hx).mono ?_; rintro e w3 ⟨rfl, hb3⟩; have Hb3 := hdd hb3; have hs3 := hb3.size; clear hb3))
          go_ret2
          exact ⟨by rw [HF.out]; rfl, Hbr.out.trans (Hb3.out.mono (by omega))⟩
      · obtain rfl : k = xs.length := by omega
        have HF : Hid (ka7 kar xs = (acc, 0)) := by
         show _ = _
         have hfin := H.out
         rw [← hfin, List.drop_length]; rfl
        clear hbr
        go_wp2
        go_ret2
        exact ⟨by rw [HF.out]; rfl, Hbr.out⟩
theorem kd7 {w : World} {b : Nat} {cs : Array Value} {T : TypeId} {fr : Nat × Nat} {xs : List Value} {cap : Nat} (h : w.heap[b]? = some (.cells cs T fr)) (hx : xs = cs.toList) (hm : xs.length ≤ maxLen) (h0 : 0 < xs.length) : IsSl (.slice (some ⟨b, 0, none⟩) xs.length cap) xs w := by
 refine ⟨hm, .inr ⟨b, 0, cap, rfl, h0, fun i hi => ?_⟩⟩
 rw [kab h, Nat.zero_add, hx, Array.getElem?_toList]
abbrev kcg (f : FuncId) (args : Array Value) (w : World) (v : Value) : Prop := Calls Tryz.prog f args w fun e w' => e = .returned v ∧ Below w.heap.size w w'
theorem k0d (v : Value) (xs : List Bs) (w : World) (h : IsSl v (xs.map vS) w) (hl : ∀ x ∈ xs, x.length ≤ maxLen) :
 kcg 48 #[v] w (.string (B (hsh xs))) := by
 have HT := hdd (kc2 v xs w h hl)
 have hln := knb xs
 obtain ⟨T, hT⟩ : ∃ T, (ka7 kar xs).1 = T := ⟨_, rfl⟩
 obtain ⟨R, hR⟩ : ∃ R, hsh xs = R := ⟨_, rfl⟩
 have hS : Sha.sha T = R := by rw [← hT, ← hR]; rfl
 rw [hT] at HT hln
 rw [hR]
 have HS := hdd hS
 clear hT hR hS h hl
 go_enter Tryz.func48, Tryz.ntmps48
 go_wp2_with (first
  | (go_at_call 110; refine HT.out.mono ?_; rintro e w1 ⟨rfl, hb1⟩; have Hb1 := hdd hb1; clear hb1)
  | (go_at_call 111; refine (kp3 T _ hln).mono ?_; rintro e w2 ⟨rfl, hb2⟩; have Hb2 := hdd hb2; clear hb2))
 go_ret
 exact ⟨congrArg (fun x => Ending.returned (.string (B x))) HS.out, Hb1.out.trans (Hb2.out.mono Hb1.out.size)⟩
theorem _root_.Go.RowKit.Below.next {B : Nat} {w w1 w2 : World} (h : Below B w w1) (h2 : Below w1.heap.size w1 w2) (hB : B ≤ w.heap.size := by exact Nat.le_refl _) : Below B w w2 := h.trans (h2.mono (Nat.le_trans hB h.size))
theorem khq (b h : Int) (w : World) (hk : kcp b h = true) : kcg 140 #[.agg #[.int .i64 b, .int .i64 h]] w (.int .i64 0) := by
 have hk' : 8 ≤ b ∧ b ≤ 256 ∧ 0 ≤ h ∧ h ≤ 6 := by simpa [kcp] using hk
 obtain ⟨h1, h2, h3, h4⟩ := hk'
 have d1 : decide (b < 8) = false := by simp; omega
 have d2 : decide (256 < b) = false := by simp; omega
 have d3 : decide (h < 0) = false := by simp; omega
 have d4 : decide (6 < h) = false := by simp; omega
 clear hk
 go_enter Tryz.func140, Tryz.ntmps140
 go_wp2
 go_ret
 exact ⟨rfl, (Below.refl _ _).alloc (Nat.le_refl _) _⟩
theorem kqx (b h : Int) (w : World) (hk : kcp b h = false) : kcg 140 #[.agg #[.int .i64 b, .int .i64 h]] w (.int .i64 3) := by
 have hk' : ¬ (8 ≤ b ∧ b ≤ 256 ∧ 0 ≤ h ∧ h ≤ 6) := by simpa [kcp] using hk
 have HK := hdd hk'
 clear hk hk'
 by_cases h1 : b < 8
 · have d1 : decide (b < 8) = true := by simpa using h1
   go_enter Tryz.func140, Tryz.ntmps140
   go_wp2
   go_ret
   exact ⟨rfl, (Below.refl _ _).alloc (Nat.le_refl _) _⟩
 · have d1 : decide (b < 8) = false := by simpa using h1
   by_cases h2 : 256 < b
   · have d2 : decide (256 < b) = true := by simpa using h2
     go_enter Tryz.func140, Tryz.ntmps140
     go_wp2
     go_ret
     exact ⟨rfl, (Below.refl _ _).alloc (Nat.le_refl _) _⟩
   · have d2 : decide (256 < b) = false := by simpa using h2
     by_cases h3 : h < 0
     · have d3 : decide (h < 0) = true := by simpa using h3
       go_enter Tryz.func140, Tryz.ntmps140
       go_wp2
       go_ret
       exact ⟨rfl, (Below.refl _ _).alloc (Nat.le_refl _) _⟩
     · have d3 : decide (h < 0) = false := by simpa using h3
       have h4 : 6 < h := by have := HK.out; omega
       have d4 : decide (6 < h) = true := by simpa using h4
       go_enter Tryz.func140, Tryz.ntmps140
       go_wp2
       go_ret
       exact ⟨rfl, (Below.refl _ _).alloc (Nat.le_refl _) _⟩
end Go.Proofs.YtknpbekoenbphaaGreatDoor
