/- Numbers and Texts of package codec return the bytes that the plain functions say; where the table of strconv lies as laid. -/
import Derived.Test.YtfklmjcjjdliiaaDoorWkEnc
import Derived.Test.YtfklmjcjjdliiaaDoorWkBuilder
namespace Go.Proofs.YtfklmjcjjdliiaaDoor
open Go Go.RowKit Licit

theorem eAll_nil {α : Type} (one : α → Bs × Int) (acc : Bs) : eAll one [] acc = (acc, 0) := rfl
theorem eAll_at {α : Type} (one : α → Bs × Int) (xs : List α) (acc : Bs) (k : Nat) (hk : k < xs.length) :
    eAll one (xs.drop k) acc = if (one xs[k]).2 ≠ 0 then ([], (one xs[k]).2) else eAll one (xs.drop (k + 1)) (acc ++ (one xs[k]).1) := by
  rw [List.drop_eq_getElem_cons hk]; rfl
theorem eNum_len (n : Int) (h : n ≤ 9223372036854775807) : (eNum n).1.length ≤ 65600 := by
  unfold eNum
  split
  · simp
  · have := dec_size (n := n) (by omega) h
    rw [B_size] at this
    simp; omega
theorem eText_len (s : Bs) : (eText s).1.length ≤ 65600 := by
  unfold eText
  split
  · simp
  · have := dec_size (n := (s.length : Int)) (by omega) (by omega)
    rw [B_size, Int.toNat_natCast] at this
    simp; omega

/-! ### A builder, and what a call leaves of it -/

theorem ownsRowF_below {w w' : World} {base : Nat} {e : TypeId} {size : Nat} {v : Value} {n : Nat} {xs : List Value} (h : w.ownsRowF base e size v n xs) (hb : Below w.heap.size w w') : w'.ownsRowF base e size v n xs := by
  obtain ⟨h1, h2⟩ := h
  refine ⟨h1, ?_⟩
  rcases h2 with h2 | ⟨g, cap, cur, fz, hv, hg, hh, r⟩
  · exact .inl h2
  · exact .inr ⟨g, cap, cur, fz, hv, hg, by rw [hb.block g (lt_of hh)]; exact hh, r⟩
theorem builderAt_below {T e : TypeId} {B b : Nat} {p : Value} {bs : List Value} {w w' : World} (h : Lib.BuilderAtF T e B b p bs w) (hb : Below w.heap.size w w') : Lib.BuilderAtF T e B b p bs w' := by
  obtain ⟨hB, v, hbk, hown, hne⟩ := h
  exact ⟨hB, v, by rw [hb.block b (lt_of hbk)]; exact hbk, ownsRowF_below hown hb, hne⟩
theorem builder_below {T e : TypeId} {B b : Nat} {bs : List Value} {w w' : World} (h : Lib.IsBuilderF T e B b bs w) (hb : Below w.heap.size w w') : Lib.IsBuilderF T e B b bs w' :=
  h.elim (fun h => .inl (builderAt_below h hb)) (fun h => .inr (builderAt_below h hb))
theorem builder_new (w : World) (T e : TypeId) : Lib.IsBuilderF T e w.heap.size w.heap.size [] (w.alloc (.cells #[.pointer none, .slice none 0 0] T)) :=
  .inl ⟨Nat.le_refl _, _, new_of _ _, World.ownsRowF_nil _ _ _ _, by simp [Value.ownBlock]⟩

set_option maxRecDepth 100000 in
set_option maxHeartbeats 1600000 in
theorem listS_any (v : Value) (xs : List Bs) (w : World) (h : IsSl v (xs.map vS) w) (hl : ∀ x ∈ xs, x.length ≤ maxLen) (ht : Tab w) :
    Calls Tryd.prog 92 #[v, .func (.func 93) #[] #[]] w fun e w' => e = .returned (.tuple #[.string (B (eList eText xs).1), .int .i64 (eList eText xs).2]) ∧ Below w.heap.size w w' := by
  obtain ⟨hm, h⟩ := h
  rw [List.length_map] at hm
  unfold maxLen at hm
  have hbn := builder_new w 106 5
  have htn := ht.same ((Below.refl _ _).alloc (Nat.le_refl _) (.cells #[.pointer none, .slice none 0 0] 106))
  rcases h with ⟨a, cap, rfl, h⟩ | ⟨b, off, cap, rfl, h0, hc⟩
  · obtain rfl : xs = [] := by simpa using h
    have R : eList eText ([] : List Bs) = (Lib.decDigits 0 ++ [59], 0) := rfl
    have HR := Lib.hid R
    have hd0 : (B (Lib.decDigits 0)).size ≤ 21 := dec_size (n := 0) (by omega) (by omega)
    have HI := Lib.hid (show Lib.itoa 0 = Lib.decDigits 0 by rfl)
    have Hw0 := Lib.hid (show ([] : List Value).length + (B (Lib.decDigits 0) ++ (⟨#[59]⟩ : ByteArray)).size ≤ 140737488355328 by rw [List.length_nil, ByteArray.size_append, show (⟨#[59]⟩ : ByteArray).size = 1 from rfl]; omega)
    clear R h
    go_enter Tryd.func92, Tryd.ntmps92
    go_wp2_with (first
      | (go_at_call 104; refine (itoa_any 0 (by omega) (by omega) _ htn).mono ?_; rw [HI.out]; rintro e w1 ⟨rfl, hb⟩)
      | (go_at_call 106; refine (writeString_any w.heap.size w.heap.size [] _ _ (builder_below hbn hb) Hw0.out (by have := hb.size; simp at this; omega)).mono ?_; rintro e w2 ⟨rfl, hB2, hb2, _⟩))
    refine wp_loop_rounds 1 ?_
    rw [rounds_succ]
    go_wp2_with (first
      | (go_at_call 107; refine (Tryd.Builder_String_any_k w.heap.size w.heap.size (Lib.decDigits 0 ++ [59]) _ (.inr (by rw [List.nil_append, Lib.strCells_eq, show ((⟨#[59]⟩ : ByteArray)) = B [59] from rfl, B_append, B_list] at hB2; exact hB2)) (by have := hb.size; have := hb2.size; simp at *; omega)).mono ?_; rintro e w3 ⟨rfl, _, hb3, _⟩))
    go_ret2
    exact ⟨by rw [HR.out]; rfl, ((((Below.refl _ _).alloc (Nat.le_refl _) _).trans (hb.mono (by simp))).trans hb2).trans hb3⟩
  · rw [List.length_map] at h0 hc
    by_cases hbig : 1024 < xs.length
    · have R : eList eText xs = ([], 10) := by simp [eList, hbig]
      have HR := Lib.hid R
      clear R hc
      go_enter Tryd.func92, Tryd.ntmps92
      rw [List.length_map]
      go_wp2
      go_ret2
      exact ⟨by rw [HR.out]; rfl, Below.refl _ _⟩
    · have HR := Lib.hid (show eList eText xs = eAll eText xs (Lib.decDigits xs.length ++ [59]) by simp [eList, hbig])
      have hbw : b < w.heap.size := by
        have := hc 0 (by omega)
        exact World.block_lt_of_cell? w _ (this.trans (List.getElem?_eq_getElem (by simpa using h0)))
      have HC := Lib.hid hc
      clear hc
      have hd0 := dec_size (n := (xs.length : Int)) (by omega) (by omega)
      rw [Int.toNat_natCast] at hd0
      have HI := Lib.hid (show Lib.itoa (xs.length : Int) = Lib.decDigits xs.length by unfold Lib.itoa; rw [if_neg (by omega), Int.toNat_natCast])
      have Hw0 := Lib.hid (show ([] : List Value).length + (B (Lib.decDigits xs.length) ++ (⟨#[59]⟩ : ByteArray)).size ≤ 140737488355328 by rw [List.length_nil, ByteArray.size_append, show (⟨#[59]⟩ : ByteArray).size = 1 from rfl]; omega)
      go_enter Tryd.func92, Tryd.ntmps92
      rw [List.length_map]
      go_wp2_with (first
        | (go_at_call 104; refine (itoa_any _ (by omega) (by omega) _ htn).mono ?_; rw [HI.out]; rintro e w1 ⟨rfl, hb⟩)
        | (go_at_call 106; refine (writeString_any w.heap.size w.heap.size [] _ _ (builder_below hbn hb) Hw0.out (by have := hb.size; simp at this; omega)).mono ?_; rintro e w2 ⟨rfl, hB2, hb2, _⟩))
      have hB2' : Lib.IsBuilderF 106 5 w.heap.size w.heap.size (Lib.byteCells (Lib.decDigits xs.length ++ [59])) w2 := .inr (by rw [List.nil_append, Lib.strCells_eq, show ((⟨#[59]⟩ : ByteArray)) = B [59] from rfl, B_append, B_list] at hB2; exact hB2)
      have hbb : Below w.heap.size w w2 := (((Below.refl _ _).alloc (Nat.le_refl _) _).trans (hb.mono (by simp))).trans hb2
      have hsz2 : w.heap.size < w2.heap.size := by have := hb.size; have := hb2.size; simp at *; omega
      have HB2 := Lib.hid hB2'
      have HBB := Lib.hid hbb
      have htab := ht.same hbb
      clear hB2 hB2' hbb hb hb2 hbn htn
      go_loopw [21] (fun i wr => ∃ (k : Nat) (acc : Bs), k ≤ xs.length ∧ i = .int .i64 k ∧ acc.length ≤ 22 + k * 65600 ∧ Lib.IsBuilderF 106 5 w.heap.size w.heap.size (Lib.byteCells acc) wr ∧ Below w.heap.size w wr ∧ w.heap.size < wr.heap.size ∧ Hid (eAll eText (xs.drop k) acc = eList eText xs)) (fun i _ => xs.length - (intOf i).toNat)
      case atStart => exact ⟨0, _, Nat.zero_le _, rfl, by rw [B_size] at hd0; simp; omega, HB2.out, HBB.out, hsz2, HR.out.symm⟩
      case round =>
        obtain ⟨k, acc, hk, rfl, hal, hBr, hbr, hszr, H⟩ := hrel
        have HBr := Lib.hid hBr
        have Hbr := Lib.hid hbr
        have htr := ht.same hbr
        by_cases hlt : k < xs.length
        · have hcell : wr.cell? ⟨b, off + k, none⟩ = some (vS xs[k]) := by
            rw [hbr.cell (p := ⟨b, off + k, none⟩) hbw, HC.out k hlt]; simp [hlt]
          have hx := hl xs[k] (List.getElem_mem hlt)
          have HA := Lib.hid (eAll_at eText xs acc k hlt)
          clear hBr hbr
          unfold vS at hcell
          by_cases hone : (eText xs[k]).2 = 0
          · have hone' : ((eText xs[k]).2 == 0) = true := by simp [hone]
            have hone'' : ((eText xs[k]).2 != 0) = false := by simp [hone]
            have HO := Lib.hid hone
            have hln := eText_len xs[k]
            clear hone
            go_wp2_with (first
              | (go_at_call 93; refine (encText_any xs[k] _ hx htr).mono ?_; rintro e w3 ⟨rfl, hb3⟩; have Hb3 := Lib.hid hb3; have hs3 := hb3.size; clear hb3)
              | (go_at_call 106; refine (writeString_any w.heap.size w.heap.size (Lib.byteCells acc) _ _ (builder_below HBr.out Hb3.out) (by rw [Lib.byteCells_length, B_size]; omega) (by omega)).mono ?_; rintro e w4 ⟨rfl, hB4, hb4, _⟩; have HB4 := Lib.hid hB4; have Hb4 := Lib.hid hb4; have hs4 := hb4.size; clear hB4 hb4))
            go_roundw
            case rel =>
              refine ⟨k + 1, acc ++ (eText xs[k]).1, by omega, by go_num, by rw [List.length_append]; omega, ?_, ?_, by omega, ?_⟩
              · have := HB4.out
                rw [Lib.strCells_eq, B_list, ← Lib.byteCells_append] at this
                exact .inr this
              · exact (Hbr.out.trans (Hb3.out.mono (by omega))).trans Hb4.out
              · have := HA.out
                rw [if_neg (by simp [HO.out])] at this
                exact this.symm.trans H.out
            case measure => simp [intOf]; omega
          · have hone' : ((eText xs[k]).2 == 0) = false := by simpa using hone
            have hone'' : ((eText xs[k]).2 != 0) = true := by simpa using hone
            have hfin := H.out
            have HF : Hid (eList eText xs = ([], (eText xs[k]).2)) := by show _ = _; rw [← hfin, HA.out, if_pos hone]
            clear hone hfin
            go_wp2_with (first
              | (go_at_call 93; refine (encText_any xs[k] _ hx htr).mono ?_; rintro e w3 ⟨rfl, hb3⟩; have Hb3 := Lib.hid hb3; have hs3 := hb3.size; clear hb3))
            go_ret2
            exact ⟨by rw [HF.out]; rfl, Hbr.out.trans (Hb3.out.mono (by omega))⟩
        · obtain rfl : k = xs.length := by omega
          have HF : Hid (eList eText xs = (acc, 0)) := by
            show _ = _
            have hfin := H.out
            rw [← hfin, List.drop_length]; rfl
          clear hBr hbr
          go_wp2_with (first
            | (go_at_call 107; refine (Tryd.Builder_String_any_k w.heap.size w.heap.size acc _ HBr.out (by omega)).mono ?_; rintro e w3 ⟨rfl, _, hb3, _⟩))
          go_ret2
          exact ⟨by rw [HF.out]; rfl, Hbr.out.trans hb3⟩

theorem encTexts_any (v : Value) (xs : List Bs) (w : World) (h : IsSl v (xs.map vS) w) (hl : ∀ x ∈ xs, x.length ≤ maxLen) (ht : Tab w) :
    Calls Tryd.prog 72 #[v] w fun e w' => e = .returned (.tuple #[.string (B (eList eText xs).1), .int .i64 (eList eText xs).2]) ∧ Below w.heap.size w w' := by
  go_enter Tryd.func72, Tryd.ntmps72
  go_wp2_with (go_at_call 92; refine (listS_any v xs _ h hl ht).mono ?_; rintro e w1 ⟨rfl, hb⟩)
  go_ret2
  exact ⟨rfl, hb⟩

end Go.Proofs.YtfklmjcjjdliiaaDoor
