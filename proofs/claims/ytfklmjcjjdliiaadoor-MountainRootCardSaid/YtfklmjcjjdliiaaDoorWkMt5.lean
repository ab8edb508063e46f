/- Of and place of package mountain do what the plain functions say. -/
import Derived.Test.YtfklmjcjjdliiaaDoorWkMt4
namespace Go.Proofs.YtfklmjcjjdliiaaDoor
open Go Go.RowKit Licit

theorem cell_away {w : World} {p q : Addr} (hn : q.block ≠ p.block) (y : Value) : (w.setCell p y).cell? q = w.cell? q := by
  rw [World.cell?_setCell_other w p q _ (fun h => hn (by rw [h]))]
/-- A list of texts lies elsewhere than a range. -/
theorem isSl_mtSet {v : Value} {xs : List Bs} {w : World} {b0 : Nat} {s : Int} {a : Option Addr} {n c : Nat} {T : TypeId} (h : IsSl v (xs.map vS) w) (hb : w.heap[b0]? = some (.cells #[.int .i64 s, .slice a n c] T)) (i : Nat) (y : Value) : IsSl v (xs.map vS) (w.setCell ⟨b0, i, none⟩ y) := by
  refine ⟨h.1, ?_⟩
  rcases h.2 with h' | ⟨b, off, cap, rfl, h0, hc⟩
  · exact .inl h'
  · have hne : b ≠ b0 := by
      rintro rfl
      have h1 := hc 0 h0
      rw [List.length_map] at h0
      rw [cell_of hb, map_vS_getD xs h0, Nat.add_zero] at h1
      match off, h1 with
      | 0, h1 => simp at h1
      | 1, h1 => simp at h1
      | n + 2, h1 => simp at h1
    exact .inr ⟨b, off, cap, rfl, h0, fun j hj => by rw [cell_away (show b ≠ b0 from hne)]; exact hc j hj⟩
theorem MtIs.nil (w : World) : MtIs (.agg #[.int .i64 0, .slice none 0 0]) 0 [] w := ⟨_, rfl, ⟨by simp, .inl ⟨none, 0, rfl, rfl⟩⟩, NilOk.nil⟩
theorem kept2 (b : Nat) (w : World) (y0 y1 : Value) : Kept (Licit.One b) w ((w.setCell ⟨b, 0, none⟩ y0).setCell ⟨b, 1, none⟩ y1) := (kept_set b 0 w y0).trans (kept_set b 1 _ y1)

def ofS (l : List Bs) : Int := if checkM l = 0 then (l.length : Int) else 0
def ofP (l : List Bs) : List Bs := if checkM l = 0 then peaksOf l else []
theorem checkM_iff {l : List Bs} : checkM l = 0 ↔ l.length ≤ 1024 ∧ all32 l = true := by
  unfold checkM
  split
  · simp; omega
  · split <;> simp [*] <;> omega
theorem all32_get {l : List Bs} (h : all32 l = true) : ∀ x ∈ l, x.length = 32 := by
  unfold all32 at h
  rw [List.all_eq_true] at h
  intro x hx
  simpa using h x hx
theorem peaks_nil : peaksOf [] = [] := by decide +kernel
theorem raise_one {l : List Bs} {k : Nat} (hk : k < l.length) (hl : l.length ≤ 1024) : raiseQ (k / 2 ^ 0) (peaksOf (l.take k)) (l.getD k []) = peaksOf (l.take (k + 1)) := by
  have h := raise_of k 0 (l.take k) [l.getD k []] (by simp; omega) rfl (by simp; omega)
  have h2 : l.take k ++ [l.getD k []] = l.take (k + 1) := by
    rw [List.take_add_one, List.getD_eq_getElem?_getD, List.getElem?_eq_getElem hk]
    rfl
  rw [h2] at h
  rw [Nat.pow_zero, Nat.div_one]
  exact h
theorem peaks_take_len {l : List Bs} {k : Nat} (hk : k ≤ l.length) : (peaksOf (l.take k)).length = (hts k).length := by rw [peaksOf_len, List.length_take, Nat.min_eq_left hk]
theorem getD_max {l : List Bs} (hl : ∀ x ∈ l, x.length ≤ maxLen) (k : Nat) : (l.getD k []).length ≤ maxLen := by
  rw [List.getD_eq_getElem?_getD]
  rcases Nat.lt_or_ge k l.length with c | c
  · rw [List.getElem?_eq_getElem c]; exact hl _ (List.getElem_mem _)
  · rw [List.getElem?_eq_none c]; simp [maxLen]

set_option maxHeartbeats 4000000 in
set_option maxRecDepth 100000 in
theorem MtOf_any (v : Value) (l : List Bs) (w : World) (h : IsSl v (l.map vS) w) (ht : Tab w) :
    Calls Tryd.prog 19 #[v] w fun e w' => ∃ v', e = .returned (.tuple #[v', .int .i64 (checkM l)]) ∧ MtIs v' (ofS l) (ofP l) w' ∧ Below w.heap.size w w' := by
  have hB1 : Below w.heap.size w (w.alloc (.cells #[.int .i64 0, .slice none 0 0] 31)) := (Below.refl _ _).alloc (Nat.le_refl _) _
  have HC := Lib.hid (fun W (hb : Below w.heap.size w W) => check_any v l W (h.below hb))
  have HB1 := Lib.hid hB1
  have HX1 := Lib.hid (new_of w (.cells #[.int .i64 0, .slice none 0 0] 31))
  have H := Lib.hid h
  obtain ⟨a0, cap0, rfl⟩ := h.formMap
  have hmx := h.1
  rw [List.length_map] at hmx
  unfold maxLen at hmx
  clear h hB1
  obtain ⟨C, hC⟩ : ∃ C, checkM l = C := ⟨_, rfl⟩
  rw [hC] at HC ⊢
  by_cases hc : C = 0
  rotate_left
  · have hs : ofS l = 0 := by unfold ofS; rw [hC, if_neg hc]
    have hp : ofP l = [] := by unfold ofP; rw [hC, if_neg hc]
    rw [hs, hp]
    have hcl : (C == 0) = false := by simpa using hc
    clear hC hs hp
    go_enter Tryd.func19, Tryd.ntmps19
    go_wp2_with fail
    refine (HC.out _ HB1.out).mono ?_
    rintro e w1 ⟨rfl, rfl⟩
    have hX := HX1.out
    obtain ⟨x0, x1⟩ := mtC hX
    have f0 := free_of hX 0
    have f1 := free_of hX 1
    clear hX
    go_wp2
    refine ret_whole2 (p := 2) (t' := 3) (ty := 31) rfl w.heap.size 31 _ (0, 0) _ rfl HX1.out Tryd.underlying31 rfl (by kernel_rfl) rfl ?_
    exact ⟨_, rfl, MtIs.nil _, HB1.out⟩
  subst hc
  obtain ⟨hl, h32⟩ := checkM_iff.1 hC
  have HL32 := Lib.hid (all32_get h32)
  have hs : ofS l = (l.length : Int) := by unfold ofS; rw [hC, if_pos rfl]
  have hp : ofP l = peaksOf l := by unfold ofP; rw [hC, if_pos rfl]
  rw [hs, hp]
  clear hC hs hp h32
  go_enter Tryd.func19, Tryd.ntmps19
  go_wp2_with fail
  refine (HC.out _ HB1.out).mono ?_
  rintro e w1 ⟨rfl, rfl⟩
  go_wp2
  go_loopw [16] (fun n wr => ∃ (k : Nat) (a : Option Addr) (c : Nat), k ≤ l.length ∧ n = .int .i64 (k : Int) ∧ wr.heap[w.heap.size + 1]? = some (.cells #[.int .i64 (k : Int), .slice a (peaksOf (l.take k)).length c] 31) ∧ IsSl (.slice a (peaksOf (l.take k)).length c) ((peaksOf (l.take k)).map vS) wr ∧ NilOk (.slice a (peaksOf (l.take k)).length c) ∧
     wr.heap[w.heap.size]? = some (.cells #[.int .i64 0, .slice none 0 0] 31) ∧ Below w.heap.size w wr) (fun n _ => l.length - (intOf n).toNat)
  case atStart => exact ⟨0, none, 0, by omega, rfl, by rw [List.take_zero, peaks_nil]; exact new_at (by simp) rfl, by rw [List.take_zero, peaks_nil]; exact ⟨by simp, .inl ⟨none, 0, rfl, rfl⟩⟩, by rw [List.take_zero, peaks_nil]; exact NilOk.nil, old_of HX1.out, HB1.out.alloc HB1.out.size _⟩
  case round =>
    obtain ⟨k, a, c, hk, rfl, hz, hp, hn, hx, hb⟩ := hrel
    have HZ := Lib.hid hz
    have HP := Lib.hid hp
    have HN := Lib.hid hn
    have HX := Lib.hid hx
    have HB := Lib.hid hb
    obtain ⟨z0, z1⟩ := mtC hz
    have zf0 := free_of hz 0
    have zf1 := free_of hz 1
    have hzz : w.heap.size + 1 < wr.heap.size := lt_of hz
    clear hz hp hn hx hb HX1 HC
    by_cases hlt : k < l.length
    · have h2 := H.out.below HB.out
      obtain ⟨b, off, cap', hv, hbb, hcc⟩ := h2.text rfl hlt
      simp only [Value.slice.injEq, true_and] at hv
      obtain ⟨rfl, rfl⟩ := hv
      obtain ⟨x, hx⟩ : ∃ x, l.getD k [] = x := ⟨_, rfl⟩
      have hxl : x.length ≤ maxLen := by rw [← hx]; exact getD_max (fun y hy => max32 (HL32.out y hy)) k
      have HR := Lib.hid (show Calls Tryd.prog 49 #[.agg #[.int .i64 (k : Int), .slice a (peaksOf (l.take k)).length c], .int .i64 0, .string (B x)] wr (fun e w' => ∃ v', e = .returned v' ∧ MtIs v' ((k + 1 : Nat) : Int) (peaksOf (l.take (k + 1))) w' ∧ Below wr.heap.size wr w') from
        (raise_any _ k 0 (peaksOf (l.take k)) x wr ⟨_, rfl, HP.out, HN.out⟩ (by omega) (by simp) (peaks_take_len hk) (fun y hy => max32 (peaksOf_all (by simp; omega) (fun z hz => HL32.out z (List.mem_of_mem_take hz)) y hy)) hxl (ht.same HB.out)).mono
          (fun e w' ⟨v', e1, h1, h2⟩ => ⟨v', e1, by rw [← hx, raise_one hlt hl] at h1; exact h1, h2⟩))
      rw [hx] at hcc
      have Hx := Lib.hid hx
      clear hx h2
      go_wp2_with fail
      refine HR.out.mono ?_
      rintro e w3 ⟨v3, rfl, ⟨p3, rfl, hp3, hn3⟩, hb3⟩
      obtain ⟨a3, c3, rfl⟩ := hp3.formMap
      have hz3 := (hb3.block _ (lt_of HZ.out)).trans HZ.out
      have HZ3 := Lib.hid hz3
      have HX3 := Lib.hid ((hb3.block _ (lt_of HX.out)).trans HX.out)
      have HB3 := Lib.hid (HB.out.next hb3)
      have HP3 := Lib.hid hp3
      have HN3 := Lib.hid hn3
      clear z0 z1 zf0 zf1 hp3 hn3 hb3
      obtain ⟨z0, z1⟩ := mtC hz3
      have zf0 := free_of hz3 0
      have zf1 := free_of hz3 1
      clear hz3
      go_wp2
      go_roundw
      case rel =>
        have hne : ∀ q : Nat, w.heap.size ≠ q + 1 + w.heap.size := fun q => by omega
        exact ⟨k + 1, a3, c3, by omega, by go_num, set_of (set_of HZ3.out 0 _) 1 _, isSl_mtSet (isSl_mtSet HP3.out HZ3.out 0 _) (set_of HZ3.out 0 _) 1 _, HN3.out, set_other (set_other HX3.out (by show w.heap.size ≠ w.heap.size + 1; omega)) (by show w.heap.size ≠ w.heap.size + 1; omega), (HB3.out.setCell (p := ⟨w.heap.size + 1, 0, none⟩) (by show w.heap.size ≤ w.heap.size + 1; omega) _).setCell (p := ⟨w.heap.size + 1, 1, none⟩) (by show w.heap.size ≤ w.heap.size + 1; omega) _⟩
      case measure => simp [intOf]; omega
    · obtain rfl : k = l.length := by omega
      have hX := HX.out
      obtain ⟨x0, x1⟩ := mtC hX
      have f0 := free_of hX 0
      have f1 := free_of hX 1
      have hww : w.heap.size < wr.heap.size := by omega
      clear hX
      rw [List.take_length] at z1 HZ HP HN
      go_wp2
      have hK := kept2 w.heap.size wr (.int .i64 (l.length : Int)) (.slice a (peaksOf l).length c)
      refine ret_whole2 (p := 2) (t' := 3) (ty := 31) rfl w.heap.size 31 _ (0, 0) _ rfl (set_of (set_of HX.out 0 _) 1 _) Tryd.underlying31 rfl (by kernel_rfl) rfl ?_
      exact ⟨_, rfl, ⟨_, rfl, isSl_mtSet (isSl_mtSet HP.out HX.out 0 _) (set_of HX.out 0 _) 1 _, HN.out⟩, HB.out.trans (hK.below HB.out.size (fun k hk e => by have : k = w.heap.size := e; omega))⟩

theorem hts_bitLen {n : Nat} (hn : n ≤ 1048576) : Lib.bitLen n ≤ 21 ∧ htsB (Lib.bitLen n) n = hts n := by
  have h0 : ∀ x, x < 2 ^ 21 → Lib.bitLen x ≤ 21 ∧ x < 2 ^ Lib.bitLen x := by
    intro x hx
    have : ∀ f x, x < 2 ^ f → f ≤ 64 → Lib.bitLen x ≤ f ∧ x < 2 ^ Lib.bitLen x := by
      intro f
      induction f with
      | zero =>
        intro x hx _
        obtain rfl : x = 0 := by simpa using hx
        decide
      | succ f ih =>
        intro x hx hf
        by_cases h0 : x = 0
        · subst h0
          have h1 : Lib.bitLen 0 = 0 := by decide
          rw [h1]
          exact ⟨Nat.zero_le _, by decide⟩
        · rw [Lib.bitLen_half x h0 (Nat.lt_of_lt_of_le hx (Nat.pow_le_pow_right (by decide) hf))]
          obtain ⟨a, b⟩ := ih (x / 2) (by rw [Nat.pow_succ] at hx; omega) (by omega)
          refine ⟨by omega, ?_⟩
          rw [Nat.add_comm, Nat.pow_succ]
          omega
    exact this 21 x hx (by decide)
  obtain ⟨a, b⟩ := h0 n (by omega)
  refine ⟨a, ?_⟩
  have := hts_high b (21 - Lib.bitLen n)
  rw [show Lib.bitLen n + (21 - Lib.bitLen n) = 21 by omega] at this
  exact this.symm

set_option maxHeartbeats 4000000 in
set_option maxRecDepth 100000 in
theorem place_any (n i : Nat) (w : World) (hn : n ≤ 1048576) (hi : i ≤ 1048576) :
    Calls Tryd.prog 44 #[.int .i64 (n : Int), .int .i64 (i : Int)] w fun e w' => e = .returned (.tuple #[.int .i64 ((place n i).1 : Int), .int .i64 ((place n i).2.1 : Int), .int .i64 ((place n i).2.2 : Int)]) ∧ w' = w := by
  have hcv : IntKind.u64.wrap (n : Int) = (n : Int) := by rw [IntKind.wrap_u64]; omega
  have HLn := Lib.hid (fun W => Tryd.bits_Len (n : Int) W (by omega) (by omega))
  rw [Int.toNat_natCast] at HLn
  obtain ⟨hb21, hbl⟩ := hts_bitLen hn
  obtain ⟨L, hL⟩ : ∃ L, Lib.bitLen n = L := ⟨_, rfl⟩
  rw [hL] at HLn hb21 hbl
  have HBL := Lib.hid hbl
  clear hL hbl
  obtain ⟨R, hR⟩ : ∃ R, place n i = R := ⟨_, rfl⟩
  rw [hR]
  have HR := Lib.hid (show placeL (htsB L n) i 0 0 = R by rw [HBL.out]; exact hR)
  clear hR HBL
  go_enter Tryd.func44, Tryd.ntmps44
  go_wp2_with fail
  refine (HLn.out _).mono ?_
  rintro e w1 ⟨rfl, rfl⟩
  go_wp2
  go_loopw [4, 6, 7] (fun num first h wr => wr = w1 ∧ ∃ (k nm fs : Nat), k ≤ 21 ∧ nm ≤ 21 - k ∧ fs ≤ 1048576 ∧ fs + sum2 (htsB k n) ≤ 1048576 ∧ h = .int .i64 ((k : Int) - 1) ∧ num = .int .i64 (nm : Int) ∧ first = .int .i64 (fs : Int) ∧ placeL (htsB k n) i nm fs = R) (fun _ _ h _ => (intOf h + 1).toNat)
  case atStart => exact ⟨rfl, L, 0, 0, hb21, by omega, by omega, by rw [sum2_hts]; have := Nat.mod_le n (2 ^ L); omega, by go_num, rfl, rfl, HR.out⟩
  case round =>
    obtain ⟨rfl, k, nm, fs, hk, hnm, hfs, hsum, rfl, rfl, rfl, hr⟩ := hrel
    have HR' := Lib.hid hr
    have HS := Lib.hid hsum
    clear hr HR hsum
    cases k with
    | zero =>
      have hneg : decide ((0 : Int) ≤ ((0 : Nat) : Int) - 1) = false := by decide
      go_wp2
      go_ret3
      have hr := HR'.out
      rw [htsB, placeL] at hr
      rw [← hr]
      exact ⟨rfl, rfl⟩
    | succ k =>
      obtain ⟨d, hd⟩ : ∃ d, n / 2 ^ k = d := ⟨_, rfl⟩
      have hdl : d ≤ n := by rw [← hd]; exact Nat.div_le_self _ _
      have hkd : (n : Int) / 2 ^ k = (d : Int) := by rw [← hd]; simp
      have hka : ((k + 1 : Nat) : Int) - 1 = (k : Int) := by omega
      have hkm : min k 64 = k := by omega
      have hk64 : k ≤ 64 := by omega
      rw [hka]
      have hand := and_one_i64 d (by omega)
      obtain ⟨r, hr⟩ : ∃ r, d % 2 = r := ⟨_, rfl⟩
      rw [hr] at hand
      have hr' := HR'.out
      have hs' := HS.out
      rw [hts_step, hd, hr] at hr' hs'
      have hp2 := Nat.two_pow_pos k
      have hp20 : 2 ^ k ≤ 2 ^ 20 := Nat.pow_le_pow_right (by decide) (by omega)
      obtain ⟨p2, hp2'⟩ : ∃ p2, 2 ^ k = p2 := ⟨_, rfl⟩
      have hpi : (1 : Int) * 2 ^ k = (p2 : Int) := by rw [← hp2']; simp
      have hpi' : (2 : Int) ^ k = (p2 : Int) := by rw [← hp2']; simp
      rw [hp2'] at hp20
      have hkd2 : (n : Int) / (p2 : Int) = (d : Int) := by rw [← hd, ← hp2']; simp
      have hw1 : IntKind.i64.wrap (p2 : Int) = (p2 : Int) := by rw [IntKind.wrap_i64]; omega
      have hw3 : IntKind.i64.wrap ((fs : Int) + (p2 : Int)) = ((fs + p2 : Nat) : Int) := by rw [IntKind.wrap_i64]; omega
      have hw4 : IntKind.i64.wrap ((nm : Int) + 1) = ((nm + 1 : Nat) : Int) := by rw [IntKind.wrap_i64]; omega
      clear HR' HS hka
      by_cases hr1 : r = 1
      · subst hr1
        rw [if_pos rfl, placeL, hp2'] at hr'
        rw [if_pos rfl, sum2, hp2'] at hs'
        have hq : ((1 : Int) == 0) = false := by decide
        by_cases hlt : i < fs + p2
        · rw [if_pos hlt] at hr'
          have HRr := Lib.hid hr'
          have dl : decide ((i : Int) < ((fs + p2 : Nat) : Int)) = true := by simp; omega
          have dl' : decide ((i : Int) < (fs : Int) + (p2 : Int)) = true := by simp; omega
          clear hr' hd hr
          go_wp2
          go_ret3
          rw [← HRr.out]
          exact ⟨rfl, rfl⟩
        · rw [if_neg hlt] at hr'
          have HRr := Lib.hid hr'
          have dl : decide ((i : Int) < ((fs + p2 : Nat) : Int)) = false := by simp; omega
          have dl' : decide ((i : Int) < (fs : Int) + (p2 : Int)) = false := by simp; omega
          clear hr' hd hr
          go_wp2
          go_roundw
          case rel => exact ⟨trivial, k, nm + 1, fs + p2, by omega, by omega, by omega, by omega, by go_num, by go_num, by go_num, HRr.out⟩
          case measure => simp [intOf]
      · have hr0 : r = 0 := by have := Nat.mod_lt d (show 0 < 2 by decide); omega
        subst hr0
        rw [if_neg (by decide)] at hr' hs'
        have HRr := Lib.hid hr'
        clear hr' hd hr hr1
        go_wp2
        go_roundw
        case rel => exact ⟨trivial, k, nm, fs, by omega, by omega, by omega, by omega, by go_num, rfl, rfl, HRr.out⟩
        case measure => simp [intOf]
end Go.Proofs.YtfklmjcjjdliiaaDoor
