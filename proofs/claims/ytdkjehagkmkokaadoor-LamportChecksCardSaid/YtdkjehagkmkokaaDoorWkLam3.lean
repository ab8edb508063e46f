/- level, leaves and Root of the reference of package lamport. -/
import Derived.Test.YtdkjehagkmkokaaDoorWkLam2
import Derived.Test.YtdkjehagkmkokaaDoorFrmAll
namespace Go.Proofs.YtdkjehagkmkokaaDoor
open Go Go.RowKit Licit

/-- A function that returns a new list of texts. -/
def ResL (xs : List Bs) (w : World) (e : Ending) (w' : World) : Prop := ∃ v, e = .returned v ∧ w'.ownsRow w.heap.size 9 1 v xs.length (xs.map vS) ∧ Below w.heap.size w w'

theorem RNode_built (x y : Bs) (hx : x.length ≤ maxLen) (hy : y.length ≤ maxLen) (W : World) : Calls Tryd.prog 41 #[.slice (some ⟨W.heap.size, 0, none⟩) 3 3] (W.alloc (.cells #[.string ⟨#[110, 111, 100, 101]⟩, .string (B x), .string (B y)] 9)) fun e w' => e = .returned (.string (B (nodeB x y))) ∧ Below W.heap.size W w' :=
  Gives.alloc (H_built (l := [kNode, x, y]) 3 rfl (by decide) rfl (by decide) (by intro z hz; simp at hz; rcases hz with rfl | rfl | rfl; decide; exact hx; exact hy) W)

theorem undrew {B : Nat} {w w' : World} (h : Below B w.drew w') : Below B w w' := ⟨h.os, h.tape, h.output, h.size, h.block⟩
theorem RNode_drew (x y : Bs) (hx : x.length ≤ maxLen) (hy : y.length ≤ maxLen) (W : World) : Calls Tryd.prog 41 #[.slice (some ⟨W.heap.size, 0, none⟩) 3 3] (W.alloc (.cells #[.string ⟨#[110, 111, 100, 101]⟩, .string (B x), .string (B y)] 9)).drew fun e w' => e = .returned (.string (B (nodeB x y))) ∧ Below W.heap.size W w' :=
  (RNode_built x y hx hy W.drew).mono fun _ _ ⟨h1, h2⟩ => ⟨h1, undrew h2⟩

set_option maxHeartbeats 1000000 in
set_option maxRecDepth 100000 in
theorem RLevel_any (v : Value) (xs : List Bs) (w : World) (h : IsSl v (xs.map vS) w) (hl : ∀ x ∈ xs, x.length ≤ maxLen) (hn : xs.length ≤ 100000) :
    Calls Tryd.prog 38 #[v] w (ResL (level xs) w) := by
  obtain ⟨i0, hi, hz0, hz1, hz2⟩ := info_parts Tryd.infoStr
  have Hi := Lib.hid hi
  have Hz0 := Lib.hid hz0
  have Hz1 := Lib.hid hz1
  have Hz2 := Lib.hid hz2
  clear hi hz0 hz1 hz2
  obtain ⟨a, cap, rfl⟩ := h.formMap
  have H := Lib.hid h
  have HL := Lib.hid hl
  clear h hl
  go_enter Tryd.func38, Tryd.ntmps38
  go_wp2
  go_loopw [3, 4] (fun v n wr => ∃ k : Nat, k ≤ xs.length / 2 ∧ n = .int .i64 ((2 * k : Nat) : Int) ∧ wr.ownsRow w.heap.size 9 1 v k ((aboveN xs k).map vS) ∧ Below w.heap.size w wr) (fun _ n _ => xs.length - (intOf n).toNat)
  case atStart => exact ⟨0, by omega, rfl, World.ownsRow_nil _ _ _ _, Below.refl _ _⟩
  case round =>
    obtain ⟨k, hk, rfl, hO, hB⟩ := hrel
    obtain ⟨J, hJ⟩ : ∃ J, 2 * k = J := ⟨_, rfl⟩
    rw [hJ]
    have HJ := Lib.hid hJ
    have hJl : J ≤ 100000 := by omega
    by_cases hlt : J + 1 < xs.length
    · have hsl' : IsSl (.slice a (xs.map vS).length cap) (xs.map vS) w := by rw [List.length_map]; exact H.out
      obtain ⟨b, off, rfl, hbw, hc0⟩ := hsl'.at (k := J) (by rw [List.length_map]; omega)
      obtain ⟨b', off', hbb, _, hc1⟩ := hsl'.at (k := J + 1) (by rw [List.length_map]; omega)
      simp only [Option.some.injEq, Addr.mk.injEq] at hbb
      obtain ⟨rfl, rfl, _⟩ := hbb
      obtain ⟨J1, hJ1⟩ : ∃ J1, J + 1 = J1 := ⟨_, rfl⟩
      rw [List.getElem_map] at hc0 hc1
      obtain ⟨x0, hx0⟩ : ∃ x, xs[J] = x := ⟨_, rfl⟩
      obtain ⟨x1, hx1⟩ : ∃ x, xs[J + 1] = x := ⟨_, rfl⟩
      rw [hx0] at hc0
      rw [hx1] at hc1
      rw [← Nat.add_assoc, Nat.add_assoc, hJ1] at hc1
      unfold vS at hc0 hc1
      have hcw0 := Lib.hid hc0
      have hcw1 := Lib.hid hc1
      rw [← hB.cell (p := ⟨b, off + J, none⟩) hbw] at hc0
      rw [← hB.cell (p := ⟨b, off + J1, none⟩) hbw] at hc1
      have hbl : b < wr.heap.size := Nat.lt_of_lt_of_le hbw hB.size
      have hl0 := HL.out x0 (by rw [← hx0]; exact List.getElem_mem _)
      have hl1 := HL.out x1 (by rw [← hx1]; exact List.getElem_mem _)
      have hstep : aboveN xs (k + 1) = aboveN xs k ++ [nodeB x0 x1] := by
        rw [aboveN_succ, hJ, ← hx0, ← hx1]
        simp [List.getD_eq_getElem?_getD, show J < xs.length by omega, hlt]
      have hw1 : IntKind.i64.wrap ((J : Int) + 1) = (J1 : Int) := by rw [IntKind.wrap_i64]; omega
      have hw2 : IntKind.i64.wrap (J1 : Int) = (J1 : Int) := by rw [IntKind.wrap_i64]; omega
      have hs1 : (J : Int) + 1 = (J1 : Int) := by omega
      have hi0 : (J : Int) < (xs.length : Int) := by omega
      have hi1 : (J1 : Int) < (xs.length : Int) := by omega
      have HST := Lib.hid hstep
      have HO := Lib.hid hO
      have HB := Lib.hid hB
      have hbz := hB.size
      clear hsl' hx0 hx1 hJ hJ1 hstep hO hB
      go_wp2
      go_region_held3 (fun W => W.cell? ⟨b, off + J, none⟩ = some (.string (B x0)) ∧ W.cell? ⟨b, off + J1, none⟩ = some (.string (B x1)))
        (first | go_keep)
        (first
          | (go_at_call 41; refine (RNode_drew x0 x1 hl0 hl1 wr).mono ?_; rintro e w2 ⟨rfl, hbd⟩; have hk0 := (hbd.cell (p := ⟨b, off + J, none⟩) hbl).trans hc0; have hk1 := (hbd.cell (p := ⟨b, off + J1, none⟩) hbl).trans hc1; have hz2 := hbd.size; have hbl2 : b < w2.heap.size := (by omega); have HO2 := Lib.hid (ownsRow_block HO.out (fun q _ hq => hbd.block q hq)); have HB2 := Lib.hid (HB.out.next hbd); clear hbd)
          | (refine step_append_own rfl _ _ 32 rfl w.heap.size 9 i0 (.string ⟨#[]⟩) 1 16 Tryd.underlying32 Hi.out Hz0.out Hz1.out Hz2.out rfl (by decide) _ k ((aboveN xs k).map vS) rfl (HO2.out.alloc _) ⟨w2.heap.size, 0, none⟩ 1 1 [vS (nodeB x0 x1)] rfl rfl (news_one (new_of _ _)) (by simp [vS, Value.oneCell']) (by unfold maxLen; omega) (by omega) (by simp; omega) ?_; intro v3 w3 ho3 hg3 _; rw [← map_snoc, ← HST.out] at ho3; have hb3 : Below w.heap.size w w3 := ((HB2.out.alloc HB2.out.size _).grown hg3 (by simp; omega) (fun q hq => by have := HO2.out.lt q hq; exact this.1)); have hm0 := (hb3.cell (p := ⟨b, off + J, none⟩) hbw).trans hcw0.out; have hm1 := (hb3.cell (p := ⟨b, off + J1, none⟩) hbw).trans hcw1.out; have HO3 := Lib.hid ho3; have HB3 := Lib.hid hb3; clear ho3 hb3 hg3))
      all_goals
        go_wp2
        go_roundw
        case rel => exact ⟨k + 1, by have := HJ.out; omega, by have := HJ.out; simp; omega, HO3.out, HB3.out⟩
        case measure => simp [intOf]; omega
    · obtain ⟨a, cap2, rfl⟩ := own_form hO
      have hk2 : k = xs.length / 2 := by omega
      have HK := Lib.hid hk2
      have HO := Lib.hid hO
      have HB := Lib.hid hB
      clear hO hB hk2 hJ
      go_wp2
      go_ret
      refine ⟨_, rfl, ?_, HB.out⟩
      rw [level_len]
      unfold level
      rw [← HK.out]
      exact HO.out

set_option maxHeartbeats 1000000 in
set_option maxRecDepth 100000 in
theorem RLeaves_any (seed : Bs) (b h : Nat) (w : World) (hs : seed.length ≤ maxLen) (hb : b ≤ 256) (hh : h ≤ 6) :
    Calls Tryd.prog 37 #[.string (B seed), .agg #[.int .i64 (b : Int), .int .i64 (h : Int)]] w (ResL (treeL seed b h) w) := by
  obtain ⟨i0, hi, hz0, hz1, hz2⟩ := info_parts Tryd.infoStr
  have Hi := Lib.hid hi
  have Hz0 := Lib.hid hz0
  have Hz1 := Lib.hid hz1
  have Hz2 := Lib.hid hz2
  clear hi hz0 hz1 hz2
  have hp : 2 ^ h ≤ 64 := Nat.le_trans (Nat.pow_le_pow_right (by decide) hh) (by decide)
  obtain ⟨n, hn⟩ : ∃ n, 2 ^ h = n := ⟨_, rfl⟩
  rw [hn] at hp
  have HCnt := Lib.hid (fun W => RCount_any (b : Int) h W hh)
  rw [hn] at HCnt
  have HN := Lib.hid hn
  clear hn
  go_enter Tryd.func37, Tryd.ntmps37
  go_wp2
  go_loopw [5, 6] (fun v i wr => ∃ k : Nat, k ≤ n ∧ i = .int .i64 k ∧ wr.ownsRow (w.heap.size + 1) 9 1 v k ((leavesN seed b k).map vS) ∧ wr.heap[w.heap.size]? = some (.cells #[.int .i64 (b : Int), .int .i64 (h : Int)] 23) ∧ Below w.heap.size w wr) (fun _ i _ => n - (intOf i).toNat)
  case atStart => exact ⟨0, by omega, rfl, World.ownsRow_nil _ _ _ _, new_of _ _, (Below.refl _ _).alloc (Nat.le_refl _) _⟩
  case round =>
    obtain ⟨k, hk, rfl, hO, hK, hB⟩ := hrel
    have hc0 : wr.cell? ⟨w.heap.size, 0, none⟩ = some (.int .i64 (b : Int)) := by rw [cell_of hK]; rfl
    have hc1 : wr.cell? ⟨w.heap.size, 1, none⟩ = some (.int .i64 (h : Int)) := by rw [cell_of hK]; rfl
    have hzw := lt_of hK
    have HO := Lib.hid hO
    have HB := Lib.hid hB
    have HK := Lib.hid hK
    clear hO hB hK
    by_cases hlt : k < n
    · go_wp2_with fail
      refine (HCnt.out _).mono ?_
      rintro e w1 ⟨rfl, hb1⟩
      have hd0 := (hb1.cell (p := ⟨w.heap.size, 0, none⟩) hzw).trans hc0
      have hz1 := hb1.size
      have Hb1 := Lib.hid hb1
      clear hb1
      go_wp2_with fail
      refine (RLeaf_any seed b (k : Int) _ hs hb).mono ?_
      rintro e w2 ⟨rfl, hb2⟩
      have hb3 := Hb1.out.next hb2
      have HO2 := Lib.hid (ownsRow_block HO.out (fun q _ hq => hb3.block q hq))
      have HB2 := Lib.hid (HB.out.next hb3)
      have HK2 := Lib.hid (below_heap hb3 (lt_of HK.out) HK.out)
      have hz2 := hb2.size
      clear hb2 hb3 hd0
      go_wp2_with (first
        | (at_builtin
           refine wpList_append_own _ rfl _ _ 32 rfl (w.heap.size + 1) 9 i0 (.string ⟨#[]⟩) 1 16 Tryd.underlying32 Hi.out Hz0.out Hz1.out Hz2.out rfl (by decide) _ k ((leavesN seed b k).map vS) rfl (HO2.out.alloc _) ⟨w2.heap.size, 0, none⟩ 1 1 [vS (leafAt seed b k)] rfl rfl (news_one (new_of _ _)) (by simp [vS, Value.oneCell']) (by unfold maxLen; omega) (by omega) (by simp; omega) ?_
           intro v3 w3 ho3 hg3 _
           rw [← map_snoc, ← leavesN_succ] at ho3
           have hb3 : Below w.heap.size w w3 := (HB2.out.alloc HB2.out.size _).grown hg3 (by have := HB2.out.size; simp; omega) (fun q hq => Nat.le_of_succ_le (HO2.out.lt q hq).1)
           have hk3 : w3.heap[w.heap.size]? = some (.cells #[.int .i64 (b : Int), .int .i64 (h : Int)] 23) := (hg3.block _ (by simp; omega) (fun e => by have := (HO2.out.lt _ e.symm).1; omega)).trans (old_of HK2.out)
           have HO3 := Lib.hid ho3
           have HB3 := Lib.hid hb3
           have HK3 := Lib.hid hk3
           clear ho3 hg3 hb3 hk3))
      go_roundw
      case rel => exact ⟨k + 1, by omega, by go_num, HO3.out, HK3.out, HB3.out⟩
      case measure => simp [intOf]; omega
    · obtain rfl : k = n := by omega
      obtain ⟨a, cap, hv⟩ := own_form HO.out
      subst hv
      go_wp2_with fail
      refine (HCnt.out _).mono ?_
      rintro e w1 ⟨rfl, hb1⟩
      have Hb1 := Lib.hid hb1
      clear hb1
      go_wp2
      go_ret
      refine ⟨_, rfl, ?_, HB.out.next Hb1.out⟩
      unfold treeL
      rw [HN.out, leavesN_len]
      exact ownsRow_base (ownsRow_block HO.out (fun q _ hq => Hb1.out.block q hq)) (Nat.le_succ _)

theorem levN_mem {seed : Bs} {b h : Nat} : ∀ j, ∀ x ∈ levN (treeL seed b h) j, x.length = 32
  | 0, x, hx => by
    obtain ⟨m, _, rfl⟩ := List.mem_map.1 hx
    exact hsh_len _
  | j + 1, x, hx => by
    obtain ⟨m, _, rfl⟩ := List.mem_map.1 hx
    exact hsh_len _

set_option maxHeartbeats 1000000 in
set_option maxRecDepth 100000 in
theorem RRoot_any (seed : Bs) (b h : Nat) (w : World) (hs : seed.length ≤ maxLen) (hk : keyOk (b : Int) (h : Int) = true) :
    Gives 14 #[.string (B seed), .agg #[.int .i64 (b : Int), .int .i64 (h : Int)]] w (.tuple #[.string (B (rootB seed b h)), .int .i64 0]) := by
  have hk' : 8 ≤ (b : Int) ∧ (b : Int) ≤ 256 ∧ 0 ≤ (h : Int) ∧ (h : Int) ≤ 6 := by simpa [keyOk] using hk
  have hb : b ≤ 256 := by omega
  have hh : h ≤ 6 := by omega
  clear hk'
  have HV := Lib.hid (fun W => RValid_yes (b : Int) (h : Int) W hk)
  clear hk
  go_enter Tryd.func14, Tryd.ntmps14
  go_wp2_with (first
    | (go_at_call 16; refine (HV.out _).mono ?_; rintro e w1 ⟨rfl, hb1⟩; have hc0 := (hb1.cell (p := ⟨w.heap.size, 0, none⟩) (by simp)).trans (cell_of (new_of w (.cells #[.int .i64 (b : Int), .int .i64 (h : Int)] 23)) 0); have hc1 := (hb1.cell (p := ⟨w.heap.size, 1, none⟩) (by simp)).trans (cell_of (new_of w (.cells #[.int .i64 (b : Int), .int .i64 (h : Int)] 23)) 1); have Hb1 := Lib.hid (((Below.refl w.heap.size w).alloc (Nat.le_refl _) _).next hb1); clear hb1)
    | (go_at_call 37; refine (RLeaves_any seed b h _ hs hb hh).mono ?_; rintro e w2 ⟨v2, rfl, ho2, hb2⟩; have HO2 := Lib.hid ho2; have HB2 := Lib.hid (Hb1.out.next hb2); clear ho2 hb2))
  have hl2 : IsSl v2 ((treeL seed b h).map vS) w2 := IsSl.of_owns (by rw [List.length_map]; exact HO2.out) (by rw [List.length_map]; unfold treeL; rw [leavesN_len]; have : 2 ^ h ≤ 64 := Nat.le_trans (Nat.pow_le_pow_right (by decide) hh) (by decide); unfold maxLen; omega)
  have HL2 := Lib.hid hl2
  clear hl2
  go_loopw [6] (fun v wr => ∃ j : Nat, j ≤ h ∧ IsSl v ((rowB seed b h j).map vS) wr ∧ Below w.heap.size w wr) (fun v _ => slLen v)
  case atStart => exact ⟨0, by omega, HL2.out, HB2.out⟩
  case round =>
    obtain ⟨j, hj, hS, hB⟩ := hrel
    obtain ⟨a, cap, rfl⟩ := hS.formMap
    have hlen := rowB_len seed b h hj
    obtain ⟨n, hn⟩ : ∃ n, (rowB seed b h j).length = n := ⟨_, rfl⟩
    have HS := Lib.hid hS
    have HB := Lib.hid hB
    clear hS hB
    have hmem : ∀ x ∈ rowB seed b h j, x.length ≤ maxLen := fun x hx => max32 (levN_mem j x hx)
    rw [hn] at hlen
    rw [hn]
    have hn64 : n ≤ 64 := by
      rw [hlen]
      exact Nat.le_trans (Nat.pow_le_pow_right (by decide) (show h - j ≤ 6 by omega)) (by decide)
    by_cases hlt : j < h
    · have hn2 : 2 ≤ n := by
        rw [hlen, show h - j = (h - (j + 1)) + 1 by omega, Nat.pow_succ]
        have := Nat.pow_le_pow_right (n := 2) (by decide) (Nat.zero_le (h - (j + 1)))
        simp at this
        omega
      have HLV := Lib.hid (RLevel_any _ (rowB seed b h j) wr HS.out hmem (by rw [hn]; omega))
      rw [hn] at HLV
      have Hn := Lib.hid hn
      clear hlen hmem hn
      go_wp2_with (go_at_call 38; refine HLV.out.mono ?_; rintro e w3 ⟨v3, rfl, ho3, hb3⟩; have HO3 := Lib.hid ho3; have HB3 := Lib.hid (HB.out.next hb3); clear ho3 hb3)
      have hlv : (level (rowB seed b h j)).length = n / 2 := by rw [level_len, Hn.out]
      have hsl : IsSl v3 ((rowB seed b h (j + 1)).map vS) w3 := IsSl.of_owns (by rw [List.length_map]; exact HO3.out) (by rw [List.length_map]; show (level (rowB seed b h j)).length ≤ _; rw [hlv]; unfold maxLen; omega)
      obtain ⟨a3, c3, hv3⟩ := hsl.formMap
      go_roundw
      case rel => exact ⟨j + 1, by omega, hsl, HB3.out⟩
      case measure =>
        rw [hv3]
        show (level (rowB seed b h j)).length < n
        rw [hlv]
        omega
    · obtain rfl : j = h := by omega
      have hn1 : n = 1 := by rw [hlen]; simp
      subst hn1
      have hS' : IsSl (.slice a ((rowB seed b j j).map vS).length cap) ((rowB seed b j j).map vS) wr := by rw [List.length_map]; exact HS.out
      obtain ⟨bl, off, rfl, hbl, hc0⟩ := hS'.at (k := 0) (by rw [List.length_map, hn]; decide)
      rw [List.getElem_map] at hc0
      have hroot : (rowB seed b j j)[0]'(by rw [hn]; decide) = rootB seed b j := by
        unfold rootB
        rw [List.getD_eq_getElem?_getD, List.getElem?_eq_getElem (by rw [hn]; decide)]
        rfl
      rw [hroot, Nat.add_zero] at hc0
      unfold vS at hc0
      clear hS' hlen hmem hroot hn
      go_wp2
      go_ret2
      exact ⟨rfl, HB.out⟩

theorem RRoot_no (seed : Bs) (b h : Int) (w : World) (hk : keyOk b h = false) :
    Gives 14 #[.string (B seed), .agg #[.int .i64 b, .int .i64 h]] w (.tuple #[.string (B []), .int .i64 3]) := by
  have HV := Lib.hid (fun W => RValid_no b h W hk)
  clear hk
  go_enter Tryd.func14, Tryd.ntmps14
  go_wp2_with (first
    | (go_at_call 16; refine (HV.out _).mono ?_; rintro e w1 ⟨rfl, hb1⟩; have Hb1 := Lib.hid (((Below.refl w.heap.size w).alloc (Nat.le_refl _) _).next hb1); clear hb1))
  go_ret2
  exact ⟨rfl, Hb1.out⟩

end Go.Proofs.YtdkjehagkmkokaaDoor
