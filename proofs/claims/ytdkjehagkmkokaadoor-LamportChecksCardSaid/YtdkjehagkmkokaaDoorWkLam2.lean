/- own of package lamport, and leaf of its reference, are the plain leaf of a one-time key. -/
import Derived.Test.YtdkjehagkmkokaaDoorWkLam1
namespace Go.Proofs.YtdkjehagkmkokaaDoor
open Go Go.RowKit Licit

theorem news_two {w : World} {o : Nat} {x y : Value} {t : TypeId} {fr : Nat × Nat} (hb : w.heap[o]? = some (.cells #[x, y] t fr)) : ∀ j u, [x, y][j]? = some u → w.cell? ((⟨o, 0, none⟩ : Addr).add j) = some u := fun j u hu => by
  have hadd : (⟨o, 0, none⟩ : Addr).add j = ⟨o, j, none⟩ := by unfold Addr.add; split <;> simp_all
  rw [hadd, cell_of hb]
  simpa using hu
theorem map_snoc {α β : Type} (f : α → β) (l : List α) (x : α) : (l ++ [x]).map f = l.map f ++ [f x] := by simp

set_option maxHeartbeats 1000000 in
set_option maxRecDepth 100000 in
theorem own_any (seed : Bs) (b : Nat) (h i : Int) (w : World) (hs : seed.length ≤ maxLen) (hb : b ≤ 256) (ht : Tab w) :
    Gives 64 #[.string (B seed), .agg #[.int .i64 (b : Int), .int .i64 h], .int .i64 i] w (.string (B (ownB seed b i))) := by
  obtain ⟨i0, hi, hz0, hz1, hz2⟩ := info_parts Tryd.infoStr
  have Hi := Lib.hid hi
  have Hz0 := Lib.hid hz0
  have Hz1 := Lib.hid hz1
  have Hz2 := Lib.hid hz2
  clear hi hz0 hz1 hz2
  go_enter Tryd.func64, Tryd.ntmps64
  go_wp2
  go_loopw [7, 12] (fun v n wr => ∃ k : Nat, k ≤ b ∧ n = .int .i64 k ∧ wr.ownsRow w.heap.size 9 1 v (2 * k) ((partsN seed i (2 * k)).map vS) ∧ Below w.heap.size w wr) (fun _ n _ => b - (intOf n).toNat)
  case atStart => exact ⟨0, by omega, rfl, World.ownsRow_nil _ _ _ _, (Below.refl _ _).alloc (Nat.le_refl _) _⟩
  case round =>
    obtain ⟨k, hk, rfl, hO, hB⟩ := hrel
    have HO := Lib.hid hO
    have HB := Lib.hid hB
    clear hO hB
    by_cases hlt : k < b
    · go_wp2
      go_loopw [7, 15] (fun v n wx => ∃ j : Nat, j ≤ 2 ∧ n = .int .i64 j ∧ wx.ownsRow w.heap.size 9 1 v (2 * k + j) ((partsN seed i (2 * k + j)).map vS) ∧ Below w.heap.size w wx) (fun _ n _ => 2 - (intOf n).toNat)
      case atStart => exact ⟨0, by omega, rfl, HO.out, HB.out⟩
      case round =>
        obtain ⟨j, hj, rfl, hO, hB⟩ := hrel
        by_cases hlj : j < 2
        · have htr := ht.same hB
          have HO := Lib.hid hO
          have HB := Lib.hid hB
          clear hO hB
          go_wp2_with (first
            | (go_at_call 72
               refine (secret_any seed i (k : Int) (j : Int) _ hs htr).mono ?_
               rintro e w1 ⟨rfl, hb1⟩
               have ht1 := htr.same hb1
               have Hb1 := Lib.hid hb1
               clear hb1)
            | (go_at_call 44
               refine (public_any (secretB seed i (k : Int) (j : Int)) _ (max32 (secretB_len _ _ _ _)) ht1).mono ?_
               rintro e w2 ⟨rfl, hb2⟩
               have hb2' := HB.out.next (Hb1.out.next hb2)
               have HO2 := Lib.hid (ownsRow_block HO.out (fun q _ hq => (Hb1.out.next hb2).block q hq))
               have Hb2 := Lib.hid hb2'
               clear hb2 hb2')
            | (at_builtin
               refine wpList_append_own _ rfl _ _ 32 rfl w.heap.size 9 i0 (.string ⟨#[]⟩) 1 16 Tryd.underlying32 Hi.out Hz0.out Hz1.out Hz2.out rfl (by decide) _ (2 * k + j) ((partsN seed i (2 * k + j)).map vS) rfl (HO2.out.alloc _) ⟨w2.heap.size, 0, none⟩ 1 1 [vS (pubB (secretB seed i (k : Int) (j : Int)))] rfl rfl (news_one (new_of _ _)) (by simp [vS, Value.oneCell']) (by unfold maxLen; omega) (by omega) (by have := Hb2.out.size; simp; omega) ?_
               intro v3 w3 ho3 hg3 _
               rw [← partAt_at seed i k j hlj, ← map_snoc, ← partsN_succ] at ho3
               have hb3 : Below w.heap.size w w3 := (Hb2.out.alloc Hb2.out.size _).grown hg3 (by have := Hb2.out.size; simp; omega) (fun q hq => by have := HO2.out.lt q hq; exact this.1)
               have HO3 := Lib.hid ho3
               have HB3 := Lib.hid hb3
               clear ho3 hg3 hb3))
          go_roundw
          case rel => exact ⟨j + 1, by omega, by go_num, HO3.out, HB3.out⟩
          case measure => simp [intOf]; omega
        · obtain rfl : j = 2 := by omega
          have HO := Lib.hid hO
          have HB := Lib.hid hB
          clear hO hB
          go_wp2
          go_roundw
          case rel =>
            first
              | exact ⟨k + 1, by omega, by go_num, HO.out, HB.out⟩
              | ((repeat apply Exists.intro); exact ⟨⟨k + 1, by omega, by go_num, HO.out, HB.out⟩, rfl⟩)
          case measure => simp [intOf]; omega
    · obtain rfl : k = b := by omega
      have hsl := IsSl.of_owns (xs := (partsN seed i (2 * k)).map vS) (by rw [List.length_map, partsN_len]; exact HO.out) (by rw [List.length_map, partsN_len]; unfold maxLen; omega)
      have HM := Lib.hid (leaf_any _ (partsN seed i (2 * k)) wr hsl (by
        intro x hx
        obtain ⟨m, _, rfl⟩ := List.mem_map.1 hx
        exact max32 (pubB_len _)) (by rw [partsN_len]; omega) (ht.same HB.out))
      clear hsl
      go_wp2_with (go_at_call 46; refine HM.out.mono ?_; rintro e w2 ⟨rfl, hb2⟩; have Hb2 := Lib.hid hb2; clear hb2)
      go_ret
      exact ⟨rfl, HB.out.next Hb2.out⟩

/-- H of a list that was just built. -/
theorem H_built {l : List Bs} {cs : Array Value} (n : Nat) (hn : l.length = n) (h0 : 0 < n) (hc : l.map vS = cs.toList) (hm : n ≤ 1000) (hl : ∀ x ∈ l, x.length ≤ maxLen) (W : World) :
    Gives 41 #[.slice (some ⟨W.heap.size, 0, none⟩) n n] (W.alloc (.cells cs 9)) (.string (B (hsh l))) := by
  subst hn
  refine H_any _ l _ ?_ hl
  have := sl_block (cap := l.length) (new_of W (.cells cs 9)) hc (by rw [List.length_map]; unfold maxLen; omega) (by rw [List.length_map]; exact h0)
  rw [List.length_map] at this
  exact this
/-- mix of a list that was just built. -/
theorem mix_built {l : List Bs} {cs : Array Value} (n : Nat) (hn : l.length = n) (h0 : 0 < n) (hc : l.map vS = cs.toList) (hm : n ≤ 1000) (hl : ∀ x ∈ l, x.length ≤ maxLen) (W : World) (ht : Tab W) :
    Gives 47 #[.slice (some ⟨W.heap.size, 0, none⟩) n n] (W.alloc (.cells cs 9)) (.string (B (hsh l))) := by
  subst hn
  refine mix_any _ l _ ?_ hl (ht.same ((Below.refl _ _).alloc (Nat.le_refl _) _))
  have := sl_block (cap := l.length) (new_of W (.cells cs 9)) hc (by rw [List.length_map]; unfold maxLen; omega) (by rw [List.length_map]; exact h0)
  rw [List.length_map] at this
  exact this
theorem Gives.alloc {f : FuncId} {args : Array Value} {W : World} {o : Obj} {v : Value} (h : Gives f args (W.alloc o) v) : Calls Tryd.prog f args (W.alloc o) fun e w' => e = .returned v ∧ Below W.heap.size W w' :=
  h.mono fun _ _ ⟨h1, h2⟩ => ⟨h1, ((Below.refl _ _).alloc (Nat.le_refl _) _).trans (h2.mono (by simp))⟩

theorem RPub_built (s : Bs) (hs : s.length ≤ maxLen) (W : World) : Calls Tryd.prog 41 #[.slice (some ⟨W.heap.size, 0, none⟩) 2 2] (W.alloc (.cells #[.string ⟨#[112, 117, 98, 108, 105, 99]⟩, .string (B s)] 9)) fun e w' => e = .returned (.string (B (pubB s))) ∧ Below W.heap.size W w' :=
  Gives.alloc (H_built (l := [kPublic, s]) 2 rfl (by decide) rfl (by decide) (by intro x hx; simp at hx; rcases hx with rfl | rfl; decide; exact hs) W)

theorem partsN_two (seed : Bs) (i : Int) (k : Nat) : partsN seed i (2 * (k + 1)) = partsN seed i (2 * k) ++ [pubB (secretB seed i (k : Int) 0), pubB (secretB seed i (k : Int) 1)] := by
  have h0 := partAt_at seed i k 0 (by decide)
  have h1 := partAt_at seed i k 1 (by decide)
  rw [show 2 * (k + 1) = 2 * k + 1 + 1 by omega, partsN_succ, partsN_succ, h1, show 2 * k = 2 * k + 0 from rfl, h0, List.append_assoc]
  rfl

set_option maxHeartbeats 1000000 in
set_option maxRecDepth 100000 in
theorem RLeaf_any (seed : Bs) (b : Nat) (i : Int) (w : World) (hs : seed.length ≤ maxLen) (hb : b ≤ 256) :
    Gives 66 #[.string (B seed), .int .i64 (b : Int), .int .i64 i] w (.string (B (ownB seed b i))) := by
  obtain ⟨i0, hi, hz0, hz1, hz2⟩ := info_parts Tryd.infoStr
  have Hi := Lib.hid hi
  have Hz0 := Lib.hid hz0
  have Hz1 := Lib.hid hz1
  have Hz2 := Lib.hid hz2
  clear hi hz0 hz1 hz2
  go_enter Tryd.func66, Tryd.ntmps66
  go_wp2
  go_loopw [7, 8] (fun v n wr => ∃ k : Nat, k ≤ b ∧ n = .int .i64 k ∧ wr.ownsRow w.heap.size 9 1 v (2 * k + 1) ((kLeaf :: partsN seed i (2 * k)).map vS) ∧ Below w.heap.size w wr) (fun _ n _ => b - (intOf n).toNat)
  case atStart => exact ⟨0, by omega, rfl, own_built (new_of _ _) (Nat.le_refl _) rfl (by decide), (Below.refl _ _).alloc (Nat.le_refl _) _⟩
  case round =>
    obtain ⟨k, hk, rfl, hO, hB⟩ := hrel
    have HO := Lib.hid hO
    have HB := Lib.hid hB
    clear hO hB
    by_cases hlt : k < b
    · go_wp2_with fail
      refine (RSecret_any seed i (k : Int) 0 _ hs).mono ?_
      rintro e w1 ⟨rfl, hb1⟩
      have Hb1 := Lib.hid hb1
      clear hb1
      go_wp2_with fail
      refine (RPub_built (secretB seed i (k : Int) 0) (max32 (secretB_len _ _ _ _)) w1).mono ?_
      rintro e w2 ⟨rfl, hb2⟩
      have Hb2 := Lib.hid hb2
      clear hb2
      go_wp2_with fail
      refine (RSecret_any seed i (k : Int) 1 _ hs).mono ?_
      rintro e w3 ⟨rfl, hb3⟩
      have Hb3 := Lib.hid hb3
      clear hb3
      go_wp2_with fail
      refine (RPub_built (secretB seed i (k : Int) 1) (max32 (secretB_len _ _ _ _)) w3).mono ?_
      rintro e w4 ⟨rfl, hb4⟩
      have hb5 := ((Hb1.out.next Hb2.out).next Hb3.out).next hb4
      have HO5 := Lib.hid (ownsRow_block HO.out (fun q _ hq => hb5.block q hq))
      have HB5 := Lib.hid (HB.out.next hb5)
      clear hb4 hb5
      go_wp2_with (first
        | (at_builtin
           go_loud (
           refine wpList_append_own _ rfl _ _ 32 rfl w.heap.size 9 i0 (.string ⟨#[]⟩) 1 16 Tryd.underlying32 Hi.out Hz0.out Hz1.out Hz2.out rfl (by decide) _ (2 * k + 1) ((kLeaf :: partsN seed i (2 * k)).map vS) rfl (HO5.out.alloc _) ⟨w4.heap.size, 0, none⟩ 2 2 [vS (pubB (secretB seed i (k : Int) 0)), vS (pubB (secretB seed i (k : Int) 1))] rfl rfl (news_two (new_of _ _)) (by simp [vS, Value.oneCell']) (by unfold maxLen; omega) (by omega) (by have := HB5.out.size; simp; omega) ?_
           intro v3 w6 ho3 hg3 _
           have ho3' : w6.ownsRow w.heap.size 9 1 v3 (2 * (k + 1) + 1) ((kLeaf :: partsN seed i (2 * (k + 1))).map vS) := by
             rw [partsN_two, show 2 * (k + 1) + 1 = 2 * k + 1 + 2 by omega, ← List.cons_append, List.map_append]
             exact ho3
           have hb3 : Below w.heap.size w w6 := (HB5.out.alloc HB5.out.size _).grown hg3 (by have := HB5.out.size; simp; omega) (fun q hq => by have := HO5.out.lt q hq; exact this.1)
           have HO3 := Lib.hid ho3'
           have HB3 := Lib.hid hb3
           clear ho3 hg3 hb3 ho3')))
      go_roundw
      case rel => exact ⟨k + 1, by omega, by go_num, HO3.out, HB3.out⟩
      case measure => simp [intOf]; omega
    · obtain rfl : k = b := by omega
      have hsl := IsSl.of_owns (xs := (kLeaf :: partsN seed i (2 * k)).map vS) (by rw [List.length_map, List.length_cons, partsN_len]; exact HO.out) (by rw [List.length_map, List.length_cons, partsN_len]; unfold maxLen; omega)
      have HM := Lib.hid (H_any _ (kLeaf :: partsN seed i (2 * k)) wr hsl (by
        intro x hx
        rcases List.mem_cons.1 hx with rfl | hx
        · decide
        · obtain ⟨m, _, rfl⟩ := List.mem_map.1 hx
          exact max32 (pubB_len _)))
      clear hsl
      go_wp2_with (go_at_call 41; refine HM.out.mono ?_; rintro e w2 ⟨rfl, hb2⟩; have Hb2 := Lib.hid hb2; clear hb2)
      go_ret
      exact ⟨rfl, HB.out.next Hb2.out⟩

end Go.Proofs.YtdkjehagkmkokaaDoor
