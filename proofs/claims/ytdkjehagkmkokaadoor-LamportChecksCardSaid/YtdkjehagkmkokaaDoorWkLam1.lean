/- mix, decimal, Valid, secret, public, leaf and own of package lamport, and H, N, Valid, Count, secret of its reference, do what the plain functions say. -/
import Derived.Test.YtdkjehagkmkokaaDoorShaProg
import Derived.Test.YtdkjehagkmkokaaDoorShaRef
import Derived.Test.YtdkjehagkmkokaaDoorWkList
import Derived.Test.YtdkjehagkmkokaaDoorWkRefEncL
import Derived.Test.YtdkjehagkmkokaaDoorPlainAll
namespace Go.Proofs.YtdkjehagkmkokaaDoor
open Go Go.RowKit Licit

/-- A slice over a block. -/
theorem sl_block {w : World} {b : Nat} {cs : Array Value} {T : TypeId} {fr : Nat × Nat} {xs : List Value} {cap : Nat} (h : w.heap[b]? = some (.cells cs T fr)) (hx : xs = cs.toList) (hm : xs.length ≤ maxLen) (h0 : 0 < xs.length) : IsSl (.slice (some ⟨b, 0, none⟩) xs.length cap) xs w := by
  refine ⟨hm, .inr ⟨b, 0, cap, rfl, h0, fun i hi => ?_⟩⟩
  rw [cell_of h, Nat.zero_add, hx, Array.getElem?_toList]

theorem Tryd.infoStr : (Tryd.prog.info? 9).map (fun i => (i.zero, i.size, i.bytes)) = some (some (.string ⟨#[]⟩), 1, 16) := by kernel_rfl

def Res (v : Value) (w : World) (e : Ending) (w' : World) : Prop := e = .returned v ∧ Below w.heap.size w w'
/-- A function whose result is a plain value and that only makes new memory. -/
abbrev Gives (f : FuncId) (args : Array Value) (w : World) (v : Value) : Prop := Calls Tryd.prog f args w fun e w' => e = .returned v ∧ Below w.heap.size w w'

theorem mix_any (v : Value) (xs : List Bs) (w : World) (h : IsSl v (xs.map vS) w) (hl : ∀ x ∈ xs, x.length ≤ maxLen) (ht : Tab w) :
    Gives 47 #[v] w (.string (B (hsh xs))) := by
  have HT := Lib.hid (encTexts_any v xs w h hl ht)
  have hln := texts_len xs
  obtain ⟨T, hT⟩ : ∃ T, (eList eText xs).1 = T := ⟨_, rfl⟩
  obtain ⟨R, hR⟩ : ∃ R, hsh xs = R := ⟨_, rfl⟩
  have hS : Sha.sha T = R := by rw [← hT, ← hR]; rfl
  rw [hT] at HT hln
  rw [hR]
  have HS := Lib.hid hS
  clear hT hR hS h hl
  go_enter Tryd.func47, Tryd.ntmps47
  go_wp2_with (first
    | (go_at_call 53; refine HT.out.mono ?_; rintro e w1 ⟨rfl, hb1⟩; have Hb1 := Lib.hid hb1; clear hb1)
    | (go_at_call 43; refine (DSum_any T _ hln).mono ?_; rintro e w2 ⟨rfl, hb2⟩; have Hb2 := Lib.hid hb2; clear hb2))
  go_ret
  exact ⟨congrArg (fun x => Ending.returned (.string (B x))) HS.out, Hb1.out.trans (Hb2.out.mono Hb1.out.size)⟩

theorem decimal_any48 (n : Int) (w : World) (ht : Tab w) : Gives 52 #[.int .i64 n] w (.string (B (num n))) := by
  have HT := Lib.hid (encNumber_any n w ht)
  go_enter Tryd.func52, Tryd.ntmps52
  go_wp2_with (go_at_call 75; refine HT.out.mono ?_; rintro e w1 ⟨rfl, hb1⟩; have Hb1 := Lib.hid hb1; clear hb1)
  go_ret
  exact ⟨rfl, Hb1.out⟩

theorem H_any (v : Value) (xs : List Bs) (w : World) (h : IsSl v (xs.map vS) w) (hl : ∀ x ∈ xs, x.length ≤ maxLen) :
    Gives 41 #[v] w (.string (B (hsh xs))) := by
  have HT := Lib.hid (rencTexts_any v xs w h hl)
  have hln := texts_len xs
  obtain ⟨T, hT⟩ : ∃ T, (eList eText xs).1 = T := ⟨_, rfl⟩
  obtain ⟨R, hR⟩ : ∃ R, hsh xs = R := ⟨_, rfl⟩
  have hS : Sha.sha T = R := by rw [← hT, ← hR]; rfl
  rw [hT] at HT hln
  rw [hR]
  have HS := Lib.hid hS
  clear hT hR hS h hl
  go_enter Tryd.func41, Tryd.ntmps41
  go_wp2_with (first
    | (go_at_call 54; refine HT.out.mono ?_; rintro e w1 ⟨rfl, hb1⟩; have Hb1 := Lib.hid hb1; clear hb1)
    | (go_at_call 29; refine (RSum_any T _ hln).mono ?_; rintro e w2 ⟨rfl, hb2⟩; have Hb2 := Lib.hid hb2; clear hb2))
  go_ret
  exact ⟨congrArg (fun x => Ending.returned (.string (B x))) HS.out, Hb1.out.trans (Hb2.out.mono Hb1.out.size)⟩

theorem N_any (n : Int) (w : World) : Gives 55 #[.int .i64 n] w (.string (B (num n))) := by
  have HT := Lib.hid (rencNumber_any n w)
  go_enter Tryd.func55, Tryd.ntmps55
  go_wp2_with (go_at_call 80; refine HT.out.mono ?_; rintro e w1 ⟨rfl, hb1⟩; have Hb1 := Lib.hid hb1; clear hb1)
  go_ret
  exact ⟨rfl, Hb1.out⟩

theorem public_any (s : Bs) (w : World) (hs : s.length ≤ maxLen) (ht : Tab w) : Gives 44 #[.string (B s)] w (.string (B (pubB s))) := by
  have hsl : IsSl (.slice (some ⟨w.heap.size, 0, none⟩) 2 2) ([kPublic, s].map vS) (w.alloc (.cells #[.string ⟨#[112, 117, 98, 108, 105, 99]⟩, .string (B s)] 9)) := sl_block (xs := [kPublic, s].map vS) (new_of _ _) rfl (by simp [maxLen]) (by simp)
  have hb : Below w.heap.size w (w.alloc (.cells #[.string ⟨#[112, 117, 98, 108, 105, 99]⟩, .string (B s)] 9)) := (Below.refl _ _).alloc (Nat.le_refl _) _
  have HM := Lib.hid (mix_any _ [kPublic, s] _ hsl (by intro x hx; simp at hx; rcases hx with rfl | rfl; decide; exact hs) (ht.same hb))
  clear hsl
  have Hb := Lib.hid hb
  clear hb
  go_enter Tryd.func44, Tryd.ntmps44
  go_wp2_with (go_at_call 47; refine HM.out.mono ?_; rintro e w1 ⟨rfl, hb1⟩; have Hb1 := Lib.hid hb1; clear hb1)
  go_ret
  exact ⟨rfl, Hb.out.trans (Hb1.out.mono Hb.out.size)⟩


theorem _root_.Go.RowKit.Below.next {B : Nat} {w w1 w2 : World} (h : Below B w w1) (h2 : Below w1.heap.size w1 w2) (hB : B ≤ w.heap.size := by exact Nat.le_refl _) : Below B w w2 := h.trans (h2.mono (Nat.le_trans hB h.size))
theorem num_len (n : Int) : (num n).length ≤ maxLen := by
  unfold num eNum
  split
  · simp [maxLen]
  · rename_i h
    have := Lib.itoa_length_le n (by omega) (by omega)
    unfold Lib.itoa at this
    rw [if_neg (by omega)] at this
    simp [maxLen]
    omega

theorem secret_any (seed : Bs) (i b v : Int) (w : World) (hs : seed.length ≤ maxLen) (ht : Tab w) : Gives 72 #[.string (B seed), .int .i64 i, .int .i64 b, .int .i64 v] w (.string (B (secretB seed i b v))) := by
  go_enter Tryd.func72, Tryd.ntmps72
  go_wp2_with fail
  refine (decimal_any48 i _ ht).mono ?_
  rintro e w1 ⟨rfl, hb1⟩
  have ht1 := ht.same hb1
  have Hb1 := Lib.hid hb1
  clear hb1
  go_wp2_with fail
  refine (decimal_any48 b _ ht1).mono ?_
  rintro e w2 ⟨rfl, hb2⟩
  have ht2 := ht1.same hb2
  have Hb2 := Lib.hid hb2
  clear hb2
  go_wp2_with fail
  refine (decimal_any48 v _ ht2).mono ?_
  rintro e w3 ⟨rfl, hb3⟩
  have ht3 := ht2.same hb3
  have Hb3 := Lib.hid hb3
  clear hb3
  go_wp2_with fail
  have hsl : IsSl (.slice (some ⟨w3.heap.size, 0, none⟩) 5 5) ([kSecret, seed, num i, num b, num v].map vS) (w3.alloc (.cells #[.string ⟨#[115, 101, 99, 114, 101, 116]⟩, .string (B seed), .string (B (num i)), .string (B (num b)), .string (B (num v))] 9)) := sl_block (xs := [kSecret, seed, num i, num b, num v].map vS) (new_of _ _) rfl (by simp [maxLen]) (by simp)
  have hb4 : Below w3.heap.size w3 (w3.alloc (.cells #[.string ⟨#[115, 101, 99, 114, 101, 116]⟩, .string (B seed), .string (B (num i)), .string (B (num b)), .string (B (num v))] 9)) := (Below.refl _ _).alloc (Nat.le_refl _) _
  refine (mix_any _ [kSecret, seed, num i, num b, num v] _ hsl (by
    intro x hx
    simp only [List.mem_cons, List.not_mem_nil, or_false] at hx
    rcases hx with rfl | rfl | rfl | rfl | rfl
    · decide
    · exact hs
    all_goals exact num_len _) (ht3.same hb4)).mono ?_
  rintro e w5 ⟨rfl, hb5⟩
  have Hb4 := Lib.hid hb4
  have Hb5 := Lib.hid hb5
  clear hb4 hb5 hsl
  go_wp2
  go_ret
  exact ⟨rfl, (((Hb1.out.next Hb2.out).next Hb3.out).next Hb4.out).next Hb5.out⟩

theorem RSecret_any (seed : Bs) (i b v : Int) (w : World) (hs : seed.length ≤ maxLen) : Gives 40 #[.string (B seed), .int .i64 i, .int .i64 b, .int .i64 v] w (.string (B (secretB seed i b v))) := by
  go_enter Tryd.func40, Tryd.ntmps40
  go_wp2_with fail
  refine (N_any i _).mono ?_
  rintro e w1 ⟨rfl, hb1⟩
  have Hb1 := Lib.hid hb1
  clear hb1
  go_wp2_with fail
  refine (N_any b _).mono ?_
  rintro e w2 ⟨rfl, hb2⟩
  have Hb2 := Lib.hid hb2
  clear hb2
  go_wp2_with fail
  refine (N_any v _).mono ?_
  rintro e w3 ⟨rfl, hb3⟩
  have Hb3 := Lib.hid hb3
  clear hb3
  go_wp2_with fail
  have hsl : IsSl (.slice (some ⟨w3.heap.size, 0, none⟩) 5 5) ([kSecret, seed, num i, num b, num v].map vS) (w3.alloc (.cells #[.string ⟨#[115, 101, 99, 114, 101, 116]⟩, .string (B seed), .string (B (num i)), .string (B (num b)), .string (B (num v))] 9)) := sl_block (xs := [kSecret, seed, num i, num b, num v].map vS) (new_of _ _) rfl (by simp [maxLen]) (by simp)
  have hb4 : Below w3.heap.size w3 (w3.alloc (.cells #[.string ⟨#[115, 101, 99, 114, 101, 116]⟩, .string (B seed), .string (B (num i)), .string (B (num b)), .string (B (num v))] 9)) := (Below.refl _ _).alloc (Nat.le_refl _) _
  refine (H_any _ [kSecret, seed, num i, num b, num v] _ hsl (by
    intro x hx
    simp only [List.mem_cons, List.not_mem_nil, or_false] at hx
    rcases hx with rfl | rfl | rfl | rfl | rfl
    · decide
    · exact hs
    all_goals exact num_len _)).mono ?_
  rintro e w5 ⟨rfl, hb5⟩
  have Hb4 := Lib.hid hb4
  have Hb5 := Lib.hid hb5
  clear hb4 hb5 hsl
  go_wp2
  go_ret
  exact ⟨rfl, (((Hb1.out.next Hb2.out).next Hb3.out).next Hb4.out).next Hb5.out⟩

theorem Valid_yes (b h : Int) (w : World) (hk : keyOk b h = true) : Gives 15 #[.agg #[.int .i64 b, .int .i64 h]] w (.int .i64 0) := by
  have hk' : 8 ≤ b ∧ b ≤ 256 ∧ 0 ≤ h ∧ h ≤ 6 := by simpa [keyOk] using hk
  obtain ⟨h1, h2, h3, h4⟩ := hk'
  have d1 : decide (b < 8) = false := by simp; omega
  have d2 : decide (256 < b) = false := by simp; omega
  have d3 : decide (h < 0) = false := by simp; omega
  have d4 : decide (6 < h) = false := by simp; omega
  clear hk
  go_enter Tryd.func15, Tryd.ntmps15
  go_wp2
  go_ret
  exact ⟨rfl, (Below.refl _ _).alloc (Nat.le_refl _) _⟩
theorem Valid_no (b h : Int) (w : World) (hk : keyOk b h = false) : Gives 15 #[.agg #[.int .i64 b, .int .i64 h]] w (.int .i64 3) := by
  have hk' : ¬ (8 ≤ b ∧ b ≤ 256 ∧ 0 ≤ h ∧ h ≤ 6) := by simpa [keyOk] using hk
  have HK := Lib.hid hk'
  clear hk hk'
  by_cases h1 : b < 8
  · have d1 : decide (b < 8) = true := by simpa using h1
    go_enter Tryd.func15, Tryd.ntmps15
    go_wp2
    go_ret
    exact ⟨rfl, (Below.refl _ _).alloc (Nat.le_refl _) _⟩
  · have d1 : decide (b < 8) = false := by simpa using h1
    by_cases h2 : 256 < b
    · have d2 : decide (256 < b) = true := by simpa using h2
      go_enter Tryd.func15, Tryd.ntmps15
      go_wp2
      go_ret
      exact ⟨rfl, (Below.refl _ _).alloc (Nat.le_refl _) _⟩
    · have d2 : decide (256 < b) = false := by simpa using h2
      by_cases h3 : h < 0
      · have d3 : decide (h < 0) = true := by simpa using h3
        go_enter Tryd.func15, Tryd.ntmps15
        go_wp2
        go_ret
        exact ⟨rfl, (Below.refl _ _).alloc (Nat.le_refl _) _⟩
      · have d3 : decide (h < 0) = false := by simpa using h3
        have h4 : 6 < h := by have := HK.out; omega
        have d4 : decide (6 < h) = true := by simpa using h4
        go_enter Tryd.func15, Tryd.ntmps15
        go_wp2
        go_ret
        exact ⟨rfl, (Below.refl _ _).alloc (Nat.le_refl _) _⟩

theorem RValid_yes (b h : Int) (w : World) (hk : keyOk b h = true) : Gives 16 #[.agg #[.int .i64 b, .int .i64 h]] w (.int .i64 0) := by
  have hk' : 8 ≤ b ∧ b ≤ 256 ∧ 0 ≤ h ∧ h ≤ 6 := by simpa [keyOk] using hk
  obtain ⟨h1, h2, h3, h4⟩ := hk'
  have d1 : decide (b < 8) = false := by simp; omega
  have d2 : decide (256 < b) = false := by simp; omega
  have d3 : decide (h < 0) = false := by simp; omega
  have d4 : decide (6 < h) = false := by simp; omega
  clear hk
  go_enter Tryd.func16, Tryd.ntmps16
  go_wp2
  go_ret
  exact ⟨rfl, (Below.refl _ _).alloc (Nat.le_refl _) _⟩
theorem RValid_no (b h : Int) (w : World) (hk : keyOk b h = false) : Gives 16 #[.agg #[.int .i64 b, .int .i64 h]] w (.int .i64 3) := by
  have hk' : ¬ (8 ≤ b ∧ b ≤ 256 ∧ 0 ≤ h ∧ h ≤ 6) := by simpa [keyOk] using hk
  have HK := Lib.hid hk'
  clear hk hk'
  by_cases h1 : b < 8
  · have d1 : decide (b < 8) = true := by simpa using h1
    go_enter Tryd.func16, Tryd.ntmps16
    go_wp2
    go_ret
    exact ⟨rfl, (Below.refl _ _).alloc (Nat.le_refl _) _⟩
  · have d1 : decide (b < 8) = false := by simpa using h1
    by_cases h2 : 256 < b
    · have d2 : decide (256 < b) = true := by simpa using h2
      go_enter Tryd.func16, Tryd.ntmps16
      go_wp2
      go_ret
      exact ⟨rfl, (Below.refl _ _).alloc (Nat.le_refl _) _⟩
    · have d2 : decide (256 < b) = false := by simpa using h2
      by_cases h3 : h < 0
      · have d3 : decide (h < 0) = true := by simpa using h3
        go_enter Tryd.func16, Tryd.ntmps16
        go_wp2
        go_ret
        exact ⟨rfl, (Below.refl _ _).alloc (Nat.le_refl _) _⟩
      · have d3 : decide (h < 0) = false := by simpa using h3
        have h4 : 6 < h := by have := HK.out; omega
        have d4 : decide (6 < h) = true := by simpa using h4
        go_enter Tryd.func16, Tryd.ntmps16
        go_wp2
        go_ret
        exact ⟨rfl, (Below.refl _ _).alloc (Nat.le_refl _) _⟩

theorem RCount_any (b : Int) (h : Nat) (w : World) (hh : h ≤ 6) : Gives 22 #[.agg #[.int .i64 b, .int .i64 (h : Int)]] w (.int .i64 ((2 ^ h : Nat) : Int)) := by
  have h' : h = 0 ∨ h = 1 ∨ h = 2 ∨ h = 3 ∨ h = 4 ∨ h = 5 ∨ h = 6 := by omega
  rcases h' with rfl | rfl | rfl | rfl | rfl | rfl | rfl
  all_goals
    go_enter Tryd.func22, Tryd.ntmps22
    go_wp2
    go_ret
    exact ⟨rfl, (Below.refl _ _).alloc (Nat.le_refl _) _⟩

/-- The leaf of public parts. -/
theorem leaf_any (v : Value) (xs : List Bs) (w : World) (h : IsSl v (xs.map vS) w) (hl : ∀ x ∈ xs, x.length ≤ maxLen) (hn : xs.length ≤ 100000) (ht : Tab w) :
    Gives 46 #[v] w (.string (B (leafB xs))) := by
  obtain ⟨i0, hi, hz0, hz1, hz2⟩ := info_parts Tryd.infoStr
  have Hi := Lib.hid hi
  have Hz0 := Lib.hid hz0
  have Hz1 := Lib.hid hz1
  have Hz2 := Lib.hid hz2
  clear hi hz0 hz1 hz2
  have HL := Lib.hid hl
  clear hl
  rcases h.2 with ⟨a, cap, rfl, hx⟩ | ⟨b, off, cap, rfl, h0, hc⟩
  · obtain rfl : xs = [] := by simpa using hx
    clear hx h
    have hb : Below w.heap.size w (w.alloc (.cells #[.string ⟨#[108, 101, 97, 102]⟩] 9)) := (Below.refl _ _).alloc (Nat.le_refl _) _
    have HM := Lib.hid (mix_any (.slice (some ⟨w.heap.size, 0, none⟩) 1 1) [kLeaf] _ (sl_block (xs := [kLeaf].map vS) (new_of w (.cells #[.string ⟨#[108, 101, 97, 102]⟩] 9)) rfl (by simp [maxLen]) (by simp)) (by intro x hx; simp at hx; subst hx; decide) (ht.same hb))
    have Hb := Lib.hid hb
    clear hb
    cases a
    all_goals
      go_enter Tryd.func46, Tryd.ntmps46
      go_wp2_with fail
      refine HM.out.mono ?_
      rintro e w2 ⟨rfl, hb2⟩
      have Hb2 := Lib.hid hb2
      clear hb2
      go_wp2
      go_ret
      exact ⟨rfl, Hb.out.next Hb2.out⟩
  · rw [List.length_map] at h0 hc ⊢
    have hcells : ∀ j u, (xs.map vS)[j]? = some u → (w.alloc (.cells #[.string ⟨#[108, 101, 97, 102]⟩] 9)).cell? ((⟨b, off, none⟩ : Addr).add j) = some u := by
      intro j u hu
      have hj : j < xs.length := by
        rcases Nat.lt_or_ge j xs.length with c | c
        · exact c
        · rw [List.getElem?_eq_none (by simpa using c)] at hu; cases hu
      rw [Addr.add_lit]
      have h1 := hc j hj
      rw [World.cell?_alloc_lt _ _ _ (World.block_lt_of_cell? w _ (h1.trans hu))]
      exact h1.trans hu
    clear hc h
    go_enter Tryd.func46, Tryd.ntmps46
    go_wp2_with (at_builtin
                 refine wpList_append_own _ rfl _ _ 32 rfl w.heap.size 9 i0 (.string ⟨#[]⟩) 1 16 Tryd.underlying32 Hi.out Hz0.out Hz1.out Hz2.out rfl (by decide) (.slice (some ⟨w.heap.size, 0, none⟩) 1 1) 1 [vS kLeaf] rfl (own_built (new_of _ _) (Nat.le_refl _) rfl (by decide)) ⟨b, off, none⟩ xs.length cap (xs.map vS) rfl (by simp) hcells (by intro u hu; obtain ⟨x, _, rfl⟩ := List.mem_map.1 hu; rfl) (by unfold maxLen; omega) (by omega) (by simp) ?_
                 intro v' w1 ho hg _
                 have hb1 : Below w.heap.size w w1 := ((Below.refl _ _).alloc (Nat.le_refl _) _).grown hg (by simp) (by simp [Value.ownBlock])
                 have hsl : IsSl v' ((kLeaf :: xs).map vS) w1 := IsSl.of_owns (base := w.heap.size) (e := 9) (by rw [List.length_map, List.length_cons, Nat.add_comm]; exact ho) (by rw [List.length_map, List.length_cons]; unfold maxLen; omega)
                 have HM := Lib.hid (mix_any v' (kLeaf :: xs) w1 hsl (by intro x hx; rcases List.mem_cons.1 hx with rfl | hx; decide; exact HL.out x hx) (ht.same hb1))
                 have Hb1 := Lib.hid hb1
                 clear ho hg hb1 hsl)
    refine HM.out.mono ?_
    rintro e w2 ⟨rfl, hb2⟩
    have Hb2 := Lib.hid hb2
    clear hb2
    go_wp2
    go_ret
    exact ⟨rfl, Hb1.out.next Hb2.out⟩

end Go.Proofs.YtdkjehagkmkokaaDoor
