/- The card of LamportSeparate is proved: for every seed, message, key and list of turns the law returns true; the conditions are those of the given row. -/
import Derived.Test.YtdkjehagkmkokaaDoorLawKit48
import Derived.Test.YtdkjehagkmkokaaDoorWkAwake48
import Derived.Test.YtdkjehagkmkokaaDoorWkRefSig2
import Derived.Test.YtdkjehagkmkokaaDoorWkRefBits
namespace Go.Proofs.YtdkjehagkmkokaaDoor.lawSeparate
open Go Go.RowKit Licit
open Go.ChangeShapes Go.WideShapes Go.ChangeAt

theorem at_bool {v : Value} {ts : List Bool} {w : World} (h : IsSl v (ts.map vB) w) {j : Nat} (hj : j < ts.length) :
    ∃ blk off cap, v = .slice (some ⟨blk, off, none⟩) ts.length cap ∧ blk < w.heap.size ∧ w.cell? ⟨blk, off + j, none⟩ = some (.bool (ts.getD j false)) := by
  obtain ⟨a, cap, rfl⟩ := h.form
  obtain ⟨blk, off, rfl, hb, hc⟩ := h.at (k := j) (by rw [List.length_map]; exact hj)
  refine ⟨blk, off, cap, by rw [List.length_map], hb, ?_⟩
  rw [hc, List.getElem_map, List.getD_eq_getElem?_getD, List.getElem?_eq_getElem hj]
  rfl

/-- What a round has: two signers with what they have used, and the two counts. -/
structure St (w5 : World) (K pa pb na nb : Nat) (seed : Bs) (b h : Nat) (tva tvb : Value) (p q n m : Nat) (w : World) : Prop where
  key : w.heap[K]? = some (.cells #[.int .i64 (b : Int), .int .i64 (h : Int)] 23)
  a : SignerIs pa seed b h tva p w
  b : SignerIs pb seed b h tvb q w
  n : w.heap[na]? = some (.cells #[.int .i64 (n : Int)] 3)
  m : w.heap[nb]? = some (.cells #[.int .i64 (m : Int)] 3)
  kept : Kept (fun k => k = pa ∨ k = pb ∨ k = na ∨ k = nb) w5 w

/-- What does not turn: the blocks differ, the rows and the tables stay. -/
structure Fix (w5 : World) (K pa pb na nb : Nat) (seed : Bs) (b h : Nat) (tva tvb : Value) : Prop where
  ka : K < pa
  ab : pa < pb
  bn : pb < na
  nm : na < nb
  rowsA : ∀ w', Kept (fun k => k = pa ∨ k = pb ∨ k = na ∨ k = nb) w5 w' → IsRows tva ((List.range (h + 1)).map (rowB seed b h)) w'
  rowsB : ∀ w', Kept (fun k => k = pa ∨ k = pb ∨ k = na ∨ k = nb) w5 w' → IsRows tvb ((List.range (h + 1)).map (rowB seed b h)) w'
  tab : ∀ w', Kept (fun k => k = pa ∨ k = pb ∨ k = na ∨ k = nb) w5 w' → Tab w'

theorem rows_slice {v : Value} {rows : List (List Bs)} {w : World} (h : IsRows v rows w) : ∃ a n cap, v = .slice a n cap := by
  obtain ⟨vs, _, hsl, _⟩ := h
  obtain ⟨a, cap, e⟩ := hsl.form
  exact ⟨a, _, cap, e⟩

section
variable {w5 w : World} {K pa pb na nb : Nat} {seed msg : Bs} {b h : Nat} {tva tvb : Value} {p q n m : Nat}
/-- One signature of a signer. -/
theorem signA (F : Fix w5 K pa pb na nb seed b h tva tvb) (S : St w5 K pa pb na nb seed b h tva tvb p q n m w) (hs : seed.length ≤ maxLen) (hm : msg.length ≤ 1000000000000) (hb : b ≤ 256) (hh : h ≤ 6) (hn : p < 2 ^ h) :
    Calls Tryd.prog 24 #[.pointer (some ⟨pa, 0, none⟩), .string (B msg)] w fun e w' => ∃ v, e = .returned (.tuple #[v, .int .i64 0]) ∧
      SigIs v (p : Int) (shownN seed (Sha.sha msg) (p : Int) b) (hiddenN seed (Sha.sha msg) (p : Int) b) (routeN seed b h p h) w' ∧ St w5 K pa pb na nb seed b h tva tvb (p + 1) q n m w' := by
  have hk : ∀ w', Kept (Licit.One pa) w w' → Kept (fun k => k = pa ∨ k = pb ∨ k = na ∨ k = nb) w5 w' := fun w' hk => S.kept.trans ((hk.mono (fun _ _ e => .inl e)))
  refine (SSign_next pa seed msg b h p tva w S.a hs hm hb hh hn (fun w' h' => F.tab w' (hk w' h')) (fun w' h' => F.rowsA w' (hk w' h')) (rows_slice (F.rowsA w S.kept))).mono ?_
  rintro e w' ⟨v, e1, e2, e3, e4⟩
  have h1 := F.ka
  have h2 := F.ab
  have h3 := F.bn
  have h4 := F.nm
  have ne : ∀ q, q ≠ pa → ¬ Licit.One pa q := fun q hq e => hq e
  refine ⟨v, e1, SigIs.of_sig e2 (by rw [shownN_len]; unfold maxLen; omega) (by rw [hiddenN_len]; unfold maxLen; omega) (by rw [routeN_len]; unfold maxLen; omega), ⟨?_, e3, ?_, ?_, ?_, hk _ e4⟩⟩
  · exact (e4.block K (lt_of S.key) (ne K (by omega))).trans S.key
  · exact (e4.block pb (lt_of (show w.heap[pb]? = _ from S.b)) (ne pb (by omega))).trans S.b
  · exact (e4.block na (lt_of S.n) (ne na (by omega))).trans S.n
  · exact (e4.block nb (lt_of S.m) (ne nb (by omega))).trans S.m
/-- One signature of a signer. -/
theorem signB (F : Fix w5 K pa pb na nb seed b h tva tvb) (S : St w5 K pa pb na nb seed b h tva tvb p q n m w) (hs : seed.length ≤ maxLen) (hm : msg.length ≤ 1000000000000) (hb : b ≤ 256) (hh : h ≤ 6) (hn : q < 2 ^ h) :
    Calls Tryd.prog 24 #[.pointer (some ⟨pb, 0, none⟩), .string (B msg)] w fun e w' => ∃ v, e = .returned (.tuple #[v, .int .i64 0]) ∧
      SigIs v (q : Int) (shownN seed (Sha.sha msg) (q : Int) b) (hiddenN seed (Sha.sha msg) (q : Int) b) (routeN seed b h q h) w' ∧ St w5 K pa pb na nb seed b h tva tvb p (q + 1) n m w' := by
  have hk : ∀ w', Kept (Licit.One pb) w w' → Kept (fun k => k = pa ∨ k = pb ∨ k = na ∨ k = nb) w5 w' := fun w' hk => S.kept.trans ((hk.mono (fun _ _ e => .inr (.inl e))))
  refine (SSign_next pb seed msg b h q tvb w S.b hs hm hb hh hn (fun w' h' => F.tab w' (hk w' h')) (fun w' h' => F.rowsB w' (hk w' h')) (rows_slice (F.rowsB w S.kept))).mono ?_
  rintro e w' ⟨v, e1, e2, e3, e4⟩
  have h1 := F.ka
  have h2 := F.ab
  have h3 := F.bn
  have h4 := F.nm
  have ne : ∀ q, q ≠ pb → ¬ Licit.One pb q := fun q hq e => hq e
  refine ⟨v, e1, SigIs.of_sig e2 (by rw [shownN_len]; unfold maxLen; omega) (by rw [hiddenN_len]; unfold maxLen; omega) (by rw [routeN_len]; unfold maxLen; omega), ⟨?_, ?_, e3, ?_, ?_, hk _ e4⟩⟩
  · exact (e4.block K (lt_of S.key) (ne K (by omega))).trans S.key
  · exact (e4.block pa (lt_of (show w.heap[pa]? = _ from S.a)) (ne pa (by omega))).trans S.a
  · exact (e4.block na (lt_of S.n) (ne na (by omega))).trans S.n
  · exact (e4.block nb (lt_of S.m) (ne nb (by omega))).trans S.m
/-- All stays, where only new memory is made. -/
theorem St.below (S : St w5 K pa pb na nb seed b h tva tvb p q n m w) {w' : World} (hb : Below w.heap.size w w') : St w5 K pa pb na nb seed b h tva tvb p q n m w' :=
  ⟨(hb.block K (lt_of S.key)).trans S.key, (hb.block pa (lt_of (show w.heap[pa]? = _ from S.a))).trans S.a, (hb.block pb (lt_of (show w.heap[pb]? = _ from S.b))).trans S.b,
    (hb.block na (lt_of S.n)).trans S.n, (hb.block nb (lt_of S.m)).trans S.m, S.kept.trans (Kept.of_below hb)⟩
/-- A count is set. -/
theorem St.setN (F : Fix w5 K pa pb na nb seed b h tva tvb) (S : St w5 K pa pb na nb seed b h tva tvb p q n m w) (x : Nat) : St w5 K pa pb na nb seed b h tva tvb p q x m (w.setCell ⟨na, 0, none⟩ (.int .i64 (x : Int))) := by
  have h1 := F.ka
  have h2 := F.ab
  have h3 := F.bn
  have h4 := F.nm
  exact ⟨set_other (p := ⟨na, 0, none⟩) S.key (by show K ≠ na; omega), set_other (p := ⟨na, 0, none⟩) S.a (by show pa ≠ na; omega), set_other (p := ⟨na, 0, none⟩) S.b (by show pb ≠ na; omega), set_of S.n 0 _, set_other (p := ⟨na, 0, none⟩) S.m (by show nb ≠ na; omega), S.kept.trans ((kept_set na 0 w _).mono (fun _ _ e => .inr (.inr (.inl e))))⟩
/-- A count is set. -/
theorem St.setM (F : Fix w5 K pa pb na nb seed b h tva tvb) (S : St w5 K pa pb na nb seed b h tva tvb p q n m w) (x : Nat) : St w5 K pa pb na nb seed b h tva tvb p q n x (w.setCell ⟨nb, 0, none⟩ (.int .i64 (x : Int))) := by
  have h1 := F.ka
  have h2 := F.ab
  have h3 := F.bn
  have h4 := F.nm
  exact ⟨set_other (p := ⟨nb, 0, none⟩) S.key (by show K ≠ nb; omega), set_other (p := ⟨nb, 0, none⟩) S.a (by show pa ≠ nb; omega), set_other (p := ⟨nb, 0, none⟩) S.b (by show pb ≠ nb; omega), set_other (p := ⟨nb, 0, none⟩) S.n (by show na ≠ nb; omega), set_of S.m 0 _, S.kept.trans ((kept_set nb 0 w _).mono (fun _ _ e => .inr (.inr (.inr e))))⟩
end

theorem check_ok {R seed msg : Bs} {b h n : Nat} {v : Value} {W : World} (hR : rootB seed b h = R) (hk : keyOk (b : Int) (h : Int) = true) (hm : msg.length ≤ 1000000000000) (hn : n < 2 ^ h)
    (hv : SigIs v (n : Int) (shownN seed (Sha.sha msg) (n : Int) b) (hiddenN seed (Sha.sha msg) (n : Int) b) (routeN seed b h n h) W) (ht : Tab W) :
    Calls Tryd.prog 19 #[.string (B R), .agg #[.int .i64 (b : Int), .int .i64 (h : Int)], .string (B msg), v] W fun e w' => e = .returned (.int .i64 0) ∧ Below W.heap.size W w' := by
  have h1 := Check_any R msg (b : Int) (h : Int) v (n : Int) _ _ _ W hm hv ht
  have e : checkB R (b : Int) (h : Int) msg (n : Int) (shownN seed (Sha.sha msg) (n : Int) b) (hiddenN seed (Sha.sha msg) (n : Int) b) (routeN seed b h n h) = 0 := by
    rw [← hR]
    exact check_signed seed msg msg b h n hk hn (fun _ _ => rfl)
  rw [e] at h1
  exact h1

set_option maxHeartbeats 8000000 in
set_option maxRecDepth 100000 in
theorem walk (seed msg : Bs) (b h : Int) (tv : Value) (ts : List Bool) (w : World) (hs : seed.length ≤ maxLen) (hts : IsSl tv (ts.map vB) w) (ht : Tab w) :
    Calls Tryd.prog 6 #[.string (B seed), .string (B msg), .agg #[.int .i64 b, .int .i64 h], tv] w fun e w' => e = .returned (.bool true) ∧ Below w.heap.size w w' := by
  have HL := Lib.hid (fun W => Light_any seed b h W)
  have HA := Lib.hid (fun W (hT : Tab W) => awake_any48 W hT)
  obtain ⟨l, hl⟩ : ∃ l, lightB seed b h = l := ⟨_, rfl⟩
  rw [hl] at HL
  have hmz : ((B msg).size : Int) = (msg.length : Int) := rfl
  have htl := hts.1
  rw [List.length_map] at htl
  unfold maxLen at htl
  obtain ⟨ta, tc, rfl⟩ := hts.formMap
  have HTS := Lib.hid hts
  clear hl hts
  go_enter Tryd.func6, Tryd.ntmps6
  go_wp2_with fail
  refine (HA.out _ (ht.same ((Below.refl _ _).alloc (Nat.le_refl _) _))).mono ?_
  rintro e w1 ⟨rfl, hb⟩
  have hk1 : w1.heap[w.heap.size]? = some (.cells #[.int .i64 b, .int .i64 h] 23) := (hb.block _ (by simp)).trans (new_of _ _)
  have hb1 := ((Below.refl w.heap.size w).alloc (Nat.le_refl _) _).next hb
  have Hk1 := Lib.hid hk1
  have Hb1 := Lib.hid hb1
  obtain ⟨k0, k1⟩ := keyC hk1
  clear hb hb1 hk1
  go_wp2_with fail
  refine (HL.out _).mono ?_
  rintro e w2 ⟨rfl, hb⟩
  have hk2 := (hb.block _ (lt_of Hk1.out)).trans Hk1.out
  have Hk2 := Lib.hid hk2
  have hb2 := Hb1.out.next hb
  have ht2 := ht.same hb2
  have Hb2 := Lib.hid hb2
  clear k0 k1
  obtain ⟨k0, k1⟩ := keyC hk2
  clear hb hb2 hk2
  cases l with
  | false =>
    go_wp2_with fail
    refine (HA.out _ ht2).mono ?_
    rintro e w9 ⟨rfl, hb⟩
    have Hb9 := Lib.hid (Hb2.out.next hb)
    clear hb
    go_wp2
    go_ret
    exact ⟨rfl, Hb9.out⟩
  | true =>
    by_cases hm : 200 < msg.length
    · have d1 : decide (200 < (msg.length : Int)) = true := by simp; omega
      go_wp2_with fail
      refine (HA.out _ ht2).mono ?_
      rintro e w9 ⟨rfl, hb⟩
      have Hb9 := Lib.hid (Hb2.out.next hb)
      clear hb
      go_wp2
      go_ret
      exact ⟨rfl, Hb9.out⟩
    · have d1 : decide (200 < (msg.length : Int)) = false := by simp; omega
      by_cases hl8 : 8 < ts.length
      · have d2 : decide (8 < (ts.length : Int)) = true := by simp; omega
        go_wp2_with fail
        refine (HA.out _ ht2).mono ?_
        rintro e w9 ⟨rfl, hb⟩
        have Hb9 := Lib.hid (Hb2.out.next hb)
        clear hb
        go_wp2
        go_ret
        exact ⟨rfl, Hb9.out⟩
      · have d2 : decide (8 < (ts.length : Int)) = false := by simp; omega
        cases hk : keyOk b h with
        | false =>
          have HV := Lib.hid (fun W => RValid_no b h W hk)
          go_wp2_with fail
          refine (HV.out _).mono ?_
          rintro e w3 ⟨rfl, hb⟩
          have ht3 := ht2.same hb
          have Hb3 := Lib.hid (Hb2.out.next hb)
          clear hb
          go_wp2_with fail
          refine (HA.out _ ht3).mono ?_
          rintro e w9 ⟨rfl, hb⟩
          have Hb9 := Lib.hid (Hb3.out.next hb)
          clear hb
          go_wp2
          go_ret
          exact ⟨rfl, Hb9.out⟩
        | true =>
          have hk' : 8 ≤ b ∧ b ≤ 256 ∧ 0 ≤ h ∧ h ≤ 6 := by simpa [keyOk] using hk
          obtain ⟨b, rfl⟩ : ∃ n : Nat, b = (n : Int) := ⟨b.toNat, by omega⟩
          obtain ⟨h, rfl⟩ : ∃ n : Nat, h = (n : Int) := ⟨h.toNat, by omega⟩
          have hb : b ≤ 256 := by omega
          have hh : h ≤ 6 := by omega
          have HV := Lib.hid (fun W => RValid_yes (b : Int) (h : Int) W hk)
          have HCnt := Lib.hid (fun W => RCount_any (b : Int) h W hh)
          obtain ⟨N, hN, _, _, h64, _⟩ := pow_facts hh
          rw [hN] at HCnt
          have HN := Lib.hid hN
          obtain ⟨R, hR⟩ : ∃ R, rootB seed b h = R := ⟨_, rfl⟩
          have HRt := Lib.hid (fun W hT => Root_any seed b h W hs hk hT)
          rw [hR] at HRt
          have HR := Lib.hid hR
          clear hk' hN hR
          go_wp2_with fail
          refine (HV.out _).mono ?_
          rintro e w3 ⟨rfl, hb3⟩
          have hk3 := (hb3.block _ (lt_of Hk2.out)).trans Hk2.out
          have Hk3 := Lib.hid hk3
          have ht3 := ht2.same hb3
          have Hb3 := Lib.hid (Hb2.out.next hb3)
          clear k0 k1
          obtain ⟨k0, k1⟩ := keyC hk3
          clear hb3 hk3
          go_wp2_with fail
          refine (NewS_any seed b h w3 hs hk ht3).mono ?_
          rintro e w4 ⟨pa, tva, rfl, hpa, hsa, hra, hb4⟩
          have hk4 := (hb4.block _ (lt_of Hk3.out)).trans Hk3.out
          have Hk4 := Lib.hid hk4
          have ht4 := ht3.same hb4
          have Hb4 := Lib.hid (Hb3.out.next hb4)
          have HSA := Lib.hid hsa
          have HRA := Lib.hid hra
          clear k0 k1
          obtain ⟨k0, k1⟩ := keyC hk4
          clear hb4 hk4 hsa hra
          go_wp2_with fail
          refine (NewS_any seed b h w4 hs hk ht4).mono ?_
          rintro e w5 ⟨pb, tvb, rfl, hpb, hsb, hrb, hb5⟩
          have hk5 := (hb5.block _ (lt_of Hk4.out)).trans Hk4.out
          have Hk5 := Lib.hid hk5
          have ht5 := ht4.same hb5
          have HB5 := Lib.hid hb5
          have Hb5 := Lib.hid (Hb4.out.next hb5)
          have HSB := Lib.hid hsb
          have HRB := Lib.hid hrb
          clear k0 k1
          obtain ⟨k0, k1⟩ := keyC hk5
          clear hb5 hk5 hsb hrb
          go_wp2_with fail
          refine (HRt.out _ ht5).mono ?_
          rintro e w6 ⟨rfl, hb6⟩
          obtain ⟨W5, hW5⟩ : ∃ W5, (w6.alloc (.cells #[.int .i64 0] 3)).alloc (.cells #[.int .i64 0] 3) = W5 := ⟨_, rfl⟩
          have hB6 : Below w6.heap.size w6 W5 := by rw [← hW5]; exact ((Below.refl _ _).alloc (Nat.le_refl _) _).alloc (by simp) _
          have hB5 : Below w5.heap.size w5 W5 := hb6.next hB6
          have hB4 : Below w4.heap.size w4 W5 := HB5.out.next hB5
          have hza : pa < w4.heap.size := lt_of (show w4.heap[pa]? = _ from HSA.out)
          have hzb : pb < w5.heap.size := lt_of (show w5.heap[pb]? = _ from HSB.out)
          have hzk : w.heap.size < w3.heap.size := lt_of Hk3.out
          have hz6 : w5.heap.size ≤ w6.heap.size := hb6.size
          have hz5 : w4.heap.size ≤ w5.heap.size := HB5.out.size
          have hBW := Hb5.out.next hB5
          have hzw := hBW.size
          have FX := Lib.hid (show Fix W5 w.heap.size pa pb w6.heap.size (w6.heap.size + 1) seed b h tva tvb from ⟨by omega, by omega, by omega, by omega,
            fun w' hk' => HRA.out _ _ ((Kept.of_below hB4).trans hk') (fun q h1 h2 h3 h4 => by rcases h4 with e | e | e | e <;> omega),
            fun w' hk' => HRB.out _ _ ((Kept.of_below hB5).trans hk') (fun q h1 h2 h3 h4 => by rcases h4 with e | e | e | e <;> omega),
            fun w' hk' => ht.same (hBW.trans (hk'.below hzw (fun q hq e => by rcases e with e | e | e | e <;> omega)))⟩)
          have hBF : ∀ w', Kept (fun k => k = pa ∨ k = pb ∨ k = w6.heap.size ∨ k = w6.heap.size + 1) W5 w' → Below w.heap.size w w' := fun w' hk' => hBW.trans (hk'.below hzw (fun q hq e => by rcases e with e | e | e | e <;> omega))
          have HBF := Lib.hid hBF
          have ST5 := Lib.hid (show St W5 w.heap.size pa pb w6.heap.size (w6.heap.size + 1) seed b h tva tvb 0 0 0 0 W5 from ⟨(hB5.block _ (lt_of Hk5.out)).trans Hk5.out, (hB4.block _ hza).trans HSA.out, (hB5.block _ hzb).trans HSB.out,
            by rw [← hW5]; exact old_of (new_of _ _), by rw [← hW5]; exact new_at (by simp) rfl, Kept.refl _ _⟩)
          obtain ⟨na, hna⟩ : ∃ na, w6.heap.size = na := ⟨_, rfl⟩
          obtain ⟨nb, hnb⟩ : ∃ nb, na + 1 = nb := ⟨_, rfl⟩
          rw [hna, hnb] at FX ST5 HBF
          have HW5 := Lib.hid hW5
          have HNA := Lib.hid hna
          have HNB := Lib.hid hnb
          clear hb6 hB6 hB5 hB4 hBW hzw hBF k0 k1 hW5 hna hnb
          go_wp2
          rw [HW5.out, HNA.out, HNB.out]
          go_loopw [85] (fun i' wr => ∃ k n m : Nat, k ≤ ts.length ∧ i' = .int .i64 k ∧ n ≤ N ∧ m ≤ N ∧ St W5 w.heap.size pa pb na nb seed b h tva tvb n m n m wr) (fun i' _ => ts.length - (intOf i').toNat)
          case atStart => exact ⟨0, 0, 0, by omega, rfl, by omega, by omega, ST5.out⟩
          case round =>
            obtain ⟨k, n, m, hkk, rfl, hn, hm', hst⟩ := hrel
            have ST := Lib.hid hst
            clear hst ST5
            by_cases hlt : k < ts.length
            · obtain ⟨blk, off, cap, hv, hbl, hct⟩ := at_bool (HTS.out.below (HBF.out _ ST.out.kept)) hlt
              simp only [Value.slice.injEq, true_and] at hv
              obtain ⟨rfl, rfl⟩ := hv
              have hki : (k : Int) < (ts.length : Int) := by omega
              cases ht' : ts.getD k false with
              | false =>
                rw [ht'] at hct
                have hcn := cell_of ST.out.n 0
                simp only [List.getElem?_toArray, List.getElem?_cons_zero] at hcn
                by_cases hfull : n = N
                · have hSf : SignerIs pa seed b h tva (2 ^ h) wr := by rw [HN.out, ← hfull]; exact ST.out.a
                  have HSf := Lib.hid hSf
                  have hq : ((n : Int) == (N : Int)) = true := by simp; omega
                  have hqe : (n : Int) = (N : Int) := by omega
                  clear hSf hfull
                  go_wp2_with fail
                  refine (SSign_full pa seed msg b h tva _ HSf.out hh).mono ?_
                  rintro e w6 ⟨rfl, hb6⟩
                  have ST6 := Lib.hid ((ST.out.below hb6).below ((Below.refl _ _).alloc (Nat.le_refl _) (.cells #[.int .i64 0, .slice none 0 0, .slice none 0 0, .slice none 0 0] 34)))
                  clear hb6 hcn
                  go_wp2
                  obtain ⟨W6, hW6⟩ : ∃ W6, w6.alloc (.cells #[.int .i64 0, .slice none 0 0, .slice none 0 0, .slice none 0 0] 34) = W6 := ⟨_, rfl⟩
                  rw [hW6] at ST6 ⊢
                  clear hW6
                  refine wp_region_held_drew (S := (fun W : World => (W.cell? ⟨w.heap.size, 0, none⟩ = some (.int .i64 (b : Int)) ∧ W.cell? ⟨w.heap.size, 1, none⟩ = some (.int .i64 (h : Int))) ∧ W.cell? ⟨na, 0, none⟩ = some (.int .i64 (n : Int)))) (by kernel_rfl) ⟨keyC (w := W6) ST6.out.key, cell_of (w := W6) ST6.out.n 0⟩ (fun hHeld => ?_)
                  refine take_at 0 98 (oi := ?o1) (v := ?v1) ?hi1 ?hd1 (by kernel_rfl) (by kernel_rfl) (by kernel_rfl) ?hQ1 ?hw1 ?hy1 (by assumption) ?rest1
                  case hi1 => simp only [List.getElem?_toArray, List.getElem?_cons_zero]; rfl
                  case hd1 => rfl
                  case hw1 => kernel_rfl
                  case hy1 => intro W hW; (try dsimp only at hW); go_simp <;> with_reducible rfl
                  case hQ1 => exact fun _ _ _ h => h
                  try simp only [Act.put, List.setIfInBounds_toArray, List.set_cons_zero, List.set_cons_succ]
                  refine take_at 1 99 (oi := ?o2) (v := ?v2) ?hi2 ?hd2 (by kernel_rfl) (by kernel_rfl) (by kernel_rfl) ?hQ2 ?hw2 ?hy2 (by assumption) ?rest2
                  case hi2 => simp only [List.getElem?_toArray, List.getElem?_cons_succ, List.getElem?_cons_zero]; rfl
                  case hd2 => rfl
                  case hw2 => kernel_rfl
                  case hy2 => intro W hW; (try dsimp only at hW); go_simp <;> with_reducible rfl
                  case hQ2 => exact fun _ _ _ h => h
                  try simp only [Act.put, List.setIfInBounds_toArray, List.set_cons_zero, List.set_cons_succ]
                  refine take_at 2 100 (oi := ?o3) (v := ?v3) ?hi3 ?hd3 (by kernel_rfl) (by kernel_rfl) (by kernel_rfl) ?hQ3 ?hw3 ?hy3 (by assumption) ?rest3
                  case hi3 => simp only [List.getElem?_toArray, List.getElem?_cons_succ, List.getElem?_cons_zero]; rfl
                  case hd3 => rfl
                  case hw3 => kernel_rfl
                  case hy3 => intro W hW; (try dsimp only at hW); go_simp <;> with_reducible rfl
                  case hQ3 => exact fun _ _ _ h => h
                  try simp only [Act.put, List.setIfInBounds_toArray, List.set_cons_zero, List.set_cons_succ]
                  refine take_at 3 101 (oi := ?o4) (v := ?v4) ?hi4 ?hd4 (by kernel_rfl) (by kernel_rfl) (by kernel_rfl) ?hQ4 ?hw4 ?hy4 (by assumption) ?rest4
                  case hi4 => simp only [List.getElem?_toArray, List.getElem?_cons_succ, List.getElem?_cons_zero]; rfl
                  case hd4 => rfl
                  case hw4 => kernel_rfl
                  case hy4 => intro W hW; (try dsimp only at hW); go_simp <;> with_reducible rfl
                  case hQ4 => exact fun _ _ _ h => h
                  try simp only [Act.put, List.setIfInBounds_toArray, List.set_cons_zero, List.set_cons_succ]
                  refine wpAnyH_ready (rs := [4]) (by kernel_rfl) (by simp) ?_
                  refine AllReadyH.cons rfl (fun K hK => ?_) AllReadyH.nil
                  go_simp
                  refine (HCnt.out _).mono ?_
                  rintro e w7 ⟨rfl, hb7'⟩
                  have hb7 : Below W6.heap.size W6 w7 := ⟨hb7'.os, hb7'.tape, hb7'.output, hb7'.size, hb7'.block⟩
                  have ST7 := Lib.hid (ST6.out.below hb7)
                  clear hb7 hb7' hHeld
                  go_wp2_with fail
                  refine hK.out _ _ ⟨keyC (w := w7) ST7.out.key, cell_of (w := w7) ST7.out.n 0⟩ (fun hHeld => ?_)
                  clear hK K
                  try simp only [Act.put, List.setIfInBounds_toArray, List.set_cons_zero, List.set_cons_succ]
                  refine take_at 5 103 (oi := ?o5) (v := ?v5) ?hi5 ?hd5 (by kernel_rfl) (by kernel_rfl) (by kernel_rfl) ?hQ5 ?hw5 ?hy5 (by assumption) ?rest5
                  case hi5 => simp only [List.getElem?_toArray, List.getElem?_cons_succ, List.getElem?_cons_zero]; rfl
                  case hd5 => rfl
                  case hw5 => kernel_rfl
                  case hy5 => intro W hW; (try dsimp only at hW); go_simp <;> with_reducible rfl
                  case hQ5 => exact fun _ _ _ h => h
                  try simp only [Act.put, List.setIfInBounds_toArray, List.set_cons_zero, List.set_cons_succ]
                  refine wpAnyH_done (by kernel_rfl) ?_ _
                  simp only [Exit.then]
                  clear hHeld
                  go_wp2
                  go_roundw
                  case rel => exact ⟨k + 1, n, m, by omega, by go_num, by omega, by omega, ST7.out⟩
                  case measure => simp [intOf]; omega
                · have hlt' : n < 2 ^ h := by rw [HN.out]; omega
                  have hqe : ((n : Int) == (N : Int)) = false := by simp; omega
                  obtain ⟨n1, hn1⟩ : ∃ n1, n + 1 = n1 := ⟨_, rfl⟩
                  have hw1 : IntKind.i64.wrap ((n : Int) + 1) = (n1 : Int) := by rw [IntKind.wrap_i64]; omega
                  have hw2 : (n : Int) + 1 = (n1 : Int) := by omega
                  have HN1 := Lib.hid hn1
                  have HL' := Lib.hid hlt'
                  clear hlt' hfull hn1
                  go_wp2_with fail
                  refine (signA FX.out ST.out hs (by omega) hb hh HL'.out).mono ?_
                  rintro e w6 ⟨v, rfl, hv6, hst6⟩
                  have HV6 := Lib.hid hv6
                  obtain ⟨vs, vh, vr, rfl, o1, o2, o3⟩ := hv6
                  obtain ⟨sa, sc, rfl⟩ := o1.formMap
                  obtain ⟨ha, hc, rfl⟩ := o2.formMap
                  obtain ⟨ra, rc, rfl⟩ := o3.formMap
                  rw [shownN_len, hiddenN_len, routeN_len] at HV6 ⊢
                  obtain ⟨W6, hW6⟩ : ∃ W6, w6.alloc (.cells #[.int .i64 (n : Int), .slice sa b sc, .slice ha b hc, .slice ra h rc] 34) = W6 := ⟨_, rfl⟩
                  have hb6 : Below w6.heap.size w6 W6 := by rw [← hW6]; exact (Below.refl _ _).alloc (Nat.le_refl _) _
                  have ST6 := Lib.hid (hst6.below hb6)
                  have HX6 := Lib.hid (show W6.heap[w6.heap.size]? = some (.cells #[.int .i64 (n : Int), .slice sa b sc, .slice ha b hc, .slice ra h rc] 34) by rw [← hW6]; exact new_of _ _)
                  have HV6 := Lib.hid (HV6.out.below hb6)
                  obtain ⟨X, hX⟩ : ∃ X, w6.heap.size = X := ⟨_, rfl⟩
                  rw [hX] at HX6
                  have HW6 := Lib.hid hW6
                  have HXe := Lib.hid hX
                  clear o1 o2 o3 hb6 hst6 hcn hW6 hX
                  go_wp2
                  rw [HW6.out, HXe.out]
                  refine wp_region_held_drew (S := (fun W : World => (W.cell? ⟨w.heap.size, 0, none⟩ = some (.int .i64 (b : Int)) ∧ W.cell? ⟨w.heap.size, 1, none⟩ = some (.int .i64 (h : Int))) ∧ W.cell? ⟨na, 0, none⟩ = some (.int .i64 (n : Int)))) (by kernel_rfl) ⟨keyC (w := W6) ST6.out.key, cell_of (w := W6) ST6.out.n 0⟩ (fun hHeld => ?_)
                  refine take_at 0 98 (oi := ?o6) (v := ?v6) ?hi6 ?hd6 (by kernel_rfl) (by kernel_rfl) (by kernel_rfl) ?hQ6 ?hw6 ?hy6 (by assumption) ?rest6
                  case hi6 => simp only [List.getElem?_toArray, List.getElem?_cons_zero]; rfl
                  case hd6 => rfl
                  case hw6 => kernel_rfl
                  case hy6 => intro W hW; (try dsimp only at hW); go_simp <;> with_reducible rfl
                  case hQ6 => exact fun _ _ _ h => h
                  try simp only [Act.put, List.setIfInBounds_toArray, List.set_cons_zero, List.set_cons_succ]
                  refine take_at 1 99 (oi := ?o7) (v := ?v7) ?hi7 ?hd7 (by kernel_rfl) (by kernel_rfl) (by kernel_rfl) ?hQ7 ?hw7 ?hy7 (by assumption) ?rest7
                  case hi7 => simp only [List.getElem?_toArray, List.getElem?_cons_succ, List.getElem?_cons_zero]; rfl
                  case hd7 => rfl
                  case hw7 => kernel_rfl
                  case hy7 => intro W hW; (try dsimp only at hW); go_simp <;> with_reducible rfl
                  case hQ7 => exact fun _ _ _ h => h
                  try simp only [Act.put, List.setIfInBounds_toArray, List.set_cons_zero, List.set_cons_succ]
                  refine take_at 2 100 (oi := ?o8) (v := ?v8) ?hi8 ?hd8 (by kernel_rfl) (by kernel_rfl) (by kernel_rfl) ?hQ8 ?hw8 ?hy8 (by assumption) ?rest8
                  case hi8 => simp only [List.getElem?_toArray, List.getElem?_cons_succ, List.getElem?_cons_zero]; rfl
                  case hd8 => rfl
                  case hw8 => kernel_rfl
                  case hy8 => intro W hW; (try dsimp only at hW); go_simp <;> with_reducible rfl
                  case hQ8 => exact fun _ _ _ h => h
                  try simp only [Act.put, List.setIfInBounds_toArray, List.set_cons_zero, List.set_cons_succ]
                  refine take_at 3 101 (oi := ?o9) (v := ?v9) ?hi9 ?hd9 (by kernel_rfl) (by kernel_rfl) (by kernel_rfl) ?hQ9 ?hw9 ?hy9 (by assumption) ?rest9
                  case hi9 => simp only [List.getElem?_toArray, List.getElem?_cons_succ, List.getElem?_cons_zero]; rfl
                  case hd9 => rfl
                  case hw9 => kernel_rfl
                  case hy9 => intro W hW; (try dsimp only at hW); go_simp <;> with_reducible rfl
                  case hQ9 => exact fun _ _ _ h => h
                  try simp only [Act.put, List.setIfInBounds_toArray, List.set_cons_zero, List.set_cons_succ]
                  refine wpAnyH_ready (rs := [4]) (by kernel_rfl) (by simp) ?_
                  refine AllReadyH.cons rfl (fun K hK => ?_) AllReadyH.nil
                  go_simp
                  refine (HCnt.out _).mono ?_
                  rintro e w7 ⟨rfl, hb7'⟩
                  have hb7 : Below W6.heap.size W6 w7 := ⟨hb7'.os, hb7'.tape, hb7'.output, hb7'.size, hb7'.block⟩
                  have ST7 := Lib.hid (ST6.out.below hb7)
                  have HX7 := Lib.hid ((hb7.block _ (lt_of HX6.out)).trans HX6.out)
                  have HV7 := Lib.hid (HV6.out.below hb7)
                  clear hb7 hb7' hHeld
                  go_wp2_with fail
                  refine hK.out _ _ ⟨keyC (w := w7) ST7.out.key, cell_of (w := w7) ST7.out.n 0⟩ (fun hHeld => ?_)
                  clear hK K
                  try simp only [Act.put, List.setIfInBounds_toArray, List.set_cons_zero, List.set_cons_succ]
                  refine take_at 5 103 (oi := ?o10) (v := ?v10) ?hi10 ?hd10 (by kernel_rfl) (by kernel_rfl) (by kernel_rfl) ?hQ10 ?hw10 ?hy10 (by assumption) ?rest10
                  case hi10 => simp only [List.getElem?_toArray, List.getElem?_cons_succ, List.getElem?_cons_zero]; rfl
                  case hd10 => rfl
                  case hw10 => kernel_rfl
                  case hy10 => intro W hW; (try dsimp only at hW); go_simp <;> with_reducible rfl
                  case hQ10 => exact fun _ _ _ h => h
                  try simp only [Act.put, List.setIfInBounds_toArray, List.set_cons_zero, List.set_cons_succ]
                  refine wpAnyH_done (by kernel_rfl) ?_ _
                  simp only [Exit.then]
                  clear hHeld
                  go_wp2
                  refine wp_region_held_drew (S := (fun W : World => ((W.cell? ⟨w.heap.size, 0, none⟩ = some (.int .i64 (b : Int)) ∧ W.cell? ⟨w.heap.size, 1, none⟩ = some (.int .i64 (h : Int))) ∧ W.cell? ⟨na, 0, none⟩ = some (.int .i64 (n : Int))) ∧ W.cell? ⟨X, 0, none⟩ = some (.int .i64 (n : Int)) ∧ W.cell? ⟨X, 1, none⟩ = some (.slice sa b sc) ∧ W.cell? ⟨X, 2, none⟩ = some (.slice ha b hc) ∧ W.cell? ⟨X, 3, none⟩ = some (.slice ra h rc))) (by kernel_rfl) ⟨⟨keyC (w := w7) ST7.out.key, cell_of (w := w7) ST7.out.n 0⟩, sigC (w := w7) HX7.out⟩ (fun hHeld => ?_)
                  refine take_at 0 106 (oi := ?o11) (v := ?v11) ?hi11 ?hd11 (by kernel_rfl) (by kernel_rfl) (by kernel_rfl) ?hQ11 ?hw11 ?hy11 (by assumption) ?rest11
                  case hi11 => simp only [List.getElem?_toArray, List.getElem?_cons_zero]; rfl
                  case hd11 => rfl
                  case hw11 => kernel_rfl
                  case hy11 => intro W hW; (try dsimp only at hW); go_simp <;> with_reducible rfl
                  case hQ11 => exact fun _ _ _ h => h
                  try simp only [Act.put, List.setIfInBounds_toArray, List.set_cons_zero, List.set_cons_succ]
                  refine take_at 1 107 (oi := ?o12) (v := ?v12) ?hi12 ?hd12 (by kernel_rfl) (by kernel_rfl) (by kernel_rfl) ?hQ12 ?hw12 ?hy12 (by assumption) ?rest12
                  case hi12 => simp only [List.getElem?_toArray, List.getElem?_cons_succ, List.getElem?_cons_zero]; rfl
                  case hd12 => rfl
                  case hw12 => kernel_rfl
                  case hy12 => intro W hW; (try dsimp only at hW); go_simp <;> with_reducible rfl
                  case hQ12 => exact fun _ _ _ h => h
                  try simp only [Act.put, List.setIfInBounds_toArray, List.set_cons_zero, List.set_cons_succ]
                  refine take_at 2 108 (oi := ?o13) (v := ?v13) ?hi13 ?hd13 (by kernel_rfl) (by kernel_rfl) (by kernel_rfl) ?hQ13 ?hw13 ?hy13 (by assumption) ?rest13
                  case hi13 => simp only [List.getElem?_toArray, List.getElem?_cons_succ, List.getElem?_cons_zero]; rfl
                  case hd13 => rfl
                  case hw13 => kernel_rfl
                  case hy13 => intro W hW; (try dsimp only at hW); go_simp <;> with_reducible rfl
                  case hQ13 => exact fun _ _ _ h => h
                  try simp only [Act.put, List.setIfInBounds_toArray, List.set_cons_zero, List.set_cons_succ]
                  refine take_at 3 109 (oi := ?o14) (v := ?v14) ?hi14 ?hd14 (by kernel_rfl) (by kernel_rfl) (by kernel_rfl) ?hQ14 ?hw14 ?hy14 (by assumption) ?rest14
                  case hi14 => simp only [List.getElem?_toArray, List.getElem?_cons_succ, List.getElem?_cons_zero]; rfl
                  case hd14 => rfl
                  case hw14 => kernel_rfl
                  case hy14 => intro W hW; (try dsimp only at hW); go_simp <;> with_reducible rfl
                  case hQ14 => exact fun _ _ _ h => h
                  try simp only [Act.put, List.setIfInBounds_toArray, List.set_cons_zero, List.set_cons_succ]
                  refine take_at 4 110 (oi := ?o15) (v := ?v15) ?hi15 ?hd15 (by kernel_rfl) (by kernel_rfl) (by kernel_rfl) ?hQ15 ?hw15 ?hy15 (by assumption) ?rest15
                  case hi15 => simp only [List.getElem?_toArray, List.getElem?_cons_succ, List.getElem?_cons_zero]; rfl
                  case hd15 => rfl
                  case hw15 => kernel_rfl
                  case hy15 => intro W hW; (try dsimp only at hW); go_simp <;> with_reducible rfl
                  case hQ15 => exact fun _ _ _ h => h
                  try simp only [Act.put, List.setIfInBounds_toArray, List.set_cons_zero, List.set_cons_succ]
                  refine take_at 5 111 (oi := ?o16) (v := ?v16) ?hi16 ?hd16 (by kernel_rfl) (by kernel_rfl) (by kernel_rfl) ?hQ16 ?hw16 ?hy16 (by assumption) ?rest16
                  case hi16 => simp only [List.getElem?_toArray, List.getElem?_cons_succ, List.getElem?_cons_zero]; rfl
                  case hd16 => rfl
                  case hw16 => kernel_rfl
                  case hy16 => intro W hW; (try dsimp only at hW); go_simp <;> with_reducible rfl
                  case hQ16 => exact fun _ _ _ h => h
                  try simp only [Act.put, List.setIfInBounds_toArray, List.set_cons_zero, List.set_cons_succ]
                  refine take_at 6 112 (oi := ?o17) (v := ?v17) ?hi17 ?hd17 (by kernel_rfl) (by kernel_rfl) (by kernel_rfl) ?hQ17 ?hw17 ?hy17 (by assumption) ?rest17
                  case hi17 => simp only [List.getElem?_toArray, List.getElem?_cons_succ, List.getElem?_cons_zero]; rfl
                  case hd17 => rfl
                  case hw17 => kernel_rfl
                  case hy17 => intro W hW; (try dsimp only at hW); go_simp <;> with_reducible rfl
                  case hQ17 => exact fun _ _ _ h => h
                  try simp only [Act.put, List.setIfInBounds_toArray, List.set_cons_zero, List.set_cons_succ]
                  refine take_at 7 113 (oi := ?o18) (v := ?v18) ?hi18 ?hd18 (by kernel_rfl) (by kernel_rfl) (by kernel_rfl) ?hQ18 ?hw18 ?hy18 (by assumption) ?rest18
                  case hi18 => simp only [List.getElem?_toArray, List.getElem?_cons_succ, List.getElem?_cons_zero]; rfl
                  case hd18 => rfl
                  case hw18 => kernel_rfl
                  case hy18 => intro W hW; (try dsimp only at hW); go_simp <;> with_reducible rfl
                  case hQ18 => exact fun _ _ _ h => h
                  try simp only [Act.put, List.setIfInBounds_toArray, List.set_cons_zero, List.set_cons_succ]
                  refine take_at 8 114 (oi := ?o19) (v := ?v19) ?hi19 ?hd19 (by kernel_rfl) (by kernel_rfl) (by kernel_rfl) ?hQ19 ?hw19 ?hy19 (by assumption) ?rest19
                  case hi19 => simp only [List.getElem?_toArray, List.getElem?_cons_succ, List.getElem?_cons_zero]; rfl
                  case hd19 => rfl
                  case hw19 => kernel_rfl
                  case hy19 => intro W hW; (try dsimp only at hW); go_simp <;> with_reducible rfl
                  case hQ19 => exact fun _ _ _ h => h
                  try simp only [Act.put, List.setIfInBounds_toArray, List.set_cons_zero, List.set_cons_succ]
                  refine take_at 9 115 (oi := ?o20) (v := ?v20) ?hi20 ?hd20 (by kernel_rfl) (by kernel_rfl) (by kernel_rfl) ?hQ20 ?hw20 ?hy20 (by assumption) ?rest20
                  case hi20 => simp only [List.getElem?_toArray, List.getElem?_cons_succ, List.getElem?_cons_zero]; rfl
                  case hd20 => rfl
                  case hw20 => kernel_rfl
                  case hy20 => intro W hW; (try dsimp only at hW); go_simp <;> with_reducible rfl
                  case hQ20 => exact fun _ _ _ h => h
                  try simp only [Act.put, List.setIfInBounds_toArray, List.set_cons_zero, List.set_cons_succ]
                  refine take_at 10 116 (oi := ?o21) (v := ?v21) ?hi21 ?hd21 (by kernel_rfl) (by kernel_rfl) (by kernel_rfl) ?hQ21 ?hw21 ?hy21 (by assumption) ?rest21
                  case hi21 => simp only [List.getElem?_toArray, List.getElem?_cons_succ, List.getElem?_cons_zero]; rfl
                  case hd21 => rfl
                  case hw21 => kernel_rfl
                  case hy21 => intro W hW; (try dsimp only at hW); go_simp <;> with_reducible rfl
                  case hQ21 => exact fun _ _ _ h => h
                  try simp only [Act.put, List.setIfInBounds_toArray, List.set_cons_zero, List.set_cons_succ]
                  refine take_at 11 117 (oi := ?o22) (v := ?v22) ?hi22 ?hd22 (by kernel_rfl) (by kernel_rfl) (by kernel_rfl) ?hQ22 ?hw22 ?hy22 (by assumption) ?rest22
                  case hi22 => simp only [List.getElem?_toArray, List.getElem?_cons_succ, List.getElem?_cons_zero]; rfl
                  case hd22 => rfl
                  case hw22 => kernel_rfl
                  case hy22 => intro W hW; (try dsimp only at hW); go_simp <;> with_reducible rfl
                  case hQ22 => exact fun _ _ _ h => h
                  try simp only [Act.put, List.setIfInBounds_toArray, List.set_cons_zero, List.set_cons_succ]
                  refine take_at 12 118 (oi := ?o23) (v := ?v23) ?hi23 ?hd23 (by kernel_rfl) (by kernel_rfl) (by kernel_rfl) ?hQ23 ?hw23 ?hy23 (by assumption) ?rest23
                  case hi23 => simp only [List.getElem?_toArray, List.getElem?_cons_succ, List.getElem?_cons_zero]; rfl
                  case hd23 => rfl
                  case hw23 => kernel_rfl
                  case hy23 => intro W hW; (try dsimp only at hW); go_simp <;> with_reducible rfl
                  case hQ23 => exact fun _ _ _ h => h
                  try simp only [Act.put, List.setIfInBounds_toArray, List.set_cons_zero, List.set_cons_succ]
                  refine take_at 13 119 (oi := ?o24) (v := ?v24) ?hi24 ?hd24 (by kernel_rfl) (by kernel_rfl) (by kernel_rfl) ?hQ24 ?hw24 ?hy24 (by assumption) ?rest24
                  case hi24 => simp only [List.getElem?_toArray, List.getElem?_cons_succ, List.getElem?_cons_zero]; rfl
                  case hd24 => rfl
                  case hw24 => kernel_rfl
                  case hy24 => intro W hW; (try dsimp only at hW); go_simp <;> with_reducible rfl
                  case hQ24 => exact fun _ _ _ h => h
                  try simp only [Act.put, List.setIfInBounds_toArray, List.set_cons_zero, List.set_cons_succ]
                  refine take_at 14 120 (oi := ?o25) (v := ?v25) ?hi25 ?hd25 (by kernel_rfl) (by kernel_rfl) (by kernel_rfl) ?hQ25 ?hw25 ?hy25 (by assumption) ?rest25
                  case hi25 => simp only [List.getElem?_toArray, List.getElem?_cons_succ, List.getElem?_cons_zero]; rfl
                  case hd25 => rfl
                  case hw25 => kernel_rfl
                  case hy25 => intro W hW; (try dsimp only at hW); go_simp <;> with_reducible rfl
                  case hQ25 => exact fun _ _ _ h => h
                  try simp only [Act.put, List.setIfInBounds_toArray, List.set_cons_zero, List.set_cons_succ]
                  refine wpAnyH_ready (rs := [15]) (by kernel_rfl) (by simp) ?_
                  refine AllReadyH.cons rfl (fun K hK => ?_) AllReadyH.nil
                  go_simp
                  refine (check_ok (HR.out) hk (by omega) HL'.out (show SigIs _ _ _ _ _ w7.drew from HV7.out) (FX.out.tab _ ST7.out.kept).drew).mono ?_
                  rintro e w8 ⟨rfl, hb8'⟩
                  have hb8 : Below w7.heap.size w7 w8 := ⟨hb8'.os, hb8'.tape, hb8'.output, hb8'.size, hb8'.block⟩
                  have ST8 := Lib.hid (ST7.out.below hb8)
                  have HX8 := Lib.hid ((hb8.block _ (lt_of HX7.out)).trans HX7.out)
                  clear hb8 hb8' hHeld
                  go_wp2_with fail
                  refine hK.out _ _ ⟨⟨keyC (w := w8) ST8.out.key, cell_of (w := w8) ST8.out.n 0⟩, sigC (w := w8) HX8.out⟩ (fun hHeld => ?_)
                  clear hK K
                  try simp only [Act.put, List.setIfInBounds_toArray, List.set_cons_zero, List.set_cons_succ]
                  refine take_at 16 122 (oi := ?o26) (v := ?v26) ?hi26 ?hd26 (by kernel_rfl) (by kernel_rfl) (by kernel_rfl) ?hQ26 ?hw26 ?hy26 (by assumption) ?rest26
                  case hi26 => simp only [List.getElem?_toArray, List.getElem?_cons_succ, List.getElem?_cons_zero]; rfl
                  case hd26 => rfl
                  case hw26 => kernel_rfl
                  case hy26 => intro W hW; (try dsimp only at hW); go_simp <;> with_reducible rfl
                  case hQ26 => exact fun _ _ _ h => h
                  try simp only [Act.put, List.setIfInBounds_toArray, List.set_cons_zero, List.set_cons_succ]
                  refine take_at 17 123 (oi := ?o27) (v := ?v27) ?hi27 ?hd27 (by kernel_rfl) (by kernel_rfl) (by kernel_rfl) ?hQ27 ?hw27 ?hy27 (by assumption) ?rest27
                  case hi27 => simp only [List.getElem?_toArray, List.getElem?_cons_succ, List.getElem?_cons_zero]; rfl
                  case hd27 => rfl
                  case hw27 => kernel_rfl
                  case hy27 => intro W hW; (try dsimp only at hW); go_simp <;> with_reducible rfl
                  case hQ27 => exact fun _ _ _ h => h
                  try simp only [Act.put, List.setIfInBounds_toArray, List.set_cons_zero, List.set_cons_succ]
                  refine wpAnyH_done (by kernel_rfl) ?_ _
                  simp only [Exit.then]
                  clear hHeld
                  have hc8 : w8.cell? ⟨na, 0, none⟩ = some (.int .i64 (n : Int)) := cell_of ST8.out.n 0
                  have hf8 : w8.frozen? ⟨na, 0, none⟩ = false := free_of ST8.out.n 0
                  have hst5 := ST8.out.setN FX.out n1
                  rw [← HN1.out] at hst5
                  have ST5 := Lib.hid hst5
                  clear hst5
                  go_wp2
                  go_roundw
                  case rel => exact ⟨k + 1, n + 1, m, by omega, by go_num, by have := HN1.out; have := HL'.out; rw [HN.out] at this; omega, by omega, (by rw [← HN1.out]; exact ST5.out)⟩
                  case measure => simp [intOf]; omega
              | true =>
                rw [ht'] at hct
                have hcn := cell_of ST.out.m 0
                simp only [List.getElem?_toArray, List.getElem?_cons_zero] at hcn
                by_cases hfull : m = N
                · have hSf : SignerIs pb seed b h tvb (2 ^ h) wr := by rw [HN.out, ← hfull]; exact ST.out.b
                  have HSf := Lib.hid hSf
                  have hq : ((m : Int) == (N : Int)) = true := by simp; omega
                  have hqe : (m : Int) = (N : Int) := by omega
                  clear hSf hfull
                  go_wp2_with fail
                  refine (SSign_full pb seed msg b h tvb _ HSf.out hh).mono ?_
                  rintro e w6 ⟨rfl, hb6⟩
                  have ST6 := Lib.hid ((ST.out.below hb6).below ((Below.refl _ _).alloc (Nat.le_refl _) (.cells #[.int .i64 0, .slice none 0 0, .slice none 0 0, .slice none 0 0] 34)))
                  clear hb6 hcn
                  go_wp2
                  obtain ⟨W6, hW6⟩ : ∃ W6, w6.alloc (.cells #[.int .i64 0, .slice none 0 0, .slice none 0 0, .slice none 0 0] 34) = W6 := ⟨_, rfl⟩
                  rw [hW6] at ST6 ⊢
                  clear hW6
                  refine wp_region_held_drew (S := (fun W : World => (W.cell? ⟨w.heap.size, 0, none⟩ = some (.int .i64 (b : Int)) ∧ W.cell? ⟨w.heap.size, 1, none⟩ = some (.int .i64 (h : Int))) ∧ W.cell? ⟨nb, 0, none⟩ = some (.int .i64 (m : Int)))) (by kernel_rfl) ⟨keyC (w := W6) ST6.out.key, cell_of (w := W6) ST6.out.m 0⟩ (fun hHeld => ?_)
                  refine take_at 0 98 (oi := ?o28) (v := ?v28) ?hi28 ?hd28 (by kernel_rfl) (by kernel_rfl) (by kernel_rfl) ?hQ28 ?hw28 ?hy28 (by assumption) ?rest28
                  case hi28 => simp only [List.getElem?_toArray, List.getElem?_cons_zero]; rfl
                  case hd28 => rfl
                  case hw28 => kernel_rfl
                  case hy28 => intro W hW; (try dsimp only at hW); go_simp <;> with_reducible rfl
                  case hQ28 => exact fun _ _ _ h => h
                  try simp only [Act.put, List.setIfInBounds_toArray, List.set_cons_zero, List.set_cons_succ]
                  refine take_at 1 99 (oi := ?o29) (v := ?v29) ?hi29 ?hd29 (by kernel_rfl) (by kernel_rfl) (by kernel_rfl) ?hQ29 ?hw29 ?hy29 (by assumption) ?rest29
                  case hi29 => simp only [List.getElem?_toArray, List.getElem?_cons_succ, List.getElem?_cons_zero]; rfl
                  case hd29 => rfl
                  case hw29 => kernel_rfl
                  case hy29 => intro W hW; (try dsimp only at hW); go_simp <;> with_reducible rfl
                  case hQ29 => exact fun _ _ _ h => h
                  try simp only [Act.put, List.setIfInBounds_toArray, List.set_cons_zero, List.set_cons_succ]
                  refine take_at 2 100 (oi := ?o30) (v := ?v30) ?hi30 ?hd30 (by kernel_rfl) (by kernel_rfl) (by kernel_rfl) ?hQ30 ?hw30 ?hy30 (by assumption) ?rest30
                  case hi30 => simp only [List.getElem?_toArray, List.getElem?_cons_succ, List.getElem?_cons_zero]; rfl
                  case hd30 => rfl
                  case hw30 => kernel_rfl
                  case hy30 => intro W hW; (try dsimp only at hW); go_simp <;> with_reducible rfl
                  case hQ30 => exact fun _ _ _ h => h
                  try simp only [Act.put, List.setIfInBounds_toArray, List.set_cons_zero, List.set_cons_succ]
                  refine take_at 3 101 (oi := ?o31) (v := ?v31) ?hi31 ?hd31 (by kernel_rfl) (by kernel_rfl) (by kernel_rfl) ?hQ31 ?hw31 ?hy31 (by assumption) ?rest31
                  case hi31 => simp only [List.getElem?_toArray, List.getElem?_cons_succ, List.getElem?_cons_zero]; rfl
                  case hd31 => rfl
                  case hw31 => kernel_rfl
                  case hy31 => intro W hW; (try dsimp only at hW); go_simp <;> with_reducible rfl
                  case hQ31 => exact fun _ _ _ h => h
                  try simp only [Act.put, List.setIfInBounds_toArray, List.set_cons_zero, List.set_cons_succ]
                  refine wpAnyH_ready (rs := [4]) (by kernel_rfl) (by simp) ?_
                  refine AllReadyH.cons rfl (fun K hK => ?_) AllReadyH.nil
                  go_simp
                  refine (HCnt.out _).mono ?_
                  rintro e w7 ⟨rfl, hb7'⟩
                  have hb7 : Below W6.heap.size W6 w7 := ⟨hb7'.os, hb7'.tape, hb7'.output, hb7'.size, hb7'.block⟩
                  have ST7 := Lib.hid (ST6.out.below hb7)
                  clear hb7 hb7' hHeld
                  go_wp2_with fail
                  refine hK.out _ _ ⟨keyC (w := w7) ST7.out.key, cell_of (w := w7) ST7.out.m 0⟩ (fun hHeld => ?_)
                  clear hK K
                  try simp only [Act.put, List.setIfInBounds_toArray, List.set_cons_zero, List.set_cons_succ]
                  refine take_at 5 103 (oi := ?o32) (v := ?v32) ?hi32 ?hd32 (by kernel_rfl) (by kernel_rfl) (by kernel_rfl) ?hQ32 ?hw32 ?hy32 (by assumption) ?rest32
                  case hi32 => simp only [List.getElem?_toArray, List.getElem?_cons_succ, List.getElem?_cons_zero]; rfl
                  case hd32 => rfl
                  case hw32 => kernel_rfl
                  case hy32 => intro W hW; (try dsimp only at hW); go_simp <;> with_reducible rfl
                  case hQ32 => exact fun _ _ _ h => h
                  try simp only [Act.put, List.setIfInBounds_toArray, List.set_cons_zero, List.set_cons_succ]
                  refine wpAnyH_done (by kernel_rfl) ?_ _
                  simp only [Exit.then]
                  clear hHeld
                  go_wp2
                  go_roundw
                  case rel => exact ⟨k + 1, n, m, by omega, by go_num, by omega, by omega, ST7.out⟩
                  case measure => simp [intOf]; omega
                · have hlt' : m < 2 ^ h := by rw [HN.out]; omega
                  have hqe : ((m : Int) == (N : Int)) = false := by simp; omega
                  obtain ⟨n1, hn1⟩ : ∃ n1, m + 1 = n1 := ⟨_, rfl⟩
                  have hw1 : IntKind.i64.wrap ((m : Int) + 1) = (n1 : Int) := by rw [IntKind.wrap_i64]; omega
                  have hw2 : (m : Int) + 1 = (n1 : Int) := by omega
                  have HN1 := Lib.hid hn1
                  have HL' := Lib.hid hlt'
                  clear hlt' hfull hn1
                  go_wp2_with fail
                  refine (signB FX.out ST.out hs (by omega) hb hh HL'.out).mono ?_
                  rintro e w6 ⟨v, rfl, hv6, hst6⟩
                  have HV6 := Lib.hid hv6
                  obtain ⟨vs, vh, vr, rfl, o1, o2, o3⟩ := hv6
                  obtain ⟨sa, sc, rfl⟩ := o1.formMap
                  obtain ⟨ha, hc, rfl⟩ := o2.formMap
                  obtain ⟨ra, rc, rfl⟩ := o3.formMap
                  rw [shownN_len, hiddenN_len, routeN_len] at HV6 ⊢
                  obtain ⟨W6, hW6⟩ : ∃ W6, w6.alloc (.cells #[.int .i64 (m : Int), .slice sa b sc, .slice ha b hc, .slice ra h rc] 34) = W6 := ⟨_, rfl⟩
                  have hb6 : Below w6.heap.size w6 W6 := by rw [← hW6]; exact (Below.refl _ _).alloc (Nat.le_refl _) _
                  have ST6 := Lib.hid (hst6.below hb6)
                  have HX6 := Lib.hid (show W6.heap[w6.heap.size]? = some (.cells #[.int .i64 (m : Int), .slice sa b sc, .slice ha b hc, .slice ra h rc] 34) by rw [← hW6]; exact new_of _ _)
                  have HV6 := Lib.hid (HV6.out.below hb6)
                  obtain ⟨X, hX⟩ : ∃ X, w6.heap.size = X := ⟨_, rfl⟩
                  rw [hX] at HX6
                  have HW6 := Lib.hid hW6
                  have HXe := Lib.hid hX
                  clear o1 o2 o3 hb6 hst6 hcn hW6 hX
                  go_wp2
                  rw [HW6.out, HXe.out]
                  refine wp_region_held_drew (S := (fun W : World => (W.cell? ⟨w.heap.size, 0, none⟩ = some (.int .i64 (b : Int)) ∧ W.cell? ⟨w.heap.size, 1, none⟩ = some (.int .i64 (h : Int))) ∧ W.cell? ⟨nb, 0, none⟩ = some (.int .i64 (m : Int)))) (by kernel_rfl) ⟨keyC (w := W6) ST6.out.key, cell_of (w := W6) ST6.out.m 0⟩ (fun hHeld => ?_)
                  refine take_at 0 98 (oi := ?o33) (v := ?v33) ?hi33 ?hd33 (by kernel_rfl) (by kernel_rfl) (by kernel_rfl) ?hQ33 ?hw33 ?hy33 (by assumption) ?rest33
                  case hi33 => simp only [List.getElem?_toArray, List.getElem?_cons_zero]; rfl
                  case hd33 => rfl
                  case hw33 => kernel_rfl
                  case hy33 => intro W hW; (try dsimp only at hW); go_simp <;> with_reducible rfl
                  case hQ33 => exact fun _ _ _ h => h
                  try simp only [Act.put, List.setIfInBounds_toArray, List.set_cons_zero, List.set_cons_succ]
                  refine take_at 1 99 (oi := ?o34) (v := ?v34) ?hi34 ?hd34 (by kernel_rfl) (by kernel_rfl) (by kernel_rfl) ?hQ34 ?hw34 ?hy34 (by assumption) ?rest34
                  case hi34 => simp only [List.getElem?_toArray, List.getElem?_cons_succ, List.getElem?_cons_zero]; rfl
                  case hd34 => rfl
                  case hw34 => kernel_rfl
                  case hy34 => intro W hW; (try dsimp only at hW); go_simp <;> with_reducible rfl
                  case hQ34 => exact fun _ _ _ h => h
                  try simp only [Act.put, List.setIfInBounds_toArray, List.set_cons_zero, List.set_cons_succ]
                  refine take_at 2 100 (oi := ?o35) (v := ?v35) ?hi35 ?hd35 (by kernel_rfl) (by kernel_rfl) (by kernel_rfl) ?hQ35 ?hw35 ?hy35 (by assumption) ?rest35
                  case hi35 => simp only [List.getElem?_toArray, List.getElem?_cons_succ, List.getElem?_cons_zero]; rfl
                  case hd35 => rfl
                  case hw35 => kernel_rfl
                  case hy35 => intro W hW; (try dsimp only at hW); go_simp <;> with_reducible rfl
                  case hQ35 => exact fun _ _ _ h => h
                  try simp only [Act.put, List.setIfInBounds_toArray, List.set_cons_zero, List.set_cons_succ]
                  refine take_at 3 101 (oi := ?o36) (v := ?v36) ?hi36 ?hd36 (by kernel_rfl) (by kernel_rfl) (by kernel_rfl) ?hQ36 ?hw36 ?hy36 (by assumption) ?rest36
                  case hi36 => simp only [List.getElem?_toArray, List.getElem?_cons_succ, List.getElem?_cons_zero]; rfl
                  case hd36 => rfl
                  case hw36 => kernel_rfl
                  case hy36 => intro W hW; (try dsimp only at hW); go_simp <;> with_reducible rfl
                  case hQ36 => exact fun _ _ _ h => h
                  try simp only [Act.put, List.setIfInBounds_toArray, List.set_cons_zero, List.set_cons_succ]
                  refine wpAnyH_ready (rs := [4]) (by kernel_rfl) (by simp) ?_
                  refine AllReadyH.cons rfl (fun K hK => ?_) AllReadyH.nil
                  go_simp
                  refine (HCnt.out _).mono ?_
                  rintro e w7 ⟨rfl, hb7'⟩
                  have hb7 : Below W6.heap.size W6 w7 := ⟨hb7'.os, hb7'.tape, hb7'.output, hb7'.size, hb7'.block⟩
                  have ST7 := Lib.hid (ST6.out.below hb7)
                  have HX7 := Lib.hid ((hb7.block _ (lt_of HX6.out)).trans HX6.out)
                  have HV7 := Lib.hid (HV6.out.below hb7)
                  clear hb7 hb7' hHeld
                  go_wp2_with fail
                  refine hK.out _ _ ⟨keyC (w := w7) ST7.out.key, cell_of (w := w7) ST7.out.m 0⟩ (fun hHeld => ?_)
                  clear hK K
                  try simp only [Act.put, List.setIfInBounds_toArray, List.set_cons_zero, List.set_cons_succ]
                  refine take_at 5 103 (oi := ?o37) (v := ?v37) ?hi37 ?hd37 (by kernel_rfl) (by kernel_rfl) (by kernel_rfl) ?hQ37 ?hw37 ?hy37 (by assumption) ?rest37
                  case hi37 => simp only [List.getElem?_toArray, List.getElem?_cons_succ, List.getElem?_cons_zero]; rfl
                  case hd37 => rfl
                  case hw37 => kernel_rfl
                  case hy37 => intro W hW; (try dsimp only at hW); go_simp <;> with_reducible rfl
                  case hQ37 => exact fun _ _ _ h => h
                  try simp only [Act.put, List.setIfInBounds_toArray, List.set_cons_zero, List.set_cons_succ]
                  refine wpAnyH_done (by kernel_rfl) ?_ _
                  simp only [Exit.then]
                  clear hHeld
                  go_wp2
                  refine wp_region_held_drew (S := (fun W : World => ((W.cell? ⟨w.heap.size, 0, none⟩ = some (.int .i64 (b : Int)) ∧ W.cell? ⟨w.heap.size, 1, none⟩ = some (.int .i64 (h : Int))) ∧ W.cell? ⟨nb, 0, none⟩ = some (.int .i64 (m : Int))) ∧ W.cell? ⟨X, 0, none⟩ = some (.int .i64 (m : Int)) ∧ W.cell? ⟨X, 1, none⟩ = some (.slice sa b sc) ∧ W.cell? ⟨X, 2, none⟩ = some (.slice ha b hc) ∧ W.cell? ⟨X, 3, none⟩ = some (.slice ra h rc))) (by kernel_rfl) ⟨⟨keyC (w := w7) ST7.out.key, cell_of (w := w7) ST7.out.m 0⟩, sigC (w := w7) HX7.out⟩ (fun hHeld => ?_)
                  refine take_at 0 106 (oi := ?o38) (v := ?v38) ?hi38 ?hd38 (by kernel_rfl) (by kernel_rfl) (by kernel_rfl) ?hQ38 ?hw38 ?hy38 (by assumption) ?rest38
                  case hi38 => simp only [List.getElem?_toArray, List.getElem?_cons_zero]; rfl
                  case hd38 => rfl
                  case hw38 => kernel_rfl
                  case hy38 => intro W hW; (try dsimp only at hW); go_simp <;> with_reducible rfl
                  case hQ38 => exact fun _ _ _ h => h
                  try simp only [Act.put, List.setIfInBounds_toArray, List.set_cons_zero, List.set_cons_succ]
                  refine take_at 1 107 (oi := ?o39) (v := ?v39) ?hi39 ?hd39 (by kernel_rfl) (by kernel_rfl) (by kernel_rfl) ?hQ39 ?hw39 ?hy39 (by assumption) ?rest39
                  case hi39 => simp only [List.getElem?_toArray, List.getElem?_cons_succ, List.getElem?_cons_zero]; rfl
                  case hd39 => rfl
                  case hw39 => kernel_rfl
                  case hy39 => intro W hW; (try dsimp only at hW); go_simp <;> with_reducible rfl
                  case hQ39 => exact fun _ _ _ h => h
                  try simp only [Act.put, List.setIfInBounds_toArray, List.set_cons_zero, List.set_cons_succ]
                  refine take_at 2 108 (oi := ?o40) (v := ?v40) ?hi40 ?hd40 (by kernel_rfl) (by kernel_rfl) (by kernel_rfl) ?hQ40 ?hw40 ?hy40 (by assumption) ?rest40
                  case hi40 => simp only [List.getElem?_toArray, List.getElem?_cons_succ, List.getElem?_cons_zero]; rfl
                  case hd40 => rfl
                  case hw40 => kernel_rfl
                  case hy40 => intro W hW; (try dsimp only at hW); go_simp <;> with_reducible rfl
                  case hQ40 => exact fun _ _ _ h => h
                  try simp only [Act.put, List.setIfInBounds_toArray, List.set_cons_zero, List.set_cons_succ]
                  refine take_at 3 109 (oi := ?o41) (v := ?v41) ?hi41 ?hd41 (by kernel_rfl) (by kernel_rfl) (by kernel_rfl) ?hQ41 ?hw41 ?hy41 (by assumption) ?rest41
                  case hi41 => simp only [List.getElem?_toArray, List.getElem?_cons_succ, List.getElem?_cons_zero]; rfl
                  case hd41 => rfl
                  case hw41 => kernel_rfl
                  case hy41 => intro W hW; (try dsimp only at hW); go_simp <;> with_reducible rfl
                  case hQ41 => exact fun _ _ _ h => h
                  try simp only [Act.put, List.setIfInBounds_toArray, List.set_cons_zero, List.set_cons_succ]
                  refine take_at 4 110 (oi := ?o42) (v := ?v42) ?hi42 ?hd42 (by kernel_rfl) (by kernel_rfl) (by kernel_rfl) ?hQ42 ?hw42 ?hy42 (by assumption) ?rest42
                  case hi42 => simp only [List.getElem?_toArray, List.getElem?_cons_succ, List.getElem?_cons_zero]; rfl
                  case hd42 => rfl
                  case hw42 => kernel_rfl
                  case hy42 => intro W hW; (try dsimp only at hW); go_simp <;> with_reducible rfl
                  case hQ42 => exact fun _ _ _ h => h
                  try simp only [Act.put, List.setIfInBounds_toArray, List.set_cons_zero, List.set_cons_succ]
                  refine take_at 5 111 (oi := ?o43) (v := ?v43) ?hi43 ?hd43 (by kernel_rfl) (by kernel_rfl) (by kernel_rfl) ?hQ43 ?hw43 ?hy43 (by assumption) ?rest43
                  case hi43 => simp only [List.getElem?_toArray, List.getElem?_cons_succ, List.getElem?_cons_zero]; rfl
                  case hd43 => rfl
                  case hw43 => kernel_rfl
                  case hy43 => intro W hW; (try dsimp only at hW); go_simp <;> with_reducible rfl
                  case hQ43 => exact fun _ _ _ h => h
                  try simp only [Act.put, List.setIfInBounds_toArray, List.set_cons_zero, List.set_cons_succ]
                  refine take_at 6 112 (oi := ?o44) (v := ?v44) ?hi44 ?hd44 (by kernel_rfl) (by kernel_rfl) (by kernel_rfl) ?hQ44 ?hw44 ?hy44 (by assumption) ?rest44
                  case hi44 => simp only [List.getElem?_toArray, List.getElem?_cons_succ, List.getElem?_cons_zero]; rfl
                  case hd44 => rfl
                  case hw44 => kernel_rfl
                  case hy44 => intro W hW; (try dsimp only at hW); go_simp <;> with_reducible rfl
                  case hQ44 => exact fun _ _ _ h => h
                  try simp only [Act.put, List.setIfInBounds_toArray, List.set_cons_zero, List.set_cons_succ]
                  refine take_at 7 113 (oi := ?o45) (v := ?v45) ?hi45 ?hd45 (by kernel_rfl) (by kernel_rfl) (by kernel_rfl) ?hQ45 ?hw45 ?hy45 (by assumption) ?rest45
                  case hi45 => simp only [List.getElem?_toArray, List.getElem?_cons_succ, List.getElem?_cons_zero]; rfl
                  case hd45 => rfl
                  case hw45 => kernel_rfl
                  case hy45 => intro W hW; (try dsimp only at hW); go_simp <;> with_reducible rfl
                  case hQ45 => exact fun _ _ _ h => h
                  try simp only [Act.put, List.setIfInBounds_toArray, List.set_cons_zero, List.set_cons_succ]
                  refine take_at 8 114 (oi := ?o46) (v := ?v46) ?hi46 ?hd46 (by kernel_rfl) (by kernel_rfl) (by kernel_rfl) ?hQ46 ?hw46 ?hy46 (by assumption) ?rest46
                  case hi46 => simp only [List.getElem?_toArray, List.getElem?_cons_succ, List.getElem?_cons_zero]; rfl
                  case hd46 => rfl
                  case hw46 => kernel_rfl
                  case hy46 => intro W hW; (try dsimp only at hW); go_simp <;> with_reducible rfl
                  case hQ46 => exact fun _ _ _ h => h
                  try simp only [Act.put, List.setIfInBounds_toArray, List.set_cons_zero, List.set_cons_succ]
                  refine take_at 9 115 (oi := ?o47) (v := ?v47) ?hi47 ?hd47 (by kernel_rfl) (by kernel_rfl) (by kernel_rfl) ?hQ47 ?hw47 ?hy47 (by assumption) ?rest47
                  case hi47 => simp only [List.getElem?_toArray, List.getElem?_cons_succ, List.getElem?_cons_zero]; rfl
                  case hd47 => rfl
                  case hw47 => kernel_rfl
                  case hy47 => intro W hW; (try dsimp only at hW); go_simp <;> with_reducible rfl
                  case hQ47 => exact fun _ _ _ h => h
                  try simp only [Act.put, List.setIfInBounds_toArray, List.set_cons_zero, List.set_cons_succ]
                  refine take_at 10 116 (oi := ?o48) (v := ?v48) ?hi48 ?hd48 (by kernel_rfl) (by kernel_rfl) (by kernel_rfl) ?hQ48 ?hw48 ?hy48 (by assumption) ?rest48
                  case hi48 => simp only [List.getElem?_toArray, List.getElem?_cons_succ, List.getElem?_cons_zero]; rfl
                  case hd48 => rfl
                  case hw48 => kernel_rfl
                  case hy48 => intro W hW; (try dsimp only at hW); go_simp <;> with_reducible rfl
                  case hQ48 => exact fun _ _ _ h => h
                  try simp only [Act.put, List.setIfInBounds_toArray, List.set_cons_zero, List.set_cons_succ]
                  refine take_at 11 117 (oi := ?o49) (v := ?v49) ?hi49 ?hd49 (by kernel_rfl) (by kernel_rfl) (by kernel_rfl) ?hQ49 ?hw49 ?hy49 (by assumption) ?rest49
                  case hi49 => simp only [List.getElem?_toArray, List.getElem?_cons_succ, List.getElem?_cons_zero]; rfl
                  case hd49 => rfl
                  case hw49 => kernel_rfl
                  case hy49 => intro W hW; (try dsimp only at hW); go_simp <;> with_reducible rfl
                  case hQ49 => exact fun _ _ _ h => h
                  try simp only [Act.put, List.setIfInBounds_toArray, List.set_cons_zero, List.set_cons_succ]
                  refine take_at 12 118 (oi := ?o50) (v := ?v50) ?hi50 ?hd50 (by kernel_rfl) (by kernel_rfl) (by kernel_rfl) ?hQ50 ?hw50 ?hy50 (by assumption) ?rest50
                  case hi50 => simp only [List.getElem?_toArray, List.getElem?_cons_succ, List.getElem?_cons_zero]; rfl
                  case hd50 => rfl
                  case hw50 => kernel_rfl
                  case hy50 => intro W hW; (try dsimp only at hW); go_simp <;> with_reducible rfl
                  case hQ50 => exact fun _ _ _ h => h
                  try simp only [Act.put, List.setIfInBounds_toArray, List.set_cons_zero, List.set_cons_succ]
                  refine take_at 13 119 (oi := ?o51) (v := ?v51) ?hi51 ?hd51 (by kernel_rfl) (by kernel_rfl) (by kernel_rfl) ?hQ51 ?hw51 ?hy51 (by assumption) ?rest51
                  case hi51 => simp only [List.getElem?_toArray, List.getElem?_cons_succ, List.getElem?_cons_zero]; rfl
                  case hd51 => rfl
                  case hw51 => kernel_rfl
                  case hy51 => intro W hW; (try dsimp only at hW); go_simp <;> with_reducible rfl
                  case hQ51 => exact fun _ _ _ h => h
                  try simp only [Act.put, List.setIfInBounds_toArray, List.set_cons_zero, List.set_cons_succ]
                  refine take_at 14 120 (oi := ?o52) (v := ?v52) ?hi52 ?hd52 (by kernel_rfl) (by kernel_rfl) (by kernel_rfl) ?hQ52 ?hw52 ?hy52 (by assumption) ?rest52
                  case hi52 => simp only [List.getElem?_toArray, List.getElem?_cons_succ, List.getElem?_cons_zero]; rfl
                  case hd52 => rfl
                  case hw52 => kernel_rfl
                  case hy52 => intro W hW; (try dsimp only at hW); go_simp <;> with_reducible rfl
                  case hQ52 => exact fun _ _ _ h => h
                  try simp only [Act.put, List.setIfInBounds_toArray, List.set_cons_zero, List.set_cons_succ]
                  refine wpAnyH_ready (rs := [15]) (by kernel_rfl) (by simp) ?_
                  refine AllReadyH.cons rfl (fun K hK => ?_) AllReadyH.nil
                  go_simp
                  refine (check_ok (HR.out) hk (by omega) HL'.out (show SigIs _ _ _ _ _ w7.drew from HV7.out) (FX.out.tab _ ST7.out.kept).drew).mono ?_
                  rintro e w8 ⟨rfl, hb8'⟩
                  have hb8 : Below w7.heap.size w7 w8 := ⟨hb8'.os, hb8'.tape, hb8'.output, hb8'.size, hb8'.block⟩
                  have ST8 := Lib.hid (ST7.out.below hb8)
                  have HX8 := Lib.hid ((hb8.block _ (lt_of HX7.out)).trans HX7.out)
                  clear hb8 hb8' hHeld
                  go_wp2_with fail
                  refine hK.out _ _ ⟨⟨keyC (w := w8) ST8.out.key, cell_of (w := w8) ST8.out.m 0⟩, sigC (w := w8) HX8.out⟩ (fun hHeld => ?_)
                  clear hK K
                  try simp only [Act.put, List.setIfInBounds_toArray, List.set_cons_zero, List.set_cons_succ]
                  refine take_at 16 122 (oi := ?o53) (v := ?v53) ?hi53 ?hd53 (by kernel_rfl) (by kernel_rfl) (by kernel_rfl) ?hQ53 ?hw53 ?hy53 (by assumption) ?rest53
                  case hi53 => simp only [List.getElem?_toArray, List.getElem?_cons_succ, List.getElem?_cons_zero]; rfl
                  case hd53 => rfl
                  case hw53 => kernel_rfl
                  case hy53 => intro W hW; (try dsimp only at hW); go_simp <;> with_reducible rfl
                  case hQ53 => exact fun _ _ _ h => h
                  try simp only [Act.put, List.setIfInBounds_toArray, List.set_cons_zero, List.set_cons_succ]
                  refine take_at 17 123 (oi := ?o54) (v := ?v54) ?hi54 ?hd54 (by kernel_rfl) (by kernel_rfl) (by kernel_rfl) ?hQ54 ?hw54 ?hy54 (by assumption) ?rest54
                  case hi54 => simp only [List.getElem?_toArray, List.getElem?_cons_succ, List.getElem?_cons_zero]; rfl
                  case hd54 => rfl
                  case hw54 => kernel_rfl
                  case hy54 => intro W hW; (try dsimp only at hW); go_simp <;> with_reducible rfl
                  case hQ54 => exact fun _ _ _ h => h
                  try simp only [Act.put, List.setIfInBounds_toArray, List.set_cons_zero, List.set_cons_succ]
                  refine wpAnyH_done (by kernel_rfl) ?_ _
                  simp only [Exit.then]
                  clear hHeld
                  have hc8 : w8.cell? ⟨nb, 0, none⟩ = some (.int .i64 (m : Int)) := cell_of ST8.out.m 0
                  have hf8 : w8.frozen? ⟨nb, 0, none⟩ = false := free_of ST8.out.m 0
                  have hst5 := ST8.out.setM FX.out n1
                  rw [← HN1.out] at hst5
                  have ST5 := Lib.hid hst5
                  clear hst5
                  go_wp2
                  go_roundw
                  case rel => exact ⟨k + 1, n, m + 1, by omega, by go_num, by omega, by have := HN1.out; have := HL'.out; rw [HN.out] at this; omega, (by rw [← HN1.out]; exact ST5.out)⟩
                  case measure => simp [intOf]; omega
            · obtain rfl : k = ts.length := by omega
              have hcn := cell_of ST.out.n 0
              have hcm := cell_of ST.out.m 0
              simp only [List.getElem?_toArray, List.getElem?_cons_zero] at hcn hcm
              go_wp2
              refine wp_region_held_drew (S := (fun W : World => W.cell? ⟨na, 0, none⟩ = some (.int .i64 (n : Int)) ∧ W.cell? ⟨nb, 0, none⟩ = some (.int .i64 (m : Int)))) (by kernel_rfl) ⟨cell_of (w := wr) ST.out.n 0, cell_of (w := wr) ST.out.m 0⟩ (fun hHeld => ?_)
              refine take_at 0 130 (oi := ?o55) (v := ?v55) ?hi55 ?hd55 (by kernel_rfl) (by kernel_rfl) (by kernel_rfl) ?hQ55 ?hw55 ?hy55 (by assumption) ?rest55
              case hi55 => simp only [List.getElem?_toArray, List.getElem?_cons_zero]; rfl
              case hd55 => rfl
              case hw55 => kernel_rfl
              case hy55 => intro W hW; (try dsimp only at hW); go_simp <;> with_reducible rfl
              case hQ55 => exact fun _ _ _ h => h
              try simp only [Act.put, List.setIfInBounds_toArray, List.set_cons_zero, List.set_cons_succ]
              refine take_at 2 132 (oi := ?o56) (v := ?v56) ?hi56 ?hd56 (by kernel_rfl) (by kernel_rfl) (by kernel_rfl) ?hQ56 ?hw56 ?hy56 (by assumption) ?rest56
              case hi56 => simp only [List.getElem?_toArray, List.getElem?_cons_succ, List.getElem?_cons_zero]; rfl
              case hd56 => rfl
              case hw56 => kernel_rfl
              case hy56 => intro W hW; (try dsimp only at hW); go_simp <;> with_reducible rfl
              case hQ56 => exact fun _ _ _ h => h
              try simp only [Act.put, List.setIfInBounds_toArray, List.set_cons_zero, List.set_cons_succ]
              refine wpAnyH_ready (rs := [1]) (by kernel_rfl) (by simp) ?_
              refine AllReadyH.cons rfl (fun K hK => ?_) AllReadyH.nil
              go_simp
              refine (SNext_any pa seed b h n tva _ (show SignerIs pa seed b h tva n wr.drew from ST.out.a)).mono ?_
              rintro e w7 ⟨rfl, rfl⟩
              go_wp2_with fail
              refine hK.out _ _ ⟨cell_of (w := wr) ST.out.n 0, cell_of (w := wr) ST.out.m 0⟩ (fun hHeld => ?_)
              clear hK K
              try simp only [Act.put, List.setIfInBounds_toArray, List.set_cons_zero, List.set_cons_succ]
              refine take_at 3 133 (oi := ?o57) (v := ?v57) ?hi57 ?hd57 (by kernel_rfl) (by kernel_rfl) (by kernel_rfl) ?hQ57 ?hw57 ?hy57 (by assumption) ?rest57
              case hi57 => simp only [List.getElem?_toArray, List.getElem?_cons_succ, List.getElem?_cons_zero]; rfl
              case hd57 => rfl
              case hw57 => kernel_rfl
              case hy57 => intro W hW; (try dsimp only at hW); go_simp <;> with_reducible rfl
              case hQ57 => exact fun _ _ _ h => h
              try simp only [Act.put, List.setIfInBounds_toArray, List.set_cons_zero, List.set_cons_succ]
              refine take_at 4 134 (oi := ?o58) (v := ?v58) ?hi58 ?hd58 (by kernel_rfl) (by kernel_rfl) (by kernel_rfl) ?hQ58 ?hw58 ?hy58 (by assumption) ?rest58
              case hi58 => simp only [List.getElem?_toArray, List.getElem?_cons_succ, List.getElem?_cons_zero]; rfl
              case hd58 => rfl
              case hw58 => kernel_rfl
              case hy58 => intro W hW; (try dsimp only at hW); go_simp <;> with_reducible rfl
              case hQ58 => exact fun _ _ _ h => h
              try simp only [Act.put, List.setIfInBounds_toArray, List.set_cons_zero, List.set_cons_succ]
              refine take_at 5 135 (oi := ?o59) (v := ?v59) ?hi59 ?hd59 (by kernel_rfl) (by kernel_rfl) (by kernel_rfl) ?hQ59 ?hw59 ?hy59 (by assumption) ?rest59
              case hi59 => simp only [List.getElem?_toArray, List.getElem?_cons_succ, List.getElem?_cons_zero]; rfl
              case hd59 => rfl
              case hw59 => kernel_rfl
              case hy59 => intro W hW; (try dsimp only at hW); go_simp <;> with_reducible rfl
              case hQ59 => exact fun _ _ _ h => h
              try simp only [Act.put, List.setIfInBounds_toArray, List.set_cons_zero, List.set_cons_succ]
              refine take_at 7 137 (oi := ?o60) (v := ?v60) ?hi60 ?hd60 (by kernel_rfl) (by kernel_rfl) (by kernel_rfl) ?hQ60 ?hw60 ?hy60 (by assumption) ?rest60
              case hi60 => simp only [List.getElem?_toArray, List.getElem?_cons_succ, List.getElem?_cons_zero]; rfl
              case hd60 => rfl
              case hw60 => kernel_rfl
              case hy60 => intro W hW; (try dsimp only at hW); go_simp <;> with_reducible rfl
              case hQ60 => exact fun _ _ _ h => h
              try simp only [Act.put, List.setIfInBounds_toArray, List.set_cons_zero, List.set_cons_succ]
              refine wpAnyH_ready (rs := [6]) (by kernel_rfl) (by simp) ?_
              refine AllReadyH.cons rfl (fun K hK => ?_) AllReadyH.nil
              go_simp
              refine (SNext_any pb seed b h m tvb _ (show SignerIs pb seed b h tvb m wr.drew from ST.out.b)).mono ?_
              rintro e w8 ⟨rfl, rfl⟩
              go_wp2_with fail
              refine hK.out _ _ ⟨cell_of (w := wr) ST.out.n 0, cell_of (w := wr) ST.out.m 0⟩ (fun hHeld => ?_)
              clear hK K
              try simp only [Act.put, List.setIfInBounds_toArray, List.set_cons_zero, List.set_cons_succ]
              refine take_at 8 138 (oi := ?o61) (v := ?v61) ?hi61 ?hd61 (by kernel_rfl) (by kernel_rfl) (by kernel_rfl) ?hQ61 ?hw61 ?hy61 (by assumption) ?rest61
              case hi61 => simp only [List.getElem?_toArray, List.getElem?_cons_succ, List.getElem?_cons_zero]; rfl
              case hd61 => rfl
              case hw61 => kernel_rfl
              case hy61 => intro W hW; (try dsimp only at hW); go_simp <;> with_reducible rfl
              case hQ61 => exact fun _ _ _ h => h
              try simp only [Act.put, List.setIfInBounds_toArray, List.set_cons_zero, List.set_cons_succ]
              refine take_at 9 139 (oi := ?o62) (v := ?v62) ?hi62 ?hd62 (by kernel_rfl) (by kernel_rfl) (by kernel_rfl) ?hQ62 ?hw62 ?hy62 (by assumption) ?rest62
              case hi62 => simp only [List.getElem?_toArray, List.getElem?_cons_succ, List.getElem?_cons_zero]; rfl
              case hd62 => rfl
              case hw62 => kernel_rfl
              case hy62 => intro W hW; (try dsimp only at hW); go_simp <;> with_reducible rfl
              case hQ62 => exact fun _ _ _ h => h
              try simp only [Act.put, List.setIfInBounds_toArray, List.set_cons_zero, List.set_cons_succ]
              refine take_at 10 8 (oi := ?o63) (v := ?v63) ?hi63 ?hd63 (by kernel_rfl) (by kernel_rfl) (by kernel_rfl) ?hQ63 ?hw63 ?hy63 (by assumption) ?rest63
              case hi63 => simp only [List.getElem?_toArray, List.getElem?_cons_succ, List.getElem?_cons_zero]; rfl
              case hd63 => rfl
              case hw63 => kernel_rfl
              case hy63 => intro W hW; (try dsimp only at hW); go_simp <;> with_reducible rfl
              case hQ63 => exact fun _ _ _ h => h
              try simp only [Act.put, List.setIfInBounds_toArray, List.set_cons_zero, List.set_cons_succ]
              refine wpAnyH_done (by kernel_rfl) ?_ _
              simp only [Exit.then]
              go_wp2
              go_ret
              exact ⟨rfl, dr (HBF.out _ ST.out.kept)⟩

set_option maxRecDepth 100000 in
theorem contract (H : Type) (enc : TypeId × Value → H) (W : World) (base : Nat) (args : Array Value) (ds gs : List (DataW H)) (before : List MemPlace)
    (hval : ∀ (j : Nat) t v, Tryd.f6.params[j]? = some t → args[j]? = some v → Value.okWide Tryd.prog W .any base t v)
    (hW : DataW.Whole enc Tryd.prog Tryd.f6.params.toList Rows.lamportSeparateSpec.vars false W args.toList ds gs before) (hL : laidMetH Tryd.prog Rows.lamportSeparateRow.laid W) :
    Calls Tryd.prog 6 args W fun e W' => ∃ v, e = .returned v ∧ Rows.lamportSeparateSpec.post enc Tryd.prog Tryd.f6 false true false false W args v W' := by
  have hW' := hW
  obtain ⟨p, q, hA0, hV, rfl, hfz, hnd⟩ := hW
  have hA : DataW.TrodAll enc Tryd.prog W 0 (fun _ => true) true Tryd.f6.params.toList args.toList ds p := hA0
  rw [Tryd.params6] at hA hval
  obtain ⟨v0, vs0, d0, ds0, p0, q0, hargs, rfl, rfl, h0, r0⟩ := trodAll_cons hA
  obtain ⟨v1, vs1, d1, ds1, p1, q1, rfl, rfl, rfl, h1, r1⟩ := trodAll_cons r0
  obtain ⟨v2, vs2, d2, ds2, p2, q2, rfl, rfl, rfl, h2, r2⟩ := trodAll_cons r1
  obtain ⟨v3, vs3, d3, ds3, p3, q3, rfl, rfl, rfl, h3, r3⟩ := trodAll_cons r2
  obtain ⟨rfl, rfl, rfl⟩ := trodAll_nil r3
  obtain rfl : args = #[v0, v1, v2, v3] := by cases args; simp_all
  obtain ⟨rfl, rfl⟩ := trodVars_none hV
  obtain ⟨seed, rfl, hsl⟩ := str_in (hval 0 9 v0 rfl rfl) h0
  obtain ⟨msg, rfl, _⟩ := str_in (hval 1 9 v1 rfl rfl) h1
  obtain ⟨b, h, rfl⟩ := key_in (hval 2 23 v2 rfl rfl) h2
  obtain ⟨ts, hts⟩ := bools_in (hval 3 51 v3 rfl rfl) h3
  refine (walk seed msg b h v3 ts W hsl hts (tab_of hL)).mono fun e W' ⟨he, hb⟩ => ⟨_, he, ?_⟩
  exact law_post hW' rfl (by kernel_rfl) (by kernel_rfl) rfl hb

theorem laid_met (os : Os) : laidMet Tryd.prog Rows.lamportSeparateRow.laid ((laidWorld os).forCall (fun _ _ => 0) ⟨#[], #[.string ⟨#[]⟩, .string ⟨#[]⟩, .agg #[.int .i64 0, .int .i64 0], .slice none 0 0], []⟩).memory :=
  laidMet_of_run' 8 (by kernel_rfl) (by kernel_rfl)
theorem reads (os : Os) {H : Type} (enc : TypeId × Value → H) : ∃ places, DataW.whole enc Tryd.prog ((laidWorld os).forCall (fun _ _ => 0) ⟨#[], #[.string ⟨#[]⟩, .string ⟨#[]⟩, .agg #[.int .i64 0, .int .i64 0], .slice none 0 0], []⟩).memory Tryd.f6.params.toList Rows.lamportSeparateSpec.vars false (#[.string ⟨#[]⟩, .string ⟨#[]⟩, .agg #[.int .i64 0, .int .i64 0], .slice none 0 0] : Array Value).toList 8 = some ([.lit (.string []), .lit (.string []), .agg [.lit (.int .i64 0), .lit (.int .i64 0)], .nil], [], places) :=
  ⟨[], by kernel_rfl⟩

set_option maxRecDepth 100000 in
theorem lifted (os : Os) (started : os.Started) (H : Type) (enc : TypeId × Value → H) (F : Stop.Interp) :
    ReturnsInHanded {} Tryd.checked os 6 .any ((OpenSpec.ofChange Rows.lamportSeparateSpec).preRow enc Tryd.prog Tryd.f6 Rows.lamportSeparateRow.domain false Rows.lamportSeparateRow.laid) (((OpenSpec.ofChange Rows.lamportSeparateSpec).at F).post enc Tryd.prog Tryd.f6 false true false false) := by
  obtain ⟨places, hx⟩ := reads os enc
  refine returnsInHanded_of_row (C := Tryd.checked) (s := OpenSpec.ofChange Rows.lamportSeparateSpec) own started (by kernel_rfl) Tryd.func6
    (witness_row_at (enc := enc) (C := Tryd.checked) false (laidWorld os) #[.string ⟨#[]⟩, .string ⟨#[]⟩, .agg #[.int .i64 0, .int .i64 0], .slice none 0 0] rfl (by kernel_rfl) (by kernel_rfl) (by kernel_rfl)
      (OpenSpec.preRow_of_cond 8 hx (by kernel_rfl) (fun k hk => by cases hk) (by kernel_rfl) (laid_met os))) ?_
  intro W base args ds gs before hval hW _ _ _ hL _ _
  exact contract H enc W base args ds gs before hval hW hL

set_option maxRecDepth 100000 in
theorem said : Rows.LamportSeparateSaid :=
  OpenClaim.holds_of_cond 6 Tryd.f6 rfl rfl rfl rfl rfl rfl rfl ⟨rfl, rfl, rfl, rfl, rfl⟩ rfl rfl rfl rfl rfl (by kernel_rfl) Tryd.func6 (by kernel_rfl)
    (of_decide_eq_true (by kernel_rfl)) (by unfold Func.isWrapper; first | (rw [if_pos (by decide +kernel)]; kernel_rfl) | (rw [if_neg (by decide +kernel)]; exact ⟨rfl, rfl⟩))
    (fun os started H enc _ F => by rw [OpenClaim.pre_eq_preRow]; exact lifted os started H enc F)

/-- No parameter wants a stand-in; the program's own looks are off. -/
theorem plain (f : FuncId) (fn : Func) (hf : Tryd.pinned.checked.prog.funcNamed "licit/licitlaw48.LamportSeparate" = some f) (hfn : Tryd.pinned.checked.prog.funcs[f]? = some fn) :
    false = Tryd.pinned.checked.prog.looks [] ∧ ∀ (j : Nat) t, fn.params[j]? = some t → Tryd.pinned.checked.prog.wantsStandIn t = false := by
  obtain rfl : f = 6 := Option.some.inj ((show Tryd.prog.funcNamed "licit/licitlaw48.LamportSeparate" = some 6 by kernel_rfl).symm.trans hf) |>.symm
  obtain rfl : fn = Tryd.f6 := (Option.some.inj (Tryd.func6.symm.trans hfn)).symm
  refine ⟨by kernel_rfl, fun j t ht => ?_⟩
  have hall : Tryd.f6.params.toList.all (fun t => !Tryd.prog.wantsStandIn t) = true := by kernel_rfl
  have := List.all_eq_true.1 hall t (Array.mem_toList_iff.2 (Array.mem_of_getElem? ht))
  exact (by simpa using this : Tryd.prog.wantsStandIn t = false)

theorem card : Rows.LamportSeparateCardSaid :=
  Claim7.holds_tied_plain_at .later [] _ _ _ _ said (fun _ h => by cases h) (by kernel_rfl) (fun _ h => by cases h) lamportSeparate_row_tie rfl ⟨rfl, rfl⟩ (by kernel_rfl) rfl plain (by kernel_rfl)

end Go.Proofs.YtdkjehagkmkokaaDoor.lawSeparate
